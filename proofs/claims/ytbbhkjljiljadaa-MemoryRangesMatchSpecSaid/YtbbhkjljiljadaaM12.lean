/- Write of package memory. Conditions: the memory and the data read so. -/
import Derived.Test.YtbbhkjljiljadaaM11
namespace Go.Proofs.Ytbbhkjljiljadaa
open Go.RowKit
set_option linter.unusedVariables false
set_option linter.unusedSimpArgs false
theorem OwnM.base {W : World} {base base' : Nat} {v : Value} {l : List Pg} (h : OwnM W base v l) (hb : base' ≤ base) : OwnM W base' v l := by
  rcases h with ⟨e, h⟩ | ⟨w0, g, cap, cur, D, C, dc, e, hp⟩
  · exact Or.inl ⟨e, h⟩
  · refine Or.inr ⟨w0, g, cap, cur, D, C, dc, e, hp.blk, hp.size, hp.fits, hp.most, Nat.le_trans hb hp.low, hp.adr, hp.rts, fun k h hk => ?_, hp.byt, hp.oth, hp.dif⟩
    obtain ⟨h1, h2, h3, h4, h5⟩ := hp.own k h hk
    exact ⟨h1, h2, Nat.le_trans hb h3, h4, h5⟩
/-- The pages behind the first k bytes of a write. -/
def putn (l : List Pg) (a : Int) (ds : List Int) : Nat → List Pg
  | 0 => l
  | k + 1 => put (putn l a ds k) (a + (k : Int)) (ds.getD k 0)
theorem Ok.putn {l : List Pg} (h : Ok l) (a : Int) (ds : List Int) : ∀ k, Ok (putn l a ds k)
  | 0 => h
  | k + 1 => (Ok.putn h a ds k).put _ _
theorem Byt.putn {l : List Pg} (h : Byt l) (a : Int) {ds : List Int} (hd : ∀ x ∈ ds, 0 ≤ x ∧ x ≤ 255) : ∀ k, Byt (putn l a ds k)
  | 0 => h
  | k + 1 => (Byt.putn h a hd k).put _ (by
    rw [List.getD_eq_getElem?_getD]
    cases e : ds[k]? with
    | none => simp
    | some x => exact hd x (List.mem_of_getElem? e))
theorem OwnM.set {W : World} {base : Nat} {v : Value} {l : List Pg} (h : OwnM W base v l) {a : Addr} (ha : a.block < base) (hlt : base ≤ W.heap.size) (u : Value) : OwnM (W.setCell a u) base v l := by
  rcases h with ⟨e, h⟩ | ⟨w0, g, cap, cur, D, C, dc, e, hp⟩
  · subst e
    obtain ⟨A, c, h1, h2, h3, h4⟩ := h
    exact Or.inl ⟨rfl, A, c, h1, h2, h3, fun h => absurd h (by simp)⟩
  · have := hp.low
    refine Or.inr ⟨w0, g, cap, cur, D, C, dc, e, hp.blk.other (by omega) _, hp.size, hp.fits, hp.most, hp.low, hp.adr, hp.rts, fun k h hk => ?_, hp.byt, hp.oth, hp.dif⟩
    obtain ⟨h1, h2, h3, h4, h5⟩ := hp.own k h hk
    exact ⟨h1, h2, h3, h4, h5.other (by omega) _⟩
theorem OwnM.drew {W : World} {base : Nat} {v : Value} {l : List Pg} (h : OwnM W base v l) : OwnM W.drew base v l := h.below (bl_drew (Below.refl _ _))
def WPost (l : List Pg) (a : Int) (ds : List Int) (r : Int) (w : World) (e : Ending) (w' : World) : Prop :=
  ∃ v, e = .returned (.tuple #[v, Flt (af l a ds.length r)]) ∧ Below w.heap.size w w' ∧ (af l a ds.length r ≠ (0, 0) → v = .slice none 0 0) ∧ (af l a ds.length r = (0, 0) → OwnM w' w.heap.size v (putn l a ds ds.length))
def WRel (l : List Pg) (a : Int) (ds : List Int) (v : Value) (W1 : World) (vi : Value) (wr : World) : Prop :=
  ∃ i : Nat, vi = .int .i64 i ∧ i ≤ ds.length ∧ As (OwnM wr W1.heap.size v (putn l a ds i)) ∧ As (Below W1.heap.size W1 wr)
set_option maxHeartbeats 4000000 in
theorem write_any (v : Value) (l : List Pg) (a : Int) (A : Option Addr) (cd : Nat) (ds : List Int) (r : Int) (w : World) (hm : RdM w v l) (hd : RdB w A ds.length ds) (ha : I64 a) : Calls Try.prog 41 #[v, .int .i64 a, .slice A ds.length cd, .int .i64 r] w (WPost l a ds r w) := by
  have HM := As.mk hm
  have HD := As.mk hd
  have hn : I64 (ds.length : Int) := by have := hd.2.1; unfold I64; omega
  have hdl := hd.2.1
  clear hm hd
  go_enter Try.func41, Try.ntmps41
  go_wp2_with fail
  refine (access_any _ l a ds.length r _ (HM.out.below (by repeat (first | exact Below.refl _ _ | assumption | refine bl_drew ?_ | refine bl_drewN ?_ _ | refine bl_alloc ?_ _ | refine Below.setCell ?_ (by first | exact Nat.le_refl _ | exact bl_size (by assumption) | omega | simp) _))) ha hn).mono ?_
  rintro e w1 ⟨rfl, hb1⟩
  have hB := (Bk.new w #[.int .i64 0, .int .i64 0] 33).below hb1
  have hbw := bl_then (bl_alloc (Below.refl _ w) _) hb1
  have hlt := hB.lt
  have hBc := hB.two
  have hBf := hB.frozen
  have HB := As.mk hB
  clear hb1 hB
  rcases af_cases l a ds.length r with ⟨hv, hvf, hn0, hn1, ha0, ha1⟩ | ⟨c, i, hv, hc0, hc1, hi0, hi1⟩
  · have E := As.mk hv
    have HK : As (Ok l) := ⟨Ok.of hvf⟩
    rw [hv]
    clear hv hvf
    unfold Flt
    go_wp2_with fail
    refine (clone_any v l _ (HM.out.below (by repeat (first | exact Below.refl _ _ | assumption | refine bl_drew ?_ | refine bl_drewN ?_ _ | refine bl_alloc ?_ _ | refine Below.setCell ?_ (by first | exact Nat.le_refl _ | exact bl_size (by assumption) | omega | simp) _))) HK.out).mono ?_
    generalize hW : w1.alloc _ = W1
    have hk0 : As (Bk W1 w.heap.size #[.int .i64 0, .int .i64 0] 33) := ⟨by rw [← hW]; repeat (first | with_reducible exact HB.out | with_reducible refine Bk.drew ?_ | with_reducible refine Bk.drewN ?_ _ | with_reducible apply Bk.set1 | with_reducible apply Bk.set0 | with_reducible refine Bk.alloc ?_ _ | with_reducible exact Bk.new _ _ _ | with_reducible refine Bk.other ?_ (by first | omega | (simp; omega)) _)⟩
    have hk1 : As (Bk W1 w1.heap.size #[.int .i64 0, .int .i64 0] 33) := ⟨by rw [← hW]; exact Bk.new _ _ _⟩
    have hbw1 : As (Below w.heap.size w W1) := ⟨by rw [← hW]; repeat (first | exact Below.refl _ _ | assumption | refine bl_drew ?_ | refine bl_drewN ?_ _ | refine bl_alloc ?_ _ | refine Below.setCell ?_ (by first | exact Nat.le_refl _ | exact bl_size (by assumption) | omega | simp) _)⟩
    generalize w1.heap.size = g1 at *
    clear hW hbw HB hBc hBf hlt
    rintro e W2 ⟨v2, rfl, hown, hb2⟩
    have HO2 := As.mk hown
    have HB2 := As.mk hb2
    clear hown hb2
    go_wp2
    go_loopw [28] (fun vi wr => WRel l a ds v2 W1 vi wr) (fun vi _ => (ds.length - intOf vi).toNat)
    case atStart => exact ⟨0, rfl, by omega, HO2, HB2⟩
    case round =>
      obtain ⟨i, rfl, hil, hO, hb⟩ := hrel
      by_cases hlt : i < ds.length
      · obtain ⟨z1, z2, z3, z4⟩ := HD.out
        obtain ⟨bd, od, rfl, hz⟩ := z4 (by omega)
        have hcell := bl_cell hb.out (bl_cell hbw1.out (hz i hlt))
        have hbyte : 0 ≤ ds.getD i 0 ∧ ds.getD i 0 ≤ 255 := by
          rw [List.getD_eq_getElem?_getD, List.getElem?_eq_getElem hlt]; exact z3 _ (List.getElem_mem hlt)
        have HZ : As (Byt (putn l a ds i)) := ⟨(HM.out.byt).putn a z3 i⟩
        have HBY := As.mk hbyte
        have hpn : As (putn l a ds (i + 1) = put (putn l a ds i) (a + (i : Int)) (ds.getD i 0)) := ⟨rfl⟩
        generalize ds.getD i 0 = x at *
        clear hz z4 z3 z1 z2 hbyte
        go_wp2_with fail
        refine (put_any v2 (putn l a ds i) (a + (i : Int)) x wr W1.heap.size hO.out (HK.out.putn a ds i) HZ.out (by omega) (by omega) hb.out.size).mono ?_
        rintro e w3 ⟨rfl, hO3, hb3⟩
        rw [← hpn.out] at hO3
        have HO3 := As.mk hO3
        have HB3 := As.mk (hb.out.trans hb3)
        clear hO3 hb3 hO hb
        go_wp2
        go_roundw
        case rel => exact ⟨i + 1, by go_num, by omega, HO3, HB3⟩
        case measure => simp [intOf]; omega
      · obtain rfl : i = ds.length := by omega
        have hB0 := hk0.out.below hb.out
        have hB1 := hk1.out.below hb.out
        have hc1 := hB1.two
        have hc0 := hB0.two
        have hf0 := hB0.frozen
        have hlt0 := hB0.lt
        have H0 := As.mk hB0
        have hg0 := As.mk hk0.out.lt
        clear hB0 hB1 hk0 hk1
        go_wp2
        go_region
        go_wp2
        refine ret_sf (p := 9) (q := 8) (g := w.heap.size) (x := .int .i64 0) (y := .int .i64 0) rfl rfl rfl rfl (by repeat (first | with_reducible exact H0.out | with_reducible refine Bk.drew ?_ | with_reducible refine Bk.drewN ?_ _ | with_reducible apply Bk.set1 | with_reducible apply Bk.set0 | with_reducible refine Bk.alloc ?_ _ | with_reducible exact Bk.new _ _ _ | with_reducible refine Bk.other ?_ (by first | omega | (simp; omega)) _)) ⟨v2, by rw [E.out]; rfl, ?_, ?_, ?_⟩
        · have hbq := hbw1.out.trans (hb.out.mono hbw1.out.size)
          repeat (first | exact Below.refl _ _ | assumption | refine bl_drew ?_ | refine bl_drewN ?_ _ | refine bl_alloc ?_ _ | refine Below.setCell ?_ (by first | exact Nat.le_refl _ | exact bl_size (by assumption) | omega | simp) _)
        · exact fun h => absurd E.out h
        · intro _
          refine OwnM.base ?_ hbw1.out.size
          have hs := hb.out.size
          repeat (first | exact hO.out | with_reducible refine OwnM.drew ?_ | with_reducible refine OwnM.set ?_ hg0.out (by first | exact hs | (simp; exact hs)) _)
  · have E := As.mk hv
    have hc : ¬ c = 0 := by omega
    rw [hv]
    clear hv
    unfold Flt
    go_wp2
    have hb2 := (Bk.new w1 #[.int .i64 c, .int .i64 i] 33).two
    go_region
    go_wp2
    refine ret_sf (p := 9) (q := 8) (g := w.heap.size) (x := .int .i64 c) (y := .int .i64 i) rfl rfl rfl rfl (by repeat (first | with_reducible exact HB.out | with_reducible refine Bk.drew ?_ | with_reducible refine Bk.drewN ?_ _ | with_reducible apply Bk.set1 | with_reducible apply Bk.set0 | with_reducible refine Bk.alloc ?_ _ | with_reducible exact Bk.new _ _ _ | with_reducible refine Bk.other ?_ (by first | omega | (simp; omega)) _)) ⟨_, by rw [E.out]; rfl, ?_, ?_, ?_⟩
    · repeat (first | exact Below.refl _ _ | assumption | refine bl_drew ?_ | refine bl_drewN ?_ _ | refine bl_alloc ?_ _ | refine Below.setCell ?_ (by first | exact Nat.le_refl _ | exact bl_size (by assumption) | omega | simp) _)
    · exact fun _ => rfl
    · intro h
      rw [E.out] at h
      injection h
      omega
end Go.Proofs.Ytbbhkjljiljadaa
