/- Protect of package memory. Conditions: the memory reads as those pages. -/
import Derived.Test.YtbbhkjljiljadaaM13
namespace Go.Proofs.Ytbbhkjljiljadaa
open Go.RowKit
set_option linter.unusedVariables false
set_option linter.unusedSimpArgs false
def PPost (l : List Pg) (a n r : Int) (w : World) (e : Ending) (w' : World) : Prop :=
  ∃ v, e = .returned (.tuple #[v, Flt (pf l a n r)]) ∧ Below w.heap.size w w' ∧ (pf l a n r ≠ (0, 0) → v = .slice none 0 0) ∧ (pf l a n r = (0, 0) → OwnM w' w.heap.size v (prot l a n r))
def PRel (l : List Pg) (a n r : Int) (v : Value) (W1 : World) (vi : Value) (wr : World) : Prop :=
  ∃ k : Nat, vi = .int .i64 k ∧ (k : Int) ≤ n ∧ As (OwnM wr W1.heap.size v (prot l a k r)) ∧ As (Below W1.heap.size W1 wr)
set_option maxHeartbeats 4000000 in
theorem protect_any (v : Value) (l : List Pg) (a n r : Int) (w : World) (hm : RdM w v l) (ha : I64 a) (hn : I64 n) (hr64 : I64 r) : Calls Try.prog 35 #[v, .int .i64 a, .int .i64 n, .int .i64 r] w (PPost l a n r w) := by
  have HM := As.mk hm
  have HR64 := As.mk hr64
  clear hm hr64
  go_enter Try.func35, Try.ntmps35
  go_wp2_with fail
  refine (span_any _ l a n _ (HM.out.below (by repeat (first | exact Below.refl _ _ | assumption | refine bl_drew ?_ | refine bl_drewN ?_ _ | refine bl_alloc ?_ _ | refine Below.setCell ?_ (by first | exact Nat.le_refl _ | exact bl_size (by assumption) | omega | simp) _))) ha hn).mono ?_
  rintro e w1 ⟨rfl, hb1⟩
  have hB := (Bk.new w #[.int .i64 0, .int .i64 0] 33).below hb1
  have hbw := bl_then (bl_alloc (Below.refl _ w) _) hb1
  have hlt := hB.lt
  have hBc := hB.two
  have hBf := hB.frozen
  have HB := As.mk hB
  clear hb1 hB
  rcases sp_cases l a n with ⟨hv, hvf, hmod, hn0, hn1, ha0, ha1⟩ | ⟨c, i, hv, hc0, hc1, hi0, hi1⟩
  · have HK : As (Ok l) := ⟨Ok.of hvf⟩
    have E1 : As (pf l a n r = if rf r ≠ (0, 0) then rf r else ms l a n.toNat) := ⟨by unfold pf; rw [if_neg (by rw [hv]; simp)]⟩
    rw [hv]
    clear hv hvf
    have HMOD := As.mk hmod
    clear hmod
    unfold Flt
    go_wp2_with fail
    refine (rights_any _ _).mono ?_
    rintro e w2 ⟨rfl, hb2⟩
    have HLE := As.mk (Nat.le_of_lt hlt)
    have hQ := (Bk.new w1 #[.int .i64 0, .int .i64 0] 33).below hb2
    have hB2 := (show Bk _ w.heap.size #[.int .i64 0, .int .i64 0] 33 from by repeat (first | with_reducible exact HB.out | with_reducible refine Bk.drew ?_ | with_reducible refine Bk.drewN ?_ _ | with_reducible apply Bk.set1 | with_reducible apply Bk.set0 | with_reducible refine Bk.alloc ?_ _ | with_reducible exact Bk.new _ _ _ | with_reducible refine Bk.other ?_ (by first | omega | (simp; omega)) _)).below hb2
    have hbw2 := bl_then (show Below w.heap.size w _ from by have hle := HLE.out; repeat (first | exact Below.refl _ _ | assumption | refine bl_drew ?_ | refine bl_drewN ?_ _ | refine bl_alloc ?_ _ | refine Below.setCell ?_ (by first | exact Nat.le_refl _ | exact bl_size (by assumption) | omega | simp) _)) hb2
    have hQ1 := hQ.two
    have hQ2 := hQ.frozen
    have hQ3 := hQ.lt
    have hB1 := hB2.two
    have hB3 := hB2.frozen
    have hne : w.heap.size ≠ w1.heap.size := by omega
    have HQ := As.mk hQ
    have HB2 := As.mk hB2
    clear hQ hB2 hb2 HB hBc hBf hbw
    rcases rf_cases r with er | er
    · have E2 : As (pf l a n r = ms l a n.toNat) := ⟨by rw [E1.out, er]; rfl⟩
      rw [er]
      clear E1 er
      unfold Flt
      go_wp2_with fail
      refine (missing_any v l a n _ (HM.out.below (by have hle := HLE.out; repeat (first | exact Below.refl _ _ | assumption | refine bl_drew ?_ | refine bl_drewN ?_ _ | refine bl_alloc ?_ _ | refine Below.setCell ?_ (by first | exact Nat.le_refl _ | exact bl_size (by assumption) | omega | simp) _))) HK.out.inc ha0 hn0 hn1 ha1).mono ?_
      rintro e w3 ⟨rfl, hb3⟩
      have hQ := (show Bk _ w1.heap.size #[.int .i64 0, .int .i64 0] 33 from by repeat (first | with_reducible exact HQ.out | with_reducible refine Bk.drew ?_ | with_reducible refine Bk.drewN ?_ _ | with_reducible apply Bk.set1 | with_reducible apply Bk.set0 | with_reducible refine Bk.alloc ?_ _ | with_reducible exact Bk.new _ _ _ | with_reducible refine Bk.other ?_ (by first | omega | (simp; omega)) _)).below hb3
      have hB2 := (show Bk _ w.heap.size #[.int .i64 0, .int .i64 0] 33 from by repeat (first | with_reducible exact HB2.out | with_reducible refine Bk.drew ?_ | with_reducible refine Bk.drewN ?_ _ | with_reducible apply Bk.set1 | with_reducible apply Bk.set0 | with_reducible refine Bk.alloc ?_ _ | with_reducible exact Bk.new _ _ _ | with_reducible refine Bk.other ?_ (by first | omega | (simp; omega)) _)).below hb3
      have hbw3 := bl_then (show Below w.heap.size w _ from by have hle := HLE.out; repeat (first | exact Below.refl _ _ | assumption | refine bl_drew ?_ | refine bl_drewN ?_ _ | refine bl_alloc ?_ _ | refine Below.setCell ?_ (by first | exact Nat.le_refl _ | exact bl_size (by assumption) | omega | simp) _)) hb3
      clear hQ1 hQ2 hQ3 hB1 hB3 HQ HB2
      have hQ1 := hQ.two
      have hQ2 := hQ.frozen
      have hQ3 := hQ.lt
      have hB1 := hB2.two
      have hB3 := hB2.frozen
      have HQ := As.mk hQ
      have HB2 := As.mk hB2
      clear hQ hB2 hb3 hbw2
      rcases ms_cases l a n.toNat with ⟨em, hall⟩ | ⟨k, hk, em⟩
      · have E := As.mk (E2.out.trans em)
        rw [em]
        clear E2 em
        unfold Flt
        go_wp2_with fail
        refine (clone_any v l _ (HM.out.below (by have hle := HLE.out; repeat (first | exact Below.refl _ _ | assumption | refine bl_drew ?_ | refine bl_drewN ?_ _ | refine bl_alloc ?_ _ | refine Below.setCell ?_ (by first | exact Nat.le_refl _ | exact bl_size (by assumption) | omega | simp) _))) HK.out).mono ?_
        generalize hW : (w3.setCell _ _).setCell _ _ = W1
        have hk0 : As (Bk W1 w.heap.size #[.int .i64 0, .int .i64 0] 33) := ⟨by rw [← hW]; have hle := HLE.out; repeat (first | with_reducible exact HB2.out | with_reducible refine Bk.drew ?_ | with_reducible refine Bk.drewN ?_ _ | with_reducible apply Bk.set1 | with_reducible apply Bk.set0 | with_reducible refine Bk.alloc ?_ _ | with_reducible exact Bk.new _ _ _ | with_reducible refine Bk.other ?_ (by first | omega | (simp; omega)) _)⟩
        have hk1 : As (Bk W1 w1.heap.size #[.int .i64 0, .int .i64 0] 33) := ⟨by rw [← hW]; have hle := HLE.out; repeat (first | with_reducible exact HQ.out | with_reducible refine Bk.drew ?_ | with_reducible refine Bk.drewN ?_ _ | with_reducible apply Bk.set1 | with_reducible apply Bk.set0 | with_reducible refine Bk.alloc ?_ _ | with_reducible exact Bk.new _ _ _ | with_reducible refine Bk.other ?_ (by first | omega | (simp; omega)) _)⟩
        have hbw1 : As (Below w.heap.size w W1) := ⟨by rw [← hW]; have hle := HLE.out; repeat (first | exact Below.refl _ _ | assumption | refine bl_drew ?_ | refine bl_drewN ?_ _ | refine bl_alloc ?_ _ | refine Below.setCell ?_ (by first | exact Nat.le_refl _ | exact bl_size (by assumption) | omega | simp) _)⟩
        have HALL := As.mk hall
        generalize w1.heap.size = g1 at *
        clear hW hQ1 hQ2 hQ3 hB1 hB3 HQ HB2 hbw3 hall
        rintro e W2 ⟨v2, rfl, hown, hb2⟩
        have HO2 := As.mk hown
        have HB2 := As.mk hb2
        clear hown hb2
        go_wp2_with fail
        refine (find_any v l a _ (HM.out.below (hbw1.out.trans (HB2.out.mono hbw1.out.size))) HK.out.inc ha0 (by omega)).mono ?_
        rintro e W3 ⟨i, ok, hsp, rfl, hb3⟩
        have HO3 := As.mk (HO2.out.below hb3)
        have HB3 := As.mk (HB2.out.trans (hb3.mono HB2.out.size))
        have hz := hsp.look HK.out.inc
        clear HO2 HB2 hb3 hsp
        rcases hz with ⟨rfl, hi, hlk, he⟩ | ⟨rfl, hlk⟩
        · have he : l[i].a = a := by have := HMOD.out; omega
          have RUN : As (∀ k : Nat, k < n.toNat → ∃ h : i + k < l.length, l[i + k].a = a + (k : Int) * 256) := ⟨runs HK.out HMOD.out hi he HALL.out⟩
          clear he hlk HALL
          go_wp2
          go_loopw [44] (fun vi wr => PRel l a n r v2 W1 vi wr) (fun vi _ => (n - intOf vi).toNat)
          case atStart => exact ⟨0, rfl, by omega, ⟨by have := prot_zero (l := l) a r; simpa [this] using HO3.out⟩, HB3⟩
          case round =>
            obtain ⟨k, rfl, hkn, hO, hb⟩ := hrel
            by_cases hlt : (k : Int) < n
            · obtain ⟨hik, hea⟩ := RUN.out k (by omega)
              rcases hO.out with ⟨e0, _⟩ | ⟨w0, g, cap, cur, D, C, dc, rfl, hp⟩
              · have := congrArg List.length e0
                rw [prot_len] at this
                simp at this
                subst this
                exact absurd hik (by simp)
              · have hq := hp.blk.cell ((i + k) * 3 + 1)
                rw [hp.rts (i + k) (by rw [prot_len]; exact hik)] at hq
                have hf := hp.blk.frozen ((i + k) * 3 + 1)
                have hlen : (prot l a k r).length = l.length := prot_len _ _ _ _
                have hl200 := HK.out.len
                have NP := As.mk (Part.prot HK.out HMOD.out hik hea hp)
                have hlow := As.mk hp.low
                clear hp hea hO
                rw [hlen]
                go_wp2
                go_roundw
                case rel => exact ⟨k + 1, by go_num, by omega, ⟨Or.inr ⟨w0, g, cap, _, D, C, dc, by rw [prot_len], NP.out⟩⟩, ⟨hb.out.setCell hlow.out _⟩⟩
                case measure => simp [intOf]; omega
            · obtain rfl : n = (k : Int) := by omega
              have hB0 := hk0.out.below hb.out
              have hB1 := hk1.out.below hb.out
              have hc1 := hB1.two
              have hc0 := hB0.two
              have hf0 := hB0.frozen
              have hlt0 := hB0.lt
              have H0 := As.mk hB0
              have hg0 := As.mk hk0.out.lt
              clear hB0 hB1 hk0 hk1
              go_wp2
              go_region
              go_wp2
              refine ret_sf (p := 9) (q := 8) (g := w.heap.size) (x := .int .i64 0) (y := .int .i64 0) rfl rfl rfl rfl (by repeat (first | with_reducible exact H0.out | with_reducible refine Bk.drew ?_ | with_reducible refine Bk.drewN ?_ _ | with_reducible apply Bk.set1 | with_reducible apply Bk.set0 | with_reducible refine Bk.alloc ?_ _ | with_reducible exact Bk.new _ _ _ | with_reducible refine Bk.other ?_ (by first | omega | (simp; omega)) _)) ⟨v2, by rw [E.out]; rfl, ?_, ?_, ?_⟩
              · have hbq := hbw1.out.trans (hb.out.mono hbw1.out.size)
                repeat (first | exact Below.refl _ _ | assumption | refine bl_drew ?_ | refine bl_drewN ?_ _ | refine bl_alloc ?_ _ | refine Below.setCell ?_ (by first | exact Nat.le_refl _ | exact bl_size (by assumption) | omega | simp) _)
              · exact fun h => absurd E.out h
              · intro _
                refine OwnM.base ?_ hbw1.out.size
                have hs := hb.out.size
                repeat (first | exact hO.out | with_reducible refine OwnM.drew ?_ | with_reducible refine OwnM.set ?_ hg0.out (by first | exact hs | (simp; exact hs)) _)
        · exfalso
          have h0 := HALL.out 0 (by omega)
          apply h0
          simpa using hlk
      · have E : As (pf l a n r = (6, (k : Int))) := ⟨by rw [E2.out, em]⟩
        rw [em]
        clear E2 em
        unfold Flt
        go_wp2
        go_region
        go_wp2
        refine ret_sf (p := 9) (q := 8) (g := w.heap.size) (x := .int .i64 6) (y := .int .i64 (k : Int)) rfl rfl rfl rfl (by repeat (first | with_reducible exact HB2.out | with_reducible refine Bk.drew ?_ | with_reducible refine Bk.drewN ?_ _ | with_reducible apply Bk.set1 | with_reducible apply Bk.set0 | with_reducible refine Bk.alloc ?_ _ | with_reducible exact Bk.new _ _ _ | with_reducible refine Bk.other ?_ (by first | omega | (simp; omega)) _)) ⟨_, by rw [E.out]; rfl, ?_, ?_, ?_⟩
        · have hle := HLE.out
          repeat (first | exact Below.refl _ _ | assumption | refine bl_drew ?_ | refine bl_drewN ?_ _ | refine bl_alloc ?_ _ | refine Below.setCell ?_ (by first | exact Nat.le_refl _ | exact bl_size (by assumption) | omega | simp) _)
        · exact fun _ => rfl
        · intro h
          rw [E.out] at h
          injection h
          omega
    · have E2 : As (pf l a n r = (3, -3)) := ⟨by rw [E1.out, er]; rfl⟩
      rw [er]
      clear E1 er
      unfold Flt
      go_wp2
      go_region
      go_wp2
      refine ret_sf (p := 9) (q := 8) (g := w.heap.size) (x := .int .i64 3) (y := .int .i64 (-3)) rfl rfl rfl rfl (by repeat (first | with_reducible exact HB2.out | with_reducible refine Bk.drew ?_ | with_reducible refine Bk.drewN ?_ _ | with_reducible apply Bk.set1 | with_reducible apply Bk.set0 | with_reducible refine Bk.alloc ?_ _ | with_reducible exact Bk.new _ _ _ | with_reducible refine Bk.other ?_ (by first | omega | (simp; omega)) _)) ⟨_, by rw [E2.out]; rfl, ?_, ?_, ?_⟩
      · have hle := HLE.out
        repeat (first | exact Below.refl _ _ | assumption | refine bl_drew ?_ | refine bl_drewN ?_ _ | refine bl_alloc ?_ _ | refine Below.setCell ?_ (by first | exact Nat.le_refl _ | exact bl_size (by assumption) | omega | simp) _)
      · exact fun _ => rfl
      · intro h
        rw [E2.out] at h
        injection h
        omega
  · have E : As (pf l a n r = (c, i)) := ⟨by unfold pf; rw [if_pos (by rw [hv]; intro h; injection h; omega), hv]⟩
    have hc : ¬ c = 0 := by omega
    rw [hv]
    clear hv
    unfold Flt
    go_wp2
    have hb2 := (Bk.new w1 #[.int .i64 c, .int .i64 i] 33).two
    go_region
    go_wp2
    refine ret_sf (p := 9) (q := 8) (g := w.heap.size) (x := .int .i64 c) (y := .int .i64 i) rfl rfl rfl rfl (by repeat (first | with_reducible exact HB.out | with_reducible refine Bk.drew ?_ | with_reducible refine Bk.drewN ?_ _ | with_reducible apply Bk.set1 | with_reducible apply Bk.set0 | with_reducible refine Bk.alloc ?_ _ | with_reducible exact Bk.new _ _ _ | with_reducible refine Bk.other ?_ (by first | omega | (simp; omega)) _)) ⟨_, by rw [E.out]; rfl, ?_, ?_, ?_⟩
    · repeat (first | exact Below.refl _ _ | assumption | refine bl_drew ?_ | refine bl_drewN ?_ _ | refine bl_alloc ?_ _ | refine Below.setCell ?_ (by first | exact Nat.le_refl _ | exact bl_size (by assumption) | omega | simp) _)
    · exact fun _ => rfl
    · intro h
      rw [E.out] at h
      injection h
      omega
end Go.Proofs.Ytbbhkjljiljadaa
