/- Map of package memory. Conditions: the memory reads as those pages. -/
import Derived.Test.YtbbhkjljiljadaaM19
import Derived.Deep.RegionHeld3
import Derived.Deep.DrawnRows
namespace Go.Proofs.Ytbbhkjljiljadaa
open Go.RowKit
set_option linter.unusedVariables false
set_option linter.unusedSimpArgs false
attribute [local go_sem ↓] Go.wp_at_zero Go.wp_at_succ
theorem set_same {W : World} {a : Addr} {v : Value} (h : W.cell? a = some v) (p : Addr) : (W.setCell a v).cell? p = W.cell? p := by
  by_cases e : p = a
  · subst e
    rw [h]
    exact World.cell?_setCell_same _ _ _ h
  · exact World.cell?_setCell_other _ _ _ _ (fun e2 => e (by rw [e2]))
theorem RdB.same {w w1 : World} {A : Option Addr} {n : Nat} {zs : List Int} (h : RdB w A n zs) (hs : ∀ p, w1.cell? p = w.cell? p) : RdB w1 A n zs := by
  obtain ⟨h1, h2, h3, h4⟩ := h
  refine ⟨h1, h2, h3, fun hn => ?_⟩
  obtain ⟨b, off, e, hc⟩ := h4 hn
  exact ⟨b, off, e, fun j hj => (hs _).trans (hc j hj)⟩
theorem RdM.same {w w1 : World} {v : Value} {l : List Pg} (h : RdM w v l) (hs : ∀ p, w1.cell? p = w.cell? p) : RdM w1 v l := by
  obtain ⟨A, c, h1, h2, h3, h4⟩ := h
  refine ⟨A, c, h1, h2, h3, fun hn => ?_⟩
  obtain ⟨b, off, e, hc⟩ := h4 hn
  refine ⟨b, off, e, fun i hi => ?_⟩
  obtain ⟨h1, h2, h3, h4, D, c, h5, h6, h7⟩ := hc i hi
  exact ⟨h1, h2, (hs _).trans h3, (hs _).trans h4, D, c, (hs _).trans h5, h6, h7.same hs⟩
/-- The first page of a range that exists. -/
def ex (l : List Pg) (a : Int) (n : Nat) : Int × Int := match (List.range n).find? (fun k : Nat => (look l (a + (k : Int) * 256)).isSome) with | some k => (7, (k : Int)) | none => (0, 0)
theorem ex_bad {l : List Pg} {a : Int} {n i : Nat} (hi : i < n) (hp : look l (a + (i : Int) * 256) ≠ none) (hb : ∀ j, j < i → look l (a + (j : Int) * 256) = none) : ex l a n = (7, (i : Int)) := by
  unfold ex
  rw [find_range hi (by cases h : look l (a + (i : Int) * 256) with | none => exact absurd h hp | some _ => rfl) (fun j hj => by simp [hb j hj])]
theorem ex_ok {l : List Pg} {a : Int} {n : Nat} (hb : ∀ j, j < n → look l (a + (j : Int) * 256) = none) : ex l a n = (0, 0) := by
  unfold ex
  rw [find_range_none (fun j hj => by simp [hb j hj])]
/-- What Map says. -/
def mf (l : List Pg) (a n r : Int) : Int × Int :=
  if sp l a n ≠ (0, 0) then sp l a n else if rf r ≠ (0, 0) then rf r else if ex l a n.toNat ≠ (0, 0) then ex l a n.toNat else if 200 < (l.length : Int) + n then (10, -1) else (0, 0)
def MPost (l : List Pg) (a n r : Int) (w : World) (e : Ending) (w' : World) : Prop :=
  ∃ v, e = .returned (.tuple #[v, Flt (mf l a n r)]) ∧ Below w.heap.size w w' ∧ (mf l a n r ≠ (0, 0) → v = .slice none 0 0) ∧ (mf l a n r = (0, 0) → ∃ (i : Nat) (ok : Bool), Spot l a i ok ∧ RdM w' v (l.take i ++ newP a r n.toNat ++ l.drop i))
def MpRel (l : List Pg) (a n : Int) (w W1 : World) (g0 g1 : Nat) (vi : Value) (wr : World) : Prop :=
  ∃ k : Nat, vi = .int .i64 k ∧ (k : Int) ≤ n ∧ As (Below w.heap.size w wr) ∧ As (Bk wr g0 #[.int .i64 0, .int .i64 0] 33) ∧
    ((As (∀ j, j < k → look l (a + (j : Int) * 256) = none) ∧ As (Bk wr g1 #[.int .i64 0, .int .i64 0] 33)) ∨
     ∃ q : Nat, q + 1 = k ∧ As (∀ j, j < q → look l (a + (j : Int) * 256) = none) ∧ As (look l (a + (q : Int) * 256) ≠ none) ∧ As (Bk wr g1 #[.int .i64 7, .int .i64 q] 33))
set_option maxHeartbeats 4000000 in
theorem map_any (v : Value) (l : List Pg) (a n r : Int) (w : World) (hm : RdM w v l) (ha : I64 a) (hn : I64 n) (hr64 : I64 r) : Calls Try.prog 33 #[v, .int .i64 a, .int .i64 n, .int .i64 r] w (MPost l a n r w) := by
  have HM := As.mk hm
  have HR64 := As.mk hr64
  clear hm hr64
  go_enter Try.func33, Try.ntmps33
  go_wp2_with fail
  refine (span_any _ l a n _ (HM.out.below (by repeat (first | exact Below.refl _ _ | assumption | refine bl_drew ?_ | refine bl_drewN ?_ _ | refine bl_alloc ?_ _ | refine Below.setCell ?_ (by first | exact Nat.le_refl _ | exact bl_size (by assumption) | omega | simp) _))) ha hn).mono ?_
  rintro e w1 ⟨rfl, hb1⟩
  have hB := (Bk.new w #[.int .i64 0, .int .i64 0] 33).below hb1
  have hbw := bl_then (bl_alloc (Below.refl _ w) _) hb1
  have hlt := hB.lt
  have hBc := hB.two
  have hBf := hB.frozen
  have HB := As.mk hB
  clear hb1 hB
  rcases sp_cases l a n with ⟨hv, hvf, hmod, hn0, hn1, ha0, ha1⟩ | ⟨c, i, hv, hc0, hc1, hi0, hi1⟩
  · have HK : As (Ok l) := ⟨Ok.of hvf⟩
    have E1 : As (mf l a n r = if rf r ≠ (0, 0) then rf r else if ex l a n.toNat ≠ (0, 0) then ex l a n.toNat else if 200 < (l.length : Int) + n then (10, -1) else (0, 0)) := ⟨by unfold mf; rw [if_neg (by rw [hv]; simp)]⟩
    rw [hv]
    clear hv hvf
    have HMOD := As.mk hmod
    clear hmod
    unfold Flt
    go_wp2_with fail
    refine (rights_any _ _).mono ?_
    rintro e w2 ⟨rfl, hb2⟩
    have HLE := As.mk (Nat.le_of_lt hlt)
    have hQ := (Bk.new w1 #[.int .i64 0, .int .i64 0] 33).below hb2
    have hB2 := (show Bk _ w.heap.size #[.int .i64 0, .int .i64 0] 33 from by repeat (first | with_reducible exact HB.out | with_reducible refine Bk.drew ?_ | with_reducible refine Bk.drewN ?_ _ | with_reducible apply Bk.set1 | with_reducible apply Bk.set0 | with_reducible refine Bk.alloc ?_ _ | with_reducible exact Bk.new _ _ _ | with_reducible refine Bk.other ?_ (by first | omega | (simp; omega)) _)).below hb2
    have hbw2 := bl_then (show Below w.heap.size w _ from by have hle := HLE.out; repeat (first | exact Below.refl _ _ | assumption | refine bl_drew ?_ | refine bl_drewN ?_ _ | refine bl_alloc ?_ _ | refine Below.setCell ?_ (by first | exact Nat.le_refl _ | exact bl_size (by assumption) | omega | simp) _)) hb2
    have hQ1 := hQ.two
    have hQ2 := hQ.frozen
    have hQ3 := hQ.lt
    have hB1 := hB2.two
    have hB3 := hB2.frozen
    have hne : w.heap.size ≠ w1.heap.size := by omega
    have HQ := As.mk hQ
    have HB2 := As.mk hB2
    clear hQ hB2 hb2 HB hBc hBf hbw
    rcases rf_cases r with er | er
    · have E2 : As (mf l a n r = if ex l a n.toNat ≠ (0, 0) then ex l a n.toNat else if 200 < (l.length : Int) + n then (10, -1) else (0, 0)) := ⟨by rw [E1.out, er]; rfl⟩
      rw [er]
      clear E1
      unfold Flt
      go_wp2
      go_loopw [11] (fun vi wr => MpRel l a n w w1 w.heap.size w1.heap.size vi wr) (fun vi _ => (n - intOf vi).toNat)
      case atStart => exact ⟨0, rfl, by omega, ⟨by have hle := HLE.out; repeat (first | exact Below.refl _ _ | assumption | refine bl_drew ?_ | refine bl_drewN ?_ _ | refine bl_alloc ?_ _ | refine Below.setCell ?_ (by first | exact Nat.le_refl _ | exact bl_size (by assumption) | omega | simp) _)⟩, ⟨by repeat (first | with_reducible exact HB2.out | with_reducible refine Bk.drew ?_ | with_reducible refine Bk.drewN ?_ _ | with_reducible apply Bk.set1 | with_reducible apply Bk.set0 | with_reducible refine Bk.alloc ?_ _ | with_reducible exact Bk.new _ _ _ | with_reducible refine Bk.other ?_ (by first | omega | (simp; omega)) _)⟩, Or.inl ⟨⟨fun j hj => absurd hj (by omega)⟩, ⟨by repeat (first | with_reducible exact HQ.out | with_reducible refine Bk.drew ?_ | with_reducible refine Bk.drewN ?_ _ | with_reducible apply Bk.set1 | with_reducible apply Bk.set0 | with_reducible refine Bk.alloc ?_ _ | with_reducible exact Bk.new _ _ _ | with_reducible refine Bk.other ?_ (by first | omega | (simp; omega)) _)⟩⟩⟩
      case round =>
        clear HQ HB2 hQ1 hQ2 hQ3 hB1 hB3 hbw2
        generalize w1.heap.size = g1 at *
        obtain ⟨k, rfl, hkn, hb, hR0, ⟨hall, hR1⟩ | ⟨q, hqk, hall, hfound, hR1⟩⟩ := hrel
        · have hR1' := hR1.out.two
          have hR1f := hR1.out.frozen
          have hR0' := hR0.out.two
          have hR0f := hR0.out.frozen
          by_cases hlt2 : (k : Int) < n
          · go_wp2_with fail
            refine (find_any v l (a + (k : Int) * 256) _ (HM.out.below hb.out) HK.out.inc (by omega) (by omega)).mono ?_
            rintro e w3 ⟨i, ok, hsp, rfl, hb3⟩
            have hz := hsp.look HK.out.inc
            have hS0 := As.mk (hR0.out.below hb3)
            have hS1 := hR1.out.below hb3
            have hS1' := hS1.two
            have hS1f := hS1.frozen
            have HS1 := As.mk hS1
            have HB3 := As.mk (bl_then hb.out hb3)
            clear hR1' hR1f hR0' hR0f hb3 hsp hS1 hR1 hR0 hb
            rcases hz with ⟨rfl, hi, hlk, he⟩ | ⟨rfl, hlk⟩
            · have HF : As (look l (a + (k : Int) * 256) ≠ none) := ⟨by rw [hlk]; simp⟩
              clear hlk he
              go_wp2
              go_roundw
              case rel => exact ⟨k + 1, by go_num, by omega, ⟨by have hb := HB3.out; have hle := HLE.out; repeat (first | exact Below.refl _ _ | assumption | refine bl_drew ?_ | refine bl_drewN ?_ _ | refine bl_alloc ?_ _ | refine Below.setCell ?_ (by first | exact Nat.le_refl _ | exact bl_size (by assumption) | omega | simp) _)⟩, ⟨by repeat (first | with_reducible exact hS0.out | with_reducible refine Bk.drew ?_ | with_reducible refine Bk.drewN ?_ _ | with_reducible apply Bk.set1 | with_reducible apply Bk.set0 | with_reducible refine Bk.alloc ?_ _ | with_reducible exact Bk.new _ _ _ | with_reducible refine Bk.other ?_ (by first | omega | (simp; omega)) _)⟩, Or.inr ⟨k, rfl, hall, HF, ⟨by repeat (first | with_reducible exact HS1.out | with_reducible refine Bk.drew ?_ | with_reducible refine Bk.drewN ?_ _ | with_reducible apply Bk.set1 | with_reducible apply Bk.set0 | with_reducible refine Bk.alloc ?_ _ | with_reducible exact Bk.new _ _ _ | with_reducible refine Bk.other ?_ (by first | omega | (simp; omega)) _)⟩⟩⟩
              case measure => simp [intOf]; omega
            · have HF := As.mk hlk
              clear hlk
              go_wp2
              go_roundw
              case rel => exact ⟨k + 1, by go_num, by omega, HB3, hS0, Or.inl ⟨⟨fun j hj => by
                rcases Nat.lt_or_ge j k with h | h
                · exact hall.out j h
                · obtain rfl : j = k := by omega
                  exact HF.out⟩, HS1⟩⟩
              case measure => simp [intOf]; omega
          · obtain rfl : n = (k : Int) := by omega
            have E3 : As (mf l a k r = if 200 < (l.length : Int) + (k : Int) then (10, -1) else (0, 0)) := ⟨by rw [E2.out, ex_ok (fun j hj => hall.out j (by simpa using hj))]; rfl⟩
            obtain ⟨A, c, rfl, hlc⟩ := id HM.out
            clear hlc
            have hl2 := HK.out.len
            by_cases htl : 200 < (l.length : Int) + (k : Int)
            · have E4 : As (mf l a k r = (10, -1)) := ⟨by rw [E3.out, if_pos htl]⟩
              clear E3 E2
              go_wp2
              go_region
              go_wp2
              refine ret_sf (p := 9) (q := 8) (g := w.heap.size) (x := .int .i64 10) (y := .int .i64 (-1)) rfl rfl rfl rfl (by repeat (first | with_reducible exact hR0.out | with_reducible refine Bk.drew ?_ | with_reducible refine Bk.drewN ?_ _ | with_reducible apply Bk.set1 | with_reducible apply Bk.set0 | with_reducible refine Bk.alloc ?_ _ | with_reducible exact Bk.new _ _ _ | with_reducible refine Bk.other ?_ (by first | omega | (simp; omega)) _)) ⟨_, by rw [E4.out]; rfl, ?_, ?_, ?_⟩
              · have hle := HLE.out
                have := hb.out
                repeat (first | exact Below.refl _ _ | assumption | refine bl_drew ?_ | refine bl_drewN ?_ _ | refine bl_alloc ?_ _ | refine Below.setCell ?_ (by first | exact Nat.le_refl _ | exact bl_size (by assumption) | omega | simp) _)
              · exact fun _ => rfl
              · intro h
                rw [E4.out] at h
                injection h
                omega
            · have E4 : As (mf l a k r = (0, 0)) := ⟨by rw [E3.out, if_neg htl]⟩
              clear E3 E2
              go_wp2
              have HMd : As (RdM wr.drew (.slice A l.length c) l) := ⟨(HM.out.below hb.out).drew⟩
              have hk1 : 1 ≤ k := by omega
              have hk2 : k ≤ 200 := by omega
              clear hR1' hR1f hR0' hR0f hall
              go_region_held3 (fun w' => (w'.cell? ⟨w.heap.size, 0, none⟩ = some (.int .i64 0) ∧ w'.cell? ⟨w.heap.size, 1, none⟩ = some (.int .i64 0)) ∧ (w'.frozen? ⟨w.heap.size, 0, none⟩ = false ∧ w'.frozen? ⟨w.heap.size, 1, none⟩ = false) ∧ w'.cell? ⟨g1, 0, none⟩ = some (.int .i64 0) ∧ w'.cell? ⟨g1, 1, none⟩ = some (.int .i64 0)) (first | exact S6 hR0.out.drew hR1.out.drew | exact S6 (hR0.out.drew.below HB4.out) (hR1.out.drew.below HB4.out) | exact S6 (by repeat (first | with_reducible exact (hR0.out.drew.below HB4.out) | with_reducible refine Bk.drew ?_ | with_reducible refine Bk.drewN ?_ _ | with_reducible apply Bk.set1 | with_reducible apply Bk.set0 | with_reducible refine Bk.alloc ?_ _ | with_reducible exact Bk.new _ _ _ | with_reducible refine Bk.other ?_ (by first | omega | (simp; omega)) _)) (by repeat (first | with_reducible exact (hR1.out.drew.below HB4.out) | with_reducible refine Bk.drew ?_ | with_reducible refine Bk.drewN ?_ _ | with_reducible apply Bk.set1 | with_reducible apply Bk.set0 | with_reducible refine Bk.alloc ?_ _ | with_reducible exact Bk.new _ _ _ | with_reducible refine Bk.other ?_ (by first | omega | (simp; omega)) _))) (first | (go_at_call 60; ((with_reducible refine (new_any _ l a r k _ HMd.out HK.out ha0 (by omega) hk1 hk2 HR64.out).mono ?_); rintro e W4 ⟨v4, i4, ok4, rfl, hsp4, hrd4, hb4⟩; have HS4 := As.mk hsp4; have HRD4 := As.mk hrd4; have HB4 := As.mk hb4; clear hsp4 hrd4 hb4)))
              go_wp2
              refine ret_sf (p := 9) (q := 8) (g := w.heap.size) (x := .int .i64 0) (y := .int .i64 0) rfl rfl rfl rfl (by repeat (first | with_reducible exact (hR0.out.drew.below HB4.out) | with_reducible refine Bk.drew ?_ | with_reducible refine Bk.drewN ?_ _ | with_reducible apply Bk.set1 | with_reducible apply Bk.set0 | with_reducible refine Bk.alloc ?_ _ | with_reducible exact Bk.new _ _ _ | with_reducible refine Bk.other ?_ (by first | omega | (simp; omega)) _)) ⟨_, by rw [E4.out]; rfl, ?_, ?_, ?_⟩
              · have hq : Below w.heap.size w W4 := bl_then (bl_drew hb.out) HB4.out
                repeat (first | exact Below.refl _ _ | assumption | refine bl_drew ?_ | refine bl_drewN ?_ _ | refine bl_alloc ?_ _ | refine Below.setCell ?_ (by first | exact Nat.le_refl _ | exact bl_size (by assumption) | omega | simp) _)
              · exact fun h => absurd E4.out h
              · intro _
                refine ⟨i4, ok4, by have := HS4.out; rw [HMOD.out] at this; simpa using this, ?_⟩
                have hn' : (k : Int).toNat = k := by omega
                rw [hn']
                have hq := hR0.out.drew.below HB4.out
                exact HRD4.out.same (fun p => (set_same (hq.set0 _).two.2 p).trans (set_same hq.two.1 p))
        · have hR1' := hR1.out.two
          have hR1f := hR1.out.frozen
          have hR0' := hR0.out.two
          have hR0f := hR0.out.frozen
          have E3 : As (mf l a n r = (7, (q : Int))) := ⟨by rw [E2.out, ex_bad (i := q) (by omega) hfound.out hall.out]; rfl⟩
          by_cases hlt2 : (k : Int) < n
          · go_wp2
            go_region
            go_wp2
            refine ret_sf (p := 9) (q := 8) (g := w.heap.size) (x := .int .i64 7) (y := .int .i64 q) rfl rfl rfl rfl (by repeat (first | with_reducible exact hR0.out | with_reducible refine Bk.drew ?_ | with_reducible refine Bk.drewN ?_ _ | with_reducible apply Bk.set1 | with_reducible apply Bk.set0 | with_reducible refine Bk.alloc ?_ _ | with_reducible exact Bk.new _ _ _ | with_reducible refine Bk.other ?_ (by first | omega | (simp; omega)) _)) ⟨_, by rw [E3.out]; rfl, ?_, ?_, ?_⟩
            · have hle := HLE.out
              have := hb.out
              repeat (first | exact Below.refl _ _ | assumption | refine bl_drew ?_ | refine bl_drewN ?_ _ | refine bl_alloc ?_ _ | refine Below.setCell ?_ (by first | exact Nat.le_refl _ | exact bl_size (by assumption) | omega | simp) _)
            · exact fun _ => rfl
            · intro h
              rw [E3.out] at h
              injection h
              omega
          · go_wp2
            go_region
            go_wp2
            refine ret_sf (p := 9) (q := 8) (g := w.heap.size) (x := .int .i64 7) (y := .int .i64 q) rfl rfl rfl rfl (by repeat (first | with_reducible exact hR0.out | with_reducible refine Bk.drew ?_ | with_reducible refine Bk.drewN ?_ _ | with_reducible apply Bk.set1 | with_reducible apply Bk.set0 | with_reducible refine Bk.alloc ?_ _ | with_reducible exact Bk.new _ _ _ | with_reducible refine Bk.other ?_ (by first | omega | (simp; omega)) _)) ⟨_, by rw [E3.out]; rfl, ?_, ?_, ?_⟩
            · have hle := HLE.out
              have := hb.out
              repeat (first | exact Below.refl _ _ | assumption | refine bl_drew ?_ | refine bl_drewN ?_ _ | refine bl_alloc ?_ _ | refine Below.setCell ?_ (by first | exact Nat.le_refl _ | exact bl_size (by assumption) | omega | simp) _)
            · exact fun _ => rfl
            · intro h
              rw [E3.out] at h
              injection h
              omega
    · have E2 : As (mf l a n r = (3, -3)) := ⟨by rw [E1.out, er]; rfl⟩
      rw [er]
      clear E1 er
      unfold Flt
      go_wp2
      refine wp_loop_rounds 1 ?_
      go_wp2_with (rw [rounds_succ])
      go_region
      go_wp2
      refine ret_sf (p := 9) (q := 8) (g := w.heap.size) (x := .int .i64 3) (y := .int .i64 (-3)) rfl rfl rfl rfl (by repeat (first | with_reducible exact HB2.out | with_reducible refine Bk.drew ?_ | with_reducible refine Bk.drewN ?_ _ | with_reducible apply Bk.set1 | with_reducible apply Bk.set0 | with_reducible refine Bk.alloc ?_ _ | with_reducible exact Bk.new _ _ _ | with_reducible refine Bk.other ?_ (by first | omega | (simp; omega)) _)) ⟨_, by rw [E2.out]; rfl, ?_, ?_, ?_⟩
      · have hle := HLE.out
        repeat (first | exact Below.refl _ _ | assumption | refine bl_drew ?_ | refine bl_drewN ?_ _ | refine bl_alloc ?_ _ | refine Below.setCell ?_ (by first | exact Nat.le_refl _ | exact bl_size (by assumption) | omega | simp) _)
      · exact fun _ => rfl
      · intro h
        rw [E2.out] at h
        injection h
        omega
  · have E : As (mf l a n r = (c, i)) := ⟨by unfold mf; rw [if_pos (by rw [hv]; intro h; injection h; omega), hv]⟩
    have hc : ¬ c = 0 := by omega
    rw [hv]
    clear hv
    unfold Flt
    go_wp2
    have hb2 := (Bk.new w1 #[.int .i64 c, .int .i64 i] 33).two
    by_cases hn0 : 0 < n
    · refine wp_loop_rounds 1 ?_
      go_wp2_with (rw [rounds_succ])
      go_region
      go_wp2
      refine ret_sf (p := 9) (q := 8) (g := w.heap.size) (x := .int .i64 c) (y := .int .i64 i) rfl rfl rfl rfl (by repeat (first | with_reducible exact HB.out | with_reducible refine Bk.drew ?_ | with_reducible refine Bk.drewN ?_ _ | with_reducible apply Bk.set1 | with_reducible apply Bk.set0 | with_reducible refine Bk.alloc ?_ _ | with_reducible exact Bk.new _ _ _ | with_reducible refine Bk.other ?_ (by first | omega | (simp; omega)) _)) ⟨_, by rw [E.out]; rfl, ?_, ?_, ?_⟩
      · repeat (first | exact Below.refl _ _ | assumption | refine bl_drew ?_ | refine bl_drewN ?_ _ | refine bl_alloc ?_ _ | refine Below.setCell ?_ (by first | exact Nat.le_refl _ | exact bl_size (by assumption) | omega | simp) _)
      · exact fun _ => rfl
      · intro h
        rw [E.out] at h
        injection h
        omega
    · refine wp_loop_rounds 1 ?_
      go_wp2_with (rw [rounds_succ])
      go_region
      go_wp2
      refine ret_sf (p := 9) (q := 8) (g := w.heap.size) (x := .int .i64 c) (y := .int .i64 i) rfl rfl rfl rfl (by repeat (first | with_reducible exact HB.out | with_reducible refine Bk.drew ?_ | with_reducible refine Bk.drewN ?_ _ | with_reducible apply Bk.set1 | with_reducible apply Bk.set0 | with_reducible refine Bk.alloc ?_ _ | with_reducible exact Bk.new _ _ _ | with_reducible refine Bk.other ?_ (by first | omega | (simp; omega)) _)) ⟨_, by rw [E.out]; rfl, ?_, ?_, ?_⟩
      · repeat (first | exact Below.refl _ _ | assumption | refine bl_drew ?_ | refine bl_drewN ?_ _ | refine bl_alloc ?_ _ | refine Below.setCell ?_ (by first | exact Nat.le_refl _ | exact bl_size (by assumption) | omega | simp) _)
      · exact fun _ => rfl
      · intro h
        rw [E.out] at h
        injection h
        omega
end Go.Proofs.Ytbbhkjljiljadaa
