/- access of package memory. Conditions: the memory reads as those pages. -/
import Derived.Test.YtbbhkjljiljadaaM4
namespace Go.Proofs.Ytbbhkjljiljadaa
open Go.RowKit
set_option linter.unusedVariables false
set_option linter.unusedSimpArgs false
/-- The first byte of a range that may not be used so. -/
def cf (l : List Pg) (a r : Int) (n : Nat) : Int × Int := match (List.range n).find? (fun k : Nat => !can l (a + (k : Int)) r) with | some k => (18, (k : Int)) | none => (0, 0)
theorem find_range {p : Nat → Bool} {n i : Nat} (hi : i < n) (hp : p i = true) (hb : ∀ j, j < i → p j = false) : (List.range n).find? p = some i := by
  rw [List.find?_eq_some_iff_getElem]
  refine ⟨hp, i, by simpa using hi, by simp, fun j hj => by simp [hb j hj]⟩
theorem find_range_none {p : Nat → Bool} {n : Nat} (hb : ∀ j, j < n → p j = false) : (List.range n).find? p = none := by
  rw [List.find?_eq_none]
  intro j hj
  simp [hb j (List.mem_range.1 hj)]
theorem cf_bad {l : List Pg} {a r : Int} {n i : Nat} (hi : i < n) (hp : can l (a + (i : Int)) r = false) (hb : ∀ j, j < i → can l (a + (j : Int)) r = true) : cf l a r n = (18, (i : Int)) := by
  unfold cf
  rw [find_range hi (by simp [hp]) (fun j hj => by simp [hb j hj])]
theorem cf_ok {l : List Pg} {a r : Int} {n : Nat} (hb : ∀ j, j < n → can l (a + (j : Int)) r = true) : cf l a r n = (0, 0) := by
  unfold cf
  rw [find_range_none (fun j hj => by simp [hb j hj])]
/-- What access says. -/
def af (l : List Pg) (a n r : Int) : Int × Int :=
  if vf l ≠ (0, 0) then vf l else if n < 0 ∨ 1500 < n ∨ a < 0 ∨ 1048576 - n < a then (3, -2) else if rf r ≠ (0, 0) then rf r else cf l a r n.toNat
def ARel (l : List Pg) (w : World) (g : Nat) (a r n : Int) (vi : Value) (wr : World) : Prop :=
  ∃ i : Nat, vi = .int .i64 i ∧ (i : Int) ≤ n ∧ As (∀ j, j < i → can l (a + (j : Int)) r = true) ∧ As (Below w.heap.size w wr) ∧ As (Bk wr g #[.int .i64 0, .int .i64 0] 33)
set_option maxHeartbeats 4000000 in
theorem access_any (v : Value) (l : List Pg) (a n r : Int) (w : World) (hm : RdM w v l) (ha : I64 a) (hn : I64 n) : Calls Try.prog 64 #[v, .int .i64 a, .int .i64 n, .int .i64 r] w (VPost (af l a n r) w) := by
  have hlen := hm.len
  have HM := As.mk hm
  clear hm
  have HN := hn
  have HA := ha
  unfold I64 at HN HA
  rcases vf_cases l with hv | ⟨c, i, hv, hc0, hc9, hi0, hi2⟩
  · have HK : As (Ok l) := ⟨Ok.of hv⟩
    have E1 : As (vf l = (0, 0)) := ⟨hv⟩
    have e0 : af l a n r = if n < 0 ∨ 1500 < n ∨ a < 0 ∨ 1048576 - n < a then (3, -2) else if rf r ≠ (0, 0) then rf r else cf l a r n.toNat := by unfold af; rw [if_neg (by rw [hv]; simp)]
    have bad : (n < 0 ∨ 1500 < n ∨ a < 0 ∨ 1048576 - n < a) → af l a n r = (3, -2) := fun h => by rw [e0, if_pos h]
    have E0 := As.mk e0
    have BAD := As.mk bad
    clear bad e0
    go_enter Try.func64, Try.ntmps64
    go_wp2_with fail
    refine (validate_any _ l _ (HM.out.below (by repeat (first | exact Below.refl _ _ | assumption | refine bl_drew ?_ | refine bl_drewN ?_ _ | refine bl_alloc ?_ _ | refine Below.setCell ?_ (by first | exact Nat.le_refl _ | exact bl_size (by assumption) | omega | simp) _)))).mono ?_
    rintro e w1 ⟨rfl, hb1⟩
    rw [hv]
    unfold Flt
    have hB := (Bk.new w #[.int .i64 0, .int .i64 0] 33).below hb1
    have hbw := bl_then (bl_alloc (Below.refl _ w) _) hb1
    have hlt := hB.lt
    have hBc := hB.two
    have hBf := hB.frozen
    have HB := As.mk hB
    clear hb1 hv hB
    by_cases c1 : n < 0
    · have E := As.mk (BAD.out (Or.inl c1))
      clear E0 BAD
      go_wp2
      refine ret_flt (p := 8) (g := w.heap.size) (x := .int .i64 3) (y := .int .i64 (-2)) rfl rfl rfl (by repeat (first | with_reducible exact HB.out | with_reducible refine Bk.drew ?_ | with_reducible refine Bk.drewN ?_ _ | with_reducible apply Bk.set1 | with_reducible apply Bk.set0 | with_reducible refine Bk.alloc ?_ _ | with_reducible exact Bk.new _ _ _ | with_reducible refine Bk.other ?_ (by first | omega | (simp; omega)) _)) ⟨by rw [E.out]; rfl, ?_⟩
      repeat (first | exact Below.refl _ _ | assumption | refine bl_drew ?_ | refine bl_drewN ?_ _ | refine bl_alloc ?_ _ | refine Below.setCell ?_ (by first | exact Nat.le_refl _ | exact bl_size (by assumption) | omega | simp) _)
    · by_cases c2 : 1500 < n
      · have E := As.mk (BAD.out (Or.inr (Or.inl c2)))
        clear E0 BAD
        go_wp2
        refine ret_flt (p := 8) (g := w.heap.size) (x := .int .i64 3) (y := .int .i64 (-2)) rfl rfl rfl (by repeat (first | with_reducible exact HB.out | with_reducible refine Bk.drew ?_ | with_reducible refine Bk.drewN ?_ _ | with_reducible apply Bk.set1 | with_reducible apply Bk.set0 | with_reducible refine Bk.alloc ?_ _ | with_reducible exact Bk.new _ _ _ | with_reducible refine Bk.other ?_ (by first | omega | (simp; omega)) _)) ⟨by rw [E.out]; rfl, ?_⟩
        repeat (first | exact Below.refl _ _ | assumption | refine bl_drew ?_ | refine bl_drewN ?_ _ | refine bl_alloc ?_ _ | refine Below.setCell ?_ (by first | exact Nat.le_refl _ | exact bl_size (by assumption) | omega | simp) _)
      · by_cases c3 : a < 0
        · have E := As.mk (BAD.out (Or.inr (Or.inr (Or.inl c3))))
          clear E0 BAD
          go_wp2
          refine ret_flt (p := 8) (g := w.heap.size) (x := .int .i64 3) (y := .int .i64 (-2)) rfl rfl rfl (by repeat (first | with_reducible exact HB.out | with_reducible refine Bk.drew ?_ | with_reducible refine Bk.drewN ?_ _ | with_reducible apply Bk.set1 | with_reducible apply Bk.set0 | with_reducible refine Bk.alloc ?_ _ | with_reducible exact Bk.new _ _ _ | with_reducible refine Bk.other ?_ (by first | omega | (simp; omega)) _)) ⟨by rw [E.out]; rfl, ?_⟩
          repeat (first | exact Below.refl _ _ | assumption | refine bl_drew ?_ | refine bl_drewN ?_ _ | refine bl_alloc ?_ _ | refine Below.setCell ?_ (by first | exact Nat.le_refl _ | exact bl_size (by assumption) | omega | simp) _)
        · by_cases c4 : 1048576 - n < a
          · have E := As.mk (BAD.out (Or.inr (Or.inr (Or.inr c4))))
            clear E0 BAD
            go_wp2
            refine ret_flt (p := 8) (g := w.heap.size) (x := .int .i64 3) (y := .int .i64 (-2)) rfl rfl rfl (by repeat (first | with_reducible exact HB.out | with_reducible refine Bk.drew ?_ | with_reducible refine Bk.drewN ?_ _ | with_reducible apply Bk.set1 | with_reducible apply Bk.set0 | with_reducible refine Bk.alloc ?_ _ | with_reducible exact Bk.new _ _ _ | with_reducible refine Bk.other ?_ (by first | omega | (simp; omega)) _)) ⟨by rw [E.out]; rfl, ?_⟩
            repeat (first | exact Below.refl _ _ | assumption | refine bl_drew ?_ | refine bl_drewN ?_ _ | refine bl_alloc ?_ _ | refine Below.setCell ?_ (by first | exact Nat.le_refl _ | exact bl_size (by assumption) | omega | simp) _)
          · have E2 : As (af l a n r = if rf r ≠ (0, 0) then rf r else cf l a r n.toNat) := ⟨by rw [E0.out, if_neg (by omega)]⟩
            clear E0 BAD
            go_wp2_with fail
            refine (rights_any _ _).mono ?_
            rintro e w2 ⟨rfl, hb2⟩
            have hB2 := (show Bk _ w.heap.size #[.int .i64 0, .int .i64 0] 33 from by repeat (first | with_reducible exact HB.out | with_reducible refine Bk.drew ?_ | with_reducible refine Bk.drewN ?_ _ | with_reducible apply Bk.set1 | with_reducible apply Bk.set0 | with_reducible refine Bk.alloc ?_ _ | with_reducible exact Bk.new _ _ _ | with_reducible refine Bk.other ?_ (by first | omega | (simp; omega)) _)).below hb2
            have hbw2 := bl_then (show Below w.heap.size w _ from by repeat (first | exact Below.refl _ _ | assumption | refine bl_drew ?_ | refine bl_drewN ?_ _ | refine bl_alloc ?_ _ | refine Below.setCell ?_ (by first | exact Nat.le_refl _ | exact bl_size (by assumption) | omega | simp) _)) hb2
            have hlt2 := hB2.lt
            have hBc2 := hB2.two
            have hBf2 := hB2.frozen
            have HB2 := As.mk hB2
            clear hB2 hb2 hBc hBf HB hlt hbw
            by_cases d : r < 0 ∨ 7 < r
            · have er : rf r = (3, -3) := if_pos d
              have E : As (af l a n r = (3, -3)) := ⟨by rw [E2.out, er]; rfl⟩
              rw [er]
              unfold Flt
              clear E2 er
              go_wp2
              refine ret_flt (p := 8) (g := w.heap.size) (x := .int .i64 3) (y := .int .i64 (-3)) rfl rfl rfl (by repeat (first | with_reducible exact HB2.out | with_reducible refine Bk.drew ?_ | with_reducible refine Bk.drewN ?_ _ | with_reducible apply Bk.set1 | with_reducible apply Bk.set0 | with_reducible refine Bk.alloc ?_ _ | with_reducible exact Bk.new _ _ _ | with_reducible refine Bk.other ?_ (by first | omega | (simp; omega)) _)) ⟨by rw [E.out]; rfl, ?_⟩
              repeat (first | exact Below.refl _ _ | assumption | refine bl_drew ?_ | refine bl_drewN ?_ _ | refine bl_alloc ?_ _ | refine Below.setCell ?_ (by first | exact Nat.le_refl _ | exact bl_size (by assumption) | omega | simp) _)
            · have er : rf r = (0, 0) := if_neg d
              have E : As (af l a n r = cf l a r n.toNat) := ⟨by rw [E2.out, er]; rfl⟩
              rw [er]
              unfold Flt
              clear E2 er
              go_wp2
              go_loopw [42] (fun vi wr => ARel l w w.heap.size a r n vi wr) (fun vi _ => (n - intOf vi).toNat)
              case atStart => exact ⟨0, rfl, by omega, ⟨fun j hj => by omega⟩, ⟨by repeat (first | exact Below.refl _ _ | assumption | refine bl_drew ?_ | refine bl_drewN ?_ _ | refine bl_alloc ?_ _ | refine Below.setCell ?_ (by first | exact Nat.le_refl _ | exact bl_size (by assumption) | omega | simp) _)⟩, ⟨by repeat (first | with_reducible exact HB2.out | with_reducible refine Bk.drew ?_ | with_reducible refine Bk.drewN ?_ _ | with_reducible apply Bk.set1 | with_reducible apply Bk.set0 | with_reducible refine Bk.alloc ?_ _ | with_reducible exact Bk.new _ _ _ | with_reducible refine Bk.other ?_ (by first | omega | (simp; omega)) _)⟩⟩
              case round =>
                obtain ⟨i, rfl, hin, hA, hb, hR⟩ := hrel
                clear HB2 hBc2 hBf2 hlt2 hbw2
                by_cases hlt : (i : Int) < n
                · go_wp2_with fail
                  refine (can_any _ l (a + (i : Int)) r _ (HM.out.below hb.out) HK.out.inc).mono ?_
                  rintro e w3 ⟨rfl, hb3⟩
                  have hR3 := hR.out.below (by simpa using bl_then (Below.refl _ _) hb3)
                  have hb3 := bl_then hb.out hb3
                  have hlt3 := hR3.lt
                  have hBc3 := hR3.two
                  have hBf3 := hR3.frozen
                  have HR3 := As.mk hR3
                  clear hR3 hR hb
                  by_cases hcan : can l (a + (i : Int)) r = true
                  · rw [hcan]
                    have HC := As.mk hcan
                    clear hcan
                    go_wp2
                    go_roundw
                    case rel => exact ⟨i + 1, by go_num, by omega, ⟨fun j hj => by
                      rcases Nat.lt_or_ge j i with h | h
                      · exact hA.out j h
                      · obtain rfl : j = i := by omega
                        exact HC.out⟩, ⟨hb3⟩, HR3⟩
                    case measure => simp [intOf]; omega
                  · have hcan : can l (a + (i : Int)) r = false := by simpa using hcan
                    have EF : As (af l a n r = (18, (i : Int))) := ⟨by rw [E.out]; exact cf_bad (by omega) hcan hA.out⟩
                    rw [hcan]
                    clear hcan hA
                    go_wp2
                    refine ret_flt (p := 8) (g := w.heap.size) (x := .int .i64 18) (y := .int .i64 (i : Int)) rfl rfl rfl (by repeat (first | with_reducible exact HR3.out | with_reducible refine Bk.drew ?_ | with_reducible refine Bk.drewN ?_ _ | with_reducible apply Bk.set1 | with_reducible apply Bk.set0 | with_reducible refine Bk.alloc ?_ _ | with_reducible exact Bk.new _ _ _ | with_reducible refine Bk.other ?_ (by first | omega | (simp; omega)) _)) ⟨by rw [EF.out]; rfl, ?_⟩
                    repeat (first | exact Below.refl _ _ | assumption | refine bl_drew ?_ | refine bl_drewN ?_ _ | refine bl_alloc ?_ _ | refine Below.setCell ?_ (by first | exact Nat.le_refl _ | exact bl_size (by assumption) | omega | simp) _)
                · have EF : As (af l a n r = (0, 0)) := ⟨by rw [E.out]; exact cf_ok (fun j hj => hA.out j (by omega))⟩
                  have hlt3 := hR.out.lt
                  have hBc3 := hR.out.two
                  have hBf3 := hR.out.frozen
                  have hb := hb.out
                  go_wp2
                  refine ret_flt (p := 8) (g := w.heap.size) (x := .int .i64 0) (y := .int .i64 0) rfl rfl rfl (by repeat (first | with_reducible exact hR.out | with_reducible refine Bk.drew ?_ | with_reducible refine Bk.drewN ?_ _ | with_reducible apply Bk.set1 | with_reducible apply Bk.set0 | with_reducible refine Bk.alloc ?_ _ | with_reducible exact Bk.new _ _ _ | with_reducible refine Bk.other ?_ (by first | omega | (simp; omega)) _)) ⟨by rw [EF.out]; rfl, ?_⟩
                  repeat (first | exact Below.refl _ _ | assumption | refine bl_drew ?_ | refine bl_drewN ?_ _ | refine bl_alloc ?_ _ | refine Below.setCell ?_ (by first | exact Nat.le_refl _ | exact bl_size (by assumption) | omega | simp) _)
  · have E : As (af l a n r = (c, i)) := ⟨by unfold af; rw [if_pos (by rw [hv]; intro h; injection h; omega), hv]⟩
    go_enter Try.func64, Try.ntmps64
    go_wp2_with fail
    refine (validate_any _ l _ (HM.out.below (by repeat (first | exact Below.refl _ _ | assumption | refine bl_drew ?_ | refine bl_drewN ?_ _ | refine bl_alloc ?_ _ | refine Below.setCell ?_ (by first | exact Nat.le_refl _ | exact bl_size (by assumption) | omega | simp) _)))).mono ?_
    rintro e w1 ⟨rfl, hb1⟩
    rw [hv]
    unfold Flt
    have hB := (Bk.new w #[.int .i64 0, .int .i64 0] 33).below hb1
    have hbw := bl_then (bl_alloc (Below.refl _ w) _) hb1
    have hlt := hB.lt
    have hBc := hB.two
    have hBf := hB.frozen
    have HB := As.mk hB
    have hc : ¬ c = 0 := by omega
    clear hb1 hv hB
    go_wp2
    refine ret_flt (p := 8) (g := w.heap.size) (x := .int .i64 c) (y := .int .i64 i) rfl rfl rfl (by repeat (first | with_reducible exact HB.out | with_reducible refine Bk.drew ?_ | with_reducible refine Bk.drewN ?_ _ | with_reducible apply Bk.set1 | with_reducible apply Bk.set0 | with_reducible refine Bk.alloc ?_ _ | with_reducible exact Bk.new _ _ _ | with_reducible refine Bk.other ?_ (by first | omega | (simp; omega)) _)) ⟨by rw [E.out]; rfl, ?_⟩
    repeat (first | exact Below.refl _ _ | assumption | refine bl_drew ?_ | refine bl_drewN ?_ _ | refine bl_alloc ?_ _ | refine Below.setCell ?_ (by first | exact Nat.le_refl _ | exact bl_size (by assumption) | omega | simp) _)
end Go.Proofs.Ytbbhkjljiljadaa
