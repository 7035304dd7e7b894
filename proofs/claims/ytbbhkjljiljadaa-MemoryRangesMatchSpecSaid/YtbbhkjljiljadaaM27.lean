/- AccessFault of the reference. Conditions: the memory reads as those pages. -/
import Derived.Test.YtbbhkjljiljadaaM26
namespace Go.Proofs.Ytbbhkjljiljadaa
open Go.RowKit
set_option linter.unusedVariables false
set_option linter.unusedSimpArgs false
def AfRel (l : List Pg) (a n r : Int) (w : World) (g0 g1 : Nat) (vi : Value) (wr : World) : Prop :=
  ∃ k : Nat, vi = .int .i64 k ∧ (k : Int) ≤ n ∧ As (Below w.heap.size w wr) ∧ As (Bk wr g0 #[.int .i64 0, .int .i64 0] 33) ∧
    ((As (∀ j, j < k → can l (a + (j : Int)) r = true) ∧ As (Bk wr g1 #[.int .i64 0, .int .i64 0] 33)) ∨
     ∃ q : Nat, q + 1 = k ∧ As (∀ j, j < q → can l (a + (j : Int)) r = true) ∧ As (can l (a + (q : Int)) r = false) ∧ As (Bk wr g1 #[.int .i64 18, .int .i64 q] 33))
set_option maxHeartbeats 4000000 in
theorem accessf_any (v : Value) (l : List Pg) (a n r : Int) (w : World) (hm : RdM w v l) (ha : I64 a) (hn : I64 n) : Calls Try.prog 42 #[v, .int .i64 a, .int .i64 n, .int .i64 r] w (VPost (af l a n r) w) := by
  have HM := As.mk hm
  have HA := ha
  have HN := hn
  unfold I64 at HA HN
  clear hm ha hn
  go_enter Try.func42, Try.ntmps42
  go_wp2_with fail
  refine (memfault_any _ l _ (HM.out.below (by repeat (first | exact Below.refl _ _ | assumption | refine bl_drew ?_ | refine bl_drewN ?_ _ | refine bl_alloc ?_ _ | refine Below.setCell ?_ (by first | exact Nat.le_refl _ | exact bl_size (by assumption) | omega | simp) _)))).mono ?_
  rintro e w1 ⟨rfl, hb1⟩
  have hB := (Bk.new w #[.int .i64 0, .int .i64 0] 33).below hb1
  have hbw := bl_then (bl_alloc (Below.refl _ w) _) hb1
  have hBc := hB.two
  have hBf := hB.frozen
  have HB := As.mk hB
  have hlt := hB.lt
  have HLE := As.mk (Nat.le_of_lt hlt)
  have HBW := As.mk hbw
  clear hb1 hB hbw
  have hne : w.heap.size ≠ w1.heap.size := by omega
  rcases vf_cases l with hv | ⟨c, i, hv, hc0, hc9, hi0, hi2⟩
  · have HK : As (Ok l) := ⟨Ok.of hv⟩
    have E1 : As (af l a n r = if n < 0 ∨ 1500 < n ∨ a < 0 ∨ 1048576 - n < a then (3, -2) else if rf r ≠ (0, 0) then rf r else cf l a r n.toNat) := ⟨by unfold af; rw [if_neg (by rw [hv]; simp)]⟩
    rw [hv]
    clear hv
    unfold Flt
    have hQ := Bk.new w1 #[.int .i64 0, .int .i64 0] 33
    have hQ1 := hQ.two
    have hQ2 := hQ.frozen
    have hQ3 := hQ.lt
    have HQ := As.mk hQ
    clear hQ
    by_cases c2 : 0 ≤ n ∧ n ≤ 1500
    · have hin : inB n 0 1500 = true := decide_eq_true c2
      obtain ⟨c21, c22⟩ := c2
      by_cases c3 : a < 0
      · have EV : As (af l a n r = (3, -2)) := ⟨by rw [E1.out, if_pos (by omega)]⟩
        go_wp2_with fail
        refine (in_any _ _ _ _).mono ?_
        rintro e2 w3 ⟨rfl, rfl⟩
        rw [hin]
        clear hin
        go_wp2_with fail
        refine (at_any _ _ _).mono ?_
        rintro e w2 ⟨rfl, hb2⟩
        have hB := (show Bk _ w.heap.size #[.int .i64 0, .int .i64 0] 33 from by repeat (first | with_reducible exact HB.out | with_reducible refine Bk.drew ?_ | with_reducible refine Bk.drewN ?_ _ | with_reducible apply Bk.set1 | with_reducible apply Bk.set0 | with_reducible refine Bk.alloc ?_ _ | with_reducible exact Bk.new _ _ _ | with_reducible refine Bk.other ?_ (by first | omega | (simp; omega)) _)).below hb2
        have hbw2 := bl_then (show Below w.heap.size w _ from by have hbw := HBW.out; have hle := HLE.out; repeat (first | exact Below.refl _ _ | assumption | refine bl_drew ?_ | refine bl_drewN ?_ _ | refine bl_alloc ?_ _ | refine Below.setCell ?_ (by first | exact Nat.le_refl _ | exact bl_size (by assumption) | omega | simp) _)) hb2
        have hQ := (show Bk _ w1.heap.size #[.int .i64 (0), .int .i64 (0)] 33 from by repeat (first | with_reducible exact HQ.out | with_reducible refine Bk.drew ?_ | with_reducible refine Bk.drewN ?_ _ | with_reducible apply Bk.set1 | with_reducible apply Bk.set0 | with_reducible refine Bk.alloc ?_ _ | with_reducible exact Bk.new _ _ _ | with_reducible refine Bk.other ?_ (by first | omega | (simp; omega)) _)).below hb2
        clear hBc hBf hlt HBW hQ1 hQ2 hQ3
        have hBc := hB.two
        have hBf := hB.frozen
        have hlt := hB.lt
        have hQ1 := hQ.two
        have hQ2 := hQ.frozen
        have hQ3 := hQ.lt
        have HB := As.mk hB
        have HQ := As.mk hQ
        have HBW := As.mk hbw2
        clear hb2 hB hQ hbw2
        unfold Flt
        have hrf : rff ((3 : Int), (-2 : Int)) r = (3, -2) := if_neg (by intro h; injection h; omega)
        go_wp2_with fail
        refine (rightsF_any (3) (-2) r _ (by omega)).mono ?_
        rintro e w2 ⟨rfl, hb2⟩
        rw [hrf]
        have hB := (show Bk _ w.heap.size #[.int .i64 0, .int .i64 0] 33 from by repeat (first | with_reducible exact HB.out | with_reducible refine Bk.drew ?_ | with_reducible refine Bk.drewN ?_ _ | with_reducible apply Bk.set1 | with_reducible apply Bk.set0 | with_reducible refine Bk.alloc ?_ _ | with_reducible exact Bk.new _ _ _ | with_reducible refine Bk.other ?_ (by first | omega | (simp; omega)) _)).below hb2
        have hbw2 := bl_then (show Below w.heap.size w _ from by have hbw := HBW.out; have hle := HLE.out; repeat (first | exact Below.refl _ _ | assumption | refine bl_drew ?_ | refine bl_drewN ?_ _ | refine bl_alloc ?_ _ | refine Below.setCell ?_ (by first | exact Nat.le_refl _ | exact bl_size (by assumption) | omega | simp) _)) hb2
        have hQ := (show Bk _ w1.heap.size #[.int .i64 (3), .int .i64 (-2)] 33 from by repeat (first | with_reducible exact HQ.out | with_reducible refine Bk.drew ?_ | with_reducible refine Bk.drewN ?_ _ | with_reducible apply Bk.set1 | with_reducible apply Bk.set0 | with_reducible refine Bk.alloc ?_ _ | with_reducible exact Bk.new _ _ _ | with_reducible refine Bk.other ?_ (by first | omega | (simp; omega)) _)).below hb2
        clear hBc hBf hlt HBW hQ1 hQ2 hQ3
        have hBc := hB.two
        have hBf := hB.frozen
        have hlt := hB.lt
        have hQ1 := hQ.two
        have hQ2 := hQ.frozen
        have hQ3 := hQ.lt
        have HB := As.mk hB
        have HQ := As.mk hQ
        have HBW := As.mk hbw2
        clear hb2 hB hQ hbw2
        unfold Flt
        clear hrf
        go_wp2
        by_cases hn0 : 0 < n
        · refine wp_loop_rounds 1 ?_
          go_wp2_with (rw [rounds_succ])
          refine ret_flt (p := 8) (g := w.heap.size) (x := .int .i64 (3)) (y := .int .i64 (-2)) rfl rfl rfl (by repeat (first | with_reducible exact HB.out | with_reducible refine Bk.drew ?_ | with_reducible refine Bk.drewN ?_ _ | with_reducible apply Bk.set1 | with_reducible apply Bk.set0 | with_reducible refine Bk.alloc ?_ _ | with_reducible exact Bk.new _ _ _ | with_reducible refine Bk.other ?_ (by first | omega | (simp; omega)) _)) ⟨by rw [EV.out]; rfl, ?_⟩
          have hbw := HBW.out
          have hle := HLE.out
          repeat (first | exact Below.refl _ _ | assumption | refine bl_drew ?_ | refine bl_drewN ?_ _ | refine bl_alloc ?_ _ | refine Below.setCell ?_ (by first | exact Nat.le_refl _ | exact bl_size (by assumption) | omega | simp) _)
        · refine wp_loop_rounds 1 ?_
          go_wp2_with (rw [rounds_succ])
          refine ret_flt (p := 8) (g := w.heap.size) (x := .int .i64 (3)) (y := .int .i64 (-2)) rfl rfl rfl (by repeat (first | with_reducible exact HB.out | with_reducible refine Bk.drew ?_ | with_reducible refine Bk.drewN ?_ _ | with_reducible apply Bk.set1 | with_reducible apply Bk.set0 | with_reducible refine Bk.alloc ?_ _ | with_reducible exact Bk.new _ _ _ | with_reducible refine Bk.other ?_ (by first | omega | (simp; omega)) _)) ⟨by rw [EV.out]; rfl, ?_⟩
          have hbw := HBW.out
          have hle := HLE.out
          repeat (first | exact Below.refl _ _ | assumption | refine bl_drew ?_ | refine bl_drewN ?_ _ | refine bl_alloc ?_ _ | refine Below.setCell ?_ (by first | exact Nat.le_refl _ | exact bl_size (by assumption) | omega | simp) _)
      · by_cases c4 : 1048576 - n < a
        · have EV : As (af l a n r = (3, -2)) := ⟨by rw [E1.out, if_pos (by omega)]⟩
          go_wp2_with fail
          refine (in_any _ _ _ _).mono ?_
          rintro e2 w3 ⟨rfl, rfl⟩
          rw [hin]
          clear hin
          go_wp2_with fail
          refine (at_any _ _ _).mono ?_
          rintro e w2 ⟨rfl, hb2⟩
          have hB := (show Bk _ w.heap.size #[.int .i64 0, .int .i64 0] 33 from by repeat (first | with_reducible exact HB.out | with_reducible refine Bk.drew ?_ | with_reducible refine Bk.drewN ?_ _ | with_reducible apply Bk.set1 | with_reducible apply Bk.set0 | with_reducible refine Bk.alloc ?_ _ | with_reducible exact Bk.new _ _ _ | with_reducible refine Bk.other ?_ (by first | omega | (simp; omega)) _)).below hb2
          have hbw2 := bl_then (show Below w.heap.size w _ from by have hbw := HBW.out; have hle := HLE.out; repeat (first | exact Below.refl _ _ | assumption | refine bl_drew ?_ | refine bl_drewN ?_ _ | refine bl_alloc ?_ _ | refine Below.setCell ?_ (by first | exact Nat.le_refl _ | exact bl_size (by assumption) | omega | simp) _)) hb2
          have hQ := (show Bk _ w1.heap.size #[.int .i64 (0), .int .i64 (0)] 33 from by repeat (first | with_reducible exact HQ.out | with_reducible refine Bk.drew ?_ | with_reducible refine Bk.drewN ?_ _ | with_reducible apply Bk.set1 | with_reducible apply Bk.set0 | with_reducible refine Bk.alloc ?_ _ | with_reducible exact Bk.new _ _ _ | with_reducible refine Bk.other ?_ (by first | omega | (simp; omega)) _)).below hb2
          clear hBc hBf hlt HBW hQ1 hQ2 hQ3
          have hBc := hB.two
          have hBf := hB.frozen
          have hlt := hB.lt
          have hQ1 := hQ.two
          have hQ2 := hQ.frozen
          have hQ3 := hQ.lt
          have HB := As.mk hB
          have HQ := As.mk hQ
          have HBW := As.mk hbw2
          clear hb2 hB hQ hbw2
          unfold Flt
          have hrf : rff ((3 : Int), (-2 : Int)) r = (3, -2) := if_neg (by intro h; injection h; omega)
          go_wp2_with fail
          refine (rightsF_any (3) (-2) r _ (by omega)).mono ?_
          rintro e w2 ⟨rfl, hb2⟩
          rw [hrf]
          have hB := (show Bk _ w.heap.size #[.int .i64 0, .int .i64 0] 33 from by repeat (first | with_reducible exact HB.out | with_reducible refine Bk.drew ?_ | with_reducible refine Bk.drewN ?_ _ | with_reducible apply Bk.set1 | with_reducible apply Bk.set0 | with_reducible refine Bk.alloc ?_ _ | with_reducible exact Bk.new _ _ _ | with_reducible refine Bk.other ?_ (by first | omega | (simp; omega)) _)).below hb2
          have hbw2 := bl_then (show Below w.heap.size w _ from by have hbw := HBW.out; have hle := HLE.out; repeat (first | exact Below.refl _ _ | assumption | refine bl_drew ?_ | refine bl_drewN ?_ _ | refine bl_alloc ?_ _ | refine Below.setCell ?_ (by first | exact Nat.le_refl _ | exact bl_size (by assumption) | omega | simp) _)) hb2
          have hQ := (show Bk _ w1.heap.size #[.int .i64 (3), .int .i64 (-2)] 33 from by repeat (first | with_reducible exact HQ.out | with_reducible refine Bk.drew ?_ | with_reducible refine Bk.drewN ?_ _ | with_reducible apply Bk.set1 | with_reducible apply Bk.set0 | with_reducible refine Bk.alloc ?_ _ | with_reducible exact Bk.new _ _ _ | with_reducible refine Bk.other ?_ (by first | omega | (simp; omega)) _)).below hb2
          clear hBc hBf hlt HBW hQ1 hQ2 hQ3
          have hBc := hB.two
          have hBf := hB.frozen
          have hlt := hB.lt
          have hQ1 := hQ.two
          have hQ2 := hQ.frozen
          have hQ3 := hQ.lt
          have HB := As.mk hB
          have HQ := As.mk hQ
          have HBW := As.mk hbw2
          clear hb2 hB hQ hbw2
          unfold Flt
          clear hrf
          go_wp2
          by_cases hn0 : 0 < n
          · refine wp_loop_rounds 1 ?_
            go_wp2_with (rw [rounds_succ])
            refine ret_flt (p := 8) (g := w.heap.size) (x := .int .i64 (3)) (y := .int .i64 (-2)) rfl rfl rfl (by repeat (first | with_reducible exact HB.out | with_reducible refine Bk.drew ?_ | with_reducible refine Bk.drewN ?_ _ | with_reducible apply Bk.set1 | with_reducible apply Bk.set0 | with_reducible refine Bk.alloc ?_ _ | with_reducible exact Bk.new _ _ _ | with_reducible refine Bk.other ?_ (by first | omega | (simp; omega)) _)) ⟨by rw [EV.out]; rfl, ?_⟩
            have hbw := HBW.out
            have hle := HLE.out
            repeat (first | exact Below.refl _ _ | assumption | refine bl_drew ?_ | refine bl_drewN ?_ _ | refine bl_alloc ?_ _ | refine Below.setCell ?_ (by first | exact Nat.le_refl _ | exact bl_size (by assumption) | omega | simp) _)
          · refine wp_loop_rounds 1 ?_
            go_wp2_with (rw [rounds_succ])
            refine ret_flt (p := 8) (g := w.heap.size) (x := .int .i64 (3)) (y := .int .i64 (-2)) rfl rfl rfl (by repeat (first | with_reducible exact HB.out | with_reducible refine Bk.drew ?_ | with_reducible refine Bk.drewN ?_ _ | with_reducible apply Bk.set1 | with_reducible apply Bk.set0 | with_reducible refine Bk.alloc ?_ _ | with_reducible exact Bk.new _ _ _ | with_reducible refine Bk.other ?_ (by first | omega | (simp; omega)) _)) ⟨by rw [EV.out]; rfl, ?_⟩
            have hbw := HBW.out
            have hle := HLE.out
            repeat (first | exact Below.refl _ _ | assumption | refine bl_drew ?_ | refine bl_drewN ?_ _ | refine bl_alloc ?_ _ | refine Below.setCell ?_ (by first | exact Nat.le_refl _ | exact bl_size (by assumption) | omega | simp) _)
        · have E2 : As (af l a n r = if rf r ≠ (0, 0) then rf r else cf l a r n.toNat) := ⟨by rw [E1.out, if_neg (by omega)]⟩
          clear E1
          go_wp2_with fail
          refine (in_any _ _ _ _).mono ?_
          rintro e2 w3 ⟨rfl, rfl⟩
          rw [hin]
          clear hin
          go_wp2_with fail
          rcases rf_cases r with er | er
          · have hrf : rff ((0 : Int), (0 : Int)) r = (0, 0) := (if_pos rfl).trans er
            have E3 : As (af l a n r = cf l a r n.toNat) := ⟨by rw [E2.out, er]; rfl⟩
            have hr07 : 0 ≤ r ∧ r ≤ 7 := by unfold rf at er; split at er; exact absurd (congrArg Prod.fst er) (by decide); omega
            clear E2
            refine (rightsF_any (0) (0) r _ (by omega)).mono ?_
            rintro e w2 ⟨rfl, hb2⟩
            rw [hrf]
            have hB := (show Bk _ w.heap.size #[.int .i64 0, .int .i64 0] 33 from by repeat (first | with_reducible exact HB.out | with_reducible refine Bk.drew ?_ | with_reducible refine Bk.drewN ?_ _ | with_reducible apply Bk.set1 | with_reducible apply Bk.set0 | with_reducible refine Bk.alloc ?_ _ | with_reducible exact Bk.new _ _ _ | with_reducible refine Bk.other ?_ (by first | omega | (simp; omega)) _)).below hb2
            have hbw2 := bl_then (show Below w.heap.size w _ from by have hbw := HBW.out; have hle := HLE.out; repeat (first | exact Below.refl _ _ | assumption | refine bl_drew ?_ | refine bl_drewN ?_ _ | refine bl_alloc ?_ _ | refine Below.setCell ?_ (by first | exact Nat.le_refl _ | exact bl_size (by assumption) | omega | simp) _)) hb2
            have hQ := (show Bk _ w1.heap.size #[.int .i64 (0), .int .i64 (0)] 33 from by repeat (first | with_reducible exact HQ.out | with_reducible refine Bk.drew ?_ | with_reducible refine Bk.drewN ?_ _ | with_reducible apply Bk.set1 | with_reducible apply Bk.set0 | with_reducible refine Bk.alloc ?_ _ | with_reducible exact Bk.new _ _ _ | with_reducible refine Bk.other ?_ (by first | omega | (simp; omega)) _)).below hb2
            clear hBc hBf hlt HBW hQ1 hQ2 hQ3
            have hBc := hB.two
            have hBf := hB.frozen
            have hlt := hB.lt
            have hQ1 := hQ.two
            have hQ2 := hQ.frozen
            have hQ3 := hQ.lt
            have HB := As.mk hB
            have HQ := As.mk hQ
            have HBW := As.mk hbw2
            clear hb2 hB hQ hbw2
            unfold Flt
            clear hrf er
            obtain ⟨hr0, hr7⟩ := hr07
            go_wp2
            go_loopw [10] (fun vi wr => AfRel l a n r w w.heap.size w1.heap.size vi wr) (fun vi _ => (n - intOf vi).toNat)
            case atStart => exact ⟨0, rfl, by omega, ⟨by have hbw := HBW.out; have hle := HLE.out; repeat (first | exact Below.refl _ _ | assumption | refine bl_drew ?_ | refine bl_drewN ?_ _ | refine bl_alloc ?_ _ | refine Below.setCell ?_ (by first | exact Nat.le_refl _ | exact bl_size (by assumption) | omega | simp) _)⟩, ⟨by repeat (first | with_reducible exact HB.out | with_reducible refine Bk.drew ?_ | with_reducible refine Bk.drewN ?_ _ | with_reducible apply Bk.set1 | with_reducible apply Bk.set0 | with_reducible refine Bk.alloc ?_ _ | with_reducible exact Bk.new _ _ _ | with_reducible refine Bk.other ?_ (by first | omega | (simp; omega)) _)⟩, Or.inl ⟨⟨fun j hj => absurd hj (by omega)⟩, ⟨by repeat (first | with_reducible exact HQ.out | with_reducible refine Bk.drew ?_ | with_reducible refine Bk.drewN ?_ _ | with_reducible apply Bk.set1 | with_reducible apply Bk.set0 | with_reducible refine Bk.alloc ?_ _ | with_reducible exact Bk.new _ _ _ | with_reducible refine Bk.other ?_ (by first | omega | (simp; omega)) _)⟩⟩⟩
            case round =>
              clear HQ HB hQ1 hQ2 hQ3 hBc hBf HBW
              generalize w1.heap.size = g1 at *
              obtain ⟨k, rfl, hkn, hb, hR0, ⟨hall, hR1⟩ | ⟨q, hqk, hall, hfound, hR1⟩⟩ := hrel
              · have hR1c := hR1.out.two
                have hR1f := hR1.out.frozen
                have hR0c := hR0.out.two
                have hR0f := hR0.out.frozen
                by_cases hlt2 : (k : Int) < n
                · go_wp2_with fail
                  refine (reach_any v l (a + (k : Int)) r _ (HM.out.below hb.out) HK.out hr0 hr7).mono ?_
                  rintro e w3 ⟨rfl, hb3⟩
                  have hS0 := hR0.out.below hb3
                  have hS1 := hR1.out.below hb3
                  have HB3 := As.mk (bl_then hb.out hb3)
                  clear hR1c hR1f hR0c hR0f hb3 hR1 hR0 hb
                  have hc0 := hS0.two
                  have hf0 := hS0.frozen
                  have hc1 := hS1.two
                  have hf1 := hS1.frozen
                  have hl0 := hS0.lt
                  have HS0 := As.mk hS0
                  have HS1 := As.mk hS1
                  clear hS0 hS1
                  by_cases hcan : can l (a + (k : Int)) r = true
                  · rw [hcan]
                    have HC := As.mk hcan
                    clear hcan
                    go_wp2
                    go_roundw
                    case rel => exact ⟨k + 1, by go_num, by omega, HB3, HS0, Or.inl ⟨⟨fun j hj => by
                      rcases Nat.lt_or_ge j k with h | h
                      · exact hall.out j h
                      · obtain rfl : j = k := by omega
                        exact HC.out⟩, HS1⟩⟩
                    case measure => simp [intOf]; omega
                  · have hcan : can l (a + (k : Int)) r = false := by simpa using hcan
                    rw [hcan]
                    have HC := As.mk hcan
                    clear hcan
                    go_wp2_with fail
                    refine (at_any _ _ _).mono ?_
                    rintro e w2 ⟨rfl, hb2⟩
                    have hT0 := HS0.out.below hb2
                    have hT1 := HS1.out.below hb2
                    have HB4 := As.mk (bl_then HB3.out hb2)
                    clear hb2 hc0 hf0 hc1 hf1 HB3
                    have hc0 := hT0.two
                    have hf0 := hT0.frozen
                    have hc1 := hT1.two
                    have hf1 := hT1.frozen
                    have HT0 := As.mk hT0
                    have HT1 := As.mk hT1
                    have hlt0 := hT0.lt
                    clear hT0 hT1
                    unfold Flt
                    go_wp2
                    go_roundw
                    case rel => exact ⟨k + 1, by go_num, by omega, ⟨by have hb := HB4.out; have hle := HLE.out; repeat (first | exact Below.refl _ _ | assumption | refine bl_drew ?_ | refine bl_drewN ?_ _ | refine bl_alloc ?_ _ | refine Below.setCell ?_ (by first | exact Nat.le_refl _ | exact bl_size (by assumption) | omega | simp) _)⟩, ⟨by repeat (first | with_reducible exact HT0.out | with_reducible refine Bk.drew ?_ | with_reducible refine Bk.drewN ?_ _ | with_reducible apply Bk.set1 | with_reducible apply Bk.set0 | with_reducible refine Bk.alloc ?_ _ | with_reducible exact Bk.new _ _ _ | with_reducible refine Bk.other ?_ (by first | omega | (simp; omega)) _)⟩, Or.inr ⟨k, rfl, hall, HC, ⟨by repeat (first | with_reducible exact HT1.out | with_reducible refine Bk.drew ?_ | with_reducible refine Bk.drewN ?_ _ | with_reducible apply Bk.set1 | with_reducible apply Bk.set0 | with_reducible refine Bk.alloc ?_ _ | with_reducible exact Bk.new _ _ _ | with_reducible refine Bk.other ?_ (by first | omega | (simp; omega)) _)⟩⟩⟩
                    case measure => simp [intOf]; omega
                · obtain rfl : n = (k : Int) := by omega
                  have EV : As (af l a k r = (0, 0)) := ⟨by rw [E3.out]; exact cf_ok (fun j hj => hall.out j (by simpa using hj))⟩
                  clear E3
                  go_wp2
                  refine ret_flt (p := 8) (g := w.heap.size) (x := .int .i64 (0)) (y := .int .i64 (0)) rfl rfl rfl (by repeat (first | with_reducible exact hR0.out | with_reducible refine Bk.drew ?_ | with_reducible refine Bk.drewN ?_ _ | with_reducible apply Bk.set1 | with_reducible apply Bk.set0 | with_reducible refine Bk.alloc ?_ _ | with_reducible exact Bk.new _ _ _ | with_reducible refine Bk.other ?_ (by first | omega | (simp; omega)) _)) ⟨by rw [EV.out]; rfl, ?_⟩
                  have hbw := hb.out
                  have hle := HLE.out
                  repeat (first | exact Below.refl _ _ | assumption | refine bl_drew ?_ | refine bl_drewN ?_ _ | refine bl_alloc ?_ _ | refine Below.setCell ?_ (by first | exact Nat.le_refl _ | exact bl_size (by assumption) | omega | simp) _)
              · have hR1c := hR1.out.two
                have hR1f := hR1.out.frozen
                have hR0c := hR0.out.two
                have hR0f := hR0.out.frozen
                have EV : As (af l a n r = (18, (q : Int))) := ⟨by rw [E3.out]; exact cf_bad (by omega) hfound.out hall.out⟩
                clear E3
                by_cases hlt2 : (k : Int) < n
                · go_wp2
                  refine ret_flt (p := 8) (g := w.heap.size) (x := .int .i64 (18)) (y := .int .i64 (q)) rfl rfl rfl (by repeat (first | with_reducible exact hR0.out | with_reducible refine Bk.drew ?_ | with_reducible refine Bk.drewN ?_ _ | with_reducible apply Bk.set1 | with_reducible apply Bk.set0 | with_reducible refine Bk.alloc ?_ _ | with_reducible exact Bk.new _ _ _ | with_reducible refine Bk.other ?_ (by first | omega | (simp; omega)) _)) ⟨by rw [EV.out]; rfl, ?_⟩
                  have hbw := hb.out
                  have hle := HLE.out
                  repeat (first | exact Below.refl _ _ | assumption | refine bl_drew ?_ | refine bl_drewN ?_ _ | refine bl_alloc ?_ _ | refine Below.setCell ?_ (by first | exact Nat.le_refl _ | exact bl_size (by assumption) | omega | simp) _)
                · go_wp2
                  refine ret_flt (p := 8) (g := w.heap.size) (x := .int .i64 (18)) (y := .int .i64 (q)) rfl rfl rfl (by repeat (first | with_reducible exact hR0.out | with_reducible refine Bk.drew ?_ | with_reducible refine Bk.drewN ?_ _ | with_reducible apply Bk.set1 | with_reducible apply Bk.set0 | with_reducible refine Bk.alloc ?_ _ | with_reducible exact Bk.new _ _ _ | with_reducible refine Bk.other ?_ (by first | omega | (simp; omega)) _)) ⟨by rw [EV.out]; rfl, ?_⟩
                  have hbw := hb.out
                  have hle := HLE.out
                  repeat (first | exact Below.refl _ _ | assumption | refine bl_drew ?_ | refine bl_drewN ?_ _ | refine bl_alloc ?_ _ | refine Below.setCell ?_ (by first | exact Nat.le_refl _ | exact bl_size (by assumption) | omega | simp) _)
          · have hrf : rff ((0 : Int), (0 : Int)) r = (3, -3) := (if_pos rfl).trans er
            have EV : As (af l a n r = (3, -3)) := ⟨by rw [E2.out, er]; rfl⟩
            clear E2
            refine (rightsF_any (0) (0) r _ (by omega)).mono ?_
            rintro e w2 ⟨rfl, hb2⟩
            rw [hrf]
            have hB := (show Bk _ w.heap.size #[.int .i64 0, .int .i64 0] 33 from by repeat (first | with_reducible exact HB.out | with_reducible refine Bk.drew ?_ | with_reducible refine Bk.drewN ?_ _ | with_reducible apply Bk.set1 | with_reducible apply Bk.set0 | with_reducible refine Bk.alloc ?_ _ | with_reducible exact Bk.new _ _ _ | with_reducible refine Bk.other ?_ (by first | omega | (simp; omega)) _)).below hb2
            have hbw2 := bl_then (show Below w.heap.size w _ from by have hbw := HBW.out; have hle := HLE.out; repeat (first | exact Below.refl _ _ | assumption | refine bl_drew ?_ | refine bl_drewN ?_ _ | refine bl_alloc ?_ _ | refine Below.setCell ?_ (by first | exact Nat.le_refl _ | exact bl_size (by assumption) | omega | simp) _)) hb2
            have hQ := (show Bk _ w1.heap.size #[.int .i64 (0), .int .i64 (0)] 33 from by repeat (first | with_reducible exact HQ.out | with_reducible refine Bk.drew ?_ | with_reducible refine Bk.drewN ?_ _ | with_reducible apply Bk.set1 | with_reducible apply Bk.set0 | with_reducible refine Bk.alloc ?_ _ | with_reducible exact Bk.new _ _ _ | with_reducible refine Bk.other ?_ (by first | omega | (simp; omega)) _)).below hb2
            clear hBc hBf hlt HBW hQ1 hQ2 hQ3
            have hBc := hB.two
            have hBf := hB.frozen
            have hlt := hB.lt
            have hQ1 := hQ.two
            have hQ2 := hQ.frozen
            have hQ3 := hQ.lt
            have HB := As.mk hB
            have HQ := As.mk hQ
            have HBW := As.mk hbw2
            clear hb2 hB hQ hbw2
            unfold Flt
            clear hrf er
            go_wp2
            by_cases hn0 : 0 < n
            · refine wp_loop_rounds 1 ?_
              go_wp2_with (rw [rounds_succ])
              refine ret_flt (p := 8) (g := w.heap.size) (x := .int .i64 (3)) (y := .int .i64 (-3)) rfl rfl rfl (by repeat (first | with_reducible exact HB.out | with_reducible refine Bk.drew ?_ | with_reducible refine Bk.drewN ?_ _ | with_reducible apply Bk.set1 | with_reducible apply Bk.set0 | with_reducible refine Bk.alloc ?_ _ | with_reducible exact Bk.new _ _ _ | with_reducible refine Bk.other ?_ (by first | omega | (simp; omega)) _)) ⟨by rw [EV.out]; rfl, ?_⟩
              have hbw := HBW.out
              have hle := HLE.out
              repeat (first | exact Below.refl _ _ | assumption | refine bl_drew ?_ | refine bl_drewN ?_ _ | refine bl_alloc ?_ _ | refine Below.setCell ?_ (by first | exact Nat.le_refl _ | exact bl_size (by assumption) | omega | simp) _)
            · refine wp_loop_rounds 1 ?_
              go_wp2_with (rw [rounds_succ])
              refine ret_flt (p := 8) (g := w.heap.size) (x := .int .i64 (3)) (y := .int .i64 (-3)) rfl rfl rfl (by repeat (first | with_reducible exact HB.out | with_reducible refine Bk.drew ?_ | with_reducible refine Bk.drewN ?_ _ | with_reducible apply Bk.set1 | with_reducible apply Bk.set0 | with_reducible refine Bk.alloc ?_ _ | with_reducible exact Bk.new _ _ _ | with_reducible refine Bk.other ?_ (by first | omega | (simp; omega)) _)) ⟨by rw [EV.out]; rfl, ?_⟩
              have hbw := HBW.out
              have hle := HLE.out
              repeat (first | exact Below.refl _ _ | assumption | refine bl_drew ?_ | refine bl_drewN ?_ _ | refine bl_alloc ?_ _ | refine Below.setCell ?_ (by first | exact Nat.le_refl _ | exact bl_size (by assumption) | omega | simp) _)
    · have hin : inB n 0 1500 = false := decide_eq_false c2
      have EV : As (af l a n r = (3, -2)) := ⟨by rw [E1.out, if_pos (by omega)]⟩
      go_wp2_with fail
      refine (in_any _ _ _ _).mono ?_
      rintro e2 w3 ⟨rfl, rfl⟩
      rw [hin]
      clear hin
      go_wp2_with fail
      refine (at_any _ _ _).mono ?_
      rintro e w2 ⟨rfl, hb2⟩
      have hB := (show Bk _ w.heap.size #[.int .i64 0, .int .i64 0] 33 from by repeat (first | with_reducible exact HB.out | with_reducible refine Bk.drew ?_ | with_reducible refine Bk.drewN ?_ _ | with_reducible apply Bk.set1 | with_reducible apply Bk.set0 | with_reducible refine Bk.alloc ?_ _ | with_reducible exact Bk.new _ _ _ | with_reducible refine Bk.other ?_ (by first | omega | (simp; omega)) _)).below hb2
      have hbw2 := bl_then (show Below w.heap.size w _ from by have hbw := HBW.out; have hle := HLE.out; repeat (first | exact Below.refl _ _ | assumption | refine bl_drew ?_ | refine bl_drewN ?_ _ | refine bl_alloc ?_ _ | refine Below.setCell ?_ (by first | exact Nat.le_refl _ | exact bl_size (by assumption) | omega | simp) _)) hb2
      have hQ := (show Bk _ w1.heap.size #[.int .i64 (0), .int .i64 (0)] 33 from by repeat (first | with_reducible exact HQ.out | with_reducible refine Bk.drew ?_ | with_reducible refine Bk.drewN ?_ _ | with_reducible apply Bk.set1 | with_reducible apply Bk.set0 | with_reducible refine Bk.alloc ?_ _ | with_reducible exact Bk.new _ _ _ | with_reducible refine Bk.other ?_ (by first | omega | (simp; omega)) _)).below hb2
      clear hBc hBf hlt HBW hQ1 hQ2 hQ3
      have hBc := hB.two
      have hBf := hB.frozen
      have hlt := hB.lt
      have hQ1 := hQ.two
      have hQ2 := hQ.frozen
      have hQ3 := hQ.lt
      have HB := As.mk hB
      have HQ := As.mk hQ
      have HBW := As.mk hbw2
      clear hb2 hB hQ hbw2
      unfold Flt
      have hrf : rff ((3 : Int), (-2 : Int)) r = (3, -2) := if_neg (by intro h; injection h; omega)
      go_wp2_with fail
      refine (rightsF_any (3) (-2) r _ (by omega)).mono ?_
      rintro e w2 ⟨rfl, hb2⟩
      rw [hrf]
      have hB := (show Bk _ w.heap.size #[.int .i64 0, .int .i64 0] 33 from by repeat (first | with_reducible exact HB.out | with_reducible refine Bk.drew ?_ | with_reducible refine Bk.drewN ?_ _ | with_reducible apply Bk.set1 | with_reducible apply Bk.set0 | with_reducible refine Bk.alloc ?_ _ | with_reducible exact Bk.new _ _ _ | with_reducible refine Bk.other ?_ (by first | omega | (simp; omega)) _)).below hb2
      have hbw2 := bl_then (show Below w.heap.size w _ from by have hbw := HBW.out; have hle := HLE.out; repeat (first | exact Below.refl _ _ | assumption | refine bl_drew ?_ | refine bl_drewN ?_ _ | refine bl_alloc ?_ _ | refine Below.setCell ?_ (by first | exact Nat.le_refl _ | exact bl_size (by assumption) | omega | simp) _)) hb2
      have hQ := (show Bk _ w1.heap.size #[.int .i64 (3), .int .i64 (-2)] 33 from by repeat (first | with_reducible exact HQ.out | with_reducible refine Bk.drew ?_ | with_reducible refine Bk.drewN ?_ _ | with_reducible apply Bk.set1 | with_reducible apply Bk.set0 | with_reducible refine Bk.alloc ?_ _ | with_reducible exact Bk.new _ _ _ | with_reducible refine Bk.other ?_ (by first | omega | (simp; omega)) _)).below hb2
      clear hBc hBf hlt HBW hQ1 hQ2 hQ3
      have hBc := hB.two
      have hBf := hB.frozen
      have hlt := hB.lt
      have hQ1 := hQ.two
      have hQ2 := hQ.frozen
      have hQ3 := hQ.lt
      have HB := As.mk hB
      have HQ := As.mk hQ
      have HBW := As.mk hbw2
      clear hb2 hB hQ hbw2
      unfold Flt
      clear hrf
      go_wp2
      by_cases hn0 : 0 < n
      · refine wp_loop_rounds 1 ?_
        go_wp2_with (rw [rounds_succ])
        refine ret_flt (p := 8) (g := w.heap.size) (x := .int .i64 (3)) (y := .int .i64 (-2)) rfl rfl rfl (by repeat (first | with_reducible exact HB.out | with_reducible refine Bk.drew ?_ | with_reducible refine Bk.drewN ?_ _ | with_reducible apply Bk.set1 | with_reducible apply Bk.set0 | with_reducible refine Bk.alloc ?_ _ | with_reducible exact Bk.new _ _ _ | with_reducible refine Bk.other ?_ (by first | omega | (simp; omega)) _)) ⟨by rw [EV.out]; rfl, ?_⟩
        have hbw := HBW.out
        have hle := HLE.out
        repeat (first | exact Below.refl _ _ | assumption | refine bl_drew ?_ | refine bl_drewN ?_ _ | refine bl_alloc ?_ _ | refine Below.setCell ?_ (by first | exact Nat.le_refl _ | exact bl_size (by assumption) | omega | simp) _)
      · refine wp_loop_rounds 1 ?_
        go_wp2_with (rw [rounds_succ])
        refine ret_flt (p := 8) (g := w.heap.size) (x := .int .i64 (3)) (y := .int .i64 (-2)) rfl rfl rfl (by repeat (first | with_reducible exact HB.out | with_reducible refine Bk.drew ?_ | with_reducible refine Bk.drewN ?_ _ | with_reducible apply Bk.set1 | with_reducible apply Bk.set0 | with_reducible refine Bk.alloc ?_ _ | with_reducible exact Bk.new _ _ _ | with_reducible refine Bk.other ?_ (by first | omega | (simp; omega)) _)) ⟨by rw [EV.out]; rfl, ?_⟩
        have hbw := HBW.out
        have hle := HLE.out
        repeat (first | exact Below.refl _ _ | assumption | refine bl_drew ?_ | refine bl_drewN ?_ _ | refine bl_alloc ?_ _ | refine Below.setCell ?_ (by first | exact Nat.le_refl _ | exact bl_size (by assumption) | omega | simp) _)
  · have EV : As (af l a n r = (c, i)) := ⟨by unfold af; rw [if_pos (by rw [hv]; intro h; injection h; omega), hv]⟩
    have hc : ¬ c = 0 := by omega
    rw [hv]
    clear hv
    unfold Flt
    have hQ := Bk.new w1 #[.int .i64 c, .int .i64 i] 33
    have hQ1 := hQ.two
    have hQ2 := hQ.frozen
    have hQ3 := hQ.lt
    have HQ := As.mk hQ
    clear hQ
    have hrf : rff ((c : Int), (i : Int)) r = (c, i) := if_neg (by intro h; injection h; omega)
    go_wp2_with fail
    refine (rightsF_any (c) (i) r _ (by omega)).mono ?_
    rintro e w2 ⟨rfl, hb2⟩
    rw [hrf]
    have hB := (show Bk _ w.heap.size #[.int .i64 0, .int .i64 0] 33 from by repeat (first | with_reducible exact HB.out | with_reducible refine Bk.drew ?_ | with_reducible refine Bk.drewN ?_ _ | with_reducible apply Bk.set1 | with_reducible apply Bk.set0 | with_reducible refine Bk.alloc ?_ _ | with_reducible exact Bk.new _ _ _ | with_reducible refine Bk.other ?_ (by first | omega | (simp; omega)) _)).below hb2
    have hbw2 := bl_then (show Below w.heap.size w _ from by have hbw := HBW.out; have hle := HLE.out; repeat (first | exact Below.refl _ _ | assumption | refine bl_drew ?_ | refine bl_drewN ?_ _ | refine bl_alloc ?_ _ | refine Below.setCell ?_ (by first | exact Nat.le_refl _ | exact bl_size (by assumption) | omega | simp) _)) hb2
    have hQ := (show Bk _ w1.heap.size #[.int .i64 (c), .int .i64 (i)] 33 from by repeat (first | with_reducible exact HQ.out | with_reducible refine Bk.drew ?_ | with_reducible refine Bk.drewN ?_ _ | with_reducible apply Bk.set1 | with_reducible apply Bk.set0 | with_reducible refine Bk.alloc ?_ _ | with_reducible exact Bk.new _ _ _ | with_reducible refine Bk.other ?_ (by first | omega | (simp; omega)) _)).below hb2
    clear hBc hBf hlt HBW hQ1 hQ2 hQ3
    have hBc := hB.two
    have hBf := hB.frozen
    have hlt := hB.lt
    have hQ1 := hQ.two
    have hQ2 := hQ.frozen
    have hQ3 := hQ.lt
    have HB := As.mk hB
    have HQ := As.mk hQ
    have HBW := As.mk hbw2
    clear hb2 hB hQ hbw2
    unfold Flt
    clear hrf
    go_wp2
    by_cases hn0 : 0 < n
    · refine wp_loop_rounds 1 ?_
      go_wp2_with (rw [rounds_succ])
      refine ret_flt (p := 8) (g := w.heap.size) (x := .int .i64 (c)) (y := .int .i64 (i)) rfl rfl rfl (by repeat (first | with_reducible exact HB.out | with_reducible refine Bk.drew ?_ | with_reducible refine Bk.drewN ?_ _ | with_reducible apply Bk.set1 | with_reducible apply Bk.set0 | with_reducible refine Bk.alloc ?_ _ | with_reducible exact Bk.new _ _ _ | with_reducible refine Bk.other ?_ (by first | omega | (simp; omega)) _)) ⟨by rw [EV.out]; rfl, ?_⟩
      have hbw := HBW.out
      have hle := HLE.out
      repeat (first | exact Below.refl _ _ | assumption | refine bl_drew ?_ | refine bl_drewN ?_ _ | refine bl_alloc ?_ _ | refine Below.setCell ?_ (by first | exact Nat.le_refl _ | exact bl_size (by assumption) | omega | simp) _)
    · refine wp_loop_rounds 1 ?_
      go_wp2_with (rw [rounds_succ])
      refine ret_flt (p := 8) (g := w.heap.size) (x := .int .i64 (c)) (y := .int .i64 (i)) rfl rfl rfl (by repeat (first | with_reducible exact HB.out | with_reducible refine Bk.drew ?_ | with_reducible refine Bk.drewN ?_ _ | with_reducible apply Bk.set1 | with_reducible apply Bk.set0 | with_reducible refine Bk.alloc ?_ _ | with_reducible exact Bk.new _ _ _ | with_reducible refine Bk.other ?_ (by first | omega | (simp; omega)) _)) ⟨by rw [EV.out]; rfl, ?_⟩
      have hbw := HBW.out
      have hle := HLE.out
      repeat (first | exact Below.refl _ _ | assumption | refine bl_drew ?_ | refine bl_drewN ?_ _ | refine bl_alloc ?_ _ | refine Below.setCell ?_ (by first | exact Nat.le_refl _ | exact bl_size (by assumption) | omega | simp) _)
end Go.Proofs.Ytbbhkjljiljadaa
