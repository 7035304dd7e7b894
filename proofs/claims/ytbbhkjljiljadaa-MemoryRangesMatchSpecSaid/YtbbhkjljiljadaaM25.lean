/- SpanFault, RightsFault of the reference. Conditions: the memory reads as those pages. -/
import Derived.Test.YtbbhkjljiljadaaM24
namespace Go.Proofs.Ytbbhkjljiljadaa
open Go.RowKit
set_option linter.unusedVariables false
set_option linter.unusedSimpArgs false
def rff (f : Int × Int) (r : Int) : Int × Int := if f = (0, 0) then rf r else f
set_option maxHeartbeats 4000000 in
theorem rightsF_any (c i r : Int) (w : World) (hc : c ≠ 0 ∨ (c = 0 ∧ i = 0)) : Calls Try.prog 37 #[.agg #[.int .i64 c, .int .i64 i], .int .i64 r] w (VPost (rff (c, i) r) w) := by
  rcases hc with hc | ⟨rfl, rfl⟩
  · have E : As (rff (c, i) r = (c, i)) := ⟨if_neg (by intro h; injection h; contradiction)⟩
    go_enter Try.func37, Try.ntmps37
    go_wp2
    refine ret_flt (p := 4) (g := w.heap.size + 1) (x := .int .i64 c) (y := .int .i64 i) rfl rfl rfl (by repeat (first | with_reducible exact (Bk.new' _ _ (by simp)) | with_reducible refine Bk.drew ?_ | with_reducible refine Bk.drewN ?_ _ | with_reducible apply Bk.set1 | with_reducible apply Bk.set0 | with_reducible refine Bk.alloc ?_ _ | with_reducible exact Bk.new _ _ _ | with_reducible refine Bk.other ?_ (by first | omega | (simp; omega)) _)) ⟨by rw [E.out]; rfl, ?_⟩
    repeat (first | exact Below.refl _ _ | assumption | refine bl_drew ?_ | refine bl_drewN ?_ _ | refine bl_alloc ?_ _ | refine Below.setCell ?_ (by first | exact Nat.le_refl _ | exact bl_size (by assumption) | omega | simp) _)
  · have E : As (rff (0, 0) r = rf r) := ⟨if_pos rfl⟩
    by_cases hr : 0 ≤ r ∧ r ≤ 7
    · have e : rf r = (0, 0) := if_neg (by omega)
      have hin : inB r 0 7 = true := decide_eq_true hr
      have EV := As.mk (E.out.trans e)
      clear E e
      go_enter Try.func37, Try.ntmps37
      go_wp2_with fail
      refine (in_any _ _ _ _).mono ?_
      rintro e w3 ⟨rfl, rfl⟩
      rw [hin]
      clear hin
      go_wp2
      refine ret_flt (p := 4) (g := w.heap.size + 1) (x := .int .i64 0) (y := .int .i64 0) rfl rfl rfl (by repeat (first | with_reducible exact (Bk.new' _ _ (by simp)) | with_reducible refine Bk.drew ?_ | with_reducible refine Bk.drewN ?_ _ | with_reducible apply Bk.set1 | with_reducible apply Bk.set0 | with_reducible refine Bk.alloc ?_ _ | with_reducible exact Bk.new _ _ _ | with_reducible refine Bk.other ?_ (by first | omega | (simp; omega)) _)) ⟨by rw [EV.out]; rfl, ?_⟩
      repeat (first | exact Below.refl _ _ | assumption | refine bl_drew ?_ | refine bl_drewN ?_ _ | refine bl_alloc ?_ _ | refine Below.setCell ?_ (by first | exact Nat.le_refl _ | exact bl_size (by assumption) | omega | simp) _)
    · have e : rf r = (3, -3) := if_pos (by omega)
      have hin : inB r 0 7 = false := decide_eq_false hr
      have EV := As.mk (E.out.trans e)
      clear E e
      go_enter Try.func37, Try.ntmps37
      go_wp2_with fail
      refine (in_any _ _ _ _).mono ?_
      rintro e w3 ⟨rfl, rfl⟩
      rw [hin]
      clear hin
      go_wp2_with fail
      refine (at_any _ _ _).mono ?_
      rintro e w2 ⟨rfl, hb2⟩
      have hB := (show Bk _ (w.heap.size + 1) #[.int .i64 0, .int .i64 0] 33 from by repeat (first | with_reducible exact (Bk.new' _ _ (by simp)) | with_reducible refine Bk.drew ?_ | with_reducible refine Bk.drewN ?_ _ | with_reducible apply Bk.set1 | with_reducible apply Bk.set0 | with_reducible refine Bk.alloc ?_ _ | with_reducible exact Bk.new _ _ _ | with_reducible refine Bk.other ?_ (by first | omega | (simp; omega)) _)).below hb2
      have hbw := bl_then (show Below w.heap.size w _ from by repeat (first | exact Below.refl _ _ | assumption | refine bl_drew ?_ | refine bl_drewN ?_ _ | refine bl_alloc ?_ _ | refine Below.setCell ?_ (by first | exact Nat.le_refl _ | exact bl_size (by assumption) | omega | simp) _)) hb2
      have hBc := hB.two
      have hBf := hB.frozen
      have HB := As.mk hB
      have hlt := hB.lt
      clear hb2 hB
      unfold Flt
      go_wp2
      refine ret_flt (p := 4) (g := w.heap.size + 1) (x := .int .i64 3) (y := .int .i64 (-3)) rfl rfl rfl (by repeat (first | with_reducible exact HB.out | with_reducible refine Bk.drew ?_ | with_reducible refine Bk.drewN ?_ _ | with_reducible apply Bk.set1 | with_reducible apply Bk.set0 | with_reducible refine Bk.alloc ?_ _ | with_reducible exact Bk.new _ _ _ | with_reducible refine Bk.other ?_ (by first | omega | (simp; omega)) _)) ⟨by rw [EV.out]; rfl, ?_⟩
      repeat (first | exact Below.refl _ _ | assumption | refine bl_drew ?_ | refine bl_drewN ?_ _ | refine bl_alloc ?_ _ | refine Below.setCell ?_ (by first | exact Nat.le_refl _ | exact bl_size (by assumption) | omega | simp) _)
/-SPAN-/
set_option maxHeartbeats 4000000 in
theorem spanf_any (v : Value) (l : List Pg) (a n : Int) (w : World) (hm : RdM w v l) (ha : I64 a) (hn : I64 n) : Calls Try.prog 36 #[v, .int .i64 a, .int .i64 n] w (VPost (sp l a n) w) := by
  have HM := As.mk hm
  have HA := ha
  have HN := hn
  unfold I64 at HA HN
  clear hm ha hn
  go_enter Try.func36, Try.ntmps36
  go_wp2_with fail
  refine (memfault_any _ l _ (HM.out.below (by repeat (first | exact Below.refl _ _ | assumption | refine bl_drew ?_ | refine bl_drewN ?_ _ | refine bl_alloc ?_ _ | refine Below.setCell ?_ (by first | exact Nat.le_refl _ | exact bl_size (by assumption) | omega | simp) _)))).mono ?_
  rintro e w1 ⟨rfl, hb1⟩
  have hB := (Bk.new w #[.int .i64 0, .int .i64 0] 33).below hb1
  have hbw := bl_then (bl_alloc (Below.refl _ w) _) hb1
  have hBc := hB.two
  have hBf := hB.frozen
  have HB := As.mk hB
  have hlt := hB.lt
  have HLE := As.mk (Nat.le_of_lt hlt)
  have HBW := As.mk hbw
  clear hb1 hB hbw
  rcases vf_cases l with hv | ⟨c, i, hv, hc0, hc9, hi0, hi2⟩
  · have E1 : As (sp l a n = if a.tmod 256 ≠ 0 then (5, -2) else if n < 1 ∨ 200 < n ∨ a < 0 ∨ 1048576 - n * 256 < a then (3, -2) else (0, 0)) := ⟨by unfold sp; rw [if_neg (by rw [hv]; simp)]⟩
    rw [hv]
    clear hv
    unfold Flt
    have hQ := Bk.new w1 #[.int .i64 0, .int .i64 0] 33
    have hQ1 := hQ.two
    have hQ2 := hQ.frozen
    have hQ3 := hQ.lt
    have HQ := As.mk hQ
    clear hQ
    have hne : w.heap.size ≠ w1.heap.size := by omega
    by_cases c1 : a.tmod 256 = 0
    · have E2 : As (sp l a n = if n < 1 ∨ 200 < n ∨ a < 0 ∨ 1048576 - n * 256 < a then (3, -2) else (0, 0)) := ⟨by rw [E1.out, if_neg (by simpa using c1)]⟩
      have c1' : ∀ [Inhabited Nat], a.tmod 256 = 0 := by intro _; exact c1
      clear E1 c1
      by_cases c2 : 1 ≤ n ∧ n ≤ 200
      · have hin : inB n 1 200 = true := decide_eq_true c2
        obtain ⟨c21, c22⟩ := c2
        by_cases c3 : a < 0
        · have EV : As (sp l a n = (3, -2)) := ⟨by rw [E2.out, if_pos (by omega)]⟩
          go_wp2_with fail
          refine (in_any _ _ _ _).mono ?_
          rintro e2 w3 ⟨rfl, rfl⟩
          rw [hin]
          clear hin
          go_wp2_with fail
          refine (at_any _ _ _).mono ?_
          rintro e w2 ⟨rfl, hb2⟩
          have hB := (show Bk _ w.heap.size #[.int .i64 0, .int .i64 0] 33 from by repeat (first | with_reducible exact HB.out | with_reducible refine Bk.drew ?_ | with_reducible refine Bk.drewN ?_ _ | with_reducible apply Bk.set1 | with_reducible apply Bk.set0 | with_reducible refine Bk.alloc ?_ _ | with_reducible exact Bk.new _ _ _ | with_reducible refine Bk.other ?_ (by first | omega | (simp; omega)) _)).below hb2
          have hQ := (show Bk _ w1.heap.size #[.int .i64 0, .int .i64 0] 33 from by repeat (first | with_reducible exact HQ.out | with_reducible refine Bk.drew ?_ | with_reducible refine Bk.drewN ?_ _ | with_reducible apply Bk.set1 | with_reducible apply Bk.set0 | with_reducible refine Bk.alloc ?_ _ | with_reducible exact Bk.new _ _ _ | with_reducible refine Bk.other ?_ (by first | omega | (simp; omega)) _)).below hb2
          have hbw2 := bl_then (show Below w.heap.size w _ from by have hbw := HBW.out; have hle := HLE.out; repeat (first | exact Below.refl _ _ | assumption | refine bl_drew ?_ | refine bl_drewN ?_ _ | refine bl_alloc ?_ _ | refine Below.setCell ?_ (by first | exact Nat.le_refl _ | exact bl_size (by assumption) | omega | simp) _)) hb2
          clear hBc hBf hlt HBW hQ1 hQ2 hQ3
          have hBc := hB.two
          have hBf := hB.frozen
          have hlt := hB.lt
          have hQ1 := hQ.two
          have hQ2 := hQ.frozen
          have hQ3 := hQ.lt
          have HB := As.mk hB
          have HQ := As.mk hQ
          have HBW := As.mk hbw2
          clear hb2 hB hQ hbw2
          unfold Flt
          go_wp2
          refine ret_flt (p := 6) (g := w.heap.size) (x := .int .i64 (3)) (y := .int .i64 (-2)) rfl rfl rfl (by repeat (first | with_reducible exact (HB.out) | with_reducible refine Bk.drew ?_ | with_reducible refine Bk.drewN ?_ _ | with_reducible apply Bk.set1 | with_reducible apply Bk.set0 | with_reducible refine Bk.alloc ?_ _ | with_reducible exact Bk.new _ _ _ | with_reducible refine Bk.other ?_ (by first | omega | (simp; omega)) _)) ⟨by rw [EV.out]; rfl, ?_⟩
          have hbw := HBW.out
          have hle := HLE.out
          repeat (first | exact Below.refl _ _ | assumption | refine bl_drew ?_ | refine bl_drewN ?_ _ | refine bl_alloc ?_ _ | refine Below.setCell ?_ (by first | exact Nat.le_refl _ | exact bl_size (by assumption) | omega | simp) _)
        · by_cases c4 : 1048576 - n * 256 < a
          · have EV : As (sp l a n = (3, -2)) := ⟨by rw [E2.out, if_pos (by omega)]⟩
            by_cases c5 : 1048576 < a
            · obtain ⟨Z, hZ⟩ : ∃ Z : Int, As (IntKind.i64.wrap (a + 256 * n) = Z) := ⟨_, ⟨rfl⟩⟩
              have hwr : ∀ [Inhabited Nat], IntKind.i64.wrap (a + 256 * n) = Z := by intro _; exact hZ.out
              by_cases c6 : 1048576 < Z
              · go_wp2_with fail
                refine (in_any _ _ _ _).mono ?_
                rintro e2 w3 ⟨rfl, rfl⟩
                rw [hin]
                clear hin
                go_wp2_with fail
                refine (at_any _ _ _).mono ?_
                rintro e w2 ⟨rfl, hb2⟩
                have hB := (show Bk _ w.heap.size #[.int .i64 0, .int .i64 0] 33 from by repeat (first | with_reducible exact HB.out | with_reducible refine Bk.drew ?_ | with_reducible refine Bk.drewN ?_ _ | with_reducible apply Bk.set1 | with_reducible apply Bk.set0 | with_reducible refine Bk.alloc ?_ _ | with_reducible exact Bk.new _ _ _ | with_reducible refine Bk.other ?_ (by first | omega | (simp; omega)) _)).below hb2
                have hQ := (show Bk _ w1.heap.size #[.int .i64 0, .int .i64 0] 33 from by repeat (first | with_reducible exact HQ.out | with_reducible refine Bk.drew ?_ | with_reducible refine Bk.drewN ?_ _ | with_reducible apply Bk.set1 | with_reducible apply Bk.set0 | with_reducible refine Bk.alloc ?_ _ | with_reducible exact Bk.new _ _ _ | with_reducible refine Bk.other ?_ (by first | omega | (simp; omega)) _)).below hb2
                have hbw2 := bl_then (show Below w.heap.size w _ from by have hbw := HBW.out; have hle := HLE.out; repeat (first | exact Below.refl _ _ | assumption | refine bl_drew ?_ | refine bl_drewN ?_ _ | refine bl_alloc ?_ _ | refine Below.setCell ?_ (by first | exact Nat.le_refl _ | exact bl_size (by assumption) | omega | simp) _)) hb2
                clear hBc hBf hlt HBW hQ1 hQ2 hQ3
                have hBc := hB.two
                have hBf := hB.frozen
                have hlt := hB.lt
                have hQ1 := hQ.two
                have hQ2 := hQ.frozen
                have hQ3 := hQ.lt
                have HB := As.mk hB
                have HQ := As.mk hQ
                have HBW := As.mk hbw2
                clear hb2 hB hQ hbw2
                unfold Flt
                go_wp2
                refine ret_flt (p := 6) (g := w.heap.size) (x := .int .i64 (3)) (y := .int .i64 (-2)) rfl rfl rfl (by repeat (first | with_reducible exact (HB.out) | with_reducible refine Bk.drew ?_ | with_reducible refine Bk.drewN ?_ _ | with_reducible apply Bk.set1 | with_reducible apply Bk.set0 | with_reducible refine Bk.alloc ?_ _ | with_reducible exact Bk.new _ _ _ | with_reducible refine Bk.other ?_ (by first | omega | (simp; omega)) _)) ⟨by rw [EV.out]; rfl, ?_⟩
                have hbw := HBW.out
                have hle := HLE.out
                repeat (first | exact Below.refl _ _ | assumption | refine bl_drew ?_ | refine bl_drewN ?_ _ | refine bl_alloc ?_ _ | refine Below.setCell ?_ (by first | exact Nat.le_refl _ | exact bl_size (by assumption) | omega | simp) _)
              · go_wp2_with fail
                refine (in_any _ _ _ _).mono ?_
                rintro e2 w3 ⟨rfl, rfl⟩
                rw [hin]
                clear hin
                go_wp2_with fail
                refine (at_any _ _ _).mono ?_
                rintro e w2 ⟨rfl, hb2⟩
                have hB := (show Bk _ w.heap.size #[.int .i64 0, .int .i64 0] 33 from by repeat (first | with_reducible exact HB.out | with_reducible refine Bk.drew ?_ | with_reducible refine Bk.drewN ?_ _ | with_reducible apply Bk.set1 | with_reducible apply Bk.set0 | with_reducible refine Bk.alloc ?_ _ | with_reducible exact Bk.new _ _ _ | with_reducible refine Bk.other ?_ (by first | omega | (simp; omega)) _)).below hb2
                have hQ := (show Bk _ w1.heap.size #[.int .i64 0, .int .i64 0] 33 from by repeat (first | with_reducible exact HQ.out | with_reducible refine Bk.drew ?_ | with_reducible refine Bk.drewN ?_ _ | with_reducible apply Bk.set1 | with_reducible apply Bk.set0 | with_reducible refine Bk.alloc ?_ _ | with_reducible exact Bk.new _ _ _ | with_reducible refine Bk.other ?_ (by first | omega | (simp; omega)) _)).below hb2
                have hbw2 := bl_then (show Below w.heap.size w _ from by have hbw := HBW.out; have hle := HLE.out; repeat (first | exact Below.refl _ _ | assumption | refine bl_drew ?_ | refine bl_drewN ?_ _ | refine bl_alloc ?_ _ | refine Below.setCell ?_ (by first | exact Nat.le_refl _ | exact bl_size (by assumption) | omega | simp) _)) hb2
                clear hBc hBf hlt HBW hQ1 hQ2 hQ3
                have hBc := hB.two
                have hBf := hB.frozen
                have hlt := hB.lt
                have hQ1 := hQ.two
                have hQ2 := hQ.frozen
                have hQ3 := hQ.lt
                have HB := As.mk hB
                have HQ := As.mk hQ
                have HBW := As.mk hbw2
                clear hb2 hB hQ hbw2
                unfold Flt
                go_wp2
                refine ret_flt (p := 6) (g := w.heap.size) (x := .int .i64 (3)) (y := .int .i64 (-2)) rfl rfl rfl (by repeat (first | with_reducible exact (HB.out) | with_reducible refine Bk.drew ?_ | with_reducible refine Bk.drewN ?_ _ | with_reducible apply Bk.set1 | with_reducible apply Bk.set0 | with_reducible refine Bk.alloc ?_ _ | with_reducible exact Bk.new _ _ _ | with_reducible refine Bk.other ?_ (by first | omega | (simp; omega)) _)) ⟨by rw [EV.out]; rfl, ?_⟩
                have hbw := HBW.out
                have hle := HLE.out
                repeat (first | exact Below.refl _ _ | assumption | refine bl_drew ?_ | refine bl_drewN ?_ _ | refine bl_alloc ?_ _ | refine Below.setCell ?_ (by first | exact Nat.le_refl _ | exact bl_size (by assumption) | omega | simp) _)
            · have hwr : ∀ [Inhabited Nat], IntKind.i64.wrap (a + 256 * n) = a + 256 * n := by intro _; rw [IntKind.wrap_i64]; omega
              go_wp2_with fail
              refine (in_any _ _ _ _).mono ?_
              rintro e2 w3 ⟨rfl, rfl⟩
              rw [hin]
              clear hin
              go_wp2_with fail
              refine (at_any _ _ _).mono ?_
              rintro e w2 ⟨rfl, hb2⟩
              have hB := (show Bk _ w.heap.size #[.int .i64 0, .int .i64 0] 33 from by repeat (first | with_reducible exact HB.out | with_reducible refine Bk.drew ?_ | with_reducible refine Bk.drewN ?_ _ | with_reducible apply Bk.set1 | with_reducible apply Bk.set0 | with_reducible refine Bk.alloc ?_ _ | with_reducible exact Bk.new _ _ _ | with_reducible refine Bk.other ?_ (by first | omega | (simp; omega)) _)).below hb2
              have hQ := (show Bk _ w1.heap.size #[.int .i64 0, .int .i64 0] 33 from by repeat (first | with_reducible exact HQ.out | with_reducible refine Bk.drew ?_ | with_reducible refine Bk.drewN ?_ _ | with_reducible apply Bk.set1 | with_reducible apply Bk.set0 | with_reducible refine Bk.alloc ?_ _ | with_reducible exact Bk.new _ _ _ | with_reducible refine Bk.other ?_ (by first | omega | (simp; omega)) _)).below hb2
              have hbw2 := bl_then (show Below w.heap.size w _ from by have hbw := HBW.out; have hle := HLE.out; repeat (first | exact Below.refl _ _ | assumption | refine bl_drew ?_ | refine bl_drewN ?_ _ | refine bl_alloc ?_ _ | refine Below.setCell ?_ (by first | exact Nat.le_refl _ | exact bl_size (by assumption) | omega | simp) _)) hb2
              clear hBc hBf hlt HBW hQ1 hQ2 hQ3
              have hBc := hB.two
              have hBf := hB.frozen
              have hlt := hB.lt
              have hQ1 := hQ.two
              have hQ2 := hQ.frozen
              have hQ3 := hQ.lt
              have HB := As.mk hB
              have HQ := As.mk hQ
              have HBW := As.mk hbw2
              clear hb2 hB hQ hbw2
              unfold Flt
              go_wp2
              refine ret_flt (p := 6) (g := w.heap.size) (x := .int .i64 (3)) (y := .int .i64 (-2)) rfl rfl rfl (by repeat (first | with_reducible exact (HB.out) | with_reducible refine Bk.drew ?_ | with_reducible refine Bk.drewN ?_ _ | with_reducible apply Bk.set1 | with_reducible apply Bk.set0 | with_reducible refine Bk.alloc ?_ _ | with_reducible exact Bk.new _ _ _ | with_reducible refine Bk.other ?_ (by first | omega | (simp; omega)) _)) ⟨by rw [EV.out]; rfl, ?_⟩
              have hbw := HBW.out
              have hle := HLE.out
              repeat (first | exact Below.refl _ _ | assumption | refine bl_drew ?_ | refine bl_drewN ?_ _ | refine bl_alloc ?_ _ | refine Below.setCell ?_ (by first | exact Nat.le_refl _ | exact bl_size (by assumption) | omega | simp) _)
          · have EV : As (sp l a n = (0, 0)) := ⟨by rw [E2.out, if_neg (by omega)]⟩
            have hwr : ∀ [Inhabited Nat], IntKind.i64.wrap (a + 256 * n) = a + 256 * n := by intro _; rw [IntKind.wrap_i64]; omega
            go_wp2_with fail
            refine (in_any _ _ _ _).mono ?_
            rintro e2 w3 ⟨rfl, rfl⟩
            rw [hin]
            clear hin
            go_wp2
            refine ret_flt (p := 6) (g := w.heap.size) (x := .int .i64 (0)) (y := .int .i64 (0)) rfl rfl rfl (by repeat (first | with_reducible exact (HB.out) | with_reducible refine Bk.drew ?_ | with_reducible refine Bk.drewN ?_ _ | with_reducible apply Bk.set1 | with_reducible apply Bk.set0 | with_reducible refine Bk.alloc ?_ _ | with_reducible exact Bk.new _ _ _ | with_reducible refine Bk.other ?_ (by first | omega | (simp; omega)) _)) ⟨by rw [EV.out]; rfl, ?_⟩
            have hbw := HBW.out
            have hle := HLE.out
            repeat (first | exact Below.refl _ _ | assumption | refine bl_drew ?_ | refine bl_drewN ?_ _ | refine bl_alloc ?_ _ | refine Below.setCell ?_ (by first | exact Nat.le_refl _ | exact bl_size (by assumption) | omega | simp) _)
      · have hin : inB n 1 200 = false := decide_eq_false c2
        have EV : As (sp l a n = (3, -2)) := ⟨by rw [E2.out, if_pos (by omega)]⟩
        go_wp2_with fail
        refine (in_any _ _ _ _).mono ?_
        rintro e2 w3 ⟨rfl, rfl⟩
        rw [hin]
        clear hin
        go_wp2_with fail
        refine (at_any _ _ _).mono ?_
        rintro e w2 ⟨rfl, hb2⟩
        have hB := (show Bk _ w.heap.size #[.int .i64 0, .int .i64 0] 33 from by repeat (first | with_reducible exact HB.out | with_reducible refine Bk.drew ?_ | with_reducible refine Bk.drewN ?_ _ | with_reducible apply Bk.set1 | with_reducible apply Bk.set0 | with_reducible refine Bk.alloc ?_ _ | with_reducible exact Bk.new _ _ _ | with_reducible refine Bk.other ?_ (by first | omega | (simp; omega)) _)).below hb2
        have hQ := (show Bk _ w1.heap.size #[.int .i64 0, .int .i64 0] 33 from by repeat (first | with_reducible exact HQ.out | with_reducible refine Bk.drew ?_ | with_reducible refine Bk.drewN ?_ _ | with_reducible apply Bk.set1 | with_reducible apply Bk.set0 | with_reducible refine Bk.alloc ?_ _ | with_reducible exact Bk.new _ _ _ | with_reducible refine Bk.other ?_ (by first | omega | (simp; omega)) _)).below hb2
        have hbw2 := bl_then (show Below w.heap.size w _ from by have hbw := HBW.out; have hle := HLE.out; repeat (first | exact Below.refl _ _ | assumption | refine bl_drew ?_ | refine bl_drewN ?_ _ | refine bl_alloc ?_ _ | refine Below.setCell ?_ (by first | exact Nat.le_refl _ | exact bl_size (by assumption) | omega | simp) _)) hb2
        clear hBc hBf hlt HBW hQ1 hQ2 hQ3
        have hBc := hB.two
        have hBf := hB.frozen
        have hlt := hB.lt
        have hQ1 := hQ.two
        have hQ2 := hQ.frozen
        have hQ3 := hQ.lt
        have HB := As.mk hB
        have HQ := As.mk hQ
        have HBW := As.mk hbw2
        clear hb2 hB hQ hbw2
        unfold Flt
        go_wp2
        refine ret_flt (p := 6) (g := w.heap.size) (x := .int .i64 (3)) (y := .int .i64 (-2)) rfl rfl rfl (by repeat (first | with_reducible exact (HB.out) | with_reducible refine Bk.drew ?_ | with_reducible refine Bk.drewN ?_ _ | with_reducible apply Bk.set1 | with_reducible apply Bk.set0 | with_reducible refine Bk.alloc ?_ _ | with_reducible exact Bk.new _ _ _ | with_reducible refine Bk.other ?_ (by first | omega | (simp; omega)) _)) ⟨by rw [EV.out]; rfl, ?_⟩
        have hbw := HBW.out
        have hle := HLE.out
        repeat (first | exact Below.refl _ _ | assumption | refine bl_drew ?_ | refine bl_drewN ?_ _ | refine bl_alloc ?_ _ | refine Below.setCell ?_ (by first | exact Nat.le_refl _ | exact bl_size (by assumption) | omega | simp) _)
    · have EV : As (sp l a n = (5, -2)) := ⟨by rw [E1.out, if_pos (by simpa using c1)]⟩
      have hm1 : (a.tmod 256 == 0) = false := by simpa using c1
      have hm2 : (a.tmod 256 != 0) = true := by simpa using c1
      go_wp2_with fail
      refine (at_any _ _ _).mono ?_
      rintro e w2 ⟨rfl, hb2⟩
      have hB := (show Bk _ w.heap.size #[.int .i64 0, .int .i64 0] 33 from by repeat (first | with_reducible exact HB.out | with_reducible refine Bk.drew ?_ | with_reducible refine Bk.drewN ?_ _ | with_reducible apply Bk.set1 | with_reducible apply Bk.set0 | with_reducible refine Bk.alloc ?_ _ | with_reducible exact Bk.new _ _ _ | with_reducible refine Bk.other ?_ (by first | omega | (simp; omega)) _)).below hb2
      have hQ := (show Bk _ w1.heap.size #[.int .i64 0, .int .i64 0] 33 from by repeat (first | with_reducible exact HQ.out | with_reducible refine Bk.drew ?_ | with_reducible refine Bk.drewN ?_ _ | with_reducible apply Bk.set1 | with_reducible apply Bk.set0 | with_reducible refine Bk.alloc ?_ _ | with_reducible exact Bk.new _ _ _ | with_reducible refine Bk.other ?_ (by first | omega | (simp; omega)) _)).below hb2
      have hbw2 := bl_then (show Below w.heap.size w _ from by have hbw := HBW.out; have hle := HLE.out; repeat (first | exact Below.refl _ _ | assumption | refine bl_drew ?_ | refine bl_drewN ?_ _ | refine bl_alloc ?_ _ | refine Below.setCell ?_ (by first | exact Nat.le_refl _ | exact bl_size (by assumption) | omega | simp) _)) hb2
      clear hBc hBf hlt HBW hQ1 hQ2 hQ3
      have hBc := hB.two
      have hBf := hB.frozen
      have hlt := hB.lt
      have hQ1 := hQ.two
      have hQ2 := hQ.frozen
      have hQ3 := hQ.lt
      have HB := As.mk hB
      have HQ := As.mk hQ
      have HBW := As.mk hbw2
      clear hb2 hB hQ hbw2
      unfold Flt
      go_wp2
      refine ret_flt (p := 6) (g := w.heap.size) (x := .int .i64 (5)) (y := .int .i64 (-2)) rfl rfl rfl (by repeat (first | with_reducible exact (HB.out) | with_reducible refine Bk.drew ?_ | with_reducible refine Bk.drewN ?_ _ | with_reducible apply Bk.set1 | with_reducible apply Bk.set0 | with_reducible refine Bk.alloc ?_ _ | with_reducible exact Bk.new _ _ _ | with_reducible refine Bk.other ?_ (by first | omega | (simp; omega)) _)) ⟨by rw [EV.out]; rfl, ?_⟩
      have hbw := HBW.out
      have hle := HLE.out
      repeat (first | exact Below.refl _ _ | assumption | refine bl_drew ?_ | refine bl_drewN ?_ _ | refine bl_alloc ?_ _ | refine Below.setCell ?_ (by first | exact Nat.le_refl _ | exact bl_size (by assumption) | omega | simp) _)
  · have EV : As (sp l a n = (c, i)) := ⟨by unfold sp; rw [if_pos (by rw [hv]; intro h; injection h; omega), hv]⟩
    have hc : ¬ c = 0 := by omega
    rw [hv]
    clear hv
    unfold Flt
    go_wp2
    refine ret_flt (p := 6) (g := w.heap.size) (x := .int .i64 (c)) (y := .int .i64 (i)) rfl rfl rfl (by repeat (first | with_reducible exact (HB.out) | with_reducible refine Bk.drew ?_ | with_reducible refine Bk.drewN ?_ _ | with_reducible apply Bk.set1 | with_reducible apply Bk.set0 | with_reducible refine Bk.alloc ?_ _ | with_reducible exact Bk.new _ _ _ | with_reducible refine Bk.other ?_ (by first | omega | (simp; omega)) _)) ⟨by rw [EV.out]; rfl, ?_⟩
    have hbw := HBW.out
    have hle := HLE.out
    repeat (first | exact Below.refl _ _ | assumption | refine bl_drew ?_ | refine bl_drewN ?_ _ | refine bl_alloc ?_ _ | refine Below.setCell ?_ (by first | exact Nat.le_refl _ | exact bl_size (by assumption) | omega | simp) _)
end Go.Proofs.Ytbbhkjljiljadaa
