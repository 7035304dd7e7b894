/- MemoryFault of the reference. Conditions: the memory reads as those pages. -/
import Derived.Test.YtbbhkjljiljadaaM23
namespace Go.Proofs.Ytbbhkjljiljadaa
open Go.RowKit
set_option linter.unusedVariables false
set_option linter.unusedSimpArgs false
def MfRel (l : List Pg) (w : World) (vi : Value) (wr : World) : Prop :=
  ∃ (i : Nat) (last : Int), vi = .int .i64 i ∧ i ≤ l.length ∧ As (vf l = vfFrom (l.drop i) i last) ∧ As (i = 0 → last = -1) ∧ As (∀ h : i - 1 < l.length, 0 < i → last = l[i - 1].a ∧ 0 ≤ last) ∧ As (Below w.heap.size w wr) ∧ As (Bk wr w.heap.size #[.int .i64 0, .int .i64 0] 33)
theorem bad5 {last : Int} {p : Pg} (h : p.a.tmod 256 ≠ 0 ∨ p.a ≤ last ∨ 1048320 < p.a) : pageBad last p = 5 := by unfold pageBad; rw [if_pos h]
theorem bad3 {last : Int} {p : Pg} (h : ¬ (p.a.tmod 256 ≠ 0 ∨ p.a ≤ last ∨ 1048320 < p.a)) (h2 : p.r < 0 ∨ 7 < p.r) : pageBad last p = 3 := by unfold pageBad; rw [if_neg h, if_pos h2]
theorem bad9 {last : Int} {p : Pg} (h : ¬ (p.a.tmod 256 ≠ 0 ∨ p.a ≤ last ∨ 1048320 < p.a)) (h2 : ¬ (p.r < 0 ∨ 7 < p.r)) (h3 : p.d.length ≠ 256) : pageBad last p = 9 := by unfold pageBad; rw [if_neg h, if_neg h2, if_pos h3]
theorem bad0 {last : Int} {p : Pg} (h : ¬ (p.a.tmod 256 ≠ 0 ∨ p.a ≤ last ∨ 1048320 < p.a)) (h2 : ¬ (p.r < 0 ∨ 7 < p.r)) (h3 : p.d.length = 256) : pageBad last p = 0 := by unfold pageBad; rw [if_neg h, if_neg h2, if_neg (by omega)]
set_option maxHeartbeats 8000000 in
theorem memfault_any (v : Value) (l : List Pg) (w : World) (hm : RdM w v l) : Calls Try.prog 30 #[v] w (VPost (vf l) w) := by
  have hlen := hm.len
  obtain ⟨A, c, rfl, hr⟩ := id hm
  have HM := As.mk hm
  clear hr hm
  by_cases h200 : 200 < l.length
  · have e : vf l = (2, -1) := if_pos h200
    rw [e]
    clear e
    go_enter Try.func30, Try.ntmps30
    go_wp2_with fail
    refine (at_any _ _ _).mono ?_
    rintro e w1 ⟨rfl, hb1⟩
    have hB := (Bk.new w #[.int .i64 0, .int .i64 0] 33).below hb1
    have hbw := bl_then (bl_alloc (Below.refl _ w) _) hb1
    have hBc := hB.two
    have hBf := hB.frozen
    have HB := As.mk hB
    have hlt := hB.lt
    clear hb1 hB
    unfold Flt
    go_wp2
    refine ret_flt (p := 2) (g := w.heap.size) (x := .int .i64 2) (y := .int .i64 (-1)) rfl rfl rfl (by repeat (first | with_reducible exact HB.out | with_reducible refine Bk.drew ?_ | with_reducible refine Bk.drewN ?_ _ | with_reducible apply Bk.set1 | with_reducible apply Bk.set0 | with_reducible refine Bk.alloc ?_ _ | with_reducible exact Bk.new _ _ _ | with_reducible refine Bk.other ?_ (by first | omega | (simp; omega)) _)) ⟨rfl, ?_⟩
    repeat (first | exact Below.refl _ _ | assumption | refine bl_drew ?_ | refine bl_drewN ?_ _ | refine bl_alloc ?_ _ | refine Below.setCell ?_ (by first | exact Nat.le_refl _ | exact bl_size (by assumption) | omega | simp) _)
  · have E := As.mk (show vf l = vfFrom l 0 (-1) from if_neg h200)
    go_enter Try.func30, Try.ntmps30
    go_wp2
    go_loopw [3] (fun vi wr => MfRel l w vi wr) (fun vi _ => (l.length - intOf vi).toNat)
    case atStart => exact ⟨0, -1, rfl, by omega, ⟨by simpa using E.out⟩, ⟨fun _ => rfl⟩, ⟨fun _ h => by omega⟩, ⟨by repeat (first | exact Below.refl _ _ | assumption | refine bl_drew ?_ | refine bl_drewN ?_ _ | refine bl_alloc ?_ _ | refine Below.setCell ?_ (by first | exact Nat.le_refl _ | exact bl_size (by assumption) | omega | simp) _)⟩, ⟨Bk.new _ _ _⟩⟩
    case round =>
      obtain ⟨i, last, rfl, hil, hE, hI0, hI1, hb, hR⟩ := hrel
      have hRc := hR.out.two
      have hRf := hR.out.frozen
      have hRl := hR.out.lt
      by_cases hlt : i < l.length
      · obtain ⟨b, off, hAe, hP⟩ := (HM.out.below hb.out).at i hlt
        obtain ⟨h1, h2, h3, h4, D, cd, h5, h6, h7⟩ := hP
        subst hAe
        have hS := As.mk (hE.out.trans (vfFrom_step hlt last))
        have hne : w.heap.size < wr.heap.size := hR.out.lt
        have hprev : 0 < i → ∃ hi : i - 1 < l.length, wr.cell? ⟨b, off + (i - 1) * 3, none⟩ = some (.int .i64 last) ∧ 0 ≤ last := by
          intro h0
          obtain ⟨b', off', e, hq⟩ := (HM.out.below hb.out).at (i - 1) (by omega)
          injection e with e; injection e with e1 e2 _; subst e1 e2
          obtain ⟨q1, q2, q3, _⟩ := hq
          have := hI1.out (by omega) h0
          exact ⟨by omega, by rw [this.1]; exact q3, this.2⟩
        have hall : As (∀ f, vf l = f → Calls Try.prog 19 #[.int .i64 f.1, .int .i64 f.2] = Calls Try.prog 19 #[.int .i64 f.1, .int .i64 f.2]) := ⟨fun _ _ => rfl⟩
        clear hall
        generalize hp : l[i] = p at h1 h2 h3 h4 h5 h6 h7 hS
        have HP := As.mk hp
        clear hp hlen
        have HI := As.mk (And.intro h1 h2)
        have h7 := As.mk h7
        have HPREV := As.mk hprev
        have Hb := hb
        have HBK := As.mk (show ∀ (cs : Array Value), Bk (wr.alloc (.cells cs 68)) w.heap.size #[.int .i64 0, .int .i64 0] 33 from fun cs => hR.out.alloc _)
        clear h1 h2 hprev
        have hlast : As (p.a < 0 → p.a ≤ last) := ⟨fun h => by
          rcases Nat.eq_zero_or_pos i with h0 | h0
          · rw [hI0.out h0]; omega
          · obtain ⟨_, _, h9⟩ := HPREV.out h0; omega⟩
        by_cases c0 : p.a < 0
        · have hc0 := hlast.out c0
          have e : vf l = (5, (i : Int)) := by rw [hS.out, bad5 (last := last) (p := p) (Or.inr (Or.inl hc0))]; rfl
          clear hc0
          have EV := As.mk e
          clear e hS HP hE E HM HI hI0 hI1 HPREV
          go_wp2
          go_quiet (fail)
          go_wp2_with fail
          refine (at_any _ _ _).mono ?_
          rintro e w2 ⟨rfl, hb2⟩
          have hB := (show Bk _ w.heap.size #[.int .i64 0, .int .i64 0] 33 from by repeat (first | with_reducible exact hR.out | with_reducible refine Bk.drew ?_ | with_reducible refine Bk.drewN ?_ _ | with_reducible apply Bk.set1 | with_reducible apply Bk.set0 | with_reducible refine Bk.alloc ?_ _ | with_reducible exact Bk.new _ _ _ | with_reducible refine Bk.other ?_ (by first | omega | (simp; omega)) _)).below hb2
          have hbw := bl_then (show Below w.heap.size w _ from by have hb := Hb.out; repeat (first | exact Below.refl _ _ | assumption | refine bl_drew ?_ | refine bl_drewN ?_ _ | refine bl_alloc ?_ _ | refine Below.setCell ?_ (by first | exact Nat.le_refl _ | exact bl_size (by assumption) | omega | simp) _)) hb2
          clear hRc hRf
          have hBc := hB.two
          have hBf := hB.frozen
          have HB := As.mk hB
          have hlt2 := hB.lt
          clear hb2 hB
          unfold Flt
          go_wp2
          refine ret_flt (p := 2) (g := w.heap.size) (x := .int .i64 5) (y := .int .i64 (i : Int)) rfl rfl rfl (by repeat (first | with_reducible exact HB.out | with_reducible refine Bk.drew ?_ | with_reducible refine Bk.drewN ?_ _ | with_reducible apply Bk.set1 | with_reducible apply Bk.set0 | with_reducible refine Bk.alloc ?_ _ | with_reducible exact Bk.new _ _ _ | with_reducible refine Bk.other ?_ (by first | omega | (simp; omega)) _)) ⟨by rw [EV.out]; rfl, ?_⟩
          repeat (first | exact Below.refl _ _ | assumption | refine bl_drew ?_ | refine bl_drewN ?_ _ | refine bl_alloc ?_ _ | refine Below.setCell ?_ (by first | exact Nat.le_refl _ | exact bl_size (by assumption) | omega | simp) _)
        · have PA0 : As (0 ≤ p.a) := ⟨by omega⟩
          have hdec0 : decide (p.a < 0) = false := decide_eq_false c0
          by_cases c1 : p.a % 256 = 0
          · have c1t : As (p.a.tmod 256 = 0) := ⟨by rw [Int.tmod_eq_emod_of_nonneg (by omega)]; exact c1⟩
            have htm : ∀ [Inhabited Nat], p.a.tmod 256 = 0 := by intro _; exact c1t.out
            by_cases c2 : 1048320 < p.a
            · have e : vf l = (5, (i : Int)) := by rw [hS.out, bad5 (last := last) (p := p) (Or.inr (Or.inr c2))]; rfl
              have hdec1 : decide (1048320 < p.a) = true := decide_eq_true c2
              have EV := As.mk e
              clear e hS HP hE E HM HI hI0 hI1 HPREV
              go_wp2
              go_quiet (fail)
              go_wp2_with fail
              refine (at_any _ _ _).mono ?_
              rintro e w2 ⟨rfl, hb2⟩
              have hB := (show Bk _ w.heap.size #[.int .i64 0, .int .i64 0] 33 from by repeat (first | with_reducible exact hR.out | with_reducible refine Bk.drew ?_ | with_reducible refine Bk.drewN ?_ _ | with_reducible apply Bk.set1 | with_reducible apply Bk.set0 | with_reducible refine Bk.alloc ?_ _ | with_reducible exact Bk.new _ _ _ | with_reducible refine Bk.other ?_ (by first | omega | (simp; omega)) _)).below hb2
              have hbw := bl_then (show Below w.heap.size w _ from by have hb := Hb.out; repeat (first | exact Below.refl _ _ | assumption | refine bl_drew ?_ | refine bl_drewN ?_ _ | refine bl_alloc ?_ _ | refine Below.setCell ?_ (by first | exact Nat.le_refl _ | exact bl_size (by assumption) | omega | simp) _)) hb2
              clear hRc hRf
              have hBc := hB.two
              have hBf := hB.frozen
              have HB := As.mk hB
              have hlt2 := hB.lt
              clear hb2 hB
              unfold Flt
              go_wp2
              refine ret_flt (p := 2) (g := w.heap.size) (x := .int .i64 5) (y := .int .i64 (i : Int)) rfl rfl rfl (by repeat (first | with_reducible exact HB.out | with_reducible refine Bk.drew ?_ | with_reducible refine Bk.drewN ?_ _ | with_reducible apply Bk.set1 | with_reducible apply Bk.set0 | with_reducible refine Bk.alloc ?_ _ | with_reducible exact Bk.new _ _ _ | with_reducible refine Bk.other ?_ (by first | omega | (simp; omega)) _)) ⟨by rw [EV.out]; rfl, ?_⟩
              repeat (first | exact Below.refl _ _ | assumption | refine bl_drew ?_ | refine bl_drewN ?_ _ | refine bl_alloc ?_ _ | refine Below.setCell ?_ (by first | exact Nat.le_refl _ | exact bl_size (by assumption) | omega | simp) _)
            · have hdec1 : decide (1048320 < p.a) = false := decide_eq_false c2
              rcases Nat.eq_zero_or_pos i with h0 | h0
              · have n5 : As (¬ (p.a.tmod 256 ≠ 0 ∨ p.a ≤ last ∨ 1048320 < p.a)) := ⟨by rw [hI0.out h0]; rintro (h | h | h); exact h c1t.out; omega; omega⟩
                have hdec2 : decide (0 < i) = false := decide_eq_false (by omega)
                have H0 := As.mk h0
                clear h0
                go_wp2
                go_quiet (fail)
                by_cases hr : 0 ≤ p.r ∧ p.r ≤ 7
                · have hin : inB p.r 0 7 = true := decide_eq_true hr
                  by_cases hd : p.d.length = 256
                  · have e := As.mk (show vf l = vfFrom (l.drop (i + 1)) (i + 1) p.a from by rw [hS.out, bad0 (last := last) (p := p) n5.out (by omega) hd]; rfl)
                    go_wp2_with fail
                    refine (in_any _ _ _ _).mono ?_
                    rintro e2 w3 ⟨rfl, rfl⟩
                    rw [hin]
                    clear hin
                    go_wp2
                    go_roundw
                    case rel => exact ⟨i + 1, p.a, by go_num, by omega, e, ⟨fun h => by omega⟩, ⟨fun h h2 => ⟨by rw [← HP.out]; rfl, PA0.out⟩⟩, ⟨by have hb := Hb.out; repeat (first | exact Below.refl _ _ | assumption | refine bl_drew ?_ | refine bl_drewN ?_ _ | refine bl_alloc ?_ _ | refine Below.setCell ?_ (by first | exact Nat.le_refl _ | exact bl_size (by assumption) | omega | simp) _)⟩, ⟨by repeat (first | with_reducible exact hR.out | with_reducible refine Bk.drew ?_ | with_reducible refine Bk.drewN ?_ _ | with_reducible apply Bk.set1 | with_reducible apply Bk.set0 | with_reducible refine Bk.alloc ?_ _ | with_reducible exact Bk.new _ _ _ | with_reducible refine Bk.other ?_ (by first | omega | (simp; omega)) _)⟩⟩
                    case measure => simp [intOf]; omega
                  · have e : vf l = (9, (i : Int)) := by rw [hS.out, bad9 (last := last) (p := p) n5.out (by omega) hd]; rfl
                    have hd1 : ((p.d.length : Int) == 256) = false := by simp; omega
                    have hd2 : ((p.d.length : Int) != 256) = true := by simp; omega
                    go_wp2_with fail
                    refine (in_any _ _ _ _).mono ?_
                    rintro e2 w3 ⟨rfl, rfl⟩
                    rw [hin]
                    clear hin
                    have EV := As.mk e
                    clear e hS HP hE E HM HI hI0 hI1 HPREV
                    go_wp2_with fail
                    refine (at_any _ _ _).mono ?_
                    rintro e w2 ⟨rfl, hb2⟩
                    have hB := (show Bk _ w.heap.size #[.int .i64 0, .int .i64 0] 33 from by repeat (first | with_reducible exact hR.out | with_reducible refine Bk.drew ?_ | with_reducible refine Bk.drewN ?_ _ | with_reducible apply Bk.set1 | with_reducible apply Bk.set0 | with_reducible refine Bk.alloc ?_ _ | with_reducible exact Bk.new _ _ _ | with_reducible refine Bk.other ?_ (by first | omega | (simp; omega)) _)).below hb2
                    have hbw := bl_then (show Below w.heap.size w _ from by have hb := Hb.out; repeat (first | exact Below.refl _ _ | assumption | refine bl_drew ?_ | refine bl_drewN ?_ _ | refine bl_alloc ?_ _ | refine Below.setCell ?_ (by first | exact Nat.le_refl _ | exact bl_size (by assumption) | omega | simp) _)) hb2
                    clear hRc hRf
                    have hBc := hB.two
                    have hBf := hB.frozen
                    have HB := As.mk hB
                    have hlt2 := hB.lt
                    clear hb2 hB
                    unfold Flt
                    go_wp2
                    refine ret_flt (p := 2) (g := w.heap.size) (x := .int .i64 9) (y := .int .i64 (i : Int)) rfl rfl rfl (by repeat (first | with_reducible exact HB.out | with_reducible refine Bk.drew ?_ | with_reducible refine Bk.drewN ?_ _ | with_reducible apply Bk.set1 | with_reducible apply Bk.set0 | with_reducible refine Bk.alloc ?_ _ | with_reducible exact Bk.new _ _ _ | with_reducible refine Bk.other ?_ (by first | omega | (simp; omega)) _)) ⟨by rw [EV.out]; rfl, ?_⟩
                    repeat (first | exact Below.refl _ _ | assumption | refine bl_drew ?_ | refine bl_drewN ?_ _ | refine bl_alloc ?_ _ | refine Below.setCell ?_ (by first | exact Nat.le_refl _ | exact bl_size (by assumption) | omega | simp) _)
                · have hin : inB p.r 0 7 = false := decide_eq_false hr
                  have e : vf l = (3, (i : Int)) := by rw [hS.out, bad3 (last := last) (p := p) n5.out (by omega)]; rfl
                  go_wp2_with fail
                  refine (in_any _ _ _ _).mono ?_
                  rintro e2 w3 ⟨rfl, rfl⟩
                  rw [hin]
                  clear hin
                  have EV := As.mk e
                  clear e hS HP hE E HM HI hI0 hI1 HPREV
                  go_wp2_with fail
                  refine (at_any _ _ _).mono ?_
                  rintro e w2 ⟨rfl, hb2⟩
                  have hB := (show Bk _ w.heap.size #[.int .i64 0, .int .i64 0] 33 from by repeat (first | with_reducible exact hR.out | with_reducible refine Bk.drew ?_ | with_reducible refine Bk.drewN ?_ _ | with_reducible apply Bk.set1 | with_reducible apply Bk.set0 | with_reducible refine Bk.alloc ?_ _ | with_reducible exact Bk.new _ _ _ | with_reducible refine Bk.other ?_ (by first | omega | (simp; omega)) _)).below hb2
                  have hbw := bl_then (show Below w.heap.size w _ from by have hb := Hb.out; repeat (first | exact Below.refl _ _ | assumption | refine bl_drew ?_ | refine bl_drewN ?_ _ | refine bl_alloc ?_ _ | refine Below.setCell ?_ (by first | exact Nat.le_refl _ | exact bl_size (by assumption) | omega | simp) _)) hb2
                  clear hRc hRf
                  have hBc := hB.two
                  have hBf := hB.frozen
                  have HB := As.mk hB
                  have hlt2 := hB.lt
                  clear hb2 hB
                  unfold Flt
                  go_wp2
                  refine ret_flt (p := 2) (g := w.heap.size) (x := .int .i64 3) (y := .int .i64 (i : Int)) rfl rfl rfl (by repeat (first | with_reducible exact HB.out | with_reducible refine Bk.drew ?_ | with_reducible refine Bk.drewN ?_ _ | with_reducible apply Bk.set1 | with_reducible apply Bk.set0 | with_reducible refine Bk.alloc ?_ _ | with_reducible exact Bk.new _ _ _ | with_reducible refine Bk.other ?_ (by first | omega | (simp; omega)) _)) ⟨by rw [EV.out]; rfl, ?_⟩
                  repeat (first | exact Below.refl _ _ | assumption | refine bl_drew ?_ | refine bl_drewN ?_ _ | refine bl_alloc ?_ _ | refine Below.setCell ?_ (by first | exact Nat.le_refl _ | exact bl_size (by assumption) | omega | simp) _)
              · obtain ⟨hi1, hpc, hl0⟩ := HPREV.out h0
                have hw1 : IntKind.i64.wrap ((i : Int) - 1) = (i : Int) - 1 := by rw [IntKind.wrap_i64]; omega
                have hpc2 : ∀ o, (wr.alloc o).cell? ⟨b, off + (i - 1) * 3, none⟩ = some (.int .i64 last) := fun o => bl_cell (bl_alloc (Below.refl _ _) o) hpc
                clear hpc
                have hi2 : (1 : Int) ≤ (i : Int) := by omega
                have hi3 : ((i : Int) - 1).toNat = i - 1 := by omega
                have hi5 : (0 : Int) ≤ (i : Int) - 1 := by omega
                have hi6 : (i : Int) - 1 < (l.length : Int) := by omega
                have hdec2 : decide ((0 : Int) < (i : Int)) = true := decide_eq_true (by omega)
                by_cases c3 : p.a ≤ last
                · have e : vf l = (5, (i : Int)) := by rw [hS.out, bad5 (last := last) (p := p) (Or.inr (Or.inl c3))]; rfl
                  have hdec3 : decide (p.a ≤ last) = true := decide_eq_true c3
                  have EV := As.mk e
                  clear e hS HP hE E HM HI hI0 hI1 HPREV
                  go_wp2
                  go_quiet (fail)
                  go_wp2_with fail
                  refine (at_any _ _ _).mono ?_
                  rintro e w2 ⟨rfl, hb2⟩
                  have hB := (show Bk _ w.heap.size #[.int .i64 0, .int .i64 0] 33 from by repeat (first | with_reducible exact hR.out | with_reducible refine Bk.drew ?_ | with_reducible refine Bk.drewN ?_ _ | with_reducible apply Bk.set1 | with_reducible apply Bk.set0 | with_reducible refine Bk.alloc ?_ _ | with_reducible exact Bk.new _ _ _ | with_reducible refine Bk.other ?_ (by first | omega | (simp; omega)) _)).below hb2
                  have hbw := bl_then (show Below w.heap.size w _ from by have hb := Hb.out; repeat (first | exact Below.refl _ _ | assumption | refine bl_drew ?_ | refine bl_drewN ?_ _ | refine bl_alloc ?_ _ | refine Below.setCell ?_ (by first | exact Nat.le_refl _ | exact bl_size (by assumption) | omega | simp) _)) hb2
                  clear hRc hRf
                  have hBc := hB.two
                  have hBf := hB.frozen
                  have HB := As.mk hB
                  have hlt2 := hB.lt
                  clear hb2 hB
                  unfold Flt
                  go_wp2
                  refine ret_flt (p := 2) (g := w.heap.size) (x := .int .i64 5) (y := .int .i64 (i : Int)) rfl rfl rfl (by repeat (first | with_reducible exact HB.out | with_reducible refine Bk.drew ?_ | with_reducible refine Bk.drewN ?_ _ | with_reducible apply Bk.set1 | with_reducible apply Bk.set0 | with_reducible refine Bk.alloc ?_ _ | with_reducible exact Bk.new _ _ _ | with_reducible refine Bk.other ?_ (by first | omega | (simp; omega)) _)) ⟨by rw [EV.out]; rfl, ?_⟩
                  repeat (first | exact Below.refl _ _ | assumption | refine bl_drew ?_ | refine bl_drewN ?_ _ | refine bl_alloc ?_ _ | refine Below.setCell ?_ (by first | exact Nat.le_refl _ | exact bl_size (by assumption) | omega | simp) _)
                · have n5 : As (¬ (p.a.tmod 256 ≠ 0 ∨ p.a ≤ last ∨ 1048320 < p.a)) := ⟨by rintro (h | h | h); exact h c1t.out; omega; omega⟩
                  have hdec3 : decide (p.a ≤ last) = false := decide_eq_false c3
                  go_wp2
                  go_quiet (fail)
                  by_cases hr : 0 ≤ p.r ∧ p.r ≤ 7
                  · have hin : inB p.r 0 7 = true := decide_eq_true hr
                    by_cases hd : p.d.length = 256
                    · have e := As.mk (show vf l = vfFrom (l.drop (i + 1)) (i + 1) p.a from by rw [hS.out, bad0 (last := last) (p := p) n5.out (by omega) hd]; rfl)
                      go_wp2_with fail
                      refine (in_any _ _ _ _).mono ?_
                      rintro e2 w3 ⟨rfl, rfl⟩
                      rw [hin]
                      clear hin
                      go_wp2
                      go_roundw
                      case rel => exact ⟨i + 1, p.a, by go_num, by omega, e, ⟨fun h => by omega⟩, ⟨fun h h2 => ⟨by rw [← HP.out]; rfl, PA0.out⟩⟩, ⟨by have hb := Hb.out; repeat (first | exact Below.refl _ _ | assumption | refine bl_drew ?_ | refine bl_drewN ?_ _ | refine bl_alloc ?_ _ | refine Below.setCell ?_ (by first | exact Nat.le_refl _ | exact bl_size (by assumption) | omega | simp) _)⟩, ⟨by repeat (first | with_reducible exact hR.out | with_reducible refine Bk.drew ?_ | with_reducible refine Bk.drewN ?_ _ | with_reducible apply Bk.set1 | with_reducible apply Bk.set0 | with_reducible refine Bk.alloc ?_ _ | with_reducible exact Bk.new _ _ _ | with_reducible refine Bk.other ?_ (by first | omega | (simp; omega)) _)⟩⟩
                      case measure => simp [intOf]; omega
                    · have e : vf l = (9, (i : Int)) := by rw [hS.out, bad9 (last := last) (p := p) n5.out (by omega) hd]; rfl
                      have hd1 : ((p.d.length : Int) == 256) = false := by simp; omega
                      have hd2 : ((p.d.length : Int) != 256) = true := by simp; omega
                      go_wp2_with fail
                      refine (in_any _ _ _ _).mono ?_
                      rintro e2 w3 ⟨rfl, rfl⟩
                      rw [hin]
                      clear hin
                      have EV := As.mk e
                      clear e hS HP hE E HM HI hI0 hI1 HPREV
                      go_wp2_with fail
                      refine (at_any _ _ _).mono ?_
                      rintro e w2 ⟨rfl, hb2⟩
                      have hB := (show Bk _ w.heap.size #[.int .i64 0, .int .i64 0] 33 from by repeat (first | with_reducible exact hR.out | with_reducible refine Bk.drew ?_ | with_reducible refine Bk.drewN ?_ _ | with_reducible apply Bk.set1 | with_reducible apply Bk.set0 | with_reducible refine Bk.alloc ?_ _ | with_reducible exact Bk.new _ _ _ | with_reducible refine Bk.other ?_ (by first | omega | (simp; omega)) _)).below hb2
                      have hbw := bl_then (show Below w.heap.size w _ from by have hb := Hb.out; repeat (first | exact Below.refl _ _ | assumption | refine bl_drew ?_ | refine bl_drewN ?_ _ | refine bl_alloc ?_ _ | refine Below.setCell ?_ (by first | exact Nat.le_refl _ | exact bl_size (by assumption) | omega | simp) _)) hb2
                      clear hRc hRf
                      have hBc := hB.two
                      have hBf := hB.frozen
                      have HB := As.mk hB
                      have hlt2 := hB.lt
                      clear hb2 hB
                      unfold Flt
                      go_wp2
                      refine ret_flt (p := 2) (g := w.heap.size) (x := .int .i64 9) (y := .int .i64 (i : Int)) rfl rfl rfl (by repeat (first | with_reducible exact HB.out | with_reducible refine Bk.drew ?_ | with_reducible refine Bk.drewN ?_ _ | with_reducible apply Bk.set1 | with_reducible apply Bk.set0 | with_reducible refine Bk.alloc ?_ _ | with_reducible exact Bk.new _ _ _ | with_reducible refine Bk.other ?_ (by first | omega | (simp; omega)) _)) ⟨by rw [EV.out]; rfl, ?_⟩
                      repeat (first | exact Below.refl _ _ | assumption | refine bl_drew ?_ | refine bl_drewN ?_ _ | refine bl_alloc ?_ _ | refine Below.setCell ?_ (by first | exact Nat.le_refl _ | exact bl_size (by assumption) | omega | simp) _)
                  · have hin : inB p.r 0 7 = false := decide_eq_false hr
                    have e : vf l = (3, (i : Int)) := by rw [hS.out, bad3 (last := last) (p := p) n5.out (by omega)]; rfl
                    go_wp2_with fail
                    refine (in_any _ _ _ _).mono ?_
                    rintro e2 w3 ⟨rfl, rfl⟩
                    rw [hin]
                    clear hin
                    have EV := As.mk e
                    clear e hS HP hE E HM HI hI0 hI1 HPREV
                    go_wp2_with fail
                    refine (at_any _ _ _).mono ?_
                    rintro e w2 ⟨rfl, hb2⟩
                    have hB := (show Bk _ w.heap.size #[.int .i64 0, .int .i64 0] 33 from by repeat (first | with_reducible exact hR.out | with_reducible refine Bk.drew ?_ | with_reducible refine Bk.drewN ?_ _ | with_reducible apply Bk.set1 | with_reducible apply Bk.set0 | with_reducible refine Bk.alloc ?_ _ | with_reducible exact Bk.new _ _ _ | with_reducible refine Bk.other ?_ (by first | omega | (simp; omega)) _)).below hb2
                    have hbw := bl_then (show Below w.heap.size w _ from by have hb := Hb.out; repeat (first | exact Below.refl _ _ | assumption | refine bl_drew ?_ | refine bl_drewN ?_ _ | refine bl_alloc ?_ _ | refine Below.setCell ?_ (by first | exact Nat.le_refl _ | exact bl_size (by assumption) | omega | simp) _)) hb2
                    clear hRc hRf
                    have hBc := hB.two
                    have hBf := hB.frozen
                    have HB := As.mk hB
                    have hlt2 := hB.lt
                    clear hb2 hB
                    unfold Flt
                    go_wp2
                    refine ret_flt (p := 2) (g := w.heap.size) (x := .int .i64 3) (y := .int .i64 (i : Int)) rfl rfl rfl (by repeat (first | with_reducible exact HB.out | with_reducible refine Bk.drew ?_ | with_reducible refine Bk.drewN ?_ _ | with_reducible apply Bk.set1 | with_reducible apply Bk.set0 | with_reducible refine Bk.alloc ?_ _ | with_reducible exact Bk.new _ _ _ | with_reducible refine Bk.other ?_ (by first | omega | (simp; omega)) _)) ⟨by rw [EV.out]; rfl, ?_⟩
                    repeat (first | exact Below.refl _ _ | assumption | refine bl_drew ?_ | refine bl_drewN ?_ _ | refine bl_alloc ?_ _ | refine Below.setCell ?_ (by first | exact Nat.le_refl _ | exact bl_size (by assumption) | omega | simp) _)
          · have e : vf l = (5, (i : Int)) := by rw [hS.out, bad5 (last := last) (p := p) (Or.inl (by rw [Int.tmod_eq_emod_of_nonneg (by omega)]; exact c1))]; rfl
            obtain ⟨rm, hrm, hrz⟩ : ∃ rm : Int, As (p.a.tmod 256 = rm) ∧ rm ≠ 0 := ⟨p.a % 256, ⟨Int.tmod_eq_emod_of_nonneg (by omega)⟩, c1⟩
            have htm : ∀ [Inhabited Nat], p.a.tmod 256 = rm := by intro _; exact hrm.out
            have hm1 : (rm == 0) = false := by simpa using hrz
            have hm2 : (rm != 0) = true := by simpa using hrz
            clear c1 hrz
            have EV := As.mk e
            clear e hS HP hE E HM HI hI0 hI1 HPREV
            go_wp2
            go_quiet (fail)
            go_wp2_with fail
            refine (at_any _ _ _).mono ?_
            rintro e w2 ⟨rfl, hb2⟩
            have hB := (show Bk _ w.heap.size #[.int .i64 0, .int .i64 0] 33 from by repeat (first | with_reducible exact hR.out | with_reducible refine Bk.drew ?_ | with_reducible refine Bk.drewN ?_ _ | with_reducible apply Bk.set1 | with_reducible apply Bk.set0 | with_reducible refine Bk.alloc ?_ _ | with_reducible exact Bk.new _ _ _ | with_reducible refine Bk.other ?_ (by first | omega | (simp; omega)) _)).below hb2
            have hbw := bl_then (show Below w.heap.size w _ from by have hb := Hb.out; repeat (first | exact Below.refl _ _ | assumption | refine bl_drew ?_ | refine bl_drewN ?_ _ | refine bl_alloc ?_ _ | refine Below.setCell ?_ (by first | exact Nat.le_refl _ | exact bl_size (by assumption) | omega | simp) _)) hb2
            clear hRc hRf
            have hBc := hB.two
            have hBf := hB.frozen
            have HB := As.mk hB
            have hlt2 := hB.lt
            clear hb2 hB
            unfold Flt
            go_wp2
            refine ret_flt (p := 2) (g := w.heap.size) (x := .int .i64 5) (y := .int .i64 (i : Int)) rfl rfl rfl (by repeat (first | with_reducible exact HB.out | with_reducible refine Bk.drew ?_ | with_reducible refine Bk.drewN ?_ _ | with_reducible apply Bk.set1 | with_reducible apply Bk.set0 | with_reducible refine Bk.alloc ?_ _ | with_reducible exact Bk.new _ _ _ | with_reducible refine Bk.other ?_ (by first | omega | (simp; omega)) _)) ⟨by rw [EV.out]; rfl, ?_⟩
            repeat (first | exact Below.refl _ _ | assumption | refine bl_drew ?_ | refine bl_drewN ?_ _ | refine bl_alloc ?_ _ | refine Below.setCell ?_ (by first | exact Nat.le_refl _ | exact bl_size (by assumption) | omega | simp) _)
      · have hS := hE.out.trans (vfFrom_end l i (by omega) last)
        have HS := As.mk hS
        clear hS
        go_wp2
        refine ret_flt (p := 2) (g := w.heap.size) (x := .int .i64 0) (y := .int .i64 0) rfl rfl rfl (by repeat (first | with_reducible exact hR.out | with_reducible refine Bk.drew ?_ | with_reducible refine Bk.drewN ?_ _ | with_reducible apply Bk.set1 | with_reducible apply Bk.set0 | with_reducible refine Bk.alloc ?_ _ | with_reducible exact Bk.new _ _ _ | with_reducible refine Bk.other ?_ (by first | omega | (simp; omega)) _)) ⟨by rw [HS.out]; rfl, ?_⟩
        have hb := hb.out
        repeat (first | exact Below.refl _ _ | assumption | refine bl_drew ?_ | refine bl_drewN ?_ _ | refine bl_alloc ?_ _ | refine Below.setCell ?_ (by first | exact Nat.le_refl _ | exact bl_size (by assumption) | omega | simp) _)
end Go.Proofs.Ytbbhkjljiljadaa
