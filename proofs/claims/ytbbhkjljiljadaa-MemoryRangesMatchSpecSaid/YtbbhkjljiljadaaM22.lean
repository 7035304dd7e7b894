/- Reachable, ByteAt of the reference. Conditions: the memory reads as those pages, which are valid. -/
import Derived.Test.YtbbhkjljiljadaaM21
namespace Go.Proofs.Ytbbhkjljiljadaa
open Go.RowKit
set_option linter.unusedVariables false
set_option linter.unusedSimpArgs false
theorem and8 : ∀ q r : Fin 8, (bits BinOp.and .i64 (q.val : Int) (r.val : Int) == (r.val : Int)) = !((decide (r.val % 2 = 1) && decide (q.val % 2 = 0)) || (decide (r.val / 2 % 2 = 1) && decide (q.val / 2 % 2 = 0)) || (decide (r.val / 4 % 2 = 1) && decide (q.val / 4 % 2 = 0))) := by decide +kernel
theorem and_ok {q r : Int} (hq0 : 0 ≤ q) (hq : q ≤ 7) (hr0 : 0 ≤ r) (hr : r ≤ 7) (h1 : ¬ (r % 2 = 1 ∧ q % 2 = 0)) (h2 : ¬ (r / 2 % 2 = 1 ∧ q / 2 % 2 = 0)) (h4 : ¬ (r / 4 % 2 = 1 ∧ q / 4 % 2 = 0)) : (bits BinOp.and .i64 q r == r) = true := by
  obtain ⟨q, rfl⟩ := Int.eq_ofNat_of_zero_le hq0
  obtain ⟨r, rfl⟩ := Int.eq_ofNat_of_zero_le hr0
  have := and8 ⟨q, by omega⟩ ⟨r, by omega⟩
  simp only at this
  rw [this]
  simp only [Bool.not_eq_true', Bool.or_eq_false_iff, Bool.and_eq_false_iff, decide_eq_false_iff_not]
  omega
theorem and_no {q r : Int} (hq0 : 0 ≤ q) (hq : q ≤ 7) (hr0 : 0 ≤ r) (hr : r ≤ 7) (h : (r % 2 = 1 ∧ q % 2 = 0) ∨ (r / 2 % 2 = 1 ∧ q / 2 % 2 = 0) ∨ (r / 4 % 2 = 1 ∧ q / 4 % 2 = 0)) : (bits BinOp.and .i64 q r == r) = false := by
  obtain ⟨q, rfl⟩ := Int.eq_ofNat_of_zero_le hq0
  obtain ⟨r, rfl⟩ := Int.eq_ofNat_of_zero_le hr0
  have := and8 ⟨q, by omega⟩ ⟨r, by omega⟩
  simp only at this
  rw [this]
  simp only [Bool.not_eq_false', Bool.or_eq_true, Bool.and_eq_true, decide_eq_true_iff]
  omega
theorem can_some {l : List Pg} {a r : Int} (hk : Ok l) {i : Nat} (hi : i < l.length) (hl : look l a = some l[i]) (he : l[i].a = a - a % 256) : can l a r = (bits BinOp.and .i64 l[i].r r == r) := by
  have := hk.pg i hi
  unfold can
  rw [hl, decide_eq_true (by omega)]
  rfl
theorem can_none {l : List Pg} {a r : Int} (hl : look l a = none) : can l a r = false := by
  unfold can
  rw [hl]
  simp
set_option maxHeartbeats 4000000 in
theorem reach_any (v : Value) (l : List Pg) (a r : Int) (w : World) (hm : RdM w v l) (hk : Ok l) (hr0 : 0 ≤ r) (hr7 : r ≤ 7) : Calls Try.prog 52 #[v, .int .i64 a, .int .i64 r] w (BPost (can l a r) w) := by
  have hlen := hk.len
  obtain ⟨A, c, rfl, hr⟩ := id hm
  have HM := As.mk hm
  have HK := As.mk hk
  clear hr hm hk
  go_enter Try.func52, Try.ntmps52
  go_wp2_with fail
  refine (pageof_any _ l a _ HM.out HK.out).mono ?_
  rintro e w1 ⟨i, rfl, hb1, ⟨rfl, hlk⟩ | ⟨k, hkl, rfl, hlk, he⟩⟩
  · have HC := As.mk (can_none (r := r) hlk)
    have HB := As.mk hb1
    clear hlk hb1
    go_wp2
    go_ret
    exact ⟨by rw [HC.out]; rfl, HB.out⟩
  · have HC := As.mk (can_some (r := r) HK.out hkl hlk he)
    obtain ⟨b, off, hAe, hP⟩ := (HM.out.below hb1).at k hkl
    obtain ⟨h1, h2, h3, h4, D, cd, h5, h6, h7⟩ := hP
    subst hAe
    have hpg := HK.out.pg k hkl
    have hq0 := hpg.2.2.2.1
    have hq7 := hpg.2.2.2.2.1
    have HB := As.mk hb1
    clear h1 h2 h3 h5 h6 h7 hpg hlk he hb1
    generalize l[k].r = q at *
    go_wp2
    refine wp_loop_rounds 4 ?_
    go_wp2_with (rw [rounds_succ])
    all_goals
      go_ret
      simp only [beq_iff_eq, beq_eq_false_iff_ne, ne_eq] at *
      first
        | exact ⟨by rw [HC.out, and_ok hq0 hq7 hr0 hr7 (by omega) (by omega) (by omega)]; rfl, HB.out⟩
        | exact ⟨by rw [HC.out, and_no hq0 hq7 hr0 hr7 (by omega)]; rfl, HB.out⟩
set_option maxHeartbeats 4000000 in
theorem byteat_any (v : Value) (l : List Pg) (a : Int) (w : World) (hm : RdM w v l) (hk : Ok l) : Calls Try.prog 43 #[v, .int .i64 a] w (IPost (byte l a) w) := by
  have hlen := hk.len
  obtain ⟨A, c, rfl, hr⟩ := id hm
  have HM := As.mk hm
  have HK := As.mk hk
  clear hr hm hk
  go_enter Try.func43, Try.ntmps43
  go_wp2_with fail
  refine (pageof_any _ l a _ HM.out HK.out).mono ?_
  rintro e w1 ⟨i, rfl, hb1, ⟨rfl, hlk⟩ | ⟨k, hkl, rfl, hlk, he⟩⟩
  · have EB : As (byte l a = 0) := ⟨by unfold byte; rw [hlk]⟩
    have HB := As.mk hb1
    clear hlk hb1
    go_wp2
    go_ret
    exact ⟨by rw [EB.out]; rfl, HB.out⟩
  · obtain ⟨b, off, hAe, hP⟩ := (HM.out.below hb1).at k hkl
    obtain ⟨h1, h2, h3, h4, D, cd, h5, h6, h7⟩ := hP
    subst hAe
    have hpg := HK.out.pg k hkl
    have hd := hpg.2.2.2.2.2
    obtain ⟨z1, z2, z3, z4⟩ := h7
    obtain ⟨b2, off2, rfl, hc2⟩ := z4 (by omega)
    have hc := hc2 (a % 256).toNat (by omega)
    have EB : As (byte l a = l[k].d.getD (a % 256).toNat 0) := ⟨by unfold byte; rw [hlk]⟩
    have HB := As.mk hb1
    have hq : (a % 256).toNat < 256 := by omega
    have ha : a = l[k].a + ((a % 256).toNat : Int) := by omega
    have hp0 := hpg.1
    have hp1 := hpg.2.2.1
    generalize (a % 256).toNat = q at *
    generalize l[k].a = p at *
    rw [hd] at *
    generalize hz : l[k].d.getD q 0 = z at hc EB
    clear hb1 hlk he hpg h1 h2 h4 z1 z2 z3 z4 hc2 hz hd
    subst ha
    have hwr : IntKind.i64.wrap (p + (q : Int) - p) = (q : Int) := by rw [IntKind.wrap_i64]; omega
    go_wp2
    go_quiet (fail)
    go_wp2
    go_ret
    exact ⟨by rw [EB.out]; rfl, bl_drewN HB.out nq⟩
end Go.Proofs.Ytbbhkjljiljadaa
