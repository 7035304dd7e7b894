-- PRINTED BY print.sh 35421559b90ae4d0a3588c463048766b98c2df88dd9212a6774a882060cdf62d: not written by this session
import Derived.Test.YtdbeeblicpdphaaPAluTakenMatchesSpecx0
namespace Go.Proofs.Ytdbeeblicpdphaa.PAluTakenMatchesSpec
open Go.RowKit Go.Proofs.YtdbeeblicpdphaaW.PrintWords Go.Proofs.YtdbeeblicpdphaaW.PrintLast Go.Proofs.YtdbeeblicpdphaaW.PrintMore
attribute [local go_sem] max2_int min2_int max_two min_two max_three min_three max_four min_four   -- for this text's walks alone
set_option linter.unusedVariables false
set_option linter.unusedSimpArgs false

/-! ### alu_of: function 44 -/
def alu_of.l0 : Nat → List Bool → Int → Int → Int → Int → Option (Int × Int)
  | 0, _, _, _, _, _ => none
  | k + 1, x19, x20, x21, x103000, x103001 => if x21 < x20 then (if 0 ≤ x21 then (if x21 < (x19.length : Int) then (if rdOf false x19 x21 = true then (alu_of.l0 k x19 x20 (wrap64 (x21 + 1)) x103000 (Go.bits .or .i64 x103001 (shl .i64 1 x21))) else (alu_of.l0 k x19 x20 (wrap64 (x21 + 1)) x103000 x103001)) else (none)) else (none)) else (some (x103000, x103001))
def alu_of.f (k : Nat) (a0 : Int) (a1 : Bool) (a2 : Bool) : Option (Int × Int) := (some (([(a0 == 0), ((a0 / 2147483648) == 1), a1, a2] : List Bool) : List Bool)).bind fun y103 => (alu_of.l0 k y103 (y103.length : Int) 0 a0 0)
theorem alu_of.mono_l : ∀ k, (∀ y0 y1 y2 y3 y4, LeO (alu_of.l0 k y0 y1 y2 y3 y4) (alu_of.l0 (k + 1) y0 y1 y2 y3 y4))
  | 0 => fun _ _ _ _ _ r h => by simp [alu_of.l0] at h
  | k + 1 => by
    have ih0 := alu_of.mono_l k
    · intro y0 y1 y2 y3 y4
      unfold alu_of.l0
      repeat' first
      | (with_reducible exact ih0 _ _ _ _ _)
      | (with_reducible exact LeO.refl _)
      | (with_reducible exact LeO.none _)
      | (with_reducible refine LeO.ite ?_ ?_)
      | (with_reducible refine LeO.bind ?_ (fun _ => ?_))
      | exact ih0 _ _ _ _ _
      | exact LeO.none _
      | refine LeO.ite ?_ ?_
      | refine LeO.bind ?_ (fun _ => ?_)
theorem alu_of.mono : ∀ a0 a1 a2 k, LeO (alu_of.f k a0 a1 a2) (alu_of.f (k + 1) a0 a1 a2) := by
  intro a0 a1 a2 k
  have ih0 := alu_of.mono_l k
  unfold alu_of.f
  repeat' first
      | (with_reducible exact ih0 _ _ _ _ _)
      | (with_reducible exact LeO.refl _)
      | (with_reducible exact LeO.none _)
      | (with_reducible refine LeO.ite ?_ ?_)
      | (with_reducible refine LeO.bind ?_ (fun _ => ?_))
      | exact ih0 _ _ _ _ _
      | exact LeO.none _
      | refine LeO.ite ?_ ?_
      | refine LeO.bind ?_ (fun _ => ?_)
set_option maxHeartbeats 8000000 in
set_option maxRecDepth 100000 in
theorem alu_of.calls (k : Nat) (a0 : Int) (a1 : Bool) (a2 : Bool) (r1 : Int) (r2 : Int) (w : World) (h : alu_of.f k a0 a1 a2 = some (r1, r2)) :
    Calls Try.prog 44 #[.int .u32 a0, .bool a1, .bool a2] w fun e w' => e = .returned (.agg #[.int .u32 r1, .int .i64 r2]) ∧ Below w.heap.size w w' := by
  have hu52 := Try.underlying52
  have HB := Aside0.mk (Below.refl w.heap.size w)
  have H : ((some (([(a0 == 0), ((a0 / 2147483648) == 1), a1, a2] : List Bool) : List Bool)).bind fun y103 => (alu_of.l0 k y103 (y103.length : Int) 0 a0 0)) = some (r1, r2) := h
  clear h
  obtain ⟨y103, hy103⟩ : ∃ y_ : List Bool, y_ = (([(a0 == 0), ((a0 / 2147483648) == 1), a1, a2] : List Bool)) := ⟨_, rfl⟩
  replace H : (alu_of.l0 k y103 (y103.length : Int) 0 a0 0) = some (r1, r2) := by first | (rw [hy103]; with_reducible exact H) | (have H2_ := (Option.bind_some _ _).symm.trans H; rw [hy103]; with_reducible exact H2_) | (have H2_ := (Option.bind_some _ _).symm.trans H; with_reducible exact H2_) | with_reducible exact H | (rw [hy103]; exact H) | exact H
  have Ny103 := Aside0.mk hy103
  clear hy103
  have H' := Aside0.mk H
  clear H
  go_enter Try.func44, Try.ntmps44
  go_wp2_with (first | ((with_reducible refine gate_dst (N := 6) rfl ?_); refine box_event ?hg (N := 6) ?hd (cs := #[.int .u32 0, .int .i64 0]) (t := 52) ?hr ?_; (case hd => rfl); (case hg => rfl); (case hr => first | (go_simp; done) | (go_simp; rfl)); intro gb101 hg w4 hbox hb; have n0_ := Aside0.mk (below_step (by repeat (first | (with_reducible first | exact HB.out | apply below_alloc | apply pw_below_drewN | apply below_drew1) | exact HB.out)) hb); have n1_ := Aside0.mk (hbox); have n2_ := Aside0.mk ((by rw [hg]; exact (below_size (by repeat (first | (with_reducible first | exact HB.out | apply below_alloc | apply pw_below_drewN | apply below_drew1) | exact HB.out))) : w.heap.size ≤ gb101)); have n3_ := Aside0.mk ((by rw [hg]; exact (below_size (by repeat (first | (with_reducible first | exact HB.out | apply below_alloc | apply pw_below_drewN | apply below_drew1) | exact HB.out))) : w.heap.size ≤ gb101)); clear HB; have HB := n0_; have BK101 := n1_; have GW101 := n2_; have GE101 := n3_; clear n0_ n1_ n2_ n3_; clear hb hbox hg) | ((with_reducible refine gate_dst (N := 7) rfl ?_); refine box_event ?hg (N := 7) ?hd (cs := #[.int .u32 0, .int .i64 0]) (t := 52) ?hr ?_; (case hd => rfl); (case hg => rfl); (case hr => first | (go_simp; done) | (go_simp; rfl)); intro gb102 hg w5 hbox hb; have n0_ := Aside0.mk (blk_below (g := gb101) (o := .cells #[.int .u32 0, .int .i64 0] 52 (0, 0)) (by (with_reducible repeat (first | refine blk_drewN ?_ _ | refine blk_drew ?_ | refine blk_alloc ?_ _)); exact BK101.out) hb); have n1_ := Aside0.mk (below_step (by repeat (first | (with_reducible first | exact HB.out | apply below_alloc | apply pw_below_drewN | apply below_drew1 | refine below_set ?_ GE101.out) | exact HB.out)) hb); have n2_ := Aside0.mk (hbox); have n3_ := Aside0.mk ((by rw [hg]; exact (below_size (by repeat (first | (with_reducible first | exact HB.out | apply below_alloc | apply pw_below_drewN | apply below_drew1 | refine below_set ?_ GE101.out) | exact HB.out))) : w.heap.size ≤ gb102)); have n4_ := Aside0.mk ((by rw [hg]; exact (below_size (by repeat (first | (with_reducible first | exact HB.out | apply below_alloc | apply pw_below_drewN | apply below_drew1 | refine below_set ?_ GE101.out) | exact HB.out))) : w.heap.size ≤ gb102)); have n5_ := Aside0.mk ((by rw [hg]; exact Nat.ne_of_lt (blk_lt (g := gb101) (o := .cells #[.int .u32 0, .int .i64 0] 52 (0, 0)) (by (with_reducible repeat (first | refine blk_drewN ?_ _ | refine blk_drew ?_ | refine blk_alloc ?_ _)); exact BK101.out)) : gb101 ≠ gb102)); have n6_ := Aside0.mk ((by rw [hg]; exact Nat.ne_of_gt (blk_lt (g := gb101) (o := .cells #[.int .u32 0, .int .i64 0] 52 (0, 0)) (by (with_reducible repeat (first | refine blk_drewN ?_ _ | refine blk_drew ?_ | refine blk_alloc ?_ _)); exact BK101.out)) : gb102 ≠ gb101)); clear BK101; clear HB; have BK101 := n0_; have HB := n1_; have BK102 := n2_; have GW102 := n3_; have GE102 := n4_; have NB101_102 := n5_; have NB102_101 := n6_; clear n0_ n1_ n2_ n3_ n4_ n5_ n6_; clear hb hbox hg; have hnb6 := NB102_101.out; have hnc6 := NB101_102.out; have hcz7_0 : w5.cell? ⟨gb102, 0, none⟩ = some (.int .u32 0) := (blk_cell BK102.out 0).trans rfl; have hcz7_1 : w5.cell? ⟨gb102, 1, none⟩ = some (.int .i64 0) := (blk_cell BK102.out 1).trans rfl; have hfz7_0 := blk_frozen BK102.out 0; have hfz7_1 := blk_frozen BK102.out 1) | ((with_reducible refine gate_dst (N := 19) rfl ?_); refine Kd.R_lit Kd.bool _ 4 ?hg (N := 19) ?hd (xs := ([(a0 == 0), ((a0 / 2147483648) == 1), a1, a2] : List Bool)) (inner := [.bool (a0 == 0), .bool ((a0 / 2147483648) == 1), .bool a1, .bool a2]) (ok := fun _ => True) (okp := fun _ => True) ?hr ?hp (fun _ hk => hk) trivial (Below.refl _ _) (Nat.le_refl _) (by simp) ?_; (case hd => rfl); (case hg => rfl); (case hr => first | (go_simp; done) | (go_simp; rfl)); (case hp => exact (Reps.one (show Kd.M Kd.bool _ _ _ (a0 == 0) [.bool (a0 == 0)] from rfl) (Reps.one (show Kd.M Kd.bool _ _ _ ((a0 / 2147483648) == 1) [.bool ((a0 / 2147483648) == 1)] from rfl) (Reps.one (show Kd.M Kd.bool _ _ _ a1 [.bool a1] from rfl) (Reps.one (show Kd.M Kd.bool _ _ _ a2 [.bool a2] from rfl) (Reps.none _ _)))))); intro v104 w8 ho9 hb hg_ hnew_; clear hg_ hnew_; (first | rw [← Ny103.out] at ho9 | (simp only [Int.reduceToNat] at ho9; rw [← Ny103.out] at ho9)); have n0_ := Aside0.mk (Kd.R_lower ho9 (below_size (by repeat (first | (with_reducible first | exact HB.out | apply below_alloc | apply pw_below_drewN | apply below_drew1 | refine below_set ?_ GE101.out | refine below_set ?_ GE102.out) | exact HB.out)))); have n1_ := Aside0.mk (blk_below (g := gb101) (o := .cells #[.int .u32 0, .int .i64 0] 52 (0, 0)) (by (with_reducible repeat (first | refine blk_drewN ?_ _ | refine blk_drew ?_ | refine blk_alloc ?_ _)); refine blk_far ?_ NB101_102.out _; (with_reducible repeat (first | refine blk_drewN ?_ _ | refine blk_drew ?_ | refine blk_alloc ?_ _)); refine blk_far ?_ NB101_102.out _; (with_reducible repeat (first | refine blk_drewN ?_ _ | refine blk_drew ?_ | refine blk_alloc ?_ _)); exact BK101.out) hb); have n2_ := Aside0.mk (blk_below (g := gb102) (o := .cells #[.int .u32 a0, .int .i64 0] 52 (0, 0)) (by (with_reducible repeat (first | refine blk_drewN ?_ _ | refine blk_drew ?_ | refine blk_alloc ?_ _)); refine blk_put (cs := #[.int .u32 a0, .int .i64 0]) ?_ 1 _ rfl; (with_reducible repeat (first | refine blk_drewN ?_ _ | refine blk_drew ?_ | refine blk_alloc ?_ _)); refine blk_put (cs := #[.int .u32 0, .int .i64 0]) ?_ 0 _ rfl; (with_reducible repeat (first | refine blk_drewN ?_ _ | refine blk_drew ?_ | refine blk_alloc ?_ _)); exact BK102.out) hb); have n3_ := Aside0.mk (below_step (by repeat (first | (with_reducible first | exact HB.out | apply below_alloc | apply pw_below_drewN | apply below_drew1 | refine below_set ?_ GE101.out | refine below_set ?_ GE102.out) | exact HB.out)) hb); clear BK101; clear BK102; clear HB; have HO105 := n0_; have BK101 := n1_; have BK102 := n2_; have HB := n3_; clear n0_ n1_ n2_ n3_; clear hb ho9; obtain ⟨Ao10, co10, eo10⟩ := Kd.R_slice HO105.out; subst eo10))
  go_loopg [21] k (fun kq v21 w' => ∃ (x21_1 : Int) (x103001_1 : Int), v21 = .int .i64 x21_1 ∧ Aside0 (alu_of.l0 kq y103 (y103.length : Int) x21_1 a0 x103001_1 = some (r1, r2)) ∧ Aside0 (kq ≤ k) ∧ Aside0 (Kd.R Kd.bool 4 w' w.heap.size (fun _ => True) (.slice Ao10 y103.length co10) y103) ∧ Aside0 (w'.heap[gb101]? = some (.cells #[.int .u32 0, .int .i64 0] 52 (0, 0))) ∧ Aside0 (w'.heap[gb102]? = some (.cells #[.int .u32 a0, .int .i64 x103001_1] 52 (0, 0))) ∧ Aside0 (Below w.heap.size w w'))
  case atStart => exact ⟨(0), (0), (by first | rfl | (simp; done) | (simp [*]; done)), H', ⟨Nat.le_refl _⟩, ⟨by (with_reducible repeat (first | apply Kd.R_alloc | apply Kd.R_drewN | apply Kd.R_drew)); exact HO105.out⟩, ⟨by (with_reducible repeat (first | refine blk_drewN ?_ _ | refine blk_drew ?_ | refine blk_alloc ?_ _)); exact BK101.out⟩, ⟨by (with_reducible repeat (first | refine blk_drewN ?_ _ | refine blk_drew ?_ | refine blk_alloc ?_ _)); exact BK102.out⟩, ⟨by repeat (first | (with_reducible first | exact HB.out | apply below_alloc | apply pw_below_drewN | apply below_drew1 | refine below_set ?_ GE101.out | refine below_set ?_ GE102.out) | exact HB.out)⟩⟩
  case round =>
    clear H'
    try clear p2
    try clear c4
    try clear c6
    try clear hcz7_0
    try clear hcz7_1
    try clear hfz7_0
    try clear hfz7_1
    obtain ⟨x21_1, x103001_1, rfl, HA, HK1, HO_19, BK101, BK102, HB⟩ := hrel
    cases gk with
    | zero => exact absurd HA.out (by simp [alu_of.l0])
    | succ k1 =>
      have H := HA.out
      clear HA
      simp only [alu_of.l0] at H
      by_cases c11 : x21_1 < (y103.length : Int)
      · rw [if_pos c11] at H
        have c11b0 : decide (x21_1 < (y103.length : Int)) = true := decide_eq_true c11
        clear c11
        by_cases c12 : 0 ≤ x21_1
        · rw [if_pos c12] at H
          have c12b0 : decide (0 ≤ x21_1) = true := decide_eq_true c12
          clear c12
          by_cases c13 : x21_1 < (y103.length : Int)
          · rw [if_pos c13] at H
            have c13b0 : decide (x21_1 < (y103.length : Int)) = true := decide_eq_true c13
            clear c13
            obtain ⟨bq14, hbq14⟩ : ∃ b_ : Bool, b_ = (rdOf false y103 x21_1) := ⟨_, rfl⟩
            replace H : (if bq14 = true then (alu_of.l0 k1 y103 (y103.length : Int) (wrap64 (x21_1 + 1)) a0 (Go.bits .or .i64 x103001_1 (shl .i64 1 x21_1))) else (alu_of.l0 k1 y103 (y103.length : Int) (wrap64 (x21_1 + 1)) a0 x103001_1)) = some (r1, r2) := by rw [← hbq14] at H; exact H
            have Nbq14 := Aside0.mk hbq14
            clear hbq14
            by_cases c15 : bq14 = true
            · subst c15
              have H1 : (alu_of.l0 k1 y103 (y103.length : Int) (wrap64 (x21_1 + 1)) a0 (Go.bits .or .i64 x103001_1 (shl .i64 1 x21_1))) = some (r1, r2) := by rw [if_pos rfl] at H; exact H
              clear H
              have H := H1
              clear H1
              have c16b0 := eq_true (of_decide_eq_true (by first | (with_reducible assumption) | assumption) : 0 ≤ x21_1)
              obtain ⟨ji17, hji17⟩ : ∃ j_ : Int, (shl .i64 1 x21_1) = j_ := ⟨_, rfl⟩
              replace H : (alu_of.l0 k1 y103 (y103.length : Int) (wrap64 (x21_1 + 1)) a0 (Go.bits .or .i64 x103001_1 (ji17))) = some (r1, r2) := by first | (rw [hji17] at H; exact H) | (simp only [hji17] at H ⊢; exact H)
              have hji17_ : (IntKind.i64.wrap (1 * 2 ^ min x21_1.toNat 64)) = ji17 := hji17
              have hji17z : x21_1 ≤ 64 → (IntKind.i64.wrap (1 * 2 ^ x21_1.toNat)) = ji17 := shl_small hji17
              have hji17u : (IntKind.i64.wrap (2 ^ min x21_1.toNat 64)) = ji17 := by have h_ := hji17_; rw [Int.one_mul] at h_; exact h_
              have hji17v : x21_1 ≤ 64 → (IntKind.i64.wrap (2 ^ x21_1.toNat)) = ji17 := fun hle_ => by have h_ := hji17z hle_; rw [Int.one_mul] at h_; exact h_
              have hji17y : (wrap64 (1 * 2 ^ min x21_1.toNat 64)) = ji17 := (i64_w _).symm.trans hji17_
              have hji17x : x21_1 ≤ 64 → (wrap64 (1 * 2 ^ x21_1.toNat)) = ji17 := fun h_ => (i64_w _).symm.trans (hji17z h_)
              have H' := Aside0.mk H
              clear H
              have p106 : 0 ≤ (x21_1 : Int) := of_decide_eq_true (by first | (with_reducible assumption) | assumption)
              have q106 : x21_1 < (y103.length : Int) := of_decide_eq_true (by first | (with_reducible assumption) | assumption)
              obtain ⟨ad106, e106, hx106_0⟩ := Kd.at_bool (Kd.R_reads' HO_19.out).2.2 x21_1 p106 q106
              (try rw [← Nbq14.out] at hx106_0)
              cases e106
              replace p106 := eq_true p106
              replace q106 := eq_true q106
              try go_wp2
              have n0_ := Aside0.mk (Kd.R_drew HO_19.out)
              have n1_ := Aside0.mk (blk_drew BK101.out)
              have n2_ := Aside0.mk (blk_drew BK102.out)
              have n3_ := Aside0.mk (below_drew1 HB.out)
              clear HO_19
              clear BK101
              clear BK102
              clear HB
              have HO_19 := n0_
              have BK101 := n1_
              have BK102 := n2_
              have HB := n3_
              clear n0_ n1_ n2_ n3_
              refine start_ (n := 7) (S := fun w' => w'.cell? ⟨gb102, 0, none⟩ = some (.int .u32 a0) ∧ w'.cell? ⟨gb102, 1, none⟩ = some (.int .i64 x103001_1)) (ds := [6]) #[false, false, false, false, false, false, false] (by kernel_rfl) rfl rfl ⟨(blk_cell BK102.out 0).trans rfl, (blk_cell BK102.out 1).trans rfl⟩ (fun hHeld => ?_)
              generalize wr.drew = w18 at HO_19 BK101 BK102 HB hHeld ⊢
              refine pure_ (i := 0) (N := some 27) (v := ?_) (a' := ?_) #[true, false, false, false, false, false, false] rfl rfl (by kernel_rfl) (fun _ _ _ h => h) (Or.inl ⟨by rfl, ?_⟩) ?_ ?_
              rotate_left
              · intro w'
                go_simp
                with_reducible rfl
              rotate_left
              · simp only [Act.put, List.setIfInBounds_toArray, List.set_cons_zero, List.set_cons_succ, i64_w, i32_w]
                rfl
              refine pure_ (i := 2) (N := some 29) (v := ?_) (a' := ?_) #[true, false, true, false, false, false, false] rfl rfl (by kernel_rfl) (fun _ _ _ h => h) (Or.inl ⟨by rfl, ?_⟩) ?_ ?_
              rotate_left
              · intro w'
                go_simp
                with_reducible rfl
              rotate_left
              · simp only [Act.put, List.setIfInBounds_toArray, List.set_cons_zero, List.set_cons_succ, i64_w, i32_w]
                rfl
              refine pure_ (i := 3) (N := some 30) (v := ?_) (a' := ?_) #[true, false, true, true, false, false, false] rfl rfl (by kernel_rfl) (fun _ _ _ h => h) (Or.inl ⟨by rfl, ?_⟩) ?_ ?_
              rotate_left
              · intro w'
                go_simp
                with_reducible rfl
              rotate_left
              · simp only [Act.put, List.setIfInBounds_toArray, List.set_cons_zero, List.set_cons_succ, i64_w, i32_w]
                rfl
              refine take_ (i := 1) (N := some 28) (v := ?_) (a' := ?_) #[true, true, true, true, false, false, false] rfl rfl (by kernel_rfl) (fun _ _ _ h => h) (Or.inl ⟨by rfl, ?_⟩) hHeld ?_ ?_
              rotate_left
              · rintro w' ⟨s0, s1⟩
                go_simp
                with_reducible rfl
              rotate_left
              · simp only [Act.put, List.setIfInBounds_toArray, List.set_cons_zero, List.set_cons_succ, i64_w, i32_w]
                rfl
              refine pure_ (i := 4) (N := some 31) (v := ?_) (a' := ?_) #[true, true, true, true, true, false, false] rfl rfl (by kernel_rfl) (fun _ _ _ h => h) (Or.inl ⟨by rfl, ?_⟩) ?_ ?_
              rotate_left
              · intro w'
                go_simp
                with_reducible rfl
              rotate_left
              · simp only [Act.put, List.setIfInBounds_toArray, List.set_cons_zero, List.set_cons_succ, i64_w, i32_w]
                rfl
              refine pure_ (i := 5) (N := some 32) (v := ?_) (a' := ?_) #[true, true, true, true, true, true, false] rfl rfl (by kernel_rfl) (fun _ _ _ h => h) (Or.inl ⟨by rfl, ?_⟩) ?_ ?_
              rotate_left
              · intro w'
                go_simp
                with_reducible rfl
              rotate_left
              · simp only [Act.put, List.setIfInBounds_toArray, List.set_cons_zero, List.set_cons_succ, i64_w, i32_w]
                rfl
              refine last_ (i := 6) (N := none) #[true, true, true, true, true, true, true] rfl rfl (by kernel_rfl) (by decide) (fun K hK => ?_)
              have hs19 : w18.cell? ⟨gb102, 1, none⟩ = some (.int .i64 x103001_1) := (blk_cell BK102.out 1).trans rfl
              have hfs19 := blk_frozen BK102.out 1
              have hns19_0 := NB101_102.out
              have hms19_0 := NB102_101.out
              refine skip_ (w1 := ?_) (by rfl) rfl ?_ ?_
              rotate_left
              · go_simp
                rfl
              refine hK.out _ _ ?_
              clear hK K
              refine done_ (by kernel_rfl) ?_
              try go_wp2
              go_roundg k1
              case measure => have := HK1.out; omega
              case rel => exact ⟨(wrap64 (x21_1 + 1)), (Go.bits .or .i64 x103001_1 (ji17)), (by first | rfl | (simp; done) | (simp [*]; done)), H', ⟨by have := HK1.out; omega⟩, ⟨by (with_reducible repeat (first | apply Kd.R_alloc | apply Kd.R_drewN | apply Kd.R_drew)); exact Kd.R_mono (Kd.R_far (p := ⟨gb102, 1, none⟩) (Kd.R_types HO_19.out BK102.out (by decide)) (fun _ hk => hk.2) (.int .i64 (Go.bits .or .i64 x103001_1 (ji17)))) (fun _ hk => trivial)⟩, ⟨by (with_reducible repeat (first | refine blk_drewN ?_ _ | refine blk_drew ?_ | refine blk_alloc ?_ _)); refine blk_far ?_ NB101_102.out _; (with_reducible repeat (first | refine blk_drewN ?_ _ | refine blk_drew ?_ | refine blk_alloc ?_ _)); exact BK101.out⟩, ⟨by (with_reducible repeat (first | refine blk_drewN ?_ _ | refine blk_drew ?_ | refine blk_alloc ?_ _)); refine blk_put (cs := #[.int .u32 a0, .int .i64 x103001_1]) ?_ 1 _ rfl; (with_reducible repeat (first | refine blk_drewN ?_ _ | refine blk_drew ?_ | refine blk_alloc ?_ _)); exact BK102.out⟩, ⟨by repeat (first | (with_reducible first | exact HB.out | apply below_alloc | apply pw_below_drewN | apply below_drew1 | refine below_set ?_ GE101.out | refine below_set ?_ GE102.out) | exact HB.out)⟩⟩
            · replace c15 := Bool.eq_false_iff.mpr c15
              subst c15
              have H1 : (alu_of.l0 k1 y103 (y103.length : Int) (wrap64 (x21_1 + 1)) a0 x103001_1) = some (r1, r2) := by rw [if_neg (show ¬ (false = true) by decide)] at H; exact H
              clear H
              have H := H1
              clear H1
              have H' := Aside0.mk H
              clear H
              have p106 : 0 ≤ (x21_1 : Int) := of_decide_eq_true (by first | (with_reducible assumption) | assumption)
              have q106 : x21_1 < (y103.length : Int) := of_decide_eq_true (by first | (with_reducible assumption) | assumption)
              obtain ⟨ad106, e106, hx106_0⟩ := Kd.at_bool (Kd.R_reads' HO_19.out).2.2 x21_1 p106 q106
              (try rw [← Nbq14.out] at hx106_0)
              cases e106
              replace p106 := eq_true p106
              replace q106 := eq_true q106
              go_wp2
              go_roundg k1
              case measure => have := HK1.out; omega
              case rel => exact ⟨(wrap64 (x21_1 + 1)), (x103001_1), (by first | rfl | (simp; done) | (simp [*]; done)), H', ⟨by have := HK1.out; omega⟩, ⟨by (with_reducible repeat (first | apply Kd.R_alloc | apply Kd.R_drewN | apply Kd.R_drew)); exact HO_19.out⟩, ⟨by (with_reducible repeat (first | refine blk_drewN ?_ _ | refine blk_drew ?_ | refine blk_alloc ?_ _)); exact BK101.out⟩, ⟨by (with_reducible repeat (first | refine blk_drewN ?_ _ | refine blk_drew ?_ | refine blk_alloc ?_ _)); exact BK102.out⟩, ⟨by repeat (first | (with_reducible first | exact HB.out | apply below_alloc | apply pw_below_drewN | apply below_drew1 | refine below_set ?_ GE101.out | refine below_set ?_ GE102.out) | exact HB.out)⟩⟩
          · rw [if_neg c13] at H
            exact absurd H (by simp)
        · rw [if_neg c12] at H
          exact absurd H (by simp)
      · rw [if_neg c11] at H
        have c11b0 : decide (x21_1 < (y103.length : Int)) = false := decide_eq_false c11
        clear c11
        simp only [Option.some.injEq, Prod.mk.injEq] at H
        obtain ⟨rfl, rfl⟩ := H
        have hnb20 := NB102_101.out
        have hnc20 := NB101_102.out
        have hcz21_0 : wr.cell? ⟨gb102, 0, none⟩ = some (.int .u32 a0) := (blk_cell BK102.out 0).trans rfl
        have hcz21_1 : wr.cell? ⟨gb102, 1, none⟩ = some (.int .i64 x103001_1) := (blk_cell BK102.out 1).trans rfl
        have hfz21_0 := blk_frozen BK102.out 0
        have hfz21_1 := blk_frozen BK102.out 1
        have hcz22_0 : wr.cell? ⟨gb101, 0, none⟩ = some (.int .u32 0) := (blk_cell BK101.out 0).trans rfl
        have hcz22_1 : wr.cell? ⟨gb101, 1, none⟩ = some (.int .i64 0) := (blk_cell BK101.out 1).trans rfl
        have hfz22_0 := blk_frozen BK101.out 0
        have hfz22_1 := blk_frozen BK101.out 1
        go_wp2
        refine bodyPost_ret (results_cell_row rfl _ _ gb101 52 #[.int .u32 a0, .int .i64 x103001_1] (0, 0) _ rfl (by (with_reducible repeat (first | refine blk_drewN ?_ _ | refine blk_drew ?_ | refine blk_alloc ?_ _)); refine blk_put (cs := #[.int .u32 a0, .int .i64 0]) ?_ 1 _ rfl; (with_reducible repeat (first | refine blk_drewN ?_ _ | refine blk_drew ?_ | refine blk_alloc ?_ _)); refine blk_put (cs := #[.int .u32 0, .int .i64 0]) ?_ 0 _ rfl; (with_reducible repeat (first | refine blk_drewN ?_ _ | refine blk_drew ?_ | refine blk_alloc ?_ _)); exact BK101.out) Try.underlying52 rfl (by kernel_rfl)) rfl ?_
        exact ⟨by first | rfl | (simp [errW_none, errW_some] <;> rfl) | (simp [*, errW_none, errW_some] <;> rfl), by repeat (first | (with_reducible first | exact HB.out | apply below_alloc | apply pw_below_drewN | apply below_drew1 | refine below_set ?_ GE101.out | refine below_set ?_ GE102.out) | exact HB.out)⟩

/-! ### alu_add: function 33 -/
def alu_add.f (k : Nat) (a0 : Int) (a1 : Int) : Option (Int × Int) := (alu_of.f k ((a0 + a1) % 4294967296) (decide (((a0 + a1) % 4294967296) < a0)) (((Go.bits .and .u32 (Go.bits .xor .u32 a0 ((a0 + a1) % 4294967296)) (Go.bits .xor .u32 a1 ((a0 + a1) % 4294967296))) / 2147483648) == 1)).bind fun bt108 => (some (bt108.1, bt108.2))
theorem alu_add.mono : ∀ a0 a1 k, LeO (alu_add.f k a0 a1) (alu_add.f (k + 1) a0 a1) := by
  intro a0 a1 k
  unfold alu_add.f
  repeat' first
      | (with_reducible exact alu_of.mono _ _ _ _)
      | (with_reducible exact LeO.refl _)
      | (with_reducible exact LeO.none _)
      | (with_reducible refine LeO.ite ?_ ?_)
      | (with_reducible refine LeO.bind ?_ (fun _ => ?_))
      | exact alu_of.mono _ _ _ _
      | exact LeO.none _
      | refine LeO.ite ?_ ?_
      | refine LeO.bind ?_ (fun _ => ?_)
set_option maxHeartbeats 8000000 in
set_option maxRecDepth 100000 in
theorem alu_add.calls (k : Nat) (a0 : Int) (a1 : Int) (r1 : Int) (r2 : Int) (w : World) (h : alu_add.f k a0 a1 = some (r1, r2)) :
    Calls Try.prog 33 #[.int .u32 a0, .int .u32 a1] w fun e w' => e = .returned (.agg #[.int .u32 r1, .int .i64 r2]) ∧ Below w.heap.size w w' := by
  have hu52 := Try.underlying52
  have HB := Aside0.mk (Below.refl w.heap.size w)
  have H : ((alu_of.f k ((a0 + a1) % 4294967296) (decide (((a0 + a1) % 4294967296) < a0)) (((Go.bits .and .u32 (Go.bits .xor .u32 a0 ((a0 + a1) % 4294967296)) (Go.bits .xor .u32 a1 ((a0 + a1) % 4294967296))) / 2147483648) == 1)).bind fun bt108 => (some (bt108.1, bt108.2))) = some (r1, r2) := h
  clear h
  replace H := Option.bind_eq_some_iff.mp H
  obtain ⟨⟨t108, t109⟩, A30, H⟩ := H
  replace H : (some (t108, t109)) = some (r1, r2) := H
  have A3 := Aside0.mk A30
  clear A30
  simp only [Option.some.injEq, Prod.mk.injEq] at H
  obtain ⟨rfl, rfl⟩ := H
  go_enter Try.func33, Try.ntmps33
  go_wp2_with (first | ((with_reducible refine gate_dst (N := 4) rfl ?_); refine box_event ?hg (N := 4) ?hd (cs := #[.int .u32 0, .int .i64 0]) (t := 52) ?hr ?_; (case hd => rfl); (case hg => rfl); (case hr => first | (go_simp; done) | (go_simp; rfl)); intro gb107 hg w4 hbox hb; have n0_ := Aside0.mk (below_step (by repeat (first | (with_reducible first | exact HB.out | apply below_alloc | apply pw_below_drewN | apply below_drew1) | exact HB.out)) hb); have n1_ := Aside0.mk (hbox); have n2_ := Aside0.mk ((by rw [hg]; exact (below_size (by repeat (first | (with_reducible first | exact HB.out | apply below_alloc | apply pw_below_drewN | apply below_drew1) | exact HB.out))) : w.heap.size ≤ gb107)); have n3_ := Aside0.mk ((by rw [hg]; exact (below_size (by repeat (first | (with_reducible first | exact HB.out | apply below_alloc | apply pw_below_drewN | apply below_drew1) | exact HB.out))) : w.heap.size ≤ gb107)); clear HB; have HB := n0_; have BK107 := n1_; have GW107 := n2_; have GE107 := n3_; clear n0_ n1_ n2_ n3_; clear hb hbox hg) | ((with_reducible refine gate_callee (f := 44) rfl ?_); refine goesL_ (some 22) rfl rfl Try.func44 (by kernel_rfl) rfl #[.int .u32 ((a0 + a1) % 4294967296), .bool (decide (((a0 + a1) % 4294967296) < a0)), .bool (((Go.bits .and .u32 (Go.bits .xor .u32 a0 ((a0 + a1) % 4294967296)) (Go.bits .xor .u32 a1 ((a0 + a1) % 4294967296))) / 2147483648) == 1)] rfl (by (try simp only [List.map_toArray, List.map_cons, List.map_nil]); first | done | rfl | (simp only [List.length_drop, List.length_take]; rfl)) ?_; (with_reducible refine (alu_of.calls k ((a0 + a1) % 4294967296) (decide (((a0 + a1) % 4294967296) < a0)) (((Go.bits .and .u32 (Go.bits .xor .u32 a0 ((a0 + a1) % 4294967296)) (Go.bits .xor .u32 a1 ((a0 + a1) % 4294967296))) / 2147483648) == 1) t108 t109 _ A3.out).mono ?_); rintro e w5 ⟨rfl, hb⟩; refine ⟨_, rfl, ?_⟩; have n0_ := Aside0.mk (blk_below (g := gb107) (o := .cells #[.int .u32 0, .int .i64 0] 52 (0, 0)) (by (with_reducible repeat (first | refine blk_drewN ?_ _ | refine blk_drew ?_ | refine blk_alloc ?_ _)); exact BK107.out) hb); have n1_ := Aside0.mk (below_step (by repeat (first | (with_reducible first | exact HB.out | apply below_alloc | apply pw_below_drewN | apply below_drew1 | refine below_set ?_ GE107.out) | exact HB.out)) hb); clear BK107; clear HB; have BK107 := n0_; have HB := n1_; clear n0_ n1_; (try clear hb); (try clear hb2); (try clear hk); (try clear hi); have hcz6_0 : w5.cell? ⟨gb107, 0, none⟩ = some (.int .u32 0) := (blk_cell BK107.out 0).trans rfl; have hcz6_1 : w5.cell? ⟨gb107, 1, none⟩ = some (.int .i64 0) := (blk_cell BK107.out 1).trans rfl; have hfz6_0 := blk_frozen BK107.out 0; have hfz6_1 := blk_frozen BK107.out 1))
  refine bodyPost_ret (results_cell_row rfl _ _ gb107 52 #[.int .u32 t108, .int .i64 t109] (0, 0) _ rfl (by (with_reducible repeat (first | refine blk_drewN ?_ _ | refine blk_drew ?_ | refine blk_alloc ?_ _)); refine blk_put (cs := #[.int .u32 t108, .int .i64 0]) ?_ 1 _ rfl; (with_reducible repeat (first | refine blk_drewN ?_ _ | refine blk_drew ?_ | refine blk_alloc ?_ _)); refine blk_put (cs := #[.int .u32 0, .int .i64 0]) ?_ 0 _ rfl; (with_reducible repeat (first | refine blk_drewN ?_ _ | refine blk_drew ?_ | refine blk_alloc ?_ _)); exact BK107.out) Try.underlying52 rfl (by kernel_rfl)) rfl ?_
  exact ⟨by first | rfl | (simp [errW_none, errW_some] <;> rfl) | (simp [*, errW_none, errW_some] <;> rfl), by repeat (first | (with_reducible first | exact HB.out | apply below_alloc | apply pw_below_drewN | apply below_drew1 | refine below_set ?_ GE107.out) | exact HB.out)⟩

/-! ### alu_sub: function 34 -/
def alu_sub.f (k : Nat) (a0 : Int) (a1 : Int) : Option (Int × Int) := (alu_of.f k ((a0 - a1) % 4294967296) (decide (a0 < a1)) (((Go.bits .and .u32 (Go.bits .xor .u32 a0 a1) (Go.bits .xor .u32 a0 ((a0 - a1) % 4294967296))) / 2147483648) == 1)).bind fun bt111 => (some (bt111.1, bt111.2))
theorem alu_sub.mono : ∀ a0 a1 k, LeO (alu_sub.f k a0 a1) (alu_sub.f (k + 1) a0 a1) := by
  intro a0 a1 k
  unfold alu_sub.f
  repeat' first
      | (with_reducible exact alu_of.mono _ _ _ _)
      | (with_reducible exact LeO.refl _)
      | (with_reducible exact LeO.none _)
      | (with_reducible refine LeO.ite ?_ ?_)
      | (with_reducible refine LeO.bind ?_ (fun _ => ?_))
      | exact alu_of.mono _ _ _ _
      | exact LeO.none _
      | refine LeO.ite ?_ ?_
      | refine LeO.bind ?_ (fun _ => ?_)
set_option maxHeartbeats 8000000 in
set_option maxRecDepth 100000 in
theorem alu_sub.calls (k : Nat) (a0 : Int) (a1 : Int) (r1 : Int) (r2 : Int) (w : World) (h : alu_sub.f k a0 a1 = some (r1, r2)) :
    Calls Try.prog 34 #[.int .u32 a0, .int .u32 a1] w fun e w' => e = .returned (.agg #[.int .u32 r1, .int .i64 r2]) ∧ Below w.heap.size w w' := by
  have hu52 := Try.underlying52
  have HB := Aside0.mk (Below.refl w.heap.size w)
  have H : ((alu_of.f k ((a0 - a1) % 4294967296) (decide (a0 < a1)) (((Go.bits .and .u32 (Go.bits .xor .u32 a0 a1) (Go.bits .xor .u32 a0 ((a0 - a1) % 4294967296))) / 2147483648) == 1)).bind fun bt111 => (some (bt111.1, bt111.2))) = some (r1, r2) := h
  clear h
  replace H := Option.bind_eq_some_iff.mp H
  obtain ⟨⟨t111, t112⟩, A30, H⟩ := H
  replace H : (some (t111, t112)) = some (r1, r2) := H
  have A3 := Aside0.mk A30
  clear A30
  simp only [Option.some.injEq, Prod.mk.injEq] at H
  obtain ⟨rfl, rfl⟩ := H
  go_enter Try.func34, Try.ntmps34
  go_wp2_with (first | ((with_reducible refine gate_dst (N := 4) rfl ?_); refine box_event ?hg (N := 4) ?hd (cs := #[.int .u32 0, .int .i64 0]) (t := 52) ?hr ?_; (case hd => rfl); (case hg => rfl); (case hr => first | (go_simp; done) | (go_simp; rfl)); intro gb110 hg w4 hbox hb; have n0_ := Aside0.mk (below_step (by repeat (first | (with_reducible first | exact HB.out | apply below_alloc | apply pw_below_drewN | apply below_drew1) | exact HB.out)) hb); have n1_ := Aside0.mk (hbox); have n2_ := Aside0.mk ((by rw [hg]; exact (below_size (by repeat (first | (with_reducible first | exact HB.out | apply below_alloc | apply pw_below_drewN | apply below_drew1) | exact HB.out))) : w.heap.size ≤ gb110)); have n3_ := Aside0.mk ((by rw [hg]; exact (below_size (by repeat (first | (with_reducible first | exact HB.out | apply below_alloc | apply pw_below_drewN | apply below_drew1) | exact HB.out))) : w.heap.size ≤ gb110)); clear HB; have HB := n0_; have BK110 := n1_; have GW110 := n2_; have GE110 := n3_; clear n0_ n1_ n2_ n3_; clear hb hbox hg) | ((with_reducible refine gate_callee (f := 44) rfl ?_); refine goesL_ (some 22) rfl rfl Try.func44 (by kernel_rfl) rfl #[.int .u32 ((a0 - a1) % 4294967296), .bool (decide (a0 < a1)), .bool (((Go.bits .and .u32 (Go.bits .xor .u32 a0 a1) (Go.bits .xor .u32 a0 ((a0 - a1) % 4294967296))) / 2147483648) == 1)] rfl (by (try simp only [List.map_toArray, List.map_cons, List.map_nil]); first | done | rfl | (simp only [List.length_drop, List.length_take]; rfl)) ?_; (with_reducible refine (alu_of.calls k ((a0 - a1) % 4294967296) (decide (a0 < a1)) (((Go.bits .and .u32 (Go.bits .xor .u32 a0 a1) (Go.bits .xor .u32 a0 ((a0 - a1) % 4294967296))) / 2147483648) == 1) t111 t112 _ A3.out).mono ?_); rintro e w5 ⟨rfl, hb⟩; refine ⟨_, rfl, ?_⟩; have n0_ := Aside0.mk (blk_below (g := gb110) (o := .cells #[.int .u32 0, .int .i64 0] 52 (0, 0)) (by (with_reducible repeat (first | refine blk_drewN ?_ _ | refine blk_drew ?_ | refine blk_alloc ?_ _)); exact BK110.out) hb); have n1_ := Aside0.mk (below_step (by repeat (first | (with_reducible first | exact HB.out | apply below_alloc | apply pw_below_drewN | apply below_drew1 | refine below_set ?_ GE110.out) | exact HB.out)) hb); clear BK110; clear HB; have BK110 := n0_; have HB := n1_; clear n0_ n1_; (try clear hb); (try clear hb2); (try clear hk); (try clear hi); have hcz6_0 : w5.cell? ⟨gb110, 0, none⟩ = some (.int .u32 0) := (blk_cell BK110.out 0).trans rfl; have hcz6_1 : w5.cell? ⟨gb110, 1, none⟩ = some (.int .i64 0) := (blk_cell BK110.out 1).trans rfl; have hfz6_0 := blk_frozen BK110.out 0; have hfz6_1 := blk_frozen BK110.out 1))
  refine bodyPost_ret (results_cell_row rfl _ _ gb110 52 #[.int .u32 t111, .int .i64 t112] (0, 0) _ rfl (by (with_reducible repeat (first | refine blk_drewN ?_ _ | refine blk_drew ?_ | refine blk_alloc ?_ _)); refine blk_put (cs := #[.int .u32 t111, .int .i64 0]) ?_ 1 _ rfl; (with_reducible repeat (first | refine blk_drewN ?_ _ | refine blk_drew ?_ | refine blk_alloc ?_ _)); refine blk_put (cs := #[.int .u32 0, .int .i64 0]) ?_ 0 _ rfl; (with_reducible repeat (first | refine blk_drewN ?_ _ | refine blk_drew ?_ | refine blk_alloc ?_ _)); exact BK110.out) Try.underlying52 rfl (by kernel_rfl)) rfl ?_
  exact ⟨by first | rfl | (simp [errW_none, errW_some] <;> rfl) | (simp [*, errW_none, errW_some] <;> rfl), by repeat (first | (with_reducible first | exact HB.out | apply below_alloc | apply pw_below_drewN | apply below_drew1 | refine below_set ?_ GE110.out) | exact HB.out)⟩

-- NOT PRINTED: function 35 (alu_plain)

-- NOT PRINTED: function 28 (alu_operation)

-- NOT PRINTED: function 20 (alu_Do)

-- NOT PRINTED: function 23 (alu_Taken)

-- NOT PRINTED: function 22 (linkhouselaw5_aluExample)

/-! ### linkhouseref5_At: function 18 -/
def linkhouseref5_At.f (a0 : Int) (a1 : Int) : Option (Int × Int) := some (a0, a1)
set_option maxHeartbeats 8000000 in
set_option maxRecDepth 100000 in
theorem linkhouseref5_At.calls (a0 : Int) (a1 : Int) (r1 : Int) (r2 : Int) (w : World) (h : linkhouseref5_At.f a0 a1 = some (r1, r2)) :
    Calls Try.prog 18 #[.int .i64 a0, .int .i64 a1] w fun e w' => e = .returned (.agg #[.int .i64 r1, .int .i64 r2]) ∧ Below w.heap.size w w' := by
  have hu33 := Try.underlying33
  have HB := Aside0.mk (Below.refl w.heap.size w)
  have H : (some (a0, a1)) = some (r1, r2) := h
  clear h
  simp only [Option.some.injEq, Prod.mk.injEq] at H
  obtain ⟨rfl, rfl⟩ := H
  go_enter Try.func18, Try.ntmps18
  go_wp2_with (first | ((with_reducible refine gate_dst (N := 4) rfl ?_); refine box_event ?hg (N := 4) ?hd (cs := #[.int .i64 0, .int .i64 0]) (t := 33) ?hr ?_; (case hd => rfl); (case hg => rfl); (case hr => first | (go_simp; done) | (go_simp; rfl)); intro gb114 hg w3 hbox hb; have n0_ := Aside0.mk (below_step (by repeat (first | (with_reducible first | exact HB.out | apply below_alloc | apply pw_below_drewN | apply below_drew1) | exact HB.out)) hb); have n1_ := Aside0.mk (hbox); have n2_ := Aside0.mk ((by rw [hg]; exact (below_size (by repeat (first | (with_reducible first | exact HB.out | apply below_alloc | apply pw_below_drewN | apply below_drew1) | exact HB.out))) : w.heap.size ≤ gb114)); have n3_ := Aside0.mk ((by rw [hg]; exact (below_size (by repeat (first | (with_reducible first | exact HB.out | apply below_alloc | apply pw_below_drewN | apply below_drew1) | exact HB.out))) : w.heap.size ≤ gb114)); clear HB; have HB := n0_; have BK114 := n1_; have GW114 := n2_; have GE114 := n3_; clear n0_ n1_ n2_ n3_; clear hb hbox hg; have hcz4_0 : w3.cell? ⟨gb114, 0, none⟩ = some (.int .i64 0) := (blk_cell BK114.out 0).trans rfl; have hcz4_1 : w3.cell? ⟨gb114, 1, none⟩ = some (.int .i64 0) := (blk_cell BK114.out 1).trans rfl; have hfz4_0 := blk_frozen BK114.out 0; have hfz4_1 := blk_frozen BK114.out 1))
  refine bodyPost_ret (results_cell_row rfl _ _ gb114 33 #[.int .i64 a0, .int .i64 a1] (0, 0) _ rfl (by (with_reducible repeat (first | refine blk_drewN ?_ _ | refine blk_drew ?_ | refine blk_alloc ?_ _)); refine blk_put (cs := #[.int .i64 a0, .int .i64 0]) ?_ 1 _ rfl; (with_reducible repeat (first | refine blk_drewN ?_ _ | refine blk_drew ?_ | refine blk_alloc ?_ _)); refine blk_put (cs := #[.int .i64 0, .int .i64 0]) ?_ 0 _ rfl; (with_reducible repeat (first | refine blk_drewN ?_ _ | refine blk_drew ?_ | refine blk_alloc ?_ _)); exact BK114.out) Try.underlying33 rfl (by kernel_rfl)) rfl ?_
  exact ⟨by first | rfl | (simp [errW_none, errW_some] <;> rfl) | (simp [*, errW_none, errW_some] <;> rfl), by repeat (first | (with_reducible first | exact HB.out | apply below_alloc | apply pw_below_drewN | apply below_drew1 | refine below_set ?_ GE114.out) | exact HB.out)⟩

/-! ### linkhouseref5_In: function 32 -/
def linkhouseref5_In.f (a0 : Int) (a1 : Int) (a2 : Int) : Option (Bool) := if a0 ≥ a1 then (some (decide (a0 ≤ a2))) else (some false)
set_option maxHeartbeats 8000000 in
set_option maxRecDepth 100000 in
theorem linkhouseref5_In.calls (a0 : Int) (a1 : Int) (a2 : Int) (r : Bool) (w : World) (h : linkhouseref5_In.f a0 a1 a2 = some r) :
    Calls Try.prog 32 #[.int .i64 a0, .int .i64 a1, .int .i64 a2] w fun e w' => e = .returned (.bool r) ∧ Drawn0 w w' := by
  have H : (if a0 ≥ a1 then (some (decide (a0 ≤ a2))) else (some false)) = some r := h
  clear h
  by_cases c4 : a0 ≥ a1
  · rw [if_pos c4] at H
    have c4b0 : decide (a1 ≤ a0) = true := decide_eq_true c4
    clear c4
    obtain rfl := Option.some.inj H
    go_enter Try.func32, Try.ntmps32
    go_wp2
    go_ret
    exact ⟨by first | rfl | (simp; done) | (simp [*]; done), by repeat (first | exact Drawn0.refl _ | apply Drawn0.step)⟩
  · rw [if_neg c4] at H
    have c4b0 : decide (a1 ≤ a0) = false := decide_eq_false c4
    clear c4
    obtain rfl := Option.some.inj H
    go_enter Try.func32, Try.ntmps32
    go_wp2
    go_ret
    exact ⟨by first | rfl | (simp; done) | (simp [*]; done), by repeat (first | exact Drawn0.refl _ | apply Drawn0.step)⟩

/-! ### linkhouseref5_Taken: function 24 -/
def linkhouseref5_Taken.f (a0 : Int) (a1 : Int) : Option (Bool × Int × Int) := (linkhouseref5_In.f a1 0 15).bind fun t116 => (if t116 = true then ((linkhouseref5_In.f a0 27 36).bind fun t119 => (if t119 = true then ((some (([true, true, ((Int.tmod a1 2) == 1), ((Int.tmod a1 2) == 1), !((Int.tmod a1 2) == 1), !((Int.tmod a1 2) == 1), (((Int.tmod (wrap64 (Int.tdiv a1 2)) 2) == 1) != ((Int.tmod (wrap64 (Int.tdiv a1 8)) 2) == 1)), (((Int.tmod (wrap64 (Int.tdiv a1 2)) 2) == 1) != ((Int.tmod (wrap64 (Int.tdiv a1 8)) 2) == 1)), ((Int.tmod (wrap64 (Int.tdiv a1 4)) 2) == 1), ((Int.tmod (wrap64 (Int.tdiv a1 4)) 2) == 1)] : List Bool) : List Bool)).bind fun y120 => (if 0 ≤ (wrap64 (a0 - 27)) then (if (wrap64 (a0 - 27)) < (y120.length : Int) then (some (rdOf false y120 (wrap64 (a0 - 27)), 0, 0)) else (none)) else (none))) else ((linkhouseref5_At.f 4 (-1)).bind fun bt124 => (some (false, bt124.1, bt124.2))))) else ((linkhouseref5_At.f 3 (-2)).bind fun bt117 => (some (false, bt117.1, bt117.2))))
set_option maxHeartbeats 8000000 in
set_option maxRecDepth 100000 in
theorem linkhouseref5_Taken.calls (a0 : Int) (a1 : Int) (r1 : Bool) (r2 : Int) (r3 : Int) (w : World) (h : linkhouseref5_Taken.f a0 a1 = some (r1, r2, r3)) :
    Calls Try.prog 24 #[.int .i64 a0, .int .i64 a1] w fun e w' => e = .returned (.tuple #[.bool r1, .agg #[.int .i64 r2, .int .i64 r3]]) ∧ Below w.heap.size w w' := by
  have hu33 := Try.underlying33
  have HB := Aside0.mk (Below.refl w.heap.size w)
  have H : ((linkhouseref5_In.f a1 0 15).bind fun t116 => (if t116 = true then ((linkhouseref5_In.f a0 27 36).bind fun t119 => (if t119 = true then ((some (([true, true, ((Int.tmod a1 2) == 1), ((Int.tmod a1 2) == 1), !((Int.tmod a1 2) == 1), !((Int.tmod a1 2) == 1), (((Int.tmod (wrap64 (Int.tdiv a1 2)) 2) == 1) != ((Int.tmod (wrap64 (Int.tdiv a1 8)) 2) == 1)), (((Int.tmod (wrap64 (Int.tdiv a1 2)) 2) == 1) != ((Int.tmod (wrap64 (Int.tdiv a1 8)) 2) == 1)), ((Int.tmod (wrap64 (Int.tdiv a1 4)) 2) == 1), ((Int.tmod (wrap64 (Int.tdiv a1 4)) 2) == 1)] : List Bool) : List Bool)).bind fun y120 => (if 0 ≤ (wrap64 (a0 - 27)) then (if (wrap64 (a0 - 27)) < (y120.length : Int) then (some (rdOf false y120 (wrap64 (a0 - 27)), 0, 0)) else (none)) else (none))) else ((linkhouseref5_At.f 4 (-1)).bind fun bt124 => (some (false, bt124.1, bt124.2))))) else ((linkhouseref5_At.f 3 (-2)).bind fun bt117 => (some (false, bt117.1, bt117.2))))) = some (r1, r2, r3) := h
  clear h
  replace H := Option.bind_eq_some_iff.mp H
  obtain ⟨t116, A30, H⟩ := H
  replace H : (if t116 = true then ((linkhouseref5_In.f a0 27 36).bind fun t119 => (if t119 = true then ((some (([true, true, ((Int.tmod a1 2) == 1), ((Int.tmod a1 2) == 1), !((Int.tmod a1 2) == 1), !((Int.tmod a1 2) == 1), (((Int.tmod (wrap64 (Int.tdiv a1 2)) 2) == 1) != ((Int.tmod (wrap64 (Int.tdiv a1 8)) 2) == 1)), (((Int.tmod (wrap64 (Int.tdiv a1 2)) 2) == 1) != ((Int.tmod (wrap64 (Int.tdiv a1 8)) 2) == 1)), ((Int.tmod (wrap64 (Int.tdiv a1 4)) 2) == 1), ((Int.tmod (wrap64 (Int.tdiv a1 4)) 2) == 1)] : List Bool) : List Bool)).bind fun y120 => (if 0 ≤ (wrap64 (a0 - 27)) then (if (wrap64 (a0 - 27)) < (y120.length : Int) then (some (rdOf false y120 (wrap64 (a0 - 27)), 0, 0)) else (none)) else (none))) else ((linkhouseref5_At.f 4 (-1)).bind fun bt124 => (some (false, bt124.1, bt124.2))))) else ((linkhouseref5_At.f 3 (-2)).bind fun bt117 => (some (false, bt117.1, bt117.2)))) = some (r1, r2, r3) := H
  have A3 := Aside0.mk A30
  clear A30
  by_cases c4 : t116 = true
  · subst c4
    have H1 : ((linkhouseref5_In.f a0 27 36).bind fun t119 => (if t119 = true then ((some (([true, true, ((Int.tmod a1 2) == 1), ((Int.tmod a1 2) == 1), !((Int.tmod a1 2) == 1), !((Int.tmod a1 2) == 1), (((Int.tmod (wrap64 (Int.tdiv a1 2)) 2) == 1) != ((Int.tmod (wrap64 (Int.tdiv a1 8)) 2) == 1)), (((Int.tmod (wrap64 (Int.tdiv a1 2)) 2) == 1) != ((Int.tmod (wrap64 (Int.tdiv a1 8)) 2) == 1)), ((Int.tmod (wrap64 (Int.tdiv a1 4)) 2) == 1), ((Int.tmod (wrap64 (Int.tdiv a1 4)) 2) == 1)] : List Bool) : List Bool)).bind fun y120 => (if 0 ≤ (wrap64 (a0 - 27)) then (if (wrap64 (a0 - 27)) < (y120.length : Int) then (some (rdOf false y120 (wrap64 (a0 - 27)), 0, 0)) else (none)) else (none))) else ((linkhouseref5_At.f 4 (-1)).bind fun bt124 => (some (false, bt124.1, bt124.2))))) = some (r1, r2, r3) := by rw [if_pos rfl] at H; exact H
    clear H
    have H := H1
    clear H1
    replace H := Option.bind_eq_some_iff.mp H
    obtain ⟨t119, A50, H⟩ := H
    replace H : (if t119 = true then ((some (([true, true, ((Int.tmod a1 2) == 1), ((Int.tmod a1 2) == 1), !((Int.tmod a1 2) == 1), !((Int.tmod a1 2) == 1), (((Int.tmod (wrap64 (Int.tdiv a1 2)) 2) == 1) != ((Int.tmod (wrap64 (Int.tdiv a1 8)) 2) == 1)), (((Int.tmod (wrap64 (Int.tdiv a1 2)) 2) == 1) != ((Int.tmod (wrap64 (Int.tdiv a1 8)) 2) == 1)), ((Int.tmod (wrap64 (Int.tdiv a1 4)) 2) == 1), ((Int.tmod (wrap64 (Int.tdiv a1 4)) 2) == 1)] : List Bool) : List Bool)).bind fun y120 => (if 0 ≤ (wrap64 (a0 - 27)) then (if (wrap64 (a0 - 27)) < (y120.length : Int) then (some (rdOf false y120 (wrap64 (a0 - 27)), 0, 0)) else (none)) else (none))) else ((linkhouseref5_At.f 4 (-1)).bind fun bt124 => (some (false, bt124.1, bt124.2)))) = some (r1, r2, r3) := H
    have A5 := Aside0.mk A50
    clear A50
    by_cases c6 : t119 = true
    · subst c6
      have H1 : ((some (([true, true, ((Int.tmod a1 2) == 1), ((Int.tmod a1 2) == 1), !((Int.tmod a1 2) == 1), !((Int.tmod a1 2) == 1), (((Int.tmod (wrap64 (Int.tdiv a1 2)) 2) == 1) != ((Int.tmod (wrap64 (Int.tdiv a1 8)) 2) == 1)), (((Int.tmod (wrap64 (Int.tdiv a1 2)) 2) == 1) != ((Int.tmod (wrap64 (Int.tdiv a1 8)) 2) == 1)), ((Int.tmod (wrap64 (Int.tdiv a1 4)) 2) == 1), ((Int.tmod (wrap64 (Int.tdiv a1 4)) 2) == 1)] : List Bool) : List Bool)).bind fun y120 => (if 0 ≤ (wrap64 (a0 - 27)) then (if (wrap64 (a0 - 27)) < (y120.length : Int) then (some (rdOf false y120 (wrap64 (a0 - 27)), 0, 0)) else (none)) else (none))) = some (r1, r2, r3) := by rw [if_pos rfl] at H; exact H
      clear H
      have H := H1
      clear H1
      obtain ⟨y120, hy120⟩ : ∃ y_ : List Bool, y_ = (([true, true, ((Int.tmod a1 2) == 1), ((Int.tmod a1 2) == 1), !((Int.tmod a1 2) == 1), !((Int.tmod a1 2) == 1), (((Int.tmod (wrap64 (Int.tdiv a1 2)) 2) == 1) != ((Int.tmod (wrap64 (Int.tdiv a1 8)) 2) == 1)), (((Int.tmod (wrap64 (Int.tdiv a1 2)) 2) == 1) != ((Int.tmod (wrap64 (Int.tdiv a1 8)) 2) == 1)), ((Int.tmod (wrap64 (Int.tdiv a1 4)) 2) == 1), ((Int.tmod (wrap64 (Int.tdiv a1 4)) 2) == 1)] : List Bool)) := ⟨_, rfl⟩
      replace H : (if 0 ≤ (wrap64 (a0 - 27)) then (if (wrap64 (a0 - 27)) < (y120.length : Int) then (some (rdOf false y120 (wrap64 (a0 - 27)), 0, 0)) else (none)) else (none)) = some (r1, r2, r3) := by first | (rw [hy120]; with_reducible exact H) | (have H2_ := (Option.bind_some _ _).symm.trans H; rw [hy120]; with_reducible exact H2_) | (have H2_ := (Option.bind_some _ _).symm.trans H; with_reducible exact H2_) | with_reducible exact H | (rw [hy120]; exact H) | exact H
      have Ny120 := Aside0.mk hy120
      clear hy120
      obtain ⟨ji7, hji7⟩ : ∃ j_ : Int, (wrap64 (a0 - 27)) = j_ := ⟨_, rfl⟩
      replace H : (if 0 ≤ (ji7) then (if (ji7) < (y120.length : Int) then (some (rdOf false y120 (ji7), 0, 0)) else (none)) else (none)) = some (r1, r2, r3) := by first | (rw [hji7] at H; exact H) | (simp only [hji7] at H ⊢; exact H)
      (try rw [hji7] at A3)
      (try rw [hji7] at A5)
      have hji7w : (IntKind.i64.wrap (a0 - 27)) = ji7 := (i64_w _).trans hji7
      by_cases c8 : 0 ≤ (ji7)
      · rw [if_pos c8] at H
        have c8b0 : decide (0 ≤ (ji7)) = true := decide_eq_true c8
        clear c8
        by_cases c9 : (ji7) < (y120.length : Int)
        · rw [if_pos c9] at H
          have c9b0 : decide ((ji7) < (y120.length : Int)) = true := decide_eq_true c9
          clear c9
          simp only [Option.some.injEq, Prod.mk.injEq] at H
          obtain ⟨rfl, rfl, rfl⟩ := H
          go_enter Try.func24, Try.ntmps24
          go_wp2_with (first | ((with_reducible refine gate_dst (N := 5) rfl ?_); refine box_event ?hg (N := 5) ?hd (cs := #[.int .i64 0, .int .i64 0]) (t := 33) ?hr ?_; (case hd => rfl); (case hg => rfl); (case hr => first | (go_simp; done) | (go_simp; rfl)); intro gb115 hg w10 hbox hb; have n0_ := Aside0.mk (below_step (by repeat (first | (with_reducible first | exact HB.out | apply below_alloc | apply pw_below_drewN | apply below_drew1) | exact HB.out)) hb); have n1_ := Aside0.mk (hbox); have n2_ := Aside0.mk ((by rw [hg]; exact (below_size (by repeat (first | (with_reducible first | exact HB.out | apply below_alloc | apply pw_below_drewN | apply below_drew1) | exact HB.out))) : w.heap.size ≤ gb115)); have n3_ := Aside0.mk ((by rw [hg]; exact (below_size (by repeat (first | (with_reducible first | exact HB.out | apply below_alloc | apply pw_below_drewN | apply below_drew1) | exact HB.out))) : w.heap.size ≤ gb115)); clear HB; have HB := n0_; have BK115 := n1_; have GW115 := n2_; have GE115 := n3_; clear n0_ n1_ n2_ n3_; clear hb hbox hg) | ((with_reducible refine gate_callee (f := 32) rfl ?_); refine goesL_ (some 12) rfl rfl Try.func32 (by kernel_rfl) rfl #[.int .i64 a1, .int .i64 0, .int .i64 15] rfl (by (try simp only [List.map_toArray, List.map_cons, List.map_nil]); first | done | rfl | (simp only [List.length_drop, List.length_take]; rfl)) ?_; (with_reducible refine (linkhouseref5_In.calls a1 0 15 true _ A3.out).mono ?_); rintro e w' ⟨rfl, ⟨nd, rfl⟩⟩; refine ⟨_, rfl, ?_⟩; (try (rw [drewN_self w10]; generalize hq_ : World.drewN w10 _ = w10; have n0_ : Aside0 (w10.heap[gb115]? = some (.cells #[.int .i64 0, .int .i64 0] 33 (0, 0))) := ⟨by rw [← hq_]; exact (by (with_reducible repeat (first | refine blk_drewN ?_ _ | refine blk_drew ?_ | refine blk_alloc ?_ _)); exact BK115.out)⟩; have n1_ : Aside0 (Below w.heap.size w w10) := ⟨by rw [← hq_]; exact (by repeat (first | (with_reducible first | exact HB.out | apply below_alloc | apply pw_below_drewN | apply below_drew1 | refine below_set ?_ GE115.out) | exact HB.out))⟩; clear BK115 HB hq_; have BK115 := n0_; have HB := n1_; clear n0_ n1_))) | ((with_reducible refine gate_callee (f := 32) rfl ?_); refine goesL_ (some 31) rfl rfl Try.func32 (by kernel_rfl) rfl #[.int .i64 a0, .int .i64 27, .int .i64 36] rfl (by (try simp only [List.map_toArray, List.map_cons, List.map_nil]); first | done | rfl | (simp only [List.length_drop, List.length_take]; rfl)) ?_; (with_reducible refine (linkhouseref5_In.calls a0 27 36 true _ A5.out).mono ?_); rintro e w' ⟨rfl, ⟨nd, rfl⟩⟩; refine ⟨_, rfl, ?_⟩; (try (rw [drewN_self w10]; generalize hq_ : World.drewN w10 _ = w10; have n0_ : Aside0 (w10.heap[gb115]? = some (.cells #[.int .i64 0, .int .i64 0] 33 (0, 0))) := ⟨by rw [← hq_]; exact (by (with_reducible repeat (first | refine blk_drewN ?_ _ | refine blk_drew ?_ | refine blk_alloc ?_ _)); exact BK115.out)⟩; have n1_ : Aside0 (Below w.heap.size w w10) := ⟨by rw [← hq_]; exact (by repeat (first | (with_reducible first | exact HB.out | apply below_alloc | apply pw_below_drewN | apply below_drew1 | refine below_set ?_ GE115.out) | exact HB.out))⟩; clear BK115 HB hq_; have BK115 := n0_; have HB := n1_; clear n0_ n1_))) | ((with_reducible refine gate_dst (N := 48) rfl ?_); refine Kd.R_lit Kd.bool _ 4 ?hg (N := 48) ?hd (xs := ([true, true, ((Int.tmod a1 2) == 1), ((Int.tmod a1 2) == 1), !((Int.tmod a1 2) == 1), !((Int.tmod a1 2) == 1), (((Int.tmod (wrap64 (Int.tdiv a1 2)) 2) == 1) != ((Int.tmod (wrap64 (Int.tdiv a1 8)) 2) == 1)), (((Int.tmod (wrap64 (Int.tdiv a1 2)) 2) == 1) != ((Int.tmod (wrap64 (Int.tdiv a1 8)) 2) == 1)), ((Int.tmod (wrap64 (Int.tdiv a1 4)) 2) == 1), ((Int.tmod (wrap64 (Int.tdiv a1 4)) 2) == 1)] : List Bool)) (inner := [.bool true, .bool true, .bool ((Int.tmod a1 2) == 1), .bool ((Int.tmod a1 2) == 1), .bool (!((Int.tmod a1 2) == 1)), .bool (!((Int.tmod a1 2) == 1)), .bool (((Int.tmod (wrap64 (Int.tdiv a1 2)) 2) == 1) != ((Int.tmod (wrap64 (Int.tdiv a1 8)) 2) == 1)), .bool (((Int.tmod (wrap64 (Int.tdiv a1 2)) 2) == 1) != ((Int.tmod (wrap64 (Int.tdiv a1 8)) 2) == 1)), .bool ((Int.tmod (wrap64 (Int.tdiv a1 4)) 2) == 1), .bool ((Int.tmod (wrap64 (Int.tdiv a1 4)) 2) == 1)]) (ok := fun _ => True) (okp := fun _ => True) ?hr ?hp (fun _ hk => hk) trivial (Below.refl _ _) (Nat.le_refl _) (by simp) ?_; (case hd => rfl); (case hg => rfl); (case hr => first | (go_simp; done) | (go_simp; rfl)); (case hp => exact (Reps.one (show Kd.M Kd.bool _ _ _ true [.bool true] from rfl) (Reps.one (show Kd.M Kd.bool _ _ _ true [.bool true] from rfl) (Reps.one (show Kd.M Kd.bool _ _ _ ((Int.tmod a1 2) == 1) [.bool ((Int.tmod a1 2) == 1)] from rfl) (Reps.one (show Kd.M Kd.bool _ _ _ ((Int.tmod a1 2) == 1) [.bool ((Int.tmod a1 2) == 1)] from rfl) (Reps.one (show Kd.M Kd.bool _ _ _ (!((Int.tmod a1 2) == 1)) [.bool (!((Int.tmod a1 2) == 1))] from rfl) (Reps.one (show Kd.M Kd.bool _ _ _ (!((Int.tmod a1 2) == 1)) [.bool (!((Int.tmod a1 2) == 1))] from rfl) (Reps.one (show Kd.M Kd.bool _ _ _ (((Int.tmod (wrap64 (Int.tdiv a1 2)) 2) == 1) != ((Int.tmod (wrap64 (Int.tdiv a1 8)) 2) == 1)) [.bool (((Int.tmod (wrap64 (Int.tdiv a1 2)) 2) == 1) != ((Int.tmod (wrap64 (Int.tdiv a1 8)) 2) == 1))] from rfl) (Reps.one (show Kd.M Kd.bool _ _ _ (((Int.tmod (wrap64 (Int.tdiv a1 2)) 2) == 1) != ((Int.tmod (wrap64 (Int.tdiv a1 8)) 2) == 1)) [.bool (((Int.tmod (wrap64 (Int.tdiv a1 2)) 2) == 1) != ((Int.tmod (wrap64 (Int.tdiv a1 8)) 2) == 1))] from rfl) (Reps.one (show Kd.M Kd.bool _ _ _ ((Int.tmod (wrap64 (Int.tdiv a1 4)) 2) == 1) [.bool ((Int.tmod (wrap64 (Int.tdiv a1 4)) 2) == 1)] from rfl) (Reps.one (show Kd.M Kd.bool _ _ _ ((Int.tmod (wrap64 (Int.tdiv a1 4)) 2) == 1) [.bool ((Int.tmod (wrap64 (Int.tdiv a1 4)) 2) == 1)] from rfl) (Reps.none _ _)))))))))))); intro v121 w11 ho12 hb hg_ hnew_; clear hg_ hnew_; (first | rw [← Ny120.out] at ho12 | (simp only [Int.reduceToNat] at ho12; rw [← Ny120.out] at ho12)); have n0_ := Aside0.mk (Kd.R_lower ho12 (below_size (by repeat (first | (with_reducible first | exact HB.out | apply below_alloc | apply pw_below_drewN | apply below_drew1 | refine below_set ?_ GE115.out) | exact HB.out)))); have n1_ := Aside0.mk (blk_below (g := gb115) (o := .cells #[.int .i64 0, .int .i64 0] 33 (0, 0)) (by (with_reducible repeat (first | refine blk_drewN ?_ _ | refine blk_drew ?_ | refine blk_alloc ?_ _)); exact BK115.out) hb); have n2_ := Aside0.mk (below_step (by repeat (first | (with_reducible first | exact HB.out | apply below_alloc | apply pw_below_drewN | apply below_drew1 | refine below_set ?_ GE115.out) | exact HB.out)) hb); clear BK115; clear HB; have HO122 := n0_; have BK115 := n1_; have HB := n2_; clear n0_ n1_ n2_; clear hb ho12; obtain ⟨Ao13, co13, eo13⟩ := Kd.R_slice HO122.out; subst eo13; have p123 : 0 ≤ ((ji7) : Int) := of_decide_eq_true (by first | (with_reducible assumption) | assumption); have q123 : (ji7) < (y120.length : Int) := of_decide_eq_true (by first | (with_reducible assumption) | assumption); obtain ⟨ad123, e123, hx123_0⟩ := Kd.at_bool (Kd.R_reads' HO122.out).2.2 (ji7) p123 q123; cases e123; replace p123 := eq_true p123; replace q123 := eq_true q123; have hcz14_0 : w11.cell? ⟨gb115, 0, none⟩ = some (.int .i64 0) := (blk_cell BK115.out 0).trans rfl; have hcz14_1 : w11.cell? ⟨gb115, 1, none⟩ = some (.int .i64 0) := (blk_cell BK115.out 1).trans rfl; have hfz14_0 := blk_frozen BK115.out 0; have hfz14_1 := blk_frozen BK115.out 1))
          refine bodyPost_ret (results_tc rfl _ _ gb115 33 #[.int .i64 0, .int .i64 0] (0, 0) _ rfl (by (with_reducible repeat (first | refine blk_drewN ?_ _ | refine blk_drew ?_ | refine blk_alloc ?_ _)); refine blk_put (cs := #[.int .i64 0, .int .i64 0]) ?_ 1 _ rfl; (with_reducible repeat (first | refine blk_drewN ?_ _ | refine blk_drew ?_ | refine blk_alloc ?_ _)); refine blk_put (cs := #[.int .i64 0, .int .i64 0]) ?_ 0 _ rfl; (with_reducible repeat (first | refine blk_drewN ?_ _ | refine blk_drew ?_ | refine blk_alloc ?_ _)); exact BK115.out) Try.underlying33 rfl (by kernel_rfl)) rfl ?_
          exact ⟨by first | rfl | (simp [errW_none, errW_some] <;> rfl) | (simp only [← hji7]; first | rfl | (simp [errW_none, errW_some] <;> rfl)) | (simp [*, errW_none, errW_some] <;> rfl), by repeat (first | (with_reducible first | exact HB.out | apply below_alloc | apply pw_below_drewN | apply below_drew1 | refine below_set ?_ GE115.out) | exact HB.out)⟩
        · rw [if_neg c9] at H
          exact absurd H (by simp)
      · rw [if_neg c8] at H
        exact absurd H (by simp)
    · replace c6 := Bool.eq_false_iff.mpr c6
      subst c6
      have H1 : ((linkhouseref5_At.f 4 (-1)).bind fun bt124 => (some (false, bt124.1, bt124.2))) = some (r1, r2, r3) := by rw [if_neg (show ¬ (false = true) by decide)] at H; exact H
      clear H
      have H := H1
      clear H1
      replace H := Option.bind_eq_some_iff.mp H
      obtain ⟨⟨t124, t125⟩, A150, H⟩ := H
      replace H : (some (false, t124, t125)) = some (r1, r2, r3) := H
      have A15 := Aside0.mk A150
      clear A150
      simp only [Option.some.injEq, Prod.mk.injEq] at H
      obtain ⟨rfl, rfl, rfl⟩ := H
      go_enter Try.func24, Try.ntmps24
      go_wp2_with (first | ((with_reducible refine gate_dst (N := 5) rfl ?_); refine box_event ?hg (N := 5) ?hd (cs := #[.int .i64 0, .int .i64 0]) (t := 33) ?hr ?_; (case hd => rfl); (case hg => rfl); (case hr => first | (go_simp; done) | (go_simp; rfl)); intro gb115 hg w16 hbox hb; have n0_ := Aside0.mk (below_step (by repeat (first | (with_reducible first | exact HB.out | apply below_alloc | apply pw_below_drewN | apply below_drew1) | exact HB.out)) hb); have n1_ := Aside0.mk (hbox); have n2_ := Aside0.mk ((by rw [hg]; exact (below_size (by repeat (first | (with_reducible first | exact HB.out | apply below_alloc | apply pw_below_drewN | apply below_drew1) | exact HB.out))) : w.heap.size ≤ gb115)); have n3_ := Aside0.mk ((by rw [hg]; exact (below_size (by repeat (first | (with_reducible first | exact HB.out | apply below_alloc | apply pw_below_drewN | apply below_drew1) | exact HB.out))) : w.heap.size ≤ gb115)); clear HB; have HB := n0_; have BK115 := n1_; have GW115 := n2_; have GE115 := n3_; clear n0_ n1_ n2_ n3_; clear hb hbox hg) | ((with_reducible refine gate_callee (f := 32) rfl ?_); refine goesL_ (some 12) rfl rfl Try.func32 (by kernel_rfl) rfl #[.int .i64 a1, .int .i64 0, .int .i64 15] rfl (by (try simp only [List.map_toArray, List.map_cons, List.map_nil]); first | done | rfl | (simp only [List.length_drop, List.length_take]; rfl)) ?_; (with_reducible refine (linkhouseref5_In.calls a1 0 15 true _ A3.out).mono ?_); rintro e w' ⟨rfl, ⟨nd, rfl⟩⟩; refine ⟨_, rfl, ?_⟩; (try (rw [drewN_self w16]; generalize hq_ : World.drewN w16 _ = w16; have n0_ : Aside0 (w16.heap[gb115]? = some (.cells #[.int .i64 0, .int .i64 0] 33 (0, 0))) := ⟨by rw [← hq_]; exact (by (with_reducible repeat (first | refine blk_drewN ?_ _ | refine blk_drew ?_ | refine blk_alloc ?_ _)); exact BK115.out)⟩; have n1_ : Aside0 (Below w.heap.size w w16) := ⟨by rw [← hq_]; exact (by repeat (first | (with_reducible first | exact HB.out | apply below_alloc | apply pw_below_drewN | apply below_drew1 | refine below_set ?_ GE115.out) | exact HB.out))⟩; clear BK115 HB hq_; have BK115 := n0_; have HB := n1_; clear n0_ n1_))) | ((with_reducible refine gate_callee (f := 32) rfl ?_); refine goesL_ (some 31) rfl rfl Try.func32 (by kernel_rfl) rfl #[.int .i64 a0, .int .i64 27, .int .i64 36] rfl (by (try simp only [List.map_toArray, List.map_cons, List.map_nil]); first | done | rfl | (simp only [List.length_drop, List.length_take]; rfl)) ?_; (with_reducible refine (linkhouseref5_In.calls a0 27 36 false _ A5.out).mono ?_); rintro e w' ⟨rfl, ⟨nd, rfl⟩⟩; refine ⟨_, rfl, ?_⟩; (try (rw [drewN_self w16]; generalize hq_ : World.drewN w16 _ = w16; have n0_ : Aside0 (w16.heap[gb115]? = some (.cells #[.int .i64 0, .int .i64 0] 33 (0, 0))) := ⟨by rw [← hq_]; exact (by (with_reducible repeat (first | refine blk_drewN ?_ _ | refine blk_drew ?_ | refine blk_alloc ?_ _)); exact BK115.out)⟩; have n1_ : Aside0 (Below w.heap.size w w16) := ⟨by rw [← hq_]; exact (by repeat (first | (with_reducible first | exact HB.out | apply below_alloc | apply pw_below_drewN | apply below_drew1 | refine below_set ?_ GE115.out) | exact HB.out))⟩; clear BK115 HB hq_; have BK115 := n0_; have HB := n1_; clear n0_ n1_))) | ((with_reducible refine gate_callee (f := 18) rfl ?_); refine goesL_ (some 33) rfl rfl Try.func18 (by kernel_rfl) rfl #[.int .i64 4, .int .i64 (-1)] rfl (by (try simp only [List.map_toArray, List.map_cons, List.map_nil]); first | done | rfl | (simp only [List.length_drop, List.length_take]; rfl)) ?_; (with_reducible refine (linkhouseref5_At.calls 4 (-1) t124 t125 _ A15.out).mono ?_); rintro e w17 ⟨rfl, hb⟩; refine ⟨_, rfl, ?_⟩; have n0_ := Aside0.mk (blk_below (g := gb115) (o := .cells #[.int .i64 0, .int .i64 0] 33 (0, 0)) (by (with_reducible repeat (first | refine blk_drewN ?_ _ | refine blk_drew ?_ | refine blk_alloc ?_ _)); exact BK115.out) hb); have n1_ := Aside0.mk (below_step (by repeat (first | (with_reducible first | exact HB.out | apply below_alloc | apply pw_below_drewN | apply below_drew1 | refine below_set ?_ GE115.out) | exact HB.out)) hb); clear BK115; clear HB; have BK115 := n0_; have HB := n1_; clear n0_ n1_; (try clear hb); (try clear hb2); (try clear hk); (try clear hi); have hcz18_0 : w17.cell? ⟨gb115, 0, none⟩ = some (.int .i64 0) := (blk_cell BK115.out 0).trans rfl; have hcz18_1 : w17.cell? ⟨gb115, 1, none⟩ = some (.int .i64 0) := (blk_cell BK115.out 1).trans rfl; have hfz18_0 := blk_frozen BK115.out 0; have hfz18_1 := blk_frozen BK115.out 1))
      refine bodyPost_ret (results_tc rfl _ _ gb115 33 #[.int .i64 t124, .int .i64 t125] (0, 0) _ rfl (by (with_reducible repeat (first | refine blk_drewN ?_ _ | refine blk_drew ?_ | refine blk_alloc ?_ _)); refine blk_put (cs := #[.int .i64 t124, .int .i64 0]) ?_ 1 _ rfl; (with_reducible repeat (first | refine blk_drewN ?_ _ | refine blk_drew ?_ | refine blk_alloc ?_ _)); refine blk_put (cs := #[.int .i64 0, .int .i64 0]) ?_ 0 _ rfl; (with_reducible repeat (first | refine blk_drewN ?_ _ | refine blk_drew ?_ | refine blk_alloc ?_ _)); exact BK115.out) Try.underlying33 rfl (by kernel_rfl)) rfl ?_
      exact ⟨by first | rfl | (simp [errW_none, errW_some] <;> rfl) | (simp [*, errW_none, errW_some] <;> rfl), by repeat (first | (with_reducible first | exact HB.out | apply below_alloc | apply pw_below_drewN | apply below_drew1 | refine below_set ?_ GE115.out) | exact HB.out)⟩
  · replace c4 := Bool.eq_false_iff.mpr c4
    subst c4
    have H1 : ((linkhouseref5_At.f 3 (-2)).bind fun bt117 => (some (false, bt117.1, bt117.2))) = some (r1, r2, r3) := by rw [if_neg (show ¬ (false = true) by decide)] at H; exact H
    clear H
    have H := H1
    clear H1
    replace H := Option.bind_eq_some_iff.mp H
    obtain ⟨⟨t117, t118⟩, A190, H⟩ := H
    replace H : (some (false, t117, t118)) = some (r1, r2, r3) := H
    have A19 := Aside0.mk A190
    clear A190
    simp only [Option.some.injEq, Prod.mk.injEq] at H
    obtain ⟨rfl, rfl, rfl⟩ := H
    go_enter Try.func24, Try.ntmps24
    go_wp2_with (first | ((with_reducible refine gate_dst (N := 5) rfl ?_); refine box_event ?hg (N := 5) ?hd (cs := #[.int .i64 0, .int .i64 0]) (t := 33) ?hr ?_; (case hd => rfl); (case hg => rfl); (case hr => first | (go_simp; done) | (go_simp; rfl)); intro gb115 hg w20 hbox hb; have n0_ := Aside0.mk (below_step (by repeat (first | (with_reducible first | exact HB.out | apply below_alloc | apply pw_below_drewN | apply below_drew1) | exact HB.out)) hb); have n1_ := Aside0.mk (hbox); have n2_ := Aside0.mk ((by rw [hg]; exact (below_size (by repeat (first | (with_reducible first | exact HB.out | apply below_alloc | apply pw_below_drewN | apply below_drew1) | exact HB.out))) : w.heap.size ≤ gb115)); have n3_ := Aside0.mk ((by rw [hg]; exact (below_size (by repeat (first | (with_reducible first | exact HB.out | apply below_alloc | apply pw_below_drewN | apply below_drew1) | exact HB.out))) : w.heap.size ≤ gb115)); clear HB; have HB := n0_; have BK115 := n1_; have GW115 := n2_; have GE115 := n3_; clear n0_ n1_ n2_ n3_; clear hb hbox hg) | ((with_reducible refine gate_callee (f := 32) rfl ?_); refine goesL_ (some 12) rfl rfl Try.func32 (by kernel_rfl) rfl #[.int .i64 a1, .int .i64 0, .int .i64 15] rfl (by (try simp only [List.map_toArray, List.map_cons, List.map_nil]); first | done | rfl | (simp only [List.length_drop, List.length_take]; rfl)) ?_; (with_reducible refine (linkhouseref5_In.calls a1 0 15 false _ A3.out).mono ?_); rintro e w' ⟨rfl, ⟨nd, rfl⟩⟩; refine ⟨_, rfl, ?_⟩; (try (rw [drewN_self w20]; generalize hq_ : World.drewN w20 _ = w20; have n0_ : Aside0 (w20.heap[gb115]? = some (.cells #[.int .i64 0, .int .i64 0] 33 (0, 0))) := ⟨by rw [← hq_]; exact (by (with_reducible repeat (first | refine blk_drewN ?_ _ | refine blk_drew ?_ | refine blk_alloc ?_ _)); exact BK115.out)⟩; have n1_ : Aside0 (Below w.heap.size w w20) := ⟨by rw [← hq_]; exact (by repeat (first | (with_reducible first | exact HB.out | apply below_alloc | apply pw_below_drewN | apply below_drew1 | refine below_set ?_ GE115.out) | exact HB.out))⟩; clear BK115 HB hq_; have BK115 := n0_; have HB := n1_; clear n0_ n1_))) | ((with_reducible refine gate_callee (f := 18) rfl ?_); refine goesL_ (some 14) rfl rfl Try.func18 (by kernel_rfl) rfl #[.int .i64 3, .int .i64 (-2)] rfl (by (try simp only [List.map_toArray, List.map_cons, List.map_nil]); first | done | rfl | (simp only [List.length_drop, List.length_take]; rfl)) ?_; (with_reducible refine (linkhouseref5_At.calls 3 (-2) t117 t118 _ A19.out).mono ?_); rintro e w21 ⟨rfl, hb⟩; refine ⟨_, rfl, ?_⟩; have n0_ := Aside0.mk (blk_below (g := gb115) (o := .cells #[.int .i64 0, .int .i64 0] 33 (0, 0)) (by (with_reducible repeat (first | refine blk_drewN ?_ _ | refine blk_drew ?_ | refine blk_alloc ?_ _)); exact BK115.out) hb); have n1_ := Aside0.mk (below_step (by repeat (first | (with_reducible first | exact HB.out | apply below_alloc | apply pw_below_drewN | apply below_drew1 | refine below_set ?_ GE115.out) | exact HB.out)) hb); clear BK115; clear HB; have BK115 := n0_; have HB := n1_; clear n0_ n1_; (try clear hb); (try clear hb2); (try clear hk); (try clear hi); have hcz22_0 : w21.cell? ⟨gb115, 0, none⟩ = some (.int .i64 0) := (blk_cell BK115.out 0).trans rfl; have hcz22_1 : w21.cell? ⟨gb115, 1, none⟩ = some (.int .i64 0) := (blk_cell BK115.out 1).trans rfl; have hfz22_0 := blk_frozen BK115.out 0; have hfz22_1 := blk_frozen BK115.out 1))
    refine bodyPost_ret (results_tc rfl _ _ gb115 33 #[.int .i64 t117, .int .i64 t118] (0, 0) _ rfl (by (with_reducible repeat (first | refine blk_drewN ?_ _ | refine blk_drew ?_ | refine blk_alloc ?_ _)); refine blk_put (cs := #[.int .i64 t117, .int .i64 0]) ?_ 1 _ rfl; (with_reducible repeat (first | refine blk_drewN ?_ _ | refine blk_drew ?_ | refine blk_alloc ?_ _)); refine blk_put (cs := #[.int .i64 0, .int .i64 0]) ?_ 0 _ rfl; (with_reducible repeat (first | refine blk_drewN ?_ _ | refine blk_drew ?_ | refine blk_alloc ?_ _)); exact BK115.out) Try.underlying33 rfl (by kernel_rfl)) rfl ?_
    exact ⟨by first | rfl | (simp [errW_none, errW_some] <;> rfl) | (simp [*, errW_none, errW_some] <;> rfl), by repeat (first | (with_reducible first | exact HB.out | apply below_alloc | apply pw_below_drewN | apply below_drew1 | refine below_set ?_ GE115.out) | exact HB.out)⟩

-- NOT PRINTED: function 7 (linkhouselaw5_AluTakenMatchesSpec)

end Go.Proofs.Ytdbeeblicpdphaa.PAluTakenMatchesSpec
