/- What the functions of package lanes compute, as contracts of their Go text: Add, Mul, Set, Sum. No condition. -/
import Derived.Test.YtdbeeblicpdphaaK
namespace Go.Proofs.Ytdbeeblicpdphaa
open Go.RowKit
theorem addlit_any (x y : Int) (w : World) : Calls Try.prog 26 #[.int .u32 x, .int .u32 y] w fun e w' => e = .returned (.int .u32 ((x + y) % 4294967296)) ∧ w' = w := by
  go_enter Try.func26, Try.ntmps26
  go_wp2
  go_ret
  exact ⟨rfl, rfl⟩
theorem mullit_any (x y : Int) (w : World) : Calls Try.prog 27 #[.int .u32 x, .int .u32 y] w fun e w' => e = .returned (.int .u32 ((x * y) % 4294967296)) ∧ w' = w := by
  go_enter Try.func27, Try.ntmps27
  go_wp2
  go_ret
  exact ⟨rfl, rfl⟩
set_option maxHeartbeats 400000 in
theorem zip_add (a b c d a' b' c' d' : Int) (w : World)  :
   Calls Try.prog 25 #[.agg #[.int .u32 a, .int .u32 b, .int .u32 c, .int .u32 d], .agg #[.int .u32 a', .int .u32 b', .int .u32 c', .int .u32 d'], .func (.func 26) #[] #[]] w fun e w' =>
    e = .returned (.agg #[.int .u32 ((a + a') % 4294967296), .int .u32 ((b + b') % 4294967296), .int .u32 ((c + c') % 4294967296), .int .u32 ((d + d') % 4294967296)]) ∧ Below w.heap.size w w' := by
  go_enter Try.func25, Try.ntmps25
  go_wp2
  refine wp_loop_rounds 5 ?_
  iterate 4
    (go_wp2_with (rw [rounds_succ])
     refine st_tail 10 (by kernel_rfl) (by kernel_rfl) ?_
     simp only [List.take_succ_cons, List.take_zero, List.drop_succ_cons, List.drop_zero]
     iterate 8 still_step
     still_call (addlit_any _ _ _)
     still_step
     refine wpStill_nil ?_)
  go_wp2_with (rw [rounds_succ])
  refine bodyPost_ret (v := .agg #[.int .u32 ((a + a') % 4294967296), .int .u32 ((b + b') % 4294967296), .int .u32 ((c + c') % 4294967296), .int .u32 ((d + d') % 4294967296)]) (by simp [results, Try.results25, go_sem]) rfl ⟨rfl, ?_⟩
  repeat (first | exact Below.refl _ _ | refine bl_drew ?_ | refine bl_alloc ?_ _)
set_option maxHeartbeats 400000 in
theorem zip_mul (a b c d a' b' c' d' : Int) (w : World)  :
   Calls Try.prog 25 #[.agg #[.int .u32 a, .int .u32 b, .int .u32 c, .int .u32 d], .agg #[.int .u32 a', .int .u32 b', .int .u32 c', .int .u32 d'], .func (.func 27) #[] #[]] w fun e w' =>
    e = .returned (.agg #[.int .u32 ((a * a') % 4294967296), .int .u32 ((b * b') % 4294967296), .int .u32 ((c * c') % 4294967296), .int .u32 ((d * d') % 4294967296)]) ∧ Below w.heap.size w w' := by
  go_enter Try.func25, Try.ntmps25
  go_wp2
  refine wp_loop_rounds 5 ?_
  iterate 4
    (go_wp2_with (rw [rounds_succ])
     refine st_tail 10 (by kernel_rfl) (by kernel_rfl) ?_
     simp only [List.take_succ_cons, List.take_zero, List.drop_succ_cons, List.drop_zero]
     iterate 8 still_step
     still_call (mullit_any _ _ _)
     still_step
     refine wpStill_nil ?_)
  go_wp2_with (rw [rounds_succ])
  refine bodyPost_ret (v := .agg #[.int .u32 ((a * a') % 4294967296), .int .u32 ((b * b') % 4294967296), .int .u32 ((c * c') % 4294967296), .int .u32 ((d * d') % 4294967296)]) (by simp [results, Try.results25, go_sem]) rfl ⟨rfl, ?_⟩
  repeat (first | exact Below.refl _ _ | refine bl_drew ?_ | refine bl_alloc ?_ _)
theorem add_any (a b c d a' b' c' d' : Int) (w : World)  :
   Calls Try.prog 12 #[.agg #[.int .u32 a, .int .u32 b, .int .u32 c, .int .u32 d], .agg #[.int .u32 a', .int .u32 b', .int .u32 c', .int .u32 d']] w fun e w' =>
    e = .returned (.agg #[.int .u32 ((a + a') % 4294967296), .int .u32 ((b + b') % 4294967296), .int .u32 ((c + c') % 4294967296), .int .u32 ((d + d') % 4294967296)]) ∧ Below w.heap.size w w' := by
  go_enter Try.func12, Try.ntmps12
  go_wp2_with fail
  refine (zip_add a b c d a' b' c' d' _).mono ?_
  rintro e w1 ⟨rfl, hb⟩
  obtain ⟨hc, hf⟩ := bcell hb
  go_wp2
  refine bodyPost_ret (v := .agg #[.int .u32 ((a + a') % 4294967296), .int .u32 ((b + b') % 4294967296), .int .u32 ((c + c') % 4294967296), .int .u32 ((d + d') % 4294967296)]) (by simp [results, Try.results12, go_sem, hc]) rfl ⟨rfl, ?_⟩
  refine Below.trans (b := w1) (bl_then ?_ hb) ?_
  · repeat (first | exact Below.refl _ _ | refine bl_drew ?_ | refine bl_alloc ?_ _)
  · repeat (first | exact Below.refl _ _ | refine Below.setCell ?_ (by simp; omega) _)
theorem mul_any (a b c d a' b' c' d' : Int) (w : World)  :
   Calls Try.prog 13 #[.agg #[.int .u32 a, .int .u32 b, .int .u32 c, .int .u32 d], .agg #[.int .u32 a', .int .u32 b', .int .u32 c', .int .u32 d']] w fun e w' =>
    e = .returned (.agg #[.int .u32 ((a * a') % 4294967296), .int .u32 ((b * b') % 4294967296), .int .u32 ((c * c') % 4294967296), .int .u32 ((d * d') % 4294967296)]) ∧ Below w.heap.size w w' := by
  go_enter Try.func13, Try.ntmps13
  go_wp2_with fail
  refine (zip_mul a b c d a' b' c' d' _).mono ?_
  rintro e w1 ⟨rfl, hb⟩
  obtain ⟨hc, hf⟩ := bcell hb
  go_wp2
  refine bodyPost_ret (v := .agg #[.int .u32 ((a * a') % 4294967296), .int .u32 ((b * b') % 4294967296), .int .u32 ((c * c') % 4294967296), .int .u32 ((d * d') % 4294967296)]) (by simp [results, Try.results13, go_sem, hc]) rfl ⟨rfl, ?_⟩
  refine Below.trans (b := w1) ?_ ?_
  · refine bl_then ?_ hb
    repeat (first | exact Below.refl _ _ | refine bl_drew ?_ | refine bl_alloc ?_ _)
  · repeat (first | exact Below.refl _ _ | refine Below.setCell ?_ (by simp; omega) _)
theorem sum_any (a b c d : Int) (w : World) : Calls Try.prog 15 #[.agg #[.int .u32 a, .int .u32 b, .int .u32 c, .int .u32 d]] w fun e w' => e = .returned (.int .u32 ((a + b + c + d) % 4294967296)) ∧ Below w.heap.size w w' := by
  have i0 : ∀ w, (Instr.index 23 (.agg #[.int .u32 a, .int .u32 b, .int .u32 c, .int .u32 d]) (.int .i64 0)).run Try.prog w = .ok (.int .u32 a) w := fun _ => by kernel_rfl
  have i1 : ∀ w, (Instr.index 23 (.agg #[.int .u32 a, .int .u32 b, .int .u32 c, .int .u32 d]) (.int .i64 1)).run Try.prog w = .ok (.int .u32 b) w := fun _ => by kernel_rfl
  have i2 : ∀ w, (Instr.index 23 (.agg #[.int .u32 a, .int .u32 b, .int .u32 c, .int .u32 d]) (.int .i64 2)).run Try.prog w = .ok (.int .u32 c) w := fun _ => by kernel_rfl
  have i3 : ∀ w, (Instr.index 23 (.agg #[.int .u32 a, .int .u32 b, .int .u32 c, .int .u32 d]) (.int .i64 3)).run Try.prog w = .ok (.int .u32 d) w := fun _ => by kernel_rfl
  go_enter Try.func15, Try.ntmps15
  go_wp2
  refine wp_loop_rounds 5 ?_
  go_wp2_with (rw [rounds_succ])
  go_ret
  exact ⟨ret_u32 (by omega), bl_alloc (Below.refl _ _) _⟩
theorem set_any (x : Int) (w : World) : Calls Try.prog 14 #[.int .u32 x] w fun e w' => e = .returned (.agg #[.int .u32 x, .int .u32 x, .int .u32 x, .int .u32 x]) ∧ Below w.heap.size w w' := by
  go_enter Try.func14, Try.ntmps14
  go_wp2
  refine bodyPost_ret (v := .agg #[.int .u32 x, .int .u32 x, .int .u32 x, .int .u32 x]) (by simp [results, Try.results14, go_sem]) rfl ⟨rfl, ?_⟩
  repeat (first | exact Below.refl _ _ | refine bl_drew ?_ | refine bl_alloc ?_ _)
end Go.Proofs.Ytdbeeblicpdphaa
