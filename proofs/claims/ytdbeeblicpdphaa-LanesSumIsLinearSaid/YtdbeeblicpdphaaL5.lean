/- LanesSumIsLinear: the sum of the lanes of a sum is the sum of both sums, and multiplication by equal lanes multiplies the sum. No condition. -/
import Derived.Test.YtdbeeblicpdphaaL4
namespace Go.Proofs.Ytdbeeblicpdphaa
open Go.RowKit
theorem lin_mul (a b c d x : Int) : (a * x % 4294967296 + b * x % 4294967296 + c * x % 4294967296 + d * x % 4294967296) % 4294967296 = x * ((a + b + c + d) % 4294967296) % 4294967296 := by
  rw [show x * ((a + b + c + d) % 4294967296) % 4294967296 = x * (a + b + c + d) % 4294967296 from by rw [Int.mul_emod, Int.emod_emod_of_dvd _ (Int.dvd_refl _), ← Int.mul_emod]]
  rw [show x * (a + b + c + d) = a * x + b * x + c * x + d * x from by simp only [Int.mul_comm x, Int.add_mul]]
  generalize a * x = p
  generalize b * x = q
  generalize c * x = r
  generalize d * x = t
  omega
set_option maxHeartbeats 4000000 in
theorem sumIsLinear_any (a b c d a' b' c' d' x : Int) (w : World) : Calls Try.prog 5 #[.agg #[.int .u32 a, .int .u32 b, .int .u32 c, .int .u32 d], .agg #[.int .u32 a', .int .u32 b', .int .u32 c', .int .u32 d'], .int .u32 x] w fun e w' => e = .returned (.bool true) ∧ Below w.heap.size w w' := by
  go_enter Try.func5, Try.ntmps5
  go_wp2_with fail
  have B1 := (Bk.new w #[.int .u32 a, .int .u32 b, .int .u32 c, .int .u32 d] 23).alloc (.cells #[.int .u32 a', .int .u32 b', .int .u32 c', .int .u32 d'] 23)
  have B2 : Bk _ (w.heap.size + 1) _ _ := Bk.new' (W := w.alloc (.cells #[.int .u32 a, .int .u32 b, .int .u32 c, .int .u32 d] 23)) #[.int .u32 a', .int .u32 b', .int .u32 c', .int .u32 d'] 23 (by simp)
  refine quiet_in (by kernel_rfl) (by kernel_rfl) ?_
  refine q_call rfl (fun W hW => by go_simp) (fun W hW => Cb.of hW (lanesExample_any _)) ?_
  simp only [Act.put, List.setIfInBounds_toArray, List.set_cons_zero, List.set_cons_succ]
  refine q_val rfl (fun W hW => by go_simp; rfl) ?_
  simp only [Act.put, List.setIfInBounds_toArray, List.set_cons_zero, List.set_cons_succ]
  refine q_val rfl (fun W hW => by obtain ⟨k0, k1, k2, k3⟩ := (B1.below hW).four; go_simp; rfl) ?_
  simp only [Act.put, List.setIfInBounds_toArray, List.set_cons_zero, List.set_cons_succ]
  refine q_val rfl (fun W hW => by obtain ⟨k0, k1, k2, k3⟩ := (B2.below hW).four; go_simp; rfl) ?_
  simp only [Act.put, List.setIfInBounds_toArray, List.set_cons_zero, List.set_cons_succ]
  refine q_call rfl (fun W hW => by go_simp) (fun W hW => Cb.of hW (add_any a b c d a' b' c' d' _)) ?_
  simp only [Act.put, List.setIfInBounds_toArray, List.set_cons_zero, List.set_cons_succ]
  refine q_call rfl (fun W hW => by go_simp) (fun W hW => Cb.of hW (sum_any ((a + a') % 4294967296) ((b + b') % 4294967296) ((c + c') % 4294967296) ((d + d') % 4294967296) _)) ?_
  simp only [Act.put, List.setIfInBounds_toArray, List.set_cons_zero, List.set_cons_succ]
  refine q_val rfl (fun W hW => by obtain ⟨k0, k1, k2, k3⟩ := (B1.below hW).four; go_simp; rfl) ?_
  simp only [Act.put, List.setIfInBounds_toArray, List.set_cons_zero, List.set_cons_succ]
  refine q_call rfl (fun W hW => by go_simp) (fun W hW => Cb.of hW (sum_any a b c d _)) ?_
  simp only [Act.put, List.setIfInBounds_toArray, List.set_cons_zero, List.set_cons_succ]
  refine q_val rfl (fun W hW => by obtain ⟨k0, k1, k2, k3⟩ := (B2.below hW).four; go_simp; rfl) ?_
  simp only [Act.put, List.setIfInBounds_toArray, List.set_cons_zero, List.set_cons_succ]
  refine q_call rfl (fun W hW => by go_simp) (fun W hW => Cb.of hW (sum_any a' b' c' d' _)) ?_
  simp only [Act.put, List.setIfInBounds_toArray, List.set_cons_zero, List.set_cons_succ]
  refine q_val rfl (fun W hW => by go_simp; rfl) ?_
  simp only [Act.put, List.setIfInBounds_toArray, List.set_cons_zero, List.set_cons_succ]
  refine q_val (v := .bool true) rfl (fun W hW => by go_simp; rw [IntKind.wrap_u32]; omega) ?_
  simp only [Act.put, List.setIfInBounds_toArray, List.set_cons_zero, List.set_cons_succ]
  refine q_val rfl (fun W hW => by go_simp; rfl) ?_
  simp only [Act.put, List.setIfInBounds_toArray, List.set_cons_zero, List.set_cons_succ]
  refine q_val rfl (fun W hW => by go_simp; rfl) ?_
  simp only [Act.put, List.setIfInBounds_toArray, List.set_cons_zero, List.set_cons_succ]
  refine q_val rfl (fun W hW => by obtain ⟨k0, k1, k2, k3⟩ := (B1.below hW).four; go_simp; rfl) ?_
  simp only [Act.put, List.setIfInBounds_toArray, List.set_cons_zero, List.set_cons_succ]
  refine q_val rfl (fun W hW => by go_simp; rfl) ?_
  simp only [Act.put, List.setIfInBounds_toArray, List.set_cons_zero, List.set_cons_succ]
  refine q_call rfl (fun W hW => by go_simp) (fun W hW => Cb.of hW (set_any x _)) ?_
  simp only [Act.put, List.setIfInBounds_toArray, List.set_cons_zero, List.set_cons_succ]
  refine q_call rfl (fun W hW => by go_simp) (fun W hW => Cb.of hW (mul_any a b c d x x x x _)) ?_
  simp only [Act.put, List.setIfInBounds_toArray, List.set_cons_zero, List.set_cons_succ]
  refine q_call rfl (fun W hW => by go_simp) (fun W hW => Cb.of hW (sum_any (a * x % 4294967296) (b * x % 4294967296) (c * x % 4294967296) (d * x % 4294967296) _)) ?_
  simp only [Act.put, List.setIfInBounds_toArray, List.set_cons_zero, List.set_cons_succ]
  refine q_val rfl (fun W hW => by go_simp; rfl) ?_
  simp only [Act.put, List.setIfInBounds_toArray, List.set_cons_zero, List.set_cons_succ]
  refine q_val rfl (fun W hW => by obtain ⟨k0, k1, k2, k3⟩ := (B1.below hW).four; go_simp; rfl) ?_
  simp only [Act.put, List.setIfInBounds_toArray, List.set_cons_zero, List.set_cons_succ]
  refine q_call rfl (fun W hW => by go_simp) (fun W hW => Cb.of hW (sum_any a b c d _)) ?_
  simp only [Act.put, List.setIfInBounds_toArray, List.set_cons_zero, List.set_cons_succ]
  refine q_val rfl (fun W hW => by go_simp; rfl) ?_
  simp only [Act.put, List.setIfInBounds_toArray, List.set_cons_zero, List.set_cons_succ]
  refine q_val (v := .bool true) rfl (fun W hW => by go_simp; rw [IntKind.wrap_u32, ← lin_mul a b c d x]; omega) ?_
  simp only [Act.put, List.setIfInBounds_toArray, List.set_cons_zero, List.set_cons_succ]
  refine q_val rfl (fun W hW => by go_simp; rfl) ?_
  simp only [Act.put, List.setIfInBounds_toArray, List.set_cons_zero, List.set_cons_succ]
  refine q_val rfl (fun W hW => by go_simp; rfl) ?_
  simp only [Act.put, List.setIfInBounds_toArray, List.set_cons_zero, List.set_cons_succ]
  refine wpQuiet_nil ?_
  intro w1 hw1
  go_wp2
  go_ret
  refine ⟨rfl, bl_then ?_ hw1⟩
  exact bl_alloc (bl_alloc (Below.refl _ _) _) _
theorem sumIsLinear_walk (a b c d : Int) (_ : W4 a b c d) (a' b' c' d' : Int) (_ : W4 a' b' c' d') (x : Int) (_ : (Lit.int .u32 x).wf = true) (w : World) : Calls Try.prog 5 #[.agg #[.int .u32 a, .int .u32 b, .int .u32 c, .int .u32 d], .agg #[.int .u32 a', .int .u32 b', .int .u32 c', .int .u32 d'], .int .u32 x] w fun e w' => e = .returned (.bool true) ∧ Below w.heap.size w w' := sumIsLinear_any a b c d a' b' c' d' x w
end Go.Proofs.Ytdbeeblicpdphaa
