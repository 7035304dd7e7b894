/- What add and sub of package alu compute. No condition. -/
import Derived.Test.YtdbeeblicpdphaaA1
namespace Go.Proofs.Ytdbeeblicpdphaa
open Go.RowKit
/-- The overflow of a sum, of a difference, as the Go text computes it. -/
def ovA (a b : Int) : Bool := bits BinOp.and .u32 (bits BinOp.xor .u32 a ((a + b) % 4294967296)) (bits BinOp.xor .u32 b ((a + b) % 4294967296)) / 2147483648 == 1
def ovS (a b : Int) : Bool := bits BinOp.and .u32 (bits BinOp.xor .u32 a b) (bits BinOp.xor .u32 a ((a - b) % 4294967296)) / 2147483648 == 1
set_option maxHeartbeats 4000000 in
theorem add_w (a b : Int) (w : World) : Calls Try.prog 33 #[.int .u32 a, .int .u32 b] w fun e w' => e = .returned (res ((a + b) % 4294967296) (decide ((a + b) % 4294967296 < a)) (ovA a b)) ∧ Below w.heap.size w w' := by
  go_enter Try.func33, Try.ntmps33
  go_wp2_with fail
  refine (of_w _ _ _ _).mono ?_
  rintro e w1 ⟨rfl, hb⟩
  obtain ⟨hc, hf⟩ := bcell hb
  simp only [res]
  go_wp2
  refine bodyPost_ret (v := res ((a + b) % 4294967296) (decide ((a + b) % 4294967296 < a)) (ovA a b)) (by simp [results, Try.results33, go_sem, res, ovA, hc]) rfl ⟨rfl, ?_⟩
  refine Below.trans (b := w1) (bl_then ?_ hb) ?_
  · repeat (first | exact Below.refl _ _ | refine bl_drew ?_ | refine bl_alloc ?_ _)
  · repeat (first | exact Below.refl _ _ | refine Below.setCell ?_ (by simp) _)
set_option maxHeartbeats 4000000 in
theorem sub_w (a b : Int) (w : World) : Calls Try.prog 34 #[.int .u32 a, .int .u32 b] w fun e w' => e = .returned (res ((a - b) % 4294967296) (decide (a < b)) (ovS a b)) ∧ Below w.heap.size w w' := by
  go_enter Try.func34, Try.ntmps34
  go_wp2_with fail
  refine (of_w _ _ _ _).mono ?_
  rintro e w1 ⟨rfl, hb⟩
  obtain ⟨hc, hf⟩ := bcell hb
  simp only [res]
  go_wp2
  refine bodyPost_ret (v := res ((a - b) % 4294967296) (decide (a < b)) (ovS a b)) (by simp [results, Try.results34, go_sem, res, ovS, hc]) rfl ⟨rfl, ?_⟩
  refine Below.trans (b := w1) (bl_then ?_ hb) ?_
  · repeat (first | exact Below.refl _ _ | refine bl_drew ?_ | refine bl_alloc ?_ _)
  · repeat (first | exact Below.refl _ _ | refine Below.setCell ?_ (by simp) _)
end Go.Proofs.Ytdbeeblicpdphaa
