/- What aluExample of the statements computes: true. No condition. -/
import Derived.Test.YtdbeeblicpdphaaA4
import Derived.Test.YtdbeeblicpdphaaA5
namespace Go.Proofs.Ytdbeeblicpdphaa
open Go.RowKit
set_option linter.unusedVariables false
set_option linter.unusedSimpArgs false
set_option maxHeartbeats 1000000 in
theorem aluExample_any (w : World) : Calls Try.prog 22 #[] w fun e w' => e = .returned (.bool true) ∧ Below w.heap.size w w' := by
  go_enter Try.func22, Try.ntmps22
  go_wp2_with fail
  refine (do11 1 2 _).mono ?_
  rintro e w1 ⟨rfl, hb1⟩
  rw [show done ((1 - 2) % 4294967296) (decide ((1 : Int) < 2)) (ovS 1 2) = .tuple #[.int .u32 4294967295, .int .i64 6, .agg #[.int .i64 0, .int .i64 0]] from by kernel_rfl]
  go_wp2_with fail
  refine (tk29 1 (by decide) (by decide) _).mono ?_
  rintro e w2 ⟨rfl, hb2⟩
  rw [show took (bits BinOp.and .i64 1 1 != 0) = .tuple #[.bool true, .agg #[.int .i64 0, .int .i64 0]] from by kernel_rfl]
  have B3 := ((Bk.new w1 #[.int .i64 0, .int .i64 0] 33).below hb2).alloc (.cells #[.int .i64 0, .int .i64 0] 33)
  obtain ⟨k0, k1⟩ := B3.two
  go_wp2
  go_ret
  refine ⟨rfl, bl_alloc (bl_then ?_ hb2) _⟩
  exact bl_alloc hb1 _
end Go.Proofs.Ytdbeeblicpdphaa
