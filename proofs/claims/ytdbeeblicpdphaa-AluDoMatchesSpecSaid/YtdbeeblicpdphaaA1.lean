/- What of of package alu computes: a word with its flags. Condition: it is a word. -/
import Derived.Test.YtdbeeblicpdphaaK
namespace Go.Proofs.Ytdbeeblicpdphaa
open Go.RowKit
def fl (z n c v : Bool) : Int := (if z then 1 else 0) + (if n then 2 else 0) + (if c then 4 else 0) + (if v then 8 else 0)
set_option maxHeartbeats 4000000 in
theorem of_any (a : Int) (w : World) (z n c v : Bool) (hz : (a == 0) = z) (hn : (a / 2147483648 == 1) = n) (hzn : z = true → n = false) : Calls Try.prog 44 #[.int .u32 a, .bool c, .bool v] w fun e w' => e = .returned (.agg #[.int .u32 a, .int .i64 (fl z n c v)]) ∧ Below w.heap.size w w' := by
  have b1 : bits BinOp.or IntKind.i64 0 1 = 1 := by decide
  have b2 : bits BinOp.or IntKind.i64 0 2 = 2 := by decide
  have b3 : bits BinOp.or IntKind.i64 1 2 = 3 := by decide
  cases z <;> cases n <;> cases c <;> cases v
  all_goals first
    | (exfalso; have := hzn rfl; cases this; done)
    | (clear hzn
       go_enter Try.func44, Try.ntmps44
       go_wp2
       refine wp_loop_rounds 5 ?_
       iterate 4
         (go_wp2_with (rw [rounds_succ])
          try go_region)
       go_wp2_with (rw [rounds_succ])
       refine bodyPost_ret (v := .agg #[.int .u32 a, .int .i64 (fl _ _ _ _)]) (by simp [results, Try.results44, go_sem, fl]; try decide) rfl ⟨rfl, ?_⟩
       repeat (first | exact Below.refl _ _ | refine bl_drew ?_ | refine bl_alloc ?_ _))

/-- A word's result with the two flags that the word itself decides. -/
def res (a : Int) (c v : Bool) : Value := .agg #[.int .u32 a, .int .i64 (fl (a == 0) (a / 2147483648 == 1) c v)]
theorem of_w (a : Int) (c v : Bool) (w : World) : Calls Try.prog 44 #[.int .u32 a, .bool c, .bool v] w fun e w' => e = .returned (res a c v) ∧ Below w.heap.size w w' :=
  of_any a w _ _ c v rfl rfl (fun h => by
    have : a = 0 := by simpa using h
    subst this; rfl)
end Go.Proofs.Ytdbeeblicpdphaa
