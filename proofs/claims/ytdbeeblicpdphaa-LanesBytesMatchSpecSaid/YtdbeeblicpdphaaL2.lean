/- What Bytes of package lanes computes, as a contract of its Go text: the sixteen bytes in a new slice. No condition. -/
import Derived.Test.YtdbeeblicpdphaaK
namespace Go.Proofs.Ytdbeeblicpdphaa
open Go.RowKit
def by4 (a : Int) : List Value := [.int .u8 (a % 256), .int .u8 (a / 256 % 256), .int .u8 (a / 65536 % 256), .int .u8 (a / 16777216 % 256)]
def BytesPost (a b c d : Int) (w : World) (e : Ending) (w' : World) : Prop :=
  ∃ v, e = .returned v ∧ w'.ownsRow w.heap.size 5 1 v 16 (by4 a ++ by4 b ++ by4 c ++ by4 d) ∧ Below w.heap.size w w'
set_option maxHeartbeats 4000000 in
theorem bytes_any (a b c d : Int) (w : World)  :
   Calls Try.prog 16 #[.agg #[.int .u32 a, .int .u32 b, .int .u32 c, .int .u32 d]] w (BytesPost a b c d w) := by
  have i0 : ∀ w, (Instr.index 23 (.agg #[.int .u32 a, .int .u32 b, .int .u32 c, .int .u32 d]) (.int .i64 0)).run Try.prog w = .ok (.int .u32 a) w := fun _ => by kernel_rfl
  have i1 : ∀ w, (Instr.index 23 (.agg #[.int .u32 a, .int .u32 b, .int .u32 c, .int .u32 d]) (.int .i64 1)).run Try.prog w = .ok (.int .u32 b) w := fun _ => by kernel_rfl
  have i2 : ∀ w, (Instr.index 23 (.agg #[.int .u32 a, .int .u32 b, .int .u32 c, .int .u32 d]) (.int .i64 2)).run Try.prog w = .ok (.int .u32 c) w := fun _ => by kernel_rfl
  have i3 : ∀ w, (Instr.index 23 (.agg #[.int .u32 a, .int .u32 b, .int .u32 c, .int .u32 d]) (.int .i64 3)).run Try.prog w = .ok (.int .u32 d) w := fun _ => by kernel_rfl
  have HO : World.ownsRow (w.alloc (.cells #[.int .u32 a, .int .u32 b, .int .u32 c, .int .u32 d] 23)) w.heap.size 5 1 (.slice none 0 0) ([] : List Value).length [] := World.ownsRow_nil _ w.heap.size 5 1
  have HB := bl_alloc (Below.refl w.heap.size w) (.cells #[.int .u32 a, .int .u32 b, .int .u32 c, .int .u32 d] 23)
  have HS := bl_size HB
  go_enter Try.func16, Try.ntmps16
  go_wp2
  refine wp_loop_rounds 5 ?_
  iterate 4
    (go_wp2_with (rw [rounds_succ])
     refine wp_loop_rounds 5 ?_
     go_wp2_with (first | (at_builtin; refine ap_u8 rfl (.tmp 14) (.tmp 20) rfl _ _ _ _ rfl rfl (by simp) rfl HO HB HS (by simp) ?_; clear HO HB HS; intro v1 w1 HO HB HS) | rw [rounds_succ]))
  go_wp2_with (rw [rounds_succ])
  go_ret
  exact ⟨_, rfl, HO, HB⟩
end Go.Proofs.Ytdbeeblicpdphaa
