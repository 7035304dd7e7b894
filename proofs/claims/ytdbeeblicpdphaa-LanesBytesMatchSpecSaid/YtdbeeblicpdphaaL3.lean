/- What Of of package lanes computes, as contracts of its Go text: the vector of sixteen bytes, or the fault. Conditions: the slice can be read. -/
import Derived.Test.YtdbeeblicpdphaaK
namespace Go.Proofs.Ytdbeeblicpdphaa
open Go.RowKit
/-- Four bytes joined as the Go text joins them. -/
def wd (a b c d : Int) : Int := bits BinOp.or IntKind.u32 (bits BinOp.or IntKind.u32 (bits BinOp.or IntKind.u32 (bits BinOp.or IntKind.u32 0 (a % 4294967296)) (b % 4294967296 * 256 % 4294967296)) (c % 4294967296 * 65536 % 4294967296)) (d % 4294967296 * 16777216 % 4294967296)
theorem wd_eq (a b c d : Int) : bits BinOp.or IntKind.u32 (bits BinOp.or IntKind.u32 (bits BinOp.or IntKind.u32 (bits BinOp.or IntKind.u32 0 (a % 4294967296)) (b % 4294967296 * 256 % 4294967296)) (c % 4294967296 * 65536 % 4294967296)) (d % 4294967296 * 16777216 % 4294967296) = wd a b c d := rfl
set_option maxHeartbeats 8000000 in
theorem of_16 (b off cap : Nat) (x0 x1 x2 x3 x4 x5 x6 x7 x8 x9 x10 x11 x12 x13 x14 x15 : Int) (w : World) (hb : b < w.heap.size)
   (h0 : w.cell? ⟨b, off, none⟩ = some (.int .u8 x0)) (h1 : w.cell? ⟨b, off + 1, none⟩ = some (.int .u8 x1)) (h2 : w.cell? ⟨b, off + 2, none⟩ = some (.int .u8 x2)) (h3 : w.cell? ⟨b, off + 3, none⟩ = some (.int .u8 x3))
   (h4 : w.cell? ⟨b, off + 4, none⟩ = some (.int .u8 x4)) (h5 : w.cell? ⟨b, off + 5, none⟩ = some (.int .u8 x5)) (h6 : w.cell? ⟨b, off + 6, none⟩ = some (.int .u8 x6)) (h7 : w.cell? ⟨b, off + 7, none⟩ = some (.int .u8 x7))
   (h8 : w.cell? ⟨b, off + 8, none⟩ = some (.int .u8 x8)) (h9 : w.cell? ⟨b, off + 9, none⟩ = some (.int .u8 x9)) (h10 : w.cell? ⟨b, off + 10, none⟩ = some (.int .u8 x10)) (h11 : w.cell? ⟨b, off + 11, none⟩ = some (.int .u8 x11))
   (h12 : w.cell? ⟨b, off + 12, none⟩ = some (.int .u8 x12)) (h13 : w.cell? ⟨b, off + 13, none⟩ = some (.int .u8 x13)) (h14 : w.cell? ⟨b, off + 14, none⟩ = some (.int .u8 x14)) (h15 : w.cell? ⟨b, off + 15, none⟩ = some (.int .u8 x15)) :
   Calls Try.prog 17 #[.slice (some ⟨b, off, none⟩) 16 cap] w fun e w' => e = .returned (.tuple #[.agg #[.int .u32 (wd x0 x1 x2 x3), .int .u32 (wd x4 x5 x6 x7), .int .u32 (wd x8 x9 x10 x11), .int .u32 (wd x12 x13 x14 x15)], .agg #[.int .i64 0, .int .i64 0]]) ∧ Below w.heap.size w w' := by
  have hb1 : b < w.heap.size + 1 := by omega
  have hb2 : b < w.heap.size + 1 + 1 := by omega
  have hb3 : b < w.heap.size + 1 + 1 + 1 := by omega
  have z0 : IntKind.i64.wrap 0 = 0 := by decide
  have z1 : IntKind.i64.wrap 1 = 1 := by decide
  have z2 : IntKind.i64.wrap 2 = 2 := by decide
  have z3 : IntKind.i64.wrap 3 = 3 := by decide
  have z8 : IntKind.i64.wrap 8 = 8 := by decide
  have z16 : IntKind.i64.wrap 16 = 16 := by decide
  have z24 : IntKind.i64.wrap 24 = 24 := by decide
  go_enter Try.func17, Try.ntmps17
  go_wp2
  refine wp_loop_rounds 17 ?_
  iterate 16
   (go_wp2_with (rw [rounds_succ])
    refine st_tail 12 (by kernel_rfl) (by kernel_rfl) ?_
    simp only [List.take_succ_cons, List.take_zero, List.drop_succ_cons, List.drop_zero]
    iterate 12 still_step
    refine wpStill_nil ?_)
  go_wp2_with (rw [rounds_succ])
  refine bodyPost_ret (v := .tuple #[.agg #[.int .u32 (wd x0 x1 x2 x3), .int .u32 (wd x4 x5 x6 x7), .int .u32 (wd x8 x9 x10 x11), .int .u32 (wd x12 x13 x14 x15)], .agg #[.int .i64 0, .int .i64 0]]) (by simp [results, Try.results17, go_sem, wd_eq]) rfl ⟨rfl, ?_⟩
  repeat (first | exact Below.refl _ _ | refine bl_drew ?_ | refine bl_alloc ?_ _)
theorem of_no (A : Option Addr) (n cap : Nat) (w : World) (hn : ((n : Int) != 16) = true) :
   Calls Try.prog 17 #[.slice A n cap] w fun e w' => e = .returned (.tuple #[.agg #[.int .u32 0, .int .u32 0, .int .u32 0, .int .u32 0], .agg #[.int .i64 9, .int .i64 (-1)]]) ∧ Below w.heap.size w w' := by
  go_enter Try.func17, Try.ntmps17
  go_wp2
  refine bodyPost_ret (v := .tuple #[.agg #[.int .u32 0, .int .u32 0, .int .u32 0, .int .u32 0], .agg #[.int .i64 9, .int .i64 (-1)]]) (by simp [results, Try.results17, go_sem]) rfl ⟨rfl, ?_⟩
  repeat (first | exact Below.refl _ _ | refine bl_drew ?_ | refine bl_alloc ?_ _)
end Go.Proofs.Ytdbeeblicpdphaa
