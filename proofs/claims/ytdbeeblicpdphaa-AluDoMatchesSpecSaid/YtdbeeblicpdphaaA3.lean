/- The operation that package alu takes for a form: a function value; nil for any other form. No condition. -/
import Derived.Test.YtdbeeblicpdphaaA2
namespace Go.Proofs.Ytdbeeblicpdphaa
open Go.RowKit
theorem pl36 (w : World) : Calls Try.prog 35 #[.func (.func 36) #[] #[]] w fun e w' => e = .returned (.func (.func 45) #[] #[.pointer (some ⟨w.heap.size, 0, none⟩)]) ∧ w' = w.alloc (.cells #[.func (.func 36) #[] #[]] 48) := by
  go_enter Try.func35, Try.ntmps35
  go_wp2
  go_ret
  exact ⟨rfl, rfl⟩
theorem pl37 (w : World) : Calls Try.prog 35 #[.func (.func 37) #[] #[]] w fun e w' => e = .returned (.func (.func 45) #[] #[.pointer (some ⟨w.heap.size, 0, none⟩)]) ∧ w' = w.alloc (.cells #[.func (.func 37) #[] #[]] 48) := by
  go_enter Try.func35, Try.ntmps35
  go_wp2
  go_ret
  exact ⟨rfl, rfl⟩
theorem pl38 (w : World) : Calls Try.prog 35 #[.func (.func 38) #[] #[]] w fun e w' => e = .returned (.func (.func 45) #[] #[.pointer (some ⟨w.heap.size, 0, none⟩)]) ∧ w' = w.alloc (.cells #[.func (.func 38) #[] #[]] 48) := by
  go_enter Try.func35, Try.ntmps35
  go_wp2
  go_ret
  exact ⟨rfl, rfl⟩
theorem pl39 (w : World) : Calls Try.prog 35 #[.func (.func 39) #[] #[]] w fun e w' => e = .returned (.func (.func 45) #[] #[.pointer (some ⟨w.heap.size, 0, none⟩)]) ∧ w' = w.alloc (.cells #[.func (.func 39) #[] #[]] 48) := by
  go_enter Try.func35, Try.ntmps35
  go_wp2
  go_ret
  exact ⟨rfl, rfl⟩
theorem pl40 (w : World) : Calls Try.prog 35 #[.func (.func 40) #[] #[]] w fun e w' => e = .returned (.func (.func 45) #[] #[.pointer (some ⟨w.heap.size, 0, none⟩)]) ∧ w' = w.alloc (.cells #[.func (.func 40) #[] #[]] 48) := by
  go_enter Try.func35, Try.ntmps35
  go_wp2
  go_ret
  exact ⟨rfl, rfl⟩
theorem pl41 (w : World) : Calls Try.prog 35 #[.func (.func 41) #[] #[]] w fun e w' => e = .returned (.func (.func 45) #[] #[.pointer (some ⟨w.heap.size, 0, none⟩)]) ∧ w' = w.alloc (.cells #[.func (.func 41) #[] #[]] 48) := by
  go_enter Try.func35, Try.ntmps35
  go_wp2
  go_ret
  exact ⟨rfl, rfl⟩
theorem pl42 (w : World) : Calls Try.prog 35 #[.func (.func 42) #[] #[]] w fun e w' => e = .returned (.func (.func 45) #[] #[.pointer (some ⟨w.heap.size, 0, none⟩)]) ∧ w' = w.alloc (.cells #[.func (.func 42) #[] #[]] 48) := by
  go_enter Try.func35, Try.ntmps35
  go_wp2
  go_ret
  exact ⟨rfl, rfl⟩
theorem opn9 (w : World) : Calls Try.prog 28 #[.int .i64 9] w fun e w' => e = .returned (.func (.func 33) #[] #[]) ∧ w' = w := by
  go_enter Try.func28, Try.ntmps28
  go_wp2
  go_ret
  exact ⟨rfl, rfl⟩
theorem opn10 (w : World) : Calls Try.prog 28 #[.int .i64 10] w fun e w' => e = .returned (.func (.func 33) #[] #[]) ∧ w' = w := by
  go_enter Try.func28, Try.ntmps28
  go_wp2
  go_ret
  exact ⟨rfl, rfl⟩
theorem opn11 (w : World) : Calls Try.prog 28 #[.int .i64 11] w fun e w' => e = .returned (.func (.func 34) #[] #[]) ∧ w' = w := by
  go_enter Try.func28, Try.ntmps28
  go_wp2
  go_ret
  exact ⟨rfl, rfl⟩
theorem opn19 (w : World) : Calls Try.prog 28 #[.int .i64 19] w fun e w' => e = .returned (.func (.func 34) #[] #[]) ∧ w' = w := by
  go_enter Try.func28, Try.ntmps28
  go_wp2
  go_ret
  exact ⟨rfl, rfl⟩
theorem opn20 (w : World) : Calls Try.prog 28 #[.int .i64 20] w fun e w' => e = .returned (.func (.func 34) #[] #[]) ∧ w' = w := by
  go_enter Try.func28, Try.ntmps28
  go_wp2
  go_ret
  exact ⟨rfl, rfl⟩
theorem opn12 (w : World) : Calls Try.prog 28 #[.int .i64 12] w fun e w' => e = .returned (.func (.func 45) #[] #[.pointer (some ⟨w.heap.size, 0, none⟩)]) ∧ w' = w.alloc (.cells #[.func (.func 36) #[] #[]] 48) := by
  go_enter Try.func28, Try.ntmps28
  go_wp2_with fail
  refine (pl36 _).mono ?_
  rintro e w1 ⟨rfl, rfl⟩
  go_wp2
  go_ret
  exact ⟨rfl, rfl⟩
theorem opn13 (w : World) : Calls Try.prog 28 #[.int .i64 13] w fun e w' => e = .returned (.func (.func 45) #[] #[.pointer (some ⟨w.heap.size, 0, none⟩)]) ∧ w' = w.alloc (.cells #[.func (.func 37) #[] #[]] 48) := by
  go_enter Try.func28, Try.ntmps28
  go_wp2_with fail
  refine (pl37 _).mono ?_
  rintro e w1 ⟨rfl, rfl⟩
  go_wp2
  go_ret
  exact ⟨rfl, rfl⟩
theorem opn14 (w : World) : Calls Try.prog 28 #[.int .i64 14] w fun e w' => e = .returned (.func (.func 45) #[] #[.pointer (some ⟨w.heap.size, 0, none⟩)]) ∧ w' = w.alloc (.cells #[.func (.func 38) #[] #[]] 48) := by
  go_enter Try.func28, Try.ntmps28
  go_wp2_with fail
  refine (pl38 _).mono ?_
  rintro e w1 ⟨rfl, rfl⟩
  go_wp2
  go_ret
  exact ⟨rfl, rfl⟩
theorem opn15 (w : World) : Calls Try.prog 28 #[.int .i64 15] w fun e w' => e = .returned (.func (.func 45) #[] #[.pointer (some ⟨w.heap.size, 0, none⟩)]) ∧ w' = w.alloc (.cells #[.func (.func 39) #[] #[]] 48) := by
  go_enter Try.func28, Try.ntmps28
  go_wp2_with fail
  refine (pl39 _).mono ?_
  rintro e w1 ⟨rfl, rfl⟩
  go_wp2
  go_ret
  exact ⟨rfl, rfl⟩
theorem opn16 (w : World) : Calls Try.prog 28 #[.int .i64 16] w fun e w' => e = .returned (.func (.func 45) #[] #[.pointer (some ⟨w.heap.size, 0, none⟩)]) ∧ w' = w.alloc (.cells #[.func (.func 40) #[] #[]] 48) := by
  go_enter Try.func28, Try.ntmps28
  go_wp2_with fail
  refine (pl40 _).mono ?_
  rintro e w1 ⟨rfl, rfl⟩
  go_wp2
  go_ret
  exact ⟨rfl, rfl⟩
theorem opn17 (w : World) : Calls Try.prog 28 #[.int .i64 17] w fun e w' => e = .returned (.func (.func 45) #[] #[.pointer (some ⟨w.heap.size, 0, none⟩)]) ∧ w' = w.alloc (.cells #[.func (.func 41) #[] #[]] 48) := by
  go_enter Try.func28, Try.ntmps28
  go_wp2_with fail
  refine (pl41 _).mono ?_
  rintro e w1 ⟨rfl, rfl⟩
  go_wp2
  go_ret
  exact ⟨rfl, rfl⟩
theorem opn18 (w : World) : Calls Try.prog 28 #[.int .i64 18] w fun e w' => e = .returned (.func (.func 45) #[] #[.pointer (some ⟨w.heap.size, 0, none⟩)]) ∧ w' = w.alloc (.cells #[.func (.func 42) #[] #[]] 48) := by
  go_enter Try.func28, Try.ntmps28
  go_wp2_with fail
  refine (pl42 _).mono ?_
  rintro e w1 ⟨rfl, rfl⟩
  go_wp2
  go_ret
  exact ⟨rfl, rfl⟩
theorem opn_no (f : Int) (h9 : (f == 9) = false) (h10 : (f == 10) = false) (h11 : (f == 11) = false) (h19 : (f == 19) = false) (h20 : (f == 20) = false) (h12 : (f == 12) = false) (h13 : (f == 13) = false) (h14 : (f == 14) = false) (h15 : (f == 15) = false) (h16 : (f == 16) = false) (h17 : (f == 17) = false) (h18 : (f == 18) = false) (w : World) : Calls Try.prog 28 #[.int .i64 f] w fun e w' => e = .returned .nilFunc ∧ w' = w := by
  go_enter Try.func28, Try.ntmps28
  go_wp2
  go_ret
  exact ⟨rfl, rfl⟩
end Go.Proofs.Ytdbeeblicpdphaa
