/- What Taken of package alu computes, form by form, as contracts of its Go text. Condition: the flags lie between 0 and 15, where it says so. -/
import Derived.Test.YtdbeeblicpdphaaA1
namespace Go.Proofs.Ytdbeeblicpdphaa
open Go.RowKit
set_option linter.unusedVariables false
set_option linter.unusedSimpArgs false
theorem Bk.one' {W : World} {g : Nat} {c0 : Value} {t : TypeId} (h : Bk W g #[c0] t) : W.cell? ⟨g, 0, none⟩ = some c0 := h.cell 0
theorem has_any (k f : Int) (g : Nat) (w : World) (hB : Bk w g #[.int .i64 f] 3) : Calls Try.prog 31 #[.int .i64 k, .pointer (some ⟨g, 0, none⟩)] w fun e w' => e = .returned (.bool (bits BinOp.and .i64 f k != 0)) ∧ w' = w := by
  have k0 := hB.one'
  go_enter Try.func31, Try.ntmps31
  go_wp2
  go_ret
  exact ⟨rfl, rfl⟩
/-- An answer of Taken that is no fault. -/
def took (b : Bool) : Value := .tuple #[.bool b, .agg #[.int .i64 0, .int .i64 0]]
theorem tk27 (f : Int) (h0 : 0 ≤ f) (h1 : f ≤ 15) (w : World) : Calls Try.prog 23 #[.int .i64 27, .int .i64 f] w fun e w' => e = .returned (took true) ∧ Below w.heap.size w w' := by
  have B := (Bk.new w #[.int .i64 f] 3).alloc (.cells #[.int .i64 0, .int .i64 0] 33)
  go_enter Try.func23, Try.ntmps23
  go_wp2_with fail
  refine bodyPost_ret (v := took true) (by simp [results, Try.results23, go_sem, took]; try (cases (bits BinOp.and IntKind.i64 f 2 != 0) <;> cases (bits BinOp.and IntKind.i64 f 8 != 0) <;> rfl)) rfl ⟨rfl, ?_⟩
  repeat (first | exact Below.refl _ _ | refine bl_drew ?_ | refine bl_alloc ?_ _ | refine Below.setCell ?_ (by simp) _)
theorem tk28 (f : Int) (h0 : 0 ≤ f) (h1 : f ≤ 15) (w : World) : Calls Try.prog 23 #[.int .i64 28, .int .i64 f] w fun e w' => e = .returned (took true) ∧ Below w.heap.size w w' := by
  have B := (Bk.new w #[.int .i64 f] 3).alloc (.cells #[.int .i64 0, .int .i64 0] 33)
  go_enter Try.func23, Try.ntmps23
  go_wp2_with fail
  refine bodyPost_ret (v := took true) (by simp [results, Try.results23, go_sem, took]; try (cases (bits BinOp.and IntKind.i64 f 2 != 0) <;> cases (bits BinOp.and IntKind.i64 f 8 != 0) <;> rfl)) rfl ⟨rfl, ?_⟩
  repeat (first | exact Below.refl _ _ | refine bl_drew ?_ | refine bl_alloc ?_ _ | refine Below.setCell ?_ (by simp) _)
theorem tk29 (f : Int) (h0 : 0 ≤ f) (h1 : f ≤ 15) (w : World) : Calls Try.prog 23 #[.int .i64 29, .int .i64 f] w fun e w' => e = .returned (took (bits BinOp.and .i64 f 1 != 0)) ∧ Below w.heap.size w w' := by
  have B := (Bk.new w #[.int .i64 f] 3).alloc (.cells #[.int .i64 0, .int .i64 0] 33)
  go_enter Try.func23, Try.ntmps23
  go_wp2_with fail
  refine (has_any 1 f _ _ B).mono ?_
  rintro e w1 ⟨rfl, rfl⟩
  go_wp2_with fail
  refine bodyPost_ret (v := took (bits BinOp.and .i64 f 1 != 0)) (by simp [results, Try.results23, go_sem, took]; try (cases (bits BinOp.and IntKind.i64 f 2 != 0) <;> cases (bits BinOp.and IntKind.i64 f 8 != 0) <;> rfl)) rfl ⟨rfl, ?_⟩
  repeat (first | exact Below.refl _ _ | refine bl_drew ?_ | refine bl_alloc ?_ _ | refine Below.setCell ?_ (by simp) _)
theorem tk30 (f : Int) (h0 : 0 ≤ f) (h1 : f ≤ 15) (w : World) : Calls Try.prog 23 #[.int .i64 30, .int .i64 f] w fun e w' => e = .returned (took (bits BinOp.and .i64 f 1 != 0)) ∧ Below w.heap.size w w' := by
  have B := (Bk.new w #[.int .i64 f] 3).alloc (.cells #[.int .i64 0, .int .i64 0] 33)
  go_enter Try.func23, Try.ntmps23
  go_wp2_with fail
  refine (has_any 1 f _ _ B).mono ?_
  rintro e w1 ⟨rfl, rfl⟩
  go_wp2_with fail
  refine bodyPost_ret (v := took (bits BinOp.and .i64 f 1 != 0)) (by simp [results, Try.results23, go_sem, took]; try (cases (bits BinOp.and IntKind.i64 f 2 != 0) <;> cases (bits BinOp.and IntKind.i64 f 8 != 0) <;> rfl)) rfl ⟨rfl, ?_⟩
  repeat (first | exact Below.refl _ _ | refine bl_drew ?_ | refine bl_alloc ?_ _ | refine Below.setCell ?_ (by simp) _)
theorem tk31 (f : Int) (h0 : 0 ≤ f) (h1 : f ≤ 15) (w : World) : Calls Try.prog 23 #[.int .i64 31, .int .i64 f] w fun e w' => e = .returned (took (!(bits BinOp.and .i64 f 1 != 0))) ∧ Below w.heap.size w w' := by
  have B := (Bk.new w #[.int .i64 f] 3).alloc (.cells #[.int .i64 0, .int .i64 0] 33)
  go_enter Try.func23, Try.ntmps23
  go_wp2_with fail
  refine (has_any 1 f _ _ B).mono ?_
  rintro e w1 ⟨rfl, rfl⟩
  go_wp2_with fail
  refine bodyPost_ret (v := took (!(bits BinOp.and .i64 f 1 != 0))) (by simp [results, Try.results23, go_sem, took]; try (cases (bits BinOp.and IntKind.i64 f 2 != 0) <;> cases (bits BinOp.and IntKind.i64 f 8 != 0) <;> rfl)) rfl ⟨rfl, ?_⟩
  repeat (first | exact Below.refl _ _ | refine bl_drew ?_ | refine bl_alloc ?_ _ | refine Below.setCell ?_ (by simp) _)
theorem tk32 (f : Int) (h0 : 0 ≤ f) (h1 : f ≤ 15) (w : World) : Calls Try.prog 23 #[.int .i64 32, .int .i64 f] w fun e w' => e = .returned (took (!(bits BinOp.and .i64 f 1 != 0))) ∧ Below w.heap.size w w' := by
  have B := (Bk.new w #[.int .i64 f] 3).alloc (.cells #[.int .i64 0, .int .i64 0] 33)
  go_enter Try.func23, Try.ntmps23
  go_wp2_with fail
  refine (has_any 1 f _ _ B).mono ?_
  rintro e w1 ⟨rfl, rfl⟩
  go_wp2_with fail
  refine bodyPost_ret (v := took (!(bits BinOp.and .i64 f 1 != 0))) (by simp [results, Try.results23, go_sem, took]; try (cases (bits BinOp.and IntKind.i64 f 2 != 0) <;> cases (bits BinOp.and IntKind.i64 f 8 != 0) <;> rfl)) rfl ⟨rfl, ?_⟩
  repeat (first | exact Below.refl _ _ | refine bl_drew ?_ | refine bl_alloc ?_ _ | refine Below.setCell ?_ (by simp) _)
theorem tk33 (f : Int) (h0 : 0 ≤ f) (h1 : f ≤ 15) (w : World) : Calls Try.prog 23 #[.int .i64 33, .int .i64 f] w fun e w' => e = .returned (took ((bits BinOp.and .i64 f 2 != 0) != (bits BinOp.and .i64 f 8 != 0))) ∧ Below w.heap.size w w' := by
  have B := (Bk.new w #[.int .i64 f] 3).alloc (.cells #[.int .i64 0, .int .i64 0] 33)
  go_enter Try.func23, Try.ntmps23
  go_wp2_with fail
  refine (has_any 2 f _ _ B).mono ?_
  rintro e w1 ⟨rfl, rfl⟩
  go_wp2_with fail
  refine (has_any 8 f _ _ B).mono ?_
  rintro e w1 ⟨rfl, rfl⟩
  go_wp2_with fail
  refine bodyPost_ret (v := took ((bits BinOp.and .i64 f 2 != 0) != (bits BinOp.and .i64 f 8 != 0))) (by simp [results, Try.results23, go_sem, took]; try (cases (bits BinOp.and IntKind.i64 f 2 != 0) <;> cases (bits BinOp.and IntKind.i64 f 8 != 0) <;> rfl)) rfl ⟨rfl, ?_⟩
  repeat (first | exact Below.refl _ _ | refine bl_drew ?_ | refine bl_alloc ?_ _ | refine Below.setCell ?_ (by simp) _)
theorem tk34 (f : Int) (h0 : 0 ≤ f) (h1 : f ≤ 15) (w : World) : Calls Try.prog 23 #[.int .i64 34, .int .i64 f] w fun e w' => e = .returned (took ((bits BinOp.and .i64 f 2 != 0) != (bits BinOp.and .i64 f 8 != 0))) ∧ Below w.heap.size w w' := by
  have B := (Bk.new w #[.int .i64 f] 3).alloc (.cells #[.int .i64 0, .int .i64 0] 33)
  go_enter Try.func23, Try.ntmps23
  go_wp2_with fail
  refine (has_any 2 f _ _ B).mono ?_
  rintro e w1 ⟨rfl, rfl⟩
  go_wp2_with fail
  refine (has_any 8 f _ _ B).mono ?_
  rintro e w1 ⟨rfl, rfl⟩
  go_wp2_with fail
  refine bodyPost_ret (v := took ((bits BinOp.and .i64 f 2 != 0) != (bits BinOp.and .i64 f 8 != 0))) (by simp [results, Try.results23, go_sem, took]; try (cases (bits BinOp.and IntKind.i64 f 2 != 0) <;> cases (bits BinOp.and IntKind.i64 f 8 != 0) <;> rfl)) rfl ⟨rfl, ?_⟩
  repeat (first | exact Below.refl _ _ | refine bl_drew ?_ | refine bl_alloc ?_ _ | refine Below.setCell ?_ (by simp) _)
theorem tk35 (f : Int) (h0 : 0 ≤ f) (h1 : f ≤ 15) (w : World) : Calls Try.prog 23 #[.int .i64 35, .int .i64 f] w fun e w' => e = .returned (took (bits BinOp.and .i64 f 4 != 0)) ∧ Below w.heap.size w w' := by
  have B := (Bk.new w #[.int .i64 f] 3).alloc (.cells #[.int .i64 0, .int .i64 0] 33)
  go_enter Try.func23, Try.ntmps23
  go_wp2_with fail
  refine (has_any 4 f _ _ B).mono ?_
  rintro e w1 ⟨rfl, rfl⟩
  go_wp2_with fail
  refine bodyPost_ret (v := took (bits BinOp.and .i64 f 4 != 0)) (by simp [results, Try.results23, go_sem, took]; try (cases (bits BinOp.and IntKind.i64 f 2 != 0) <;> cases (bits BinOp.and IntKind.i64 f 8 != 0) <;> rfl)) rfl ⟨rfl, ?_⟩
  repeat (first | exact Below.refl _ _ | refine bl_drew ?_ | refine bl_alloc ?_ _ | refine Below.setCell ?_ (by simp) _)
theorem tk36 (f : Int) (h0 : 0 ≤ f) (h1 : f ≤ 15) (w : World) : Calls Try.prog 23 #[.int .i64 36, .int .i64 f] w fun e w' => e = .returned (took (bits BinOp.and .i64 f 4 != 0)) ∧ Below w.heap.size w w' := by
  have B := (Bk.new w #[.int .i64 f] 3).alloc (.cells #[.int .i64 0, .int .i64 0] 33)
  go_enter Try.func23, Try.ntmps23
  go_wp2_with fail
  refine (has_any 4 f _ _ B).mono ?_
  rintro e w1 ⟨rfl, rfl⟩
  go_wp2_with fail
  refine bodyPost_ret (v := took (bits BinOp.and .i64 f 4 != 0)) (by simp [results, Try.results23, go_sem, took]; try (cases (bits BinOp.and IntKind.i64 f 2 != 0) <;> cases (bits BinOp.and IntKind.i64 f 8 != 0) <;> rfl)) rfl ⟨rfl, ?_⟩
  repeat (first | exact Below.refl _ _ | refine bl_drew ?_ | refine bl_alloc ?_ _ | refine Below.setCell ?_ (by simp) _)
theorem tk_no (g f : Int) (h0 : 0 ≤ f) (h1 : f ≤ 15) (h27 : (g == 27) = false) (h28 : (g == 28) = false) (h29 : (g == 29) = false) (h30 : (g == 30) = false) (h31 : (g == 31) = false) (h32 : (g == 32) = false) (h33 : (g == 33) = false) (h34 : (g == 34) = false) (h35 : (g == 35) = false) (h36 : (g == 36) = false) (w : World) : Calls Try.prog 23 #[.int .i64 g, .int .i64 f] w fun e w' => e = .returned (.tuple #[.bool false, .agg #[.int .i64 4, .int .i64 (-1)]]) ∧ Below w.heap.size w w' := by
  go_enter Try.func23, Try.ntmps23
  go_wp2_with fail
  refine bodyPost_ret (v := .tuple #[.bool false, .agg #[.int .i64 4, .int .i64 (-1)]]) (by simp [results, Try.results23, go_sem]) rfl ⟨rfl, ?_⟩
  repeat (first | exact Below.refl _ _ | refine bl_drew ?_ | refine bl_alloc ?_ _ | refine Below.setCell ?_ (by simp) _)
theorem tk_out (g f : Int) (h : f < 0 ∨ 15 < f) (w : World) : Calls Try.prog 23 #[.int .i64 g, .int .i64 f] w fun e w' => e = .returned (.tuple #[.bool false, .agg #[.int .i64 3, .int .i64 (-2)]]) ∧ Below w.heap.size w w' := by
  rcases h with h | h
  · go_enter Try.func23, Try.ntmps23
    go_wp2_with fail
    refine bodyPost_ret (v := .tuple #[.bool false, .agg #[.int .i64 3, .int .i64 (-2)]]) (by simp [results, Try.results23, go_sem]) rfl ⟨rfl, ?_⟩
    repeat (first | exact Below.refl _ _ | refine bl_drew ?_ | refine bl_alloc ?_ _ | refine Below.setCell ?_ (by simp) _)
  · have h' : ¬ f < 0 := by omega
    go_enter Try.func23, Try.ntmps23
    go_wp2_with fail
    refine bodyPost_ret (v := .tuple #[.bool false, .agg #[.int .i64 3, .int .i64 (-2)]]) (by simp [results, Try.results23, go_sem]) rfl ⟨rfl, ?_⟩
    repeat (first | exact Below.refl _ _ | refine bl_drew ?_ | refine bl_alloc ?_ _ | refine Below.setCell ?_ (by simp) _)
/-- What each flag is, out of the number. -/
theorem fl_range (z n c v : Bool) : 0 ≤ fl z n c v ∧ fl z n c v ≤ 15 := by cases z <;> cases n <;> cases c <;> cases v <;> decide
theorem fl_1 (z n c v : Bool) : (bits BinOp.and .i64 (fl z n c v) 1 != 0) = z := by cases z <;> cases n <;> cases c <;> cases v <;> decide
theorem fl_2 (z n c v : Bool) : (bits BinOp.and .i64 (fl z n c v) 2 != 0) = n := by cases z <;> cases n <;> cases c <;> cases v <;> decide
theorem fl_4 (z n c v : Bool) : (bits BinOp.and .i64 (fl z n c v) 4 != 0) = c := by cases z <;> cases n <;> cases c <;> cases v <;> decide
theorem fl_8 (z n c v : Bool) : (bits BinOp.and .i64 (fl z n c v) 8 != 0) = v := by cases z <;> cases n <;> cases c <;> cases v <;> decide
end Go.Proofs.Ytdbeeblicpdphaa
