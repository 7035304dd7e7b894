/- AluFlagsOrderNumbers: after Cmp the flags tell the order of the words. Conditions: the words are words. -/
import Derived.Test.YtdbeeblicpdphaaA7
namespace Go.Proofs.Ytdbeeblicpdphaa
open Go.RowKit
set_option linter.unusedVariables false
set_option linter.unusedSimpArgs false
structure Aside1 (p : Prop) : Prop where mk :: (out : p)
theorem less_pure (a b : Int) (ha : 0 ≤ a ∧ a < 4294967296) (hb : 0 ≤ b ∧ b < 4294967296) : (((a - b) % 4294967296 / 2147483648 == 1) != ovS a b) = decide ((a + 2147483648) % 4294967296 < (b + 2147483648) % 4294967296) := by
  have hs : 0 ≤ (a - b) % 4294967296 ∧ (a - b) % 4294967296 < 4294967296 := by omega
  rw [ovS_eq a b ha hb, top_if _ hs]
  unfold sg
  rw [Bool.eq_iff_iff, bne_iff_ne, decide_eq_true_iff]
  by_cases c1 : 2147483648 ≤ a <;> by_cases c2 : 2147483648 ≤ b <;> by_cases c3 : 2147483648 ≤ (a - b) % 4294967296 <;> simp [c1, c2, c3] <;> omega
theorem eq_pure (a b : Int) (ha : 0 ≤ a ∧ a < 4294967296) (hb : 0 ≤ b ∧ b < 4294967296) : ((a - b) % 4294967296 == 0) = (a == b) := by
  rw [Bool.eq_iff_iff, beq_iff_eq, beq_iff_eq]; omega
set_option maxHeartbeats 4000000 in
theorem flags_walk (a : Int) (wa : (Lit.int .u32 a).wf = true) (b : Int) (wb : (Lit.int .u32 b).wf = true) (w : World) : Calls Try.prog 8 #[.int .u32 a, .int .u32 b] w fun e w' => e = .returned (.bool true) ∧ Below w.heap.size w w' := by
  have ha := w_range wa
  have hb := w_range wb
  have E1 := less_pure a b ha hb
  have E2 := eq_pure a b ha hb
  obtain ⟨f, hf⟩ : ∃ f, f = fl ((a - b) % 4294967296 == 0) ((a - b) % 4294967296 / 2147483648 == 1) (decide (a < b)) (ovS a b) := ⟨_, rfl⟩
  obtain ⟨h0, h1⟩ := fl_range ((a - b) % 4294967296 == 0) ((a - b) % 4294967296 / 2147483648 == 1) (decide (a < b)) (ovS a b)
  rw [← hf] at h0 h1
  have e33 : took ((bits BinOp.and .i64 f 2 != 0) != (bits BinOp.and .i64 f 8 != 0)) = .tuple #[.bool (decide ((a + 2147483648) % 4294967296 < (b + 2147483648) % 4294967296)), .agg #[.int .i64 0, .int .i64 0]] := by rw [hf, fl_2, fl_8, E1]; rfl
  have e35 : took (bits BinOp.and .i64 f 4 != 0) = .tuple #[.bool (decide (a < b)), .agg #[.int .i64 0, .int .i64 0]] := by rw [hf, fl_4]; rfl
  have e29 : took (bits BinOp.and .i64 f 1 != 0) = .tuple #[.bool (a == b), .agg #[.int .i64 0, .int .i64 0]] := by rw [hf, fl_1, E2]; rfl
  have ed : done ((a - b) % 4294967296) (decide (a < b)) (ovS a b) = .tuple #[.int .u32 ((a - b) % 4294967296), .int .i64 f, .agg #[.int .i64 0, .int .i64 0]] := by rw [hf]; rfl
  clear E1 E2 hf
  have F33 := Aside1.mk e33
  have F35 := Aside1.mk e35
  have F29 := Aside1.mk e29
  have FD := Aside1.mk ed
  clear e33 e35 e29 ed
  go_enter Try.func8, Try.ntmps8
  go_wp2_with fail
  refine (aluExample_any _).mono ?_
  rintro e w0 ⟨rfl, hb0⟩
  go_wp2_with fail
  refine (do19 a b _).mono ?_
  rintro e w1 ⟨rfl, hb1⟩
  rw [FD.out]
  replace hb1 := bl_alloc (bl_then hb0 hb1) (.cells #[.int .i64 0, .int .i64 0] 33)
  have B1 := Bk.new w1 #[.int .i64 0, .int .i64 0] 33
  clear hb0
  go_wp2_with fail
  refine (tk33 f h0 h1 _).mono ?_
  rintro e w2 ⟨rfl, hb2⟩
  rw [F33.out]
  replace hb1 := bl_alloc (bl_then hb1 hb2) (.cells #[.int .i64 0, .int .i64 0] 33)
  replace B1 := (B1.below hb2).alloc (.cells #[.int .i64 0, .int .i64 0] 33)
  have B2 := Bk.new w2 #[.int .i64 0, .int .i64 0] 33
  clear hb2
  go_wp2_with fail
  refine (tk35 f h0 h1 _).mono ?_
  rintro e w3 ⟨rfl, hb2⟩
  rw [F35.out]
  replace hb1 := bl_alloc (bl_then hb1 hb2) (.cells #[.int .i64 0, .int .i64 0] 33)
  replace B1 := (B1.below hb2).alloc (.cells #[.int .i64 0, .int .i64 0] 33)
  replace B2 := (B2.below hb2).alloc (.cells #[.int .i64 0, .int .i64 0] 33)
  have B3 := Bk.new w3 #[.int .i64 0, .int .i64 0] 33
  clear hb2
  go_wp2_with fail
  refine (tk29 f h0 h1 _).mono ?_
  rintro e w4 ⟨rfl, hb2⟩
  rw [F29.out]
  replace hb1 := bl_alloc (bl_then hb1 hb2) (.cells #[.int .i64 0, .int .i64 0] 33)
  replace B1 := (B1.below hb2).alloc (.cells #[.int .i64 0, .int .i64 0] 33)
  replace B2 := (B2.below hb2).alloc (.cells #[.int .i64 0, .int .i64 0] 33)
  replace B3 := (B3.below hb2).alloc (.cells #[.int .i64 0, .int .i64 0] 33)
  clear hb2 ha hb h0 h1
  obtain ⟨k0, k1⟩ := B1.two
  obtain ⟨l0, l1⟩ := B2.two
  obtain ⟨m0, m1⟩ := B3.two
  go_wp2
  go_ret
  exact ⟨rfl, hb1⟩
end Go.Proofs.Ytdbeeblicpdphaa
