/- AluTakenMatchesSpec: Taken returns the answer and the fault that the specification requires for all forms and flags. No condition. -/
import Derived.Test.YtdbeeblicpdphaaA6
import Derived.Test.YtdbeeblicpdphaaPAluTakenMatchesSpecx1
namespace Go.Proofs.Ytdbeeblicpdphaa
open Go.RowKit Go.Proofs.Ytdbeeblicpdphaa.PAluTakenMatchesSpec Go.Proofs.YtdbeeblicpdphaaW.PrintWords Go.Proofs.YtdbeeblicpdphaaW.PrintLast Go.Proofs.YtdbeeblicpdphaaW.PrintMore
set_option linter.unusedVariables false
set_option linter.unusedSimpArgs false
/-- The law, where both sides come to the same answer. -/
theorem takenLaw (g f : Int) (b : Bool) (c i : Int) (hT : ∀ w, Calls Try.prog 23 #[.int .i64 g, .int .i64 f] w fun e w' => e = .returned (.tuple #[.bool b, .agg #[.int .i64 c, .int .i64 i]]) ∧ Below w.heap.size w w')
    (hF : linkhouseref5_Taken.f g f = some (b, c, i)) (w : World) : Calls Try.prog 7 #[.int .i64 g, .int .i64 f] w fun e w' => e = .returned (.bool true) ∧ Below w.heap.size w w' := by
  have HT := Aside0.mk hT
  have HF := Aside0.mk hF
  clear hT hF
  go_enter Try.func7, Try.ntmps7
  go_wp2_with fail
  refine (HT.out _).mono ?_
  rintro e w1 ⟨rfl, hb1⟩
  have B1 := Bk.new w1 #[.int .i64 c, .int .i64 i] 33
  replace hb1 := bl_alloc hb1 (.cells #[.int .i64 c, .int .i64 i] 33)
  go_wp2_with fail
  refine (linkhouseref5_Taken.calls g f b c i _ HF.out).mono ?_
  rintro e w2 ⟨rfl, hb2⟩
  replace B1 := (B1.below hb2).alloc (.cells #[.int .i64 c, .int .i64 i] 33)
  replace hb1 := bl_alloc (bl_then hb1 hb2) (.cells #[.int .i64 c, .int .i64 i] 33)
  have B2 := Bk.new w2 #[.int .i64 c, .int .i64 i] 33
  clear hb2
  go_wp2_with fail
  refine (aluExample_any _).mono ?_
  rintro e w3 ⟨rfl, hb2⟩
  obtain ⟨k0, k1⟩ := (B1.below hb2).two
  obtain ⟨l0, l1⟩ := (B2.below hb2).two
  replace hb1 := bl_then hb1 hb2
  clear hb2 B1 B2
  go_wp2
  go_ret
  exact ⟨rfl, hb1⟩
theorem flags_of (f : Int) (h0 : 0 ≤ f) (h1 : f ≤ 15) : ∃ z n c v, f = fl z n c v := by
  have : f = 0 ∨ f = 1 ∨ f = 2 ∨ f = 3 ∨ f = 4 ∨ f = 5 ∨ f = 6 ∨ f = 7 ∨ f = 8 ∨ f = 9 ∨ f = 10 ∨ f = 11 ∨ f = 12 ∨ f = 13 ∨ f = 14 ∨ f = 15 := by omega
  rcases this with rfl | rfl | rfl | rfl | rfl | rfl | rfl | rfl | rfl | rfl | rfl | rfl | rfl | rfl | rfl | rfl
  · exact ⟨false, false, false, false, rfl⟩
  · exact ⟨true, false, false, false, rfl⟩
  · exact ⟨false, true, false, false, rfl⟩
  · exact ⟨true, true, false, false, rfl⟩
  · exact ⟨false, false, true, false, rfl⟩
  · exact ⟨true, false, true, false, rfl⟩
  · exact ⟨false, true, true, false, rfl⟩
  · exact ⟨true, true, true, false, rfl⟩
  · exact ⟨false, false, false, true, rfl⟩
  · exact ⟨true, false, false, true, rfl⟩
  · exact ⟨false, true, false, true, rfl⟩
  · exact ⟨true, true, false, true, rfl⟩
  · exact ⟨false, false, true, true, rfl⟩
  · exact ⟨true, false, true, true, rfl⟩
  · exact ⟨false, true, true, true, rfl⟩
  · exact ⟨true, true, true, true, rfl⟩
theorem tkL27 (z n c v : Bool) (w : World) : Calls Try.prog 7 #[.int .i64 27, .int .i64 (fl z n c v)] w fun e w' => e = .returned (.bool true) ∧ Below w.heap.size w w' :=
  takenLaw 27 (fl z n c v) true 0 0 (fun w => by have h := tk27 (fl z n c v) (fl_range z n c v).1 (fl_range z n c v).2 w; exact h) (by cases z <;> cases n <;> cases c <;> cases v <;> decide +kernel) w
theorem tkL28 (z n c v : Bool) (w : World) : Calls Try.prog 7 #[.int .i64 28, .int .i64 (fl z n c v)] w fun e w' => e = .returned (.bool true) ∧ Below w.heap.size w w' :=
  takenLaw 28 (fl z n c v) true 0 0 (fun w => by have h := tk28 (fl z n c v) (fl_range z n c v).1 (fl_range z n c v).2 w; exact h) (by cases z <;> cases n <;> cases c <;> cases v <;> decide +kernel) w
theorem tkL29 (z n c v : Bool) (w : World) : Calls Try.prog 7 #[.int .i64 29, .int .i64 (fl z n c v)] w fun e w' => e = .returned (.bool true) ∧ Below w.heap.size w w' :=
  takenLaw 29 (fl z n c v) z 0 0 (fun w => by have h := tk29 (fl z n c v) (fl_range z n c v).1 (fl_range z n c v).2 w; rw [fl_1] at h; exact h) (by cases z <;> cases n <;> cases c <;> cases v <;> decide +kernel) w
theorem tkL30 (z n c v : Bool) (w : World) : Calls Try.prog 7 #[.int .i64 30, .int .i64 (fl z n c v)] w fun e w' => e = .returned (.bool true) ∧ Below w.heap.size w w' :=
  takenLaw 30 (fl z n c v) z 0 0 (fun w => by have h := tk30 (fl z n c v) (fl_range z n c v).1 (fl_range z n c v).2 w; rw [fl_1] at h; exact h) (by cases z <;> cases n <;> cases c <;> cases v <;> decide +kernel) w
theorem tkL31 (z n c v : Bool) (w : World) : Calls Try.prog 7 #[.int .i64 31, .int .i64 (fl z n c v)] w fun e w' => e = .returned (.bool true) ∧ Below w.heap.size w w' :=
  takenLaw 31 (fl z n c v) (!z) 0 0 (fun w => by have h := tk31 (fl z n c v) (fl_range z n c v).1 (fl_range z n c v).2 w; rw [fl_1] at h; exact h) (by cases z <;> cases n <;> cases c <;> cases v <;> decide +kernel) w
theorem tkL32 (z n c v : Bool) (w : World) : Calls Try.prog 7 #[.int .i64 32, .int .i64 (fl z n c v)] w fun e w' => e = .returned (.bool true) ∧ Below w.heap.size w w' :=
  takenLaw 32 (fl z n c v) (!z) 0 0 (fun w => by have h := tk32 (fl z n c v) (fl_range z n c v).1 (fl_range z n c v).2 w; rw [fl_1] at h; exact h) (by cases z <;> cases n <;> cases c <;> cases v <;> decide +kernel) w
theorem tkL33 (z n c v : Bool) (w : World) : Calls Try.prog 7 #[.int .i64 33, .int .i64 (fl z n c v)] w fun e w' => e = .returned (.bool true) ∧ Below w.heap.size w w' :=
  takenLaw 33 (fl z n c v) (n != v) 0 0 (fun w => by have h := tk33 (fl z n c v) (fl_range z n c v).1 (fl_range z n c v).2 w; rw [fl_2, fl_8] at h; exact h) (by cases z <;> cases n <;> cases c <;> cases v <;> decide +kernel) w
theorem tkL34 (z n c v : Bool) (w : World) : Calls Try.prog 7 #[.int .i64 34, .int .i64 (fl z n c v)] w fun e w' => e = .returned (.bool true) ∧ Below w.heap.size w w' :=
  takenLaw 34 (fl z n c v) (n != v) 0 0 (fun w => by have h := tk34 (fl z n c v) (fl_range z n c v).1 (fl_range z n c v).2 w; rw [fl_2, fl_8] at h; exact h) (by cases z <;> cases n <;> cases c <;> cases v <;> decide +kernel) w
theorem tkL35 (z n c v : Bool) (w : World) : Calls Try.prog 7 #[.int .i64 35, .int .i64 (fl z n c v)] w fun e w' => e = .returned (.bool true) ∧ Below w.heap.size w w' :=
  takenLaw 35 (fl z n c v) c 0 0 (fun w => by have h := tk35 (fl z n c v) (fl_range z n c v).1 (fl_range z n c v).2 w; rw [fl_4] at h; exact h) (by cases z <;> cases n <;> cases c <;> cases v <;> decide +kernel) w
theorem tkL36 (z n c v : Bool) (w : World) : Calls Try.prog 7 #[.int .i64 36, .int .i64 (fl z n c v)] w fun e w' => e = .returned (.bool true) ∧ Below w.heap.size w w' :=
  takenLaw 36 (fl z n c v) c 0 0 (fun w => by have h := tk36 (fl z n c v) (fl_range z n c v).1 (fl_range z n c v).2 w; rw [fl_4] at h; exact h) (by cases z <;> cases n <;> cases c <;> cases v <;> decide +kernel) w
theorem taken_walk (g : Int) (_ : (Lit.int .i64 g).wf = true) (f : Int) (_ : (Lit.int .i64 f).wf = true) (w : World) : Calls Try.prog 7 #[.int .i64 g, .int .i64 f] w fun e w' => e = .returned (.bool true) ∧ Below w.heap.size w w' := by
  by_cases hf : 0 ≤ f ∧ f ≤ 15
  · obtain ⟨z, n, c, v, rfl⟩ := flags_of f hf.1 hf.2
    by_cases hg : 27 ≤ g ∧ g ≤ 36
    · have : g = 27 ∨ g = 28 ∨ g = 29 ∨ g = 30 ∨ g = 31 ∨ g = 32 ∨ g = 33 ∨ g = 34 ∨ g = 35 ∨ g = 36 := by omega
      rcases this with rfl | rfl | rfl | rfl | rfl | rfl | rfl | rfl | rfl | rfl
      · exact tkL27 z n c v w
      · exact tkL28 z n c v w
      · exact tkL29 z n c v w
      · exact tkL30 z n c v w
      · exact tkL31 z n c v w
      · exact tkL32 z n c v w
      · exact tkL33 z n c v w
      · exact tkL34 z n c v w
      · exact tkL35 z n c v w
      · exact tkL36 z n c v w
    · refine takenLaw g _ false 4 (-1) (fun w => tk_no g _ hf.1 hf.2 (beq_eq_false_iff_ne.2 (by omega)) (beq_eq_false_iff_ne.2 (by omega)) (beq_eq_false_iff_ne.2 (by omega)) (beq_eq_false_iff_ne.2 (by omega)) (beq_eq_false_iff_ne.2 (by omega)) (beq_eq_false_iff_ne.2 (by omega)) (beq_eq_false_iff_ne.2 (by omega)) (beq_eq_false_iff_ne.2 (by omega)) (beq_eq_false_iff_ne.2 (by omega)) (beq_eq_false_iff_ne.2 (by omega)) w) ?_ w
      have h1 : linkhouseref5_In.f (fl z n c v) 0 15 = some true := by unfold linkhouseref5_In.f; rw [if_pos (by omega)]; simp; omega
      have h2 : linkhouseref5_In.f g 27 36 = some false := by
        unfold linkhouseref5_In.f
        split
        · simp; omega
        · rfl
      unfold linkhouseref5_Taken.f
      rw [h1]
      simp only [Option.bind_some, if_true, h2]
      rfl
  · refine takenLaw g f false 3 (-2) (fun w => tk_out g f (by omega) w) ?_ w
    have h1 : linkhouseref5_In.f f 0 15 = some false := by
      unfold linkhouseref5_In.f
      split
      · simp; omega
      · rfl
    unfold linkhouseref5_Taken.f
    rw [h1]
    rfl
end Go.Proofs.Ytdbeeblicpdphaa
