/- AluDoMatchesSpec: Do returns the result, the flags and the fault that the specification requires for all forms and words. Conditions: the words are words. -/
import Derived.Test.YtdbeeblicpdphaaA14
namespace Go.Proofs.Ytdbeeblicpdphaa
open Go.RowKit
set_option linter.unusedVariables false
set_option linter.unusedSimpArgs false
/-- The law, where both sides come to the same answer. -/
theorem doLaw (g a b r f c i : Int) (hD : ∀ w, Calls Try.prog 20 #[.int .i64 g, .int .u32 a, .int .u32 b] w fun e w' => e = .returned (.tuple #[.int .u32 r, .int .i64 f, .agg #[.int .i64 c, .int .i64 i]]) ∧ Below w.heap.size w w')
    (hF : ∀ w, Calls Try.prog 21 #[.int .i64 g, .int .u32 a, .int .u32 b] w fun e w' => e = .returned (.tuple #[.int .u32 r, .int .i64 f, .agg #[.int .i64 c, .int .i64 i]]) ∧ Below w.heap.size w w') (w : World) : Calls Try.prog 6 #[.int .i64 g, .int .u32 a, .int .u32 b] w fun e w' => e = .returned (.bool true) ∧ Below w.heap.size w w' := by
  have HT := As.mk hD
  have HF := As.mk hF
  clear hD hF
  go_enter Try.func6, Try.ntmps6
  go_wp2_with fail
  refine (HT.out _).mono ?_
  rintro e w1 ⟨rfl, hb1⟩
  have B1 := Bk.new w1 #[.int .i64 c, .int .i64 i] 33
  replace hb1 := bl_alloc hb1 (.cells #[.int .i64 c, .int .i64 i] 33)
  go_wp2_with fail
  refine (HF.out _).mono ?_
  rintro e w2 ⟨rfl, hb2⟩
  replace B1 := (B1.below hb2).alloc (.cells #[.int .i64 c, .int .i64 i] 33)
  replace hb1 := bl_alloc (bl_then hb1 hb2) (.cells #[.int .i64 c, .int .i64 i] 33)
  have B2 := Bk.new w2 #[.int .i64 c, .int .i64 i] 33
  clear hb2
  go_wp2_with fail
  refine (aluExample_any _).mono ?_
  rintro e w3 ⟨rfl, hb2⟩
  obtain ⟨k0, k1⟩ := (B1.below hb2).two
  obtain ⟨l0, l1⟩ := (B2.below hb2).two
  replace hb1 := bl_then hb1 hb2
  clear hb2 B1 B2
  go_wp2
  go_ret
  exact ⟨rfl, hb1⟩
theorem done_refv (r X wd kd : Int) (c v : Bool) (hr : 0 ≤ r ∧ r < 4294967296) (hc : c = (decide (0 < kd) && (decide (X < 0) || decide (4294967296 ≤ X)))) (hv : v = (decide (0 < kd) && (wd != sg r))) : refv r X wd kd = done r c v := by
  have e : decide (2147483648 ≤ r) = (r / 2147483648 == 1) := by rw [Bool.eq_iff_iff, decide_eq_true_iff, beq_iff_eq]; omega
  unfold refv done
  rw [← hc, ← hv, e]
theorem law_of (g a b r X wd kd : Int) (c v : Bool) (ha : 0 ≤ a ∧ a < 4294967296) (hb : 0 ≤ b ∧ b < 4294967296) (hm : AluX g a b X wd kd) (hk : kd = 0 ∨ 0 < kd) (hx1 : -4294967296 < X) (hx2 : X < 4611686018427387904) (hr : X % 4294967296 = r) (hr2 : 0 ≤ r ∧ r < 4294967296) (hc : c = (decide (0 < kd) && (decide (X < 0) || decide (4294967296 ≤ X)))) (hv : v = (decide (0 < kd) && (wd != sg r)))
    (hD : ∀ w, Calls Try.prog 20 #[.int .i64 g, .int .u32 a, .int .u32 b] w fun e w' => e = .returned (done r c v) ∧ Below w.heap.size w w') (w : World) : Calls Try.prog 6 #[.int .i64 g, .int .u32 a, .int .u32 b] w fun e w' => e = .returned (.bool true) ∧ Below w.heap.size w w' :=
  doLaw g a b r _ 0 0 hD (fun w => (ref_any g a b X wd kd r ⟨hm⟩ hk hx1 hx2 ⟨hr⟩ ha.1 ha.2 hb.1 hb.2 w).mono fun e w' h => by
    have h' : e = .returned (refv r X wd kd) ∧ Below w.heap.size w w' := h
    rw [done_refv r X wd kd c v hr2 hc hv] at h'
    exact h') w
theorem carry_add (a b : Int) (ha : 0 ≤ a ∧ a < 4294967296) (hb : 0 ≤ b ∧ b < 4294967296) : decide ((a + b) % 4294967296 < a) = (decide ((0 : Int) < 1) && (decide (a + b < 0) || decide (4294967296 ≤ a + b))) := by
  rw [Bool.eq_iff_iff]; simp; omega
theorem carry_sub (a b : Int) (ha : 0 ≤ a ∧ a < 4294967296) (hb : 0 ≤ b ∧ b < 4294967296) : decide (a < b) = (decide ((0 : Int) < 2) && (decide (a - b < 0) || decide (4294967296 ≤ a - b))) := by
  rw [Bool.eq_iff_iff]; simp; omega
theorem over_add (a b : Int) (ha : 0 ≤ a ∧ a < 4294967296) (hb : 0 ≤ b ∧ b < 4294967296) : ovA a b = (decide ((0 : Int) < 1) && (sg a + sg b != sg ((a + b) % 4294967296))) := by
  rw [ovA_eq a b ha hb, Bool.eq_iff_iff]; simp
theorem over_sub (a b : Int) (ha : 0 ≤ a ∧ a < 4294967296) (hb : 0 ≤ b ∧ b < 4294967296) : ovS a b = (decide ((0 : Int) < 2) && (sg a - sg b != sg ((a - b) % 4294967296))) := by
  rw [ovS_eq a b ha hb, Bool.eq_iff_iff]; simp
theorem mul_parts (a b : Int) : (a % 65536 * b % 4294967296 + a / 65536 * (b % 65536) % 65536 * 65536) % 4294967296 = a * b % 4294967296 := by
  have e1 : a * b = a % 65536 * b + 65536 * (a / 65536 * b) := by
    have h := Int.mul_ediv_add_emod a 65536
    have h2 : (65536 * (a / 65536) + a % 65536) * b = a % 65536 * b + 65536 * (a / 65536 * b) := by rw [Int.add_mul, Int.mul_assoc]; omega
    rw [h] at h2
    exact h2
  have e2 : a / 65536 * b = 65536 * (a / 65536 * (b / 65536)) + a / 65536 * (b % 65536) := by
    have h := Int.mul_ediv_add_emod b 65536
    have h2 : a / 65536 * (65536 * (b / 65536) + b % 65536) = 65536 * (a / 65536 * (b / 65536)) + a / 65536 * (b % 65536) := by rw [Int.mul_add, Int.mul_left_comm]
    rw [h] at h2
    exact h2
  rw [e1, e2]
  generalize a % 65536 * b = u
  generalize a / 65536 * (b / 65536) = v
  generalize a / 65536 * (b % 65536) = y
  omega
theorem shl_parts (a s : Int) (h0 : 0 ≤ s) (h1 : s ≤ 31) : a % 2 ^ (32 - s).toNat * 2 ^ s.toNat % 4294967296 = a * 2 ^ s.toNat % 4294967296 := by
  obtain ⟨P, hP, P1, P2⟩ := two_i s h0 h1
  obtain ⟨R, hR, R1, R2⟩ := two_i' (32 - s) (by omega) (by omega)
  have hRP : R * P = 4294967296 := by
    rw [← hR, ← hP, ← Int.pow_add, show (32 - s).toNat + s.toNat = 32 from by omega]; simp
  rw [hP, hR]
  have e : a * P = a % R * P + 4294967296 * (a / R) := by
    have h := Int.mul_ediv_add_emod a R
    have h2 : (R * (a / R) + a % R) * P = a % R * P + 4294967296 * (a / R) := by rw [Int.add_mul, ← hRP, Int.mul_right_comm]; omega
    rw [h] at h2
    exact h2
  rw [e]
  omega
theorem op_eq (k : Nat) (o : BinOp) (a b : Int) (ha : 0 ≤ a ∧ a < 4294967296) (hb : 0 ≤ b ∧ b < 4294967296) (h : ∀ x y : Nat, x < 2 ^ 32 → y < 2 ^ 32 → bits o .u32 x y = ((opOf k x y : Nat) : Int)) : ((opOf k a.toNat b.toNat : Nat) : Int) % 4294967296 = bits o .u32 a b ∧ 0 ≤ bits o .u32 a b ∧ bits o .u32 a b < 4294967296 := by
  have ea : a = ((a.toNat : Nat) : Int) := by omega
  have eb : b = ((b.toNat : Nat) : Int) := by omega
  have hl := opOf_lt k a.toNat b.toNat (by omega) (by omega)
  have h1 := h a.toNat b.toNat (by omega) (by omega)
  rw [← ea, ← eb] at h1
  rw [h1]
  omega
theorem wraps_u32b (n : Int) (h₀ : 0 ≤ n) (h₁ : n < 2 ^ 32) : IntKind.u32.wrap n = n := by rw [IntKind.wrap_u32]; omega
theorem do_walk (g : Int) (wg : (Lit.int .i64 g).wf = true) (a : Int) (wa : (Lit.int .u32 a).wf = true) (b : Int) (wb : (Lit.int .u32 b).wf = true) (w : World) : Calls Try.prog 6 #[.int .i64 g, .int .u32 a, .int .u32 b] w fun e w' => e = .returned (.bool true) ∧ Below w.heap.size w w' := by
  have ha := w_range wa
  have hb := w_range wb
  by_cases hg : g = 9 ∨ g = 10 ∨ g = 11 ∨ g = 19 ∨ g = 20 ∨ g = 12 ∨ g = 13 ∨ g = 14 ∨ g = 15 ∨ g = 16 ∨ g = 17 ∨ g = 18
  · rcases hg with rfl | rfl | rfl | rfl | rfl | rfl | rfl | rfl | rfl | rfl | rfl | rfl
    · exact law_of 9 a b _ (a + b) (sg a + sg b) 1 _ _ ha hb (.inl ⟨.inl rfl, rfl, rfl, rfl⟩) (by omega) (by omega) (by omega) rfl (by omega) (carry_add a b ha hb) (over_add a b ha hb) (fun w => do9 a b w) w
    · exact law_of 10 a b _ (a + b) (sg a + sg b) 1 _ _ ha hb (.inl ⟨.inr rfl, rfl, rfl, rfl⟩) (by omega) (by omega) (by omega) rfl (by omega) (carry_add a b ha hb) (over_add a b ha hb) (fun w => do10 a b w) w
    · exact law_of 11 a b _ (a - b) (sg a - sg b) 2 _ _ ha hb (.inr (.inl ⟨.inl rfl, rfl, rfl, rfl⟩)) (by omega) (by omega) (by omega) rfl (by omega) (carry_sub a b ha hb) (over_sub a b ha hb) (fun w => do11 a b w) w
    · exact law_of 19 a b _ (a - b) (sg a - sg b) 2 _ _ ha hb (.inr (.inl ⟨.inr (.inl rfl), rfl, rfl, rfl⟩)) (by omega) (by omega) (by omega) rfl (by omega) (carry_sub a b ha hb) (over_sub a b ha hb) (fun w => do19 a b w) w
    · exact law_of 20 a b _ (a - b) (sg a - sg b) 2 _ _ ha hb (.inr (.inl ⟨.inr (.inr rfl), rfl, rfl, rfl⟩)) (by omega) (by omega) (by omega) rfl (by omega) (carry_sub a b ha hb) (over_sub a b ha hb) (fun w => do20 a b w) w
    · have p2 : a % 65536 * b % 4294967296 < 4294967296 := by omega
      exact law_of 12 a b _ _ 0 0 false false ha hb (.inr (.inr (.inl ⟨rfl, rfl, rfl, rfl⟩))) (by omega) (by omega) (by omega) (mul_parts a b) (by omega) rfl rfl (fun w => do12 a b w) w
    · cases hz : (b == 0) with
      | true =>
        obtain rfl : b = 0 := by simpa using hz
        exact doLaw 13 a 0 0 0 3 (-2) (fun w => do_zero a w) (fun w => ref_zero a w ha.1 ha.2) w
      | false =>
        have hne : b ≠ 0 := by simpa using hz
        have q0 : 0 ≤ a / b := Int.ediv_nonneg ha.1 hb.1
        have q1 : a / b ≤ a := Int.ediv_le_self _ ha.1
        exact law_of 13 a b _ (a / b) 0 0 false false ha hb (.inr (.inr (.inr (.inl ⟨rfl, hne, rfl, rfl, rfl⟩)))) (by omega) (by omega) (by omega) (by rw [Int.tdiv_eq_ediv_of_nonneg ha.1]) (by omega) rfl rfl (fun w => do13 a b hz w) w
    · obtain ⟨e1, e2⟩ := op_eq 0 .and a b ha hb (fun x y hx hy => (bits_nat32 x y hx hy).1)
      have hl := opOf_lt 0 a.toNat b.toNat (by omega) (by omega)
      exact law_of 14 a b _ _ 0 0 false false ha hb (.inr (.inr (.inr (.inr (.inl ⟨rfl, rfl, rfl, rfl⟩))))) (by omega) (by omega) (by omega) e1 e2 rfl rfl (fun w => do14 a b w) w
    · obtain ⟨e1, e2⟩ := op_eq 1 .or a b ha hb (fun x y hx hy => (bits_nat .u32 32 (by decide) wraps_u32b x y hx hy).2)
      have hl := opOf_lt 1 a.toNat b.toNat (by omega) (by omega)
      exact law_of 15 a b _ _ 0 0 false false ha hb (.inr (.inr (.inr (.inr (.inr (.inl ⟨rfl, rfl, rfl, rfl⟩)))))) (by omega) (by omega) (by omega) e1 e2 rfl rfl (fun w => do15 a b w) w
    · obtain ⟨e1, e2⟩ := op_eq 2 .xor a b ha hb (fun x y hx hy => (bits_nat32 x y hx hy).2)
      have hl := opOf_lt 2 a.toNat b.toNat (by omega) (by omega)
      exact law_of 16 a b _ _ 0 0 false false ha hb (.inr (.inr (.inr (.inr (.inr (.inr (.inl ⟨rfl, rfl, rfl, rfl⟩))))))) (by omega) (by omega) (by omega) e1 e2 rfl rfl (fun w => do16 a b w) w
    · obtain ⟨P, hP, P1, P2⟩ := two_i (b % 32) (by omega) (by omega)
      obtain ⟨R, hR, R1, R2⟩ := two_i' (32 - b % 32) (by omega) (by omega)
      have m0 : 0 ≤ a % R := Int.emod_nonneg _ (by omega)
      have m1 : a % R < R := Int.emod_lt_of_pos _ (by omega)
      have m2 : 0 ≤ a % R * P := Int.mul_nonneg m0 (by omega)
      have hRP : R * P = 4294967296 := by
        rw [← hR, ← hP, ← Int.pow_add, show (32 - b % 32).toNat + (b % 32).toNat = 32 from by omega]; simp
      have m3 : a % R * P ≤ 4294967296 := by rw [← hRP]; exact Int.mul_le_mul_of_nonneg_right (by omega) (by omega)
      have hsp := shl_parts a (b % 32) (by omega) (by omega)
      refine law_of 17 a b _ (a % 2 ^ (32 - b % 32).toNat * 2 ^ (b % 32).toNat) 0 0 false false ha hb (.inr (.inr (.inr (.inr (.inr (.inr (.inr (.inl ⟨rfl, rfl, rfl, rfl⟩)))))))) (by omega) ?_ ?_ hsp (by omega) rfl rfl (fun w => do17 a b hb.1 hb.2 w) w
      · rw [hP, hR]; omega
      · rw [hP, hR]; omega
    · obtain ⟨P, hP, P1, P2⟩ := two_i (b % 32) (by omega) (by omega)
      have q0 : 0 ≤ a / P := Int.ediv_nonneg ha.1 (by omega)
      have q1 : a / P ≤ a := Int.ediv_le_self _ ha.1
      refine law_of 18 a b _ (a / 2 ^ (b % 32).toNat) 0 0 false false ha hb (.inr (.inr (.inr (.inr (.inr (.inr (.inr (.inr ⟨rfl, rfl, rfl, rfl⟩)))))))) (by omega) ?_ ?_ ?_ ?_ rfl rfl (fun w => do18 a b hb.1 hb.2 w) w
      · rw [hP]; omega
      · rw [hP]; omega
      · rw [hP]; omega
      · rw [hP]; omega
  · exact doLaw g a b 0 0 4 (-1) (fun w => do_no g a b (beq_eq_false_iff_ne.2 (by omega)) (beq_eq_false_iff_ne.2 (by omega)) (beq_eq_false_iff_ne.2 (by omega)) (beq_eq_false_iff_ne.2 (by omega)) (beq_eq_false_iff_ne.2 (by omega)) (beq_eq_false_iff_ne.2 (by omega)) (beq_eq_false_iff_ne.2 (by omega)) (beq_eq_false_iff_ne.2 (by omega)) (beq_eq_false_iff_ne.2 (by omega)) (beq_eq_false_iff_ne.2 (by omega)) (beq_eq_false_iff_ne.2 (by omega)) (beq_eq_false_iff_ne.2 (by omega)) w) (fun w => ref_no g a b (beq_eq_false_iff_ne.2 (by omega)) (beq_eq_false_iff_ne.2 (by omega)) (beq_eq_false_iff_ne.2 (by omega)) (beq_eq_false_iff_ne.2 (by omega)) (beq_eq_false_iff_ne.2 (by omega)) (beq_eq_false_iff_ne.2 (by omega)) (beq_eq_false_iff_ne.2 (by omega)) (beq_eq_false_iff_ne.2 (by omega)) (beq_eq_false_iff_ne.2 (by omega)) (beq_eq_false_iff_ne.2 (by omega)) (beq_eq_false_iff_ne.2 (by omega)) (beq_eq_false_iff_ne.2 (by omega)) w ha.1 ha.2 hb.1 hb.2) w
end Go.Proofs.Ytdbeeblicpdphaa
