/- The arithmetic of words behind the flags: the overflow of a sum and of a difference. Conditions: the words are words. -/
import Derived.Test.YtdbeeblicpdphaaA6
namespace Go.Proofs.Ytdbeeblicpdphaa
open Go.RowKit
theorem bits_nat32 (a b : Nat) (ha : a < 2 ^ 32) (hb : b < 2 ^ 32) : bits BinOp.and .u32 a b = ((a &&& b : Nat) : Int) ∧ bits BinOp.xor .u32 a b = ((a ^^^ b : Nat) : Int) := by
  have ha' : a % 2 ^ IntKind.u32.bits = a := Nat.mod_eq_of_lt ha
  have hb' : b % 2 ^ IntKind.u32.bits = b := Nat.mod_eq_of_lt hb
  have cast : ∀ n : Nat, n < 2 ^ 32 → ((n : Nat) : Int) < 2 ^ 32 := fun n h => by exact_mod_cast h
  constructor
  · simp only [bits, BitVec.ofInt_natCast, BitVec.toNat_and, BitVec.toNat_ofNat, ha', hb']
    exact wraps_u32' _ (Int.natCast_nonneg _) (cast _ (Nat.and_lt_two_pow _ hb))
  · simp only [bits, BitVec.ofInt_natCast, BitVec.toNat_xor, BitVec.toNat_ofNat, ha', hb']
    exact wraps_u32' _ (Int.natCast_nonneg _) (cast _ (Nat.xor_lt_two_pow ha hb))
theorem top_and (a b : Int) (ha : 0 ≤ a ∧ a < 4294967296) (hb : 0 ≤ b ∧ b < 4294967296) : bits BinOp.and .u32 a b / 2147483648 = if a / 2147483648 = 1 ∧ b / 2147483648 = 1 then 1 else 0 := by
  obtain ⟨a, rfl⟩ := Int.eq_ofNat_of_zero_le ha.1
  obtain ⟨b, rfl⟩ := Int.eq_ofNat_of_zero_le hb.1
  rw [(bits_nat32 a b (by omega) (by omega)).1]
  have h := Nat.shiftRight_and_distrib (a := a) (b := b) (i := 31)
  simp only [Nat.shiftRight_eq_div_pow, Nat.reducePow] at h
  have e : (((a &&& b : Nat) : Int) / 2147483648) = (((a &&& b) / 2147483648 : Nat) : Int) := by omega
  rw [e, h]
  have h1 : a / 2147483648 = 0 ∨ a / 2147483648 = 1 := by omega
  have h2 : b / 2147483648 = 0 ∨ b / 2147483648 = 1 := by omega
  rcases h1 with h1 | h1 <;> rcases h2 with h2 | h2 <;> rw [h1, h2] <;> simp <;> omega
theorem top_xor (a b : Int) (ha : 0 ≤ a ∧ a < 4294967296) (hb : 0 ≤ b ∧ b < 4294967296) : (0 ≤ bits BinOp.xor .u32 a b ∧ bits BinOp.xor .u32 a b < 4294967296) ∧ bits BinOp.xor .u32 a b / 2147483648 = if a / 2147483648 = b / 2147483648 then 0 else 1 := by
  obtain ⟨a, rfl⟩ := Int.eq_ofNat_of_zero_le ha.1
  obtain ⟨b, rfl⟩ := Int.eq_ofNat_of_zero_le hb.1
  rw [(bits_nat32 a b (by omega) (by omega)).2]
  have hlt : a ^^^ b < 2 ^ 32 := Nat.xor_lt_two_pow (by omega) (by omega)
  refine ⟨by omega, ?_⟩
  have h := Nat.shiftRight_xor_distrib (a := a) (b := b) (i := 31)
  simp only [Nat.shiftRight_eq_div_pow, Nat.reducePow] at h
  have e : (((a ^^^ b : Nat) : Int) / 2147483648) = (((a ^^^ b) / 2147483648 : Nat) : Int) := by omega
  rw [e, h]
  have h1 : a / 2147483648 = 0 ∨ a / 2147483648 = 1 := by omega
  have h2 : b / 2147483648 = 0 ∨ b / 2147483648 = 1 := by omega
  rcases h1 with h1 | h1 <;> rcases h2 with h2 | h2 <;> rw [h1, h2] <;> simp <;> omega
/-- The sign of a word. -/
def sg (a : Int) : Int := if 2147483648 ≤ a then a - 4294967296 else a
theorem top_if (a : Int) (ha : 0 ≤ a ∧ a < 4294967296) : a / 2147483648 = if 2147483648 ≤ a then 1 else 0 := by split <;> omega
theorem ovA_eq (a b : Int) (ha : 0 ≤ a ∧ a < 4294967296) (hb : 0 ≤ b ∧ b < 4294967296) : ovA a b = decide (sg a + sg b ≠ sg ((a + b) % 4294967296)) := by
  have hs : 0 ≤ (a + b) % 4294967296 ∧ (a + b) % 4294967296 < 4294967296 := by omega
  obtain ⟨h1, h2⟩ := top_xor a ((a + b) % 4294967296) ha hs
  obtain ⟨h3, h4⟩ := top_xor b ((a + b) % 4294967296) hb hs
  unfold ovA
  rw [top_and _ _ h1 h3, h2, h4, top_if _ ha, top_if _ hb, top_if _ hs]
  unfold sg
  clear h1 h2 h3 h4
  by_cases c1 : 2147483648 ≤ a <;> by_cases c2 : 2147483648 ≤ b <;> by_cases c3 : 2147483648 ≤ (a + b) % 4294967296 <;> simp [c1, c2, c3] <;> omega
theorem ovS_eq (a b : Int) (ha : 0 ≤ a ∧ a < 4294967296) (hb : 0 ≤ b ∧ b < 4294967296) : ovS a b = decide (sg a - sg b ≠ sg ((a - b) % 4294967296)) := by
  have hs : 0 ≤ (a - b) % 4294967296 ∧ (a - b) % 4294967296 < 4294967296 := by omega
  obtain ⟨h1, h2⟩ := top_xor a b ha hb
  obtain ⟨h3, h4⟩ := top_xor a ((a - b) % 4294967296) ha hs
  unfold ovS
  rw [top_and _ _ h1 h3, h2, h4, top_if _ ha, top_if _ hb, top_if _ hs]
  unfold sg
  clear h1 h2 h3 h4
  by_cases c1 : 2147483648 ≤ a <;> by_cases c2 : 2147483648 ≤ b <;> by_cases c3 : 2147483648 ≤ (a - b) % 4294967296 <;> simp [c1, c2, c3] <;> omega
theorem w_range {a : Int} (h : (Lit.int .u32 a).wf = true) : 0 ≤ a ∧ a < 4294967296 := by
  simp only [Lit.wf, Bool.and_eq_true, decide_eq_true_eq] at h
  have m32 : IntKind.u32.max = 4294967295 := rfl
  have n32 : IntKind.u32.min = 0 := rfl
  rw [m32, n32] at h
  omega
end Go.Proofs.Ytdbeeblicpdphaa
