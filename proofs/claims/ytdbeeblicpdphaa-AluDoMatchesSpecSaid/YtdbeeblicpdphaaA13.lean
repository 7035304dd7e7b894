/- signed, bit, bits of the reference: the signed value of a word; and, or, exclusive or, bit by bit. Conditions: the words are words. -/
import Derived.Test.YtdbeeblicpdphaaA7
namespace Go.Proofs.Ytdbeeblicpdphaa
open Go.RowKit
set_option linter.unusedVariables false
set_option linter.unusedSimpArgs false
theorem signed_any (a : Int) (h0 : 0 ≤ a) (h1 : a < 4294967296) (w : World) : Calls Try.prog 29 #[.int .u32 a] w fun e w' => e = .returned (.int .i64 (sg a)) ∧ w' = w := by
  unfold sg
  by_cases h : 2147483648 ≤ a
  · rw [if_pos h]
    go_enter Try.func29, Try.ntmps29
    go_wp2
    go_ret
    exact ⟨rfl, rfl⟩
  · rw [if_neg h]
    go_enter Try.func29, Try.ntmps29
    go_wp2
    go_ret
    exact ⟨rfl, rfl⟩
theorem u64_small (n : Int) (h0 : 0 ≤ n) (h1 : n < 18446744073709551616) : IntKind.u64.wrap n = n := by
  have : IntKind.u64.wrap n = n % 18446744073709551616 := by simp [IntKind.wrap, IntKind.bits, IntKind.signed]
  rw [this]; omega
theorem w64_small (n : Int) (h0 : -9223372036854775808 ≤ n) (h1 : n < 9223372036854775808) : wrap64 n = n := by unfold wrap64; omega
theorem bit_any (a i : Nat) (h1 : a < 4294967296) (hi : i < 32) (w : World) : Calls Try.prog 43 #[.int .u32 (a : Int), .int .i64 (i : Int)] w fun e w' => e = .returned (.int .i64 ((a.testBit i).toNat : Int)) ∧ w' = w := by
  have e1 : IntKind.u64.wrap (i : Int) = (i : Int) := u64_small _ (by omega) (by omega)
  have hp : (2 : Nat) ^ i < 2 ^ 32 := Nat.pow_lt_pow_right (by omega) hi
  have hp0 : 0 < (2 : Nat) ^ i := Nat.two_pow_pos i
  have hc : ((2 : Int) ^ i) = ((2 ^ i : Nat) : Int) := by simp
  obtain ⟨p, hpp⟩ : ∃ p : Int, p = ((2 ^ i : Nat) : Int) := ⟨_, rfl⟩
  have e2 : wrap64 ((2 : Int) ^ i) = p := by rw [hc, hpp]; exact w64_small _ (by omega) (by omega)
  have p1 : 1 ≤ p := by omega
  have q0 : 0 ≤ (a : Int) / p := Int.ediv_nonneg (by omega) (by omega)
  have q1 : (a : Int) / p ≤ a := Int.ediv_le_self _ (by omega)
  have HR : Hid ((a : Int) / p % 2 = ((a.testBit i).toNat : Int)) := by
    show (a : Int) / p % 2 = ((a.testBit i).toNat : Int)
    rw [hpp, ← Int.natCast_ediv, Nat.toNat_testBit]; simp
  clear hp hp0 hc hpp
  go_enter Try.func43, Try.ntmps43
  go_wp2
  go_ret
  exact ⟨congrArg (fun z => Ending.returned (.int .i64 z)) HR.out, rfl⟩
def opOf (wh : Nat) (a b : Nat) : Nat := if wh = 0 then a &&& b else if wh = 1 then a ||| b else a ^^^ b
def bitOf (wh : Nat) (p q : Bool) : Bool := if wh = 0 then p && q else if wh = 1 then p || q else p ^^ q
theorem opOf_bit (wh a b i : Nat) : (opOf wh a b).testBit i = bitOf wh (a.testBit i) (b.testBit i) := by
  unfold opOf bitOf
  split
  · exact Nat.testBit_and _ _ _
  · split
    · exact Nat.testBit_or _ _ _
    · exact Nat.testBit_xor _ _ _
theorem opOf_lt (wh a b : Nat) (ha : a < 4294967296) (hb : b < 4294967296) : opOf wh a b < 4294967296 := by
  unfold opOf
  have ha' : a < 2 ^ 32 := ha
  have hb' : b < 2 ^ 32 := hb
  split
  · exact Nat.and_lt_two_pow _ hb'
  · split
    · exact Nat.or_lt_two_pow ha' hb'
    · exact Nat.xor_lt_two_pow ha' hb'
structure As (p : Prop) : Prop where mk :: (out : p)
theorem step_bit (wh a b k : Nat) (h1 : a < 4294967296) (h2 : b < 4294967296) (hk : k < 32) :
    2 ^ k ≤ 2147483648 ∧ opOf wh a b % 2 ^ k < 2 ^ k ∧ opOf wh a b % 2 ^ (k + 1) = opOf wh a b % 2 ^ k + 2 ^ k * (bitOf wh (a.testBit k) (b.testBit k)).toNat := by
  have hp : (2 : Nat) ^ k ≤ 2 ^ 31 := Nat.pow_le_pow_right (by omega) (by omega)
  have hlt := Nat.mod_lt (opOf wh a b) (Nat.two_pow_pos k)
  refine ⟨by omega, hlt, ?_⟩
  rw [Nat.mod_pow_succ, ← opOf_bit, Nat.toNat_testBit]
/-- What holds at the head of a round: the bits below k. -/
def BRel (wh a b : Nat) (n i : Value) : Prop := ∃ k N : Nat, k ≤ 32 ∧ i = .int .i64 k ∧ n = .int .u32 (N : Int) ∧ As (N = opOf wh a b % 2 ^ k)
set_option maxHeartbeats 4000000 in
theorem bits_0 (a b : Nat) (h1 : a < 4294967296) (h2 : b < 4294967296) (w : World) : Calls Try.prog 30 #[.int .u32 (a : Int), .int .u32 (b : Int), .int .i64 0] w fun e w' => e = .returned (.int .u32 ((opOf 0 a b : Nat) : Int)) ∧ w' = w := by
  go_enter Try.func30, Try.ntmps30
  go_wp2
  go_loop [7, 8] (fun n i => BRel 0 a b n i) (fun _ i => 32 - (intOf i).toNat)
  case atStart => exact ⟨0, 0, by omega, rfl, rfl, ⟨by simp [Nat.mod_one]⟩⟩
  case round =>
    obtain ⟨k, N, hk, rfl, rfl, hN⟩ := hrel
    by_cases hlt : k < 32
    · obtain ⟨s1, s2, s3⟩ := step_bit 0 a b k h1 h2 hlt
      have hN' := hN.out
      rw [← hN'] at s2 s3
      obtain ⟨P, hP⟩ : ∃ P : Nat, P = 2 ^ k := ⟨_, rfl⟩
      rw [← hP] at s1 s2 s3
      have e2 : ((2 : Int) ^ k) % 4294967296 = (P : Int) := by
        have hc : ((2 : Int) ^ k) = ((2 ^ k : Nat) : Int) := by simp
        rw [hc, ← hP]; omega
      have e1 : IntKind.u64.wrap (k : Int) = (k : Int) := u64_small _ (by omega) (by omega)
      have S3 := As.mk s3
      have s4 : (N : Int) + (P : Int) ≤ 4294967295 := by omega
      clear s1 s2 s3 hN' hN hP
      cases hp : a.testBit k <;> cases hq : b.testBit k
      all_goals
        have HP := As.mk hp
        have HQ := As.mk hq
        clear hp hq
        go_wp2_with fail
        refine (bit_any a k h1 hlt _).mono ?_
        rintro e w1 ⟨rfl, rfl⟩
        rw [HP.out]
        go_wp2_with fail
        refine (bit_any b k h2 hlt _).mono ?_
        rintro e w1 ⟨rfl, rfl⟩
        rw [HQ.out]
        go_wp2
        go_round
        case rel => exact ⟨k + 1, _, by omega, by go_num, by first | rfl | exact congrArg (Value.int .u32) (Int.natCast_add N P).symm, ⟨by have := S3.out; rw [HP.out, HQ.out] at this; simp [bitOf] at this; omega⟩⟩
        case measure => simp [intOf]; omega
    · have E : As (Ending.returned (.int .u32 (N : Int)) = Ending.returned (.int .u32 ((opOf 0 a b : Nat) : Int))) := by
        have h32 : k = 32 := by omega
        refine ⟨?_⟩
        rw [hN.out, h32, Nat.mod_eq_of_lt (opOf_lt _ a b h1 h2)]
      go_wp2
      go_ret
      exact ⟨E.out, rfl⟩
set_option maxHeartbeats 4000000 in
theorem bits_1 (a b : Nat) (h1 : a < 4294967296) (h2 : b < 4294967296) (w : World) : Calls Try.prog 30 #[.int .u32 (a : Int), .int .u32 (b : Int), .int .i64 1] w fun e w' => e = .returned (.int .u32 ((opOf 1 a b : Nat) : Int)) ∧ w' = w := by
  go_enter Try.func30, Try.ntmps30
  go_wp2
  go_loop [7, 8] (fun n i => BRel 1 a b n i) (fun _ i => 32 - (intOf i).toNat)
  case atStart => exact ⟨0, 0, by omega, rfl, rfl, ⟨by simp [Nat.mod_one]⟩⟩
  case round =>
    obtain ⟨k, N, hk, rfl, rfl, hN⟩ := hrel
    by_cases hlt : k < 32
    · obtain ⟨s1, s2, s3⟩ := step_bit 1 a b k h1 h2 hlt
      have hN' := hN.out
      rw [← hN'] at s2 s3
      obtain ⟨P, hP⟩ : ∃ P : Nat, P = 2 ^ k := ⟨_, rfl⟩
      rw [← hP] at s1 s2 s3
      have e2 : ((2 : Int) ^ k) % 4294967296 = (P : Int) := by
        have hc : ((2 : Int) ^ k) = ((2 ^ k : Nat) : Int) := by simp
        rw [hc, ← hP]; omega
      have e1 : IntKind.u64.wrap (k : Int) = (k : Int) := u64_small _ (by omega) (by omega)
      have S3 := As.mk s3
      have s4 : (N : Int) + (P : Int) ≤ 4294967295 := by omega
      clear s1 s2 s3 hN' hN hP
      cases hp : a.testBit k <;> cases hq : b.testBit k
      all_goals
        have HP := As.mk hp
        have HQ := As.mk hq
        clear hp hq
        go_wp2_with fail
        refine (bit_any a k h1 hlt _).mono ?_
        rintro e w1 ⟨rfl, rfl⟩
        rw [HP.out]
        go_wp2_with fail
        refine (bit_any b k h2 hlt _).mono ?_
        rintro e w1 ⟨rfl, rfl⟩
        rw [HQ.out]
        go_wp2
        go_round
        case rel => exact ⟨k + 1, _, by omega, by go_num, by first | rfl | exact congrArg (Value.int .u32) (Int.natCast_add N P).symm, ⟨by have := S3.out; rw [HP.out, HQ.out] at this; simp [bitOf] at this; omega⟩⟩
        case measure => simp [intOf]; omega
    · have E : As (Ending.returned (.int .u32 (N : Int)) = Ending.returned (.int .u32 ((opOf 1 a b : Nat) : Int))) := by
        have h32 : k = 32 := by omega
        refine ⟨?_⟩
        rw [hN.out, h32, Nat.mod_eq_of_lt (opOf_lt _ a b h1 h2)]
      go_wp2
      go_ret
      exact ⟨E.out, rfl⟩
set_option maxHeartbeats 4000000 in
theorem bits_2 (a b : Nat) (h1 : a < 4294967296) (h2 : b < 4294967296) (w : World) : Calls Try.prog 30 #[.int .u32 (a : Int), .int .u32 (b : Int), .int .i64 2] w fun e w' => e = .returned (.int .u32 ((opOf 2 a b : Nat) : Int)) ∧ w' = w := by
  go_enter Try.func30, Try.ntmps30
  go_wp2
  go_loop [7, 8] (fun n i => BRel 2 a b n i) (fun _ i => 32 - (intOf i).toNat)
  case atStart => exact ⟨0, 0, by omega, rfl, rfl, ⟨by simp [Nat.mod_one]⟩⟩
  case round =>
    obtain ⟨k, N, hk, rfl, rfl, hN⟩ := hrel
    by_cases hlt : k < 32
    · obtain ⟨s1, s2, s3⟩ := step_bit 2 a b k h1 h2 hlt
      have hN' := hN.out
      rw [← hN'] at s2 s3
      obtain ⟨P, hP⟩ : ∃ P : Nat, P = 2 ^ k := ⟨_, rfl⟩
      rw [← hP] at s1 s2 s3
      have e2 : ((2 : Int) ^ k) % 4294967296 = (P : Int) := by
        have hc : ((2 : Int) ^ k) = ((2 ^ k : Nat) : Int) := by simp
        rw [hc, ← hP]; omega
      have e1 : IntKind.u64.wrap (k : Int) = (k : Int) := u64_small _ (by omega) (by omega)
      have S3 := As.mk s3
      have s4 : (N : Int) + (P : Int) ≤ 4294967295 := by omega
      clear s1 s2 s3 hN' hN hP
      cases hp : a.testBit k <;> cases hq : b.testBit k
      all_goals
        have HP := As.mk hp
        have HQ := As.mk hq
        clear hp hq
        go_wp2_with fail
        refine (bit_any a k h1 hlt _).mono ?_
        rintro e w1 ⟨rfl, rfl⟩
        rw [HP.out]
        go_wp2_with fail
        refine (bit_any b k h2 hlt _).mono ?_
        rintro e w1 ⟨rfl, rfl⟩
        rw [HQ.out]
        go_wp2
        go_round
        case rel => exact ⟨k + 1, _, by omega, by go_num, by first | rfl | exact congrArg (Value.int .u32) (Int.natCast_add N P).symm, ⟨by have := S3.out; rw [HP.out, HQ.out] at this; simp [bitOf] at this; omega⟩⟩
        case measure => simp [intOf]; omega
    · have E : As (Ending.returned (.int .u32 (N : Int)) = Ending.returned (.int .u32 ((opOf 2 a b : Nat) : Int))) := by
        have h32 : k = 32 := by omega
        refine ⟨?_⟩
        rw [hN.out, h32, Nat.mod_eq_of_lt (opOf_lt _ a b h1 h2)]
      go_wp2
      go_ret
      exact ⟨E.out, rfl⟩
end Go.Proofs.Ytdbeeblicpdphaa
