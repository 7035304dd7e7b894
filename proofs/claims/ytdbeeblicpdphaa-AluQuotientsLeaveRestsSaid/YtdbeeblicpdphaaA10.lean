/- AluQuotientsLeaveRests: a word is the quotient times the divisor plus a rest that is less than the divisor, and a shift to the right is a quotient. Conditions: the words are words. -/
import Derived.Test.YtdbeeblicpdphaaA7
namespace Go.Proofs.Ytdbeeblicpdphaa
open Go.RowKit
set_option linter.unusedVariables false
set_option linter.unusedSimpArgs false
structure Aside3 (p : Prop) : Prop where mk :: (out : p)
theorem dn_eq3 (a : Int) (c v : Bool) (r : Int) (h : a = r) : ∃ f : Int, done a c v = .tuple #[.int .u32 r, .int .i64 f, .agg #[.int .i64 0, .int .i64 0]] := ⟨_, by rw [h]; rfl⟩
theorem two_pow (k : Nat) (h : k < 32) : (1 : Int) ≤ 2 ^ k ∧ (2 : Int) ^ k < 4294967296 := by
  have h1 : (2 : Nat) ^ k < 2 ^ 32 := Nat.pow_lt_pow_right (by omega) h
  have h2 : 0 < (2 : Nat) ^ k := Nat.two_pow_pos k
  have e : ((2 : Int) ^ k) = (((2 : Nat) ^ k : Nat) : Int) := by simp
  rw [e]
  omega
theorem tdiv_w (a n : Int) (ha : 0 ≤ a ∧ a < 4294967296) (hn : 1 ≤ n) : a.tdiv n % 4294967296 = a / n := by
  have h2 : a / n ≤ a := Int.ediv_le_self _ ha.1
  have h3 : 0 ≤ a / n := Int.ediv_nonneg ha.1 (by omega)
  rw [Int.tdiv_eq_ediv_of_nonneg ha.1]
  exact Int.emod_eq_of_lt h3 (by omega)
set_option maxHeartbeats 4000000 in
theorem quot_zero (a : Int) (wa : (Lit.int .u32 a).wf = true) (w : World) : Calls Try.prog 10 #[.int .u32 a, .int .u32 0] w fun e w' => e = .returned (.bool true) ∧ Below w.heap.size w w' := by
  have ha := w_range wa
  obtain ⟨s, hs⟩ : ∃ s, Aside3 (a / 2 ^ ((0 : Int) % 32).toNat = s) := ⟨_, ⟨rfl⟩⟩
  have N2 : Aside3 (a.tdiv 1 % 4294967296 = s) := ⟨by rw [tdiv_w a 1 ha (by omega), ← hs.out]; rfl⟩
  have N1 : Aside3 (1 * 2 ^ ((0 : Int) % 32).toNat % 4294967296 = (1 : Int)) := ⟨by decide⟩
  obtain ⟨r, hr⟩ : ∃ r, Aside3 ((a - 0) % 4294967296 = r) := ⟨_, ⟨rfl⟩⟩
  clear ha
  go_enter Try.func10, Try.ntmps10
  go_wp2_with fail
  refine (aluExample_any _).mono ?_
  rintro e w0 ⟨rfl, hb1⟩
  go_wp2_with fail
  refine (do_zero a _).mono ?_
  rintro e wz ⟨rfl, hb2⟩
  replace hb1 := bl_alloc (bl_then hb1 hb2) (.cells #[.int .i64 3, .int .i64 (-2)] 33)
  have BZ := Bk.new wz #[.int .i64 3, .int .i64 (-2)] 33
  clear hb2
  go_wp2_with fail
  refine (do12 0 0 _).mono ?_
  rintro e w1 ⟨rfl, hb2⟩
  obtain ⟨f1, e1⟩ := dn_eq3 (0 * 0 % 4294967296) _ _ 0 (by decide)
  rw [e1]
  clear e1
  replace hb1 := bl_alloc (bl_then hb1 hb2) (.cells #[.int .i64 0, .int .i64 0] 33)
  have B1 := Bk.new w1 #[.int .i64 0, .int .i64 0] 33
  replace BZ := (BZ.below hb2).alloc (.cells #[.int .i64 0, .int .i64 0] 33)
  clear hb2
  go_wp2_with fail
  refine (do11 a 0 _).mono ?_
  rintro e w2 ⟨rfl, hb2⟩
  obtain ⟨f2, e2⟩ := dn_eq3 _ _ _ r hr.out
  rw [e2]
  clear e2
  replace hb1 := bl_alloc (bl_then hb1 hb2) (.cells #[.int .i64 0, .int .i64 0] 33)
  replace B1 := (B1.below hb2).alloc (.cells #[.int .i64 0, .int .i64 0] 33)
  have B2 := Bk.new w2 #[.int .i64 0, .int .i64 0] 33
  replace BZ := (BZ.below hb2).alloc (.cells #[.int .i64 0, .int .i64 0] 33)
  clear hb2
  go_wp2_with fail
  refine (do18 a 0 (by omega) (by omega) _).mono ?_
  rintro e w3 ⟨rfl, hb2⟩
  obtain ⟨f3, e3⟩ := dn_eq3 _ _ _ s hs.out
  rw [e3]
  clear e3
  replace hb1 := bl_alloc (bl_then hb1 hb2) (.cells #[.int .i64 0, .int .i64 0] 33)
  replace B1 := (B1.below hb2).alloc (.cells #[.int .i64 0, .int .i64 0] 33)
  replace B2 := (B2.below hb2).alloc (.cells #[.int .i64 0, .int .i64 0] 33)
  have B3 := Bk.new w3 #[.int .i64 0, .int .i64 0] 33
  replace BZ := (BZ.below hb2).alloc (.cells #[.int .i64 0, .int .i64 0] 33)
  clear hb2
  go_wp2_with fail
  refine (do17 1 0 (by omega) (by omega) _).mono ?_
  rintro e w4 ⟨rfl, hb2⟩
  obtain ⟨f4, e4⟩ := dn_eq3 _ _ _ 1 N1.out
  rw [e4]
  clear e4
  replace hb1 := bl_alloc (bl_then hb1 hb2) (.cells #[.int .i64 0, .int .i64 0] 33)
  replace B1 := (B1.below hb2).alloc (.cells #[.int .i64 0, .int .i64 0] 33)
  replace B2 := (B2.below hb2).alloc (.cells #[.int .i64 0, .int .i64 0] 33)
  replace B3 := (B3.below hb2).alloc (.cells #[.int .i64 0, .int .i64 0] 33)
  have B4 := Bk.new w4 #[.int .i64 0, .int .i64 0] 33
  replace BZ := (BZ.below hb2).alloc (.cells #[.int .i64 0, .int .i64 0] 33)
  clear hb2
  go_wp2_with fail
  refine (do13 a 1 (by decide) _).mono ?_
  rintro e w5 ⟨rfl, hb2⟩
  obtain ⟨f5, e5⟩ := dn_eq3 _ _ _ s N2.out
  rw [e5]
  clear e5
  replace hb1 := bl_alloc (bl_then hb1 hb2) (.cells #[.int .i64 0, .int .i64 0] 33)
  replace B1 := (B1.below hb2).alloc (.cells #[.int .i64 0, .int .i64 0] 33)
  replace B2 := (B2.below hb2).alloc (.cells #[.int .i64 0, .int .i64 0] 33)
  replace B3 := (B3.below hb2).alloc (.cells #[.int .i64 0, .int .i64 0] 33)
  replace B4 := (B4.below hb2).alloc (.cells #[.int .i64 0, .int .i64 0] 33)
  have B5 := Bk.new w5 #[.int .i64 0, .int .i64 0] 33
  replace BZ := (BZ.below hb2).alloc (.cells #[.int .i64 0, .int .i64 0] 33)
  clear hb2
  obtain ⟨k0, l0⟩ := B1.two
  obtain ⟨k1, l1⟩ := B2.two
  obtain ⟨k2, l2⟩ := B3.two
  obtain ⟨k3, l3⟩ := B4.two
  obtain ⟨k4, l4⟩ := B5.two
  obtain ⟨kz, lz⟩ := BZ.two
  go_wp2
  go_ret
  exact ⟨rfl, hb1⟩
set_option maxHeartbeats 4000000 in
theorem quot_other (a : Int) (wa : (Lit.int .u32 a).wf = true) (b : Int) (wb : (Lit.int .u32 b).wf = true) (hne : (b == 0) = false) (w : World) : Calls Try.prog 10 #[.int .u32 a, .int .u32 b] w fun e w' => e = .returned (.bool true) ∧ Below w.heap.size w w' := by
  have ha := w_range wa
  have hb := w_range wb
  have hb' : b ≠ 0 := by simpa using hne
  obtain ⟨s, hs⟩ : ∃ s, Aside3 (a / 2 ^ (b % 32).toNat = s) := ⟨_, ⟨rfl⟩⟩
  have hk := two_pow (b % 32).toNat (by omega)
  obtain ⟨n, hn⟩ : ∃ n : Int, n = 2 ^ (b % 32).toNat := ⟨_, rfl⟩
  rw [← hn] at hk
  have N1 : Aside3 (1 * 2 ^ (b % 32).toNat % 4294967296 = n) := ⟨by rw [Int.one_mul, ← hn]; omega⟩
  have N2 : Aside3 (a.tdiv n % 4294967296 = s) := ⟨by rw [tdiv_w a n ha hk.1, hn]; exact hs.out⟩
  have N3 : (n == 0) = false := beq_eq_false_iff_ne.2 (by omega)
  clear hn hk
  have d1 : a / b * b ≤ a := Int.ediv_mul_le _ hb'
  have d2 : a < a / b * b + b := by have := Int.lt_ediv_add_one_mul_self a (show 0 < b by omega); rw [Int.add_mul, Int.one_mul] at this; exact this
  have d3 : 0 ≤ a / b * b := Int.mul_nonneg (Int.ediv_nonneg ha.1 (by omega)) (by omega)
  obtain ⟨q, hq⟩ : ∃ q, Aside3 (a.tdiv b % 4294967296 = q) := ⟨_, ⟨rfl⟩⟩
  have hq2 : q = a / b := by rw [← hq.out]; exact tdiv_w a b ha (by omega)
  obtain ⟨p, hp⟩ : ∃ p, Aside3 (q * b % 4294967296 = p) := ⟨_, ⟨rfl⟩⟩
  have hp2 : p = a / b * b := by rw [← hp.out, hq2]; omega
  rw [← hp2] at d1 d2 d3
  clear hp2 hq2
  obtain ⟨r, hr⟩ : ∃ r, Aside3 ((a - p) % 4294967296 = r) := ⟨_, ⟨rfl⟩⟩
  have r1 : r < b := by rw [← hr.out]; omega
  clear d2 d3 hb'
  go_enter Try.func10, Try.ntmps10
  go_wp2_with fail
  refine (aluExample_any _).mono ?_
  rintro e w0 ⟨rfl, hb1⟩
  go_wp2_with fail
  refine (do13 a b hne _).mono ?_
  rintro e w1 ⟨rfl, hb2⟩
  obtain ⟨f1, e1⟩ := dn_eq3 _ _ _ q hq.out
  rw [e1]
  clear e1
  replace hb1 := bl_alloc (bl_then hb1 hb2) (.cells #[.int .i64 0, .int .i64 0] 33)
  have B1 := Bk.new w1 #[.int .i64 0, .int .i64 0] 33
  clear hb2
  go_wp2_with fail
  refine (do12 q b _).mono ?_
  rintro e w2 ⟨rfl, hb2⟩
  obtain ⟨f2, e2⟩ := dn_eq3 _ _ _ p hp.out
  rw [e2]
  clear e2
  replace hb1 := bl_alloc (bl_then hb1 hb2) (.cells #[.int .i64 0, .int .i64 0] 33)
  replace B1 := (B1.below hb2).alloc (.cells #[.int .i64 0, .int .i64 0] 33)
  have B2 := Bk.new w2 #[.int .i64 0, .int .i64 0] 33
  clear hb2
  go_wp2_with fail
  refine (do11 a p _).mono ?_
  rintro e w3 ⟨rfl, hb2⟩
  obtain ⟨f3, e3⟩ := dn_eq3 _ _ _ r hr.out
  rw [e3]
  clear e3
  replace hb1 := bl_alloc (bl_then hb1 hb2) (.cells #[.int .i64 0, .int .i64 0] 33)
  replace B1 := (B1.below hb2).alloc (.cells #[.int .i64 0, .int .i64 0] 33)
  replace B2 := (B2.below hb2).alloc (.cells #[.int .i64 0, .int .i64 0] 33)
  have B3 := Bk.new w3 #[.int .i64 0, .int .i64 0] 33
  clear hb2
  go_wp2_with fail
  refine (do18 a b hb.1 hb.2 _).mono ?_
  rintro e w4 ⟨rfl, hb2⟩
  obtain ⟨f4, e4⟩ := dn_eq3 _ _ _ s hs.out
  rw [e4]
  clear e4
  replace hb1 := bl_alloc (bl_then hb1 hb2) (.cells #[.int .i64 0, .int .i64 0] 33)
  replace B1 := (B1.below hb2).alloc (.cells #[.int .i64 0, .int .i64 0] 33)
  replace B2 := (B2.below hb2).alloc (.cells #[.int .i64 0, .int .i64 0] 33)
  replace B3 := (B3.below hb2).alloc (.cells #[.int .i64 0, .int .i64 0] 33)
  have B4 := Bk.new w4 #[.int .i64 0, .int .i64 0] 33
  clear hb2
  go_wp2_with fail
  refine (do17 1 b hb.1 hb.2 _).mono ?_
  rintro e w5 ⟨rfl, hb2⟩
  obtain ⟨f5, e5⟩ := dn_eq3 _ _ _ n N1.out
  rw [e5]
  clear e5
  replace hb1 := bl_alloc (bl_then hb1 hb2) (.cells #[.int .i64 0, .int .i64 0] 33)
  replace B1 := (B1.below hb2).alloc (.cells #[.int .i64 0, .int .i64 0] 33)
  replace B2 := (B2.below hb2).alloc (.cells #[.int .i64 0, .int .i64 0] 33)
  replace B3 := (B3.below hb2).alloc (.cells #[.int .i64 0, .int .i64 0] 33)
  replace B4 := (B4.below hb2).alloc (.cells #[.int .i64 0, .int .i64 0] 33)
  have B5 := Bk.new w5 #[.int .i64 0, .int .i64 0] 33
  clear hb2
  go_wp2_with fail
  refine (do13 a n N3 _).mono ?_
  rintro e w6 ⟨rfl, hb2⟩
  obtain ⟨f6, e6⟩ := dn_eq3 _ _ _ s N2.out
  rw [e6]
  clear e6
  replace hb1 := bl_alloc (bl_then hb1 hb2) (.cells #[.int .i64 0, .int .i64 0] 33)
  replace B1 := (B1.below hb2).alloc (.cells #[.int .i64 0, .int .i64 0] 33)
  replace B2 := (B2.below hb2).alloc (.cells #[.int .i64 0, .int .i64 0] 33)
  replace B3 := (B3.below hb2).alloc (.cells #[.int .i64 0, .int .i64 0] 33)
  replace B4 := (B4.below hb2).alloc (.cells #[.int .i64 0, .int .i64 0] 33)
  replace B5 := (B5.below hb2).alloc (.cells #[.int .i64 0, .int .i64 0] 33)
  have B6 := Bk.new w6 #[.int .i64 0, .int .i64 0] 33
  clear hb2
  obtain ⟨k0, l0⟩ := B1.two
  obtain ⟨k1, l1⟩ := B2.two
  obtain ⟨k2, l2⟩ := B3.two
  obtain ⟨k3, l3⟩ := B4.two
  obtain ⟨k4, l4⟩ := B5.two
  obtain ⟨k5, l5⟩ := B6.two
  go_wp2
  go_ret
  exact ⟨rfl, hb1⟩
theorem quot_walk (a : Int) (wa : (Lit.int .u32 a).wf = true) (b : Int) (wb : (Lit.int .u32 b).wf = true) (w : World) : Calls Try.prog 10 #[.int .u32 a, .int .u32 b] w fun e w' => e = .returned (.bool true) ∧ Below w.heap.size w w' := by
  cases h : (b == 0) with
  | false => exact quot_other a wa b wb h w
  | true =>
    obtain rfl : b = 0 := by simpa using h
    exact quot_zero a wa w
end Go.Proofs.Ytdbeeblicpdphaa
