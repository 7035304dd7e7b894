/- Find of package memory: the place of a page in a memory whose addresses increase. Conditions: the memory reads as those pages. -/
import Derived.Test.YtbbhkjljiljadaaM1
namespace Go.Proofs.Ytbbhkjljiljadaa
open Go.RowKit
set_option linter.unusedVariables false
set_option linter.unusedSimpArgs false
theorem isNaN_any (x : Int) (w : World) : Calls Try.prog 76 #[.int .i64 x] w fun e w' => e = .returned (.bool false) ∧ w' = w := by
  go_enter Try.func76, Try.ntmps76
  go_wp2
  go_ret
  exact ⟨by simp, rfl⟩
def cmpI (x y : Int) : Int := if x < y then -1 else if y < x then 1 else 0
theorem compare_any (x y : Int) (w : World) : Calls Try.prog 74 #[.int .i64 x, .int .i64 y] w fun e w' => e = .returned (.int .i64 (cmpI x y)) ∧ w' = w := by
  unfold cmpI
  by_cases h1 : x < y
  · rw [if_pos h1]
    go_enter Try.func74, Try.ntmps74
    go_wp2_with (first | (go_at_call 76; refine (isNaN_any _ _).mono ?_; rintro e w1 ⟨rfl, rfl⟩))
    go_ret
    exact ⟨rfl, rfl⟩
  · rw [if_neg h1]
    by_cases h2 : y < x
    · rw [if_pos h2]
      go_enter Try.func74, Try.ntmps74
      go_wp2_with (first | (go_at_call 76; refine (isNaN_any _ _).mono ?_; rintro e w1 ⟨rfl, rfl⟩))
      go_ret
      exact ⟨rfl, rfl⟩
    · rw [if_neg h2]
      go_enter Try.func74, Try.ntmps74
      go_wp2_with (first | (go_at_call 76; refine (isNaN_any _ _).mono ?_; rintro e w1 ⟨rfl, rfl⟩))
      go_ret
      exact ⟨rfl, rfl⟩
theorem find1_any (a r : Int) (d : Value) (t : Int) (hd : d.oneCell' = true) (w : World) : Calls Try.prog 73 #[.agg #[.int .i64 a, .int .i64 r, d], .int .i64 t] w fun e w' => e = .returned (.int .i64 (cmpI a t)) ∧ Below w.heap.size w w' := by
  go_enter Try.func73, Try.ntmps73
  go_wp2_with fail
  refine (compare_any _ _ _).mono ?_
  rintro e w1 ⟨rfl, rfl⟩
  go_wp2
  go_ret
  exact ⟨rfl, bl_alloc (Below.refl _ _) _⟩
/-- The addresses increase. -/
def Inc (l : List Pg) : Prop := ∀ i j (hi : i < l.length) (hj : j < l.length), i < j → l[i].a < l[j].a
def SRel (l : List Pg) (t : Int) (w : World) (vi vj : Value) (wr : World) : Prop :=
  ∃ i j : Nat, vi = .int .i64 i ∧ vj = .int .i64 j ∧ i ≤ j ∧ j ≤ l.length ∧ As (∀ k (h : k < l.length), k < i → l[k].a < t) ∧ As (∀ k (h : k < l.length), j ≤ k → t ≤ l[k].a) ∧ As (Below w.heap.size w wr)
theorem u64_small (n : Int) (h0 : 0 ≤ n) (h1 : n < 18446744073709551616) : IntKind.u64.wrap n = n := by
  have : IntKind.u64.wrap n = n % 18446744073709551616 := by simp [IntKind.wrap, IntKind.bits, IntKind.signed]
  rw [this]; omega
/-- Where a search ends: before i the addresses are less, from i on they are not; whether one is equal. -/
def Spot (l : List Pg) (t : Int) (i : Nat) (ok : Bool) : Prop := i ≤ l.length ∧ (∀ k (h : k < l.length), k < i → l[k].a < t) ∧ (∀ k (h : k < l.length), i ≤ k → t ≤ l[k].a) ∧ (ok = true ↔ ∃ h : i < l.length, l[i].a = t)
def FindPost (l : List Pg) (t : Int) (w : World) (e : Ending) (w' : World) : Prop := ∃ (i : Nat) (ok : Bool), Spot l t i ok ∧ e = .returned (.tuple #[.int .i64 i, .bool ok]) ∧ Below w.heap.size w w'
theorem cmpI_lt {x t : Int} (h : x < t) : cmpI x t = -1 := if_pos h
theorem cmpI_ge {x t : Int} (h : ¬ x < t) : ¬ cmpI x t < 0 := by unfold cmpI; rw [if_neg h]; split <;> omega
theorem cmpI_eq {x t : Int} (h : ¬ x < t) : (cmpI x t == 0) = decide (x = t) := by
  unfold cmpI; rw [if_neg h, Bool.eq_iff_iff, decide_eq_true_iff, beq_iff_eq]; split <;> omega
set_option maxHeartbeats 4000000 in
theorem bsearch_any (A : Option Addr) (c : Nat) (l : List Pg) (t : Int) (w : World) (hm : RdM w (.slice A l.length c) l) (hs : Inc l) :
    Calls Try.prog 72 #[.slice A l.length c, .int .i64 t, .func (.func 73) #[] #[]] w (FindPost l t w) := by
  have hlen := hm.len
  have HM := As.mk hm
  have HS := As.mk hs
  clear hm hs
  go_enter Try.func72, Try.ntmps72
  go_wp2
  go_loopw [9, 10] (fun vi vj wr => SRel l t w vi vj wr) (fun vi vj _ => (intOf vj - intOf vi).toNat)
  case atStart => exact ⟨0, l.length, rfl, rfl, by omega, by omega, ⟨fun k h hk => by omega⟩, ⟨fun k h hk => by omega⟩, ⟨Below.refl _ _⟩⟩
  case round =>
    obtain ⟨i, j, rfl, rfl, hij, hjn, hA, hB, hb⟩ := hrel
    by_cases hlt : i < j
    · obtain ⟨b, off, hAe, hP⟩ := (HM.out.below hb.out).at ((i + j) / 2) (by omega)
      obtain ⟨h1, h2, h3, h4, D, cd, h5, h6, h7⟩ := hP
      subst hAe
      have e1 : ∀ [Inhabited Nat], IntKind.u64.wrap ((i : Int) + (j : Int)) = (i : Int) + j := by intro _; exact u64_small _ (by omega) (by omega)
      have hh : (i + j) / 2 < l.length := by omega
      go_wp2_with fail
      refine (find1_any _ _ _ _ rfl _).mono ?_
      rintro e w1 ⟨rfl, hb1⟩
      clear h1 h2 h3 h4 h5 h6 h7
      have hb2 := As.mk (bl_then hb.out hb1)
      clear hb1 hb
      by_cases hc : l[(i + j) / 2].a < t
      · rw [cmpI_lt hc]
        have HC := As.mk hc
        clear hc
        go_wp2
        go_roundw
        case rel => exact ⟨(i + j) / 2 + 1, j, by go_num, rfl, by omega, by omega, ⟨fun k h hk => by
          rcases Nat.lt_or_ge k ((i + j) / 2) with h' | h'
          · exact Int.lt_trans (HS.out k _ h hh h') HC.out
          · obtain rfl : k = (i + j) / 2 := by omega
            exact HC.out⟩, hB, hb2⟩
        case measure => simp [intOf]; omega
      · have hc2 := cmpI_ge hc
        generalize cmpI l[(i + j) / 2].a t = z at hc2 ⊢
        have HC := As.mk hc
        clear hc
        go_wp2
        go_roundw
        case rel => exact ⟨i, (i + j) / 2, rfl, by go_num, by omega, by omega, hA, ⟨fun k h hk => by
          have h0 : t ≤ l[(i + j) / 2].a := by have := HC.out; omega
          rcases Nat.lt_or_ge ((i + j) / 2) k with h' | h'
          · exact Int.le_of_lt (Int.lt_of_le_of_lt h0 (HS.out _ k hh h h'))
          · obtain rfl : k = (i + j) / 2 := by omega
            exact h0⟩, hb2⟩
        case measure => simp [intOf]; omega
    · have hE : i = j := by omega
      subst hE
      by_cases hin : i < l.length
      · obtain ⟨b, off, hAe, hP⟩ := (HM.out.below hb.out).at i hin
        obtain ⟨h1, h2, h3, h4, D, cd, h5, h6, h7⟩ := hP
        subst hAe
        have hge : ¬ l[i].a < t := by have := hB.out i hin (Nat.le_refl _); omega
        go_wp2_with fail
        refine (find1_any _ _ _ _ rfl _).mono ?_
        rintro e w1 ⟨rfl, hb1⟩
        clear h1 h2 h3 h4 h5 h6 h7
        have hz := cmpI_eq (x := l[i].a) (t := t) (by omega)
        generalize cmpI l[i].a t = z at hz ⊢
        have HZ := As.mk hz
        clear hz hge
        go_wp2
        go_ret2
        refine ⟨i, z == 0, ⟨by omega, hA.out, hB.out, ?_⟩, rfl, bl_then hb.out hb1⟩
        rw [HZ.out, decide_eq_true_iff]
        exact ⟨(fun h => ⟨hin, h⟩), (fun ⟨_, h⟩ => h)⟩
      · go_wp2
        go_ret2
        exact ⟨i, false, ⟨by omega, hA.out, hB.out, ⟨(fun h => by cases h), (fun ⟨h, _⟩ => by omega)⟩⟩, rfl, hb.out⟩
theorem andNot255 (a : Int) (h0 : 0 ≤ a) (h1 : a < 4611686018427387904) : bits BinOp.andNot .i64 a 255 = a - a % 256 := by
  obtain ⟨n, rfl⟩ := Int.eq_ofNat_of_zero_le h0
  have hn : n < 2 ^ 62 := by omega
  have e : n &&& (2 ^ 8 * (2 ^ 56 - 1)) = 2 ^ 8 * (n / 2 ^ 8) := by
    apply Nat.eq_of_testBit_eq
    intro i
    rw [Nat.testBit_and, Nat.testBit_two_pow_mul, Nat.testBit_two_pow_mul, Nat.testBit_two_pow_sub_one, Nat.testBit_div_two_pow]
    by_cases h8 : 8 ≤ i
    · simp only [h8, decide_true, Bool.true_and, ge_iff_le, show 8 + (i - 8) = i from by omega, show i - 8 + 8 = i from by omega]
      by_cases h64 : i - 8 < 56
      · simp [h64]
      · have : n.testBit i = false := Nat.testBit_lt_two_pow (Nat.lt_of_lt_of_le hn (Nat.pow_le_pow_right (by omega) (by omega)))
        simp [this]
    · simp [h8]
  have e1 : n % 2 ^ IntKind.i64.bits = n := Nat.mod_eq_of_lt (by have : IntKind.i64.bits = 64 := rfl; rw [this]; omega)
  unfold bits
  simp only [BitVec.ofInt_natCast]
  simp
  rw [e1, show 2 ^ IntKind.i64.bits - 1 - 255 % 2 ^ IntKind.i64.bits = 2 ^ 8 * (2 ^ 56 - 1) from by have : IntKind.i64.bits = 64 := rfl; rw [this], e, IntKind.wrap_i64]
  omega
theorem find_any (v : Value) (l : List Pg) (a : Int) (w : World) (hm : RdM w v l) (hs : Inc l) (h0 : 0 ≤ a) (h1 : a < 4611686018427387904) :
    Calls Try.prog 59 #[v, .int .i64 a] w (FindPost l (a - a % 256) w) := by
  obtain ⟨A, c, rfl, hr⟩ := hm
  have HM : As (RdM w (.slice A l.length c) l) := ⟨⟨A, c, rfl, hr⟩⟩
  have HS := As.mk hs
  have E : ∀ [Inhabited Nat], bits BinOp.andNot .i64 a 255 = a - a % 256 := by intro _; exact andNot255 a h0 h1
  clear hs hr
  go_enter Try.func59, Try.ntmps59
  go_wp2_with fail
  refine (bsearch_any A c l (a - a % 256) w HM.out HS.out).mono ?_
  rintro e w1 ⟨i, ok, hsp, rfl, hb⟩
  have HP := As.mk hsp
  clear hsp
  go_wp2
  go_ret2
  exact ⟨i, ok, HP.out, rfl, hb⟩
end Go.Proofs.Ytbbhkjljiljadaa
