/- What Alu of the reference computes for every form that it knows, and its faults. Conditions: the words are words. -/
import Derived.Test.YtdbeeblicpdphaaA13
import Derived.Deep.DeepCutAuto
import Derived.Deep.CutBlock
namespace Go.Proofs.Ytdbeeblicpdphaa
open Go.RowKit
set_option linter.unusedVariables false
set_option linter.unusedSimpArgs false
/-- What the reference takes for the exact result, the signed one, and the kind, form by form. -/
def AluX (f a b X wd kd : Int) : Prop :=
  ((f = 9 ∨ f = 10) ∧ X = a + b ∧ wd = sg a + sg b ∧ kd = 1) ∨
  ((f = 11 ∨ f = 19 ∨ f = 20) ∧ X = a - b ∧ wd = sg a - sg b ∧ kd = 2) ∨
  (f = 12 ∧ X = a % 65536 * b % 4294967296 + a / 65536 * (b % 65536) % 65536 * 65536 ∧ wd = 0 ∧ kd = 0) ∨
  (f = 13 ∧ b ≠ 0 ∧ X = a / b ∧ wd = 0 ∧ kd = 0) ∨
  (f = 14 ∧ X = ((opOf 0 a.toNat b.toNat : Nat) : Int) ∧ wd = 0 ∧ kd = 0) ∨
  (f = 15 ∧ X = ((opOf 1 a.toNat b.toNat : Nat) : Int) ∧ wd = 0 ∧ kd = 0) ∨
  (f = 16 ∧ X = ((opOf 2 a.toNat b.toNat : Nat) : Int) ∧ wd = 0 ∧ kd = 0) ∨
  (f = 17 ∧ X = a % 2 ^ (32 - b % 32).toNat * 2 ^ (b % 32).toNat ∧ wd = 0 ∧ kd = 0) ∨
  (f = 18 ∧ X = a / 2 ^ (b % 32).toNat ∧ wd = 0 ∧ kd = 0)
theorem sg_range (a : Int) (h : 0 ≤ a ∧ a < 4294967296) : -2147483648 ≤ sg a ∧ sg a < 2147483648 := by unfold sg; split <;> omega
theorem two_i (s : Int) (h0 : 0 ≤ s) (h1 : s ≤ 31) : ∃ P : Int, (2 : Int) ^ s.toNat = P ∧ 1 ≤ P ∧ P ≤ 2147483648 := by
  obtain ⟨k, rfl⟩ := Int.eq_ofNat_of_zero_le h0
  have hp : (2 : Nat) ^ k ≤ 2 ^ 31 := Nat.pow_le_pow_right (by omega) (by omega)
  have hp0 : 0 < (2 : Nat) ^ k := Nat.two_pow_pos k
  have hc : ((2 : Int) ^ k) = ((2 ^ k : Nat) : Int) := by simp
  exact ⟨_, rfl, by rw [Int.toNat_natCast, hc]; omega, by rw [Int.toNat_natCast, hc]; omega⟩
theorem two_i' (s : Int) (h0 : 0 ≤ s) (h1 : s ≤ 32) : ∃ P : Int, (2 : Int) ^ s.toNat = P ∧ 1 ≤ P ∧ P ≤ 4294967296 := by
  obtain ⟨k, rfl⟩ := Int.eq_ofNat_of_zero_le h0
  have hp : (2 : Nat) ^ k ≤ 2 ^ 32 := Nat.pow_le_pow_right (by omega) (by omega)
  have hp0 : 0 < (2 : Nat) ^ k := Nat.two_pow_pos k
  have hc : ((2 : Int) ^ k) = ((2 ^ k : Nat) : Int) := by simp
  exact ⟨_, rfl, by rw [Int.toNat_natCast, hc]; omega, by rw [Int.toNat_natCast, hc]; omega⟩
def refv (r X wd kd : Int) : Value := .tuple #[.int .u32 r, .int .i64 (fl (r == 0) (decide (2147483648 ≤ r)) (decide (0 < kd) && (decide (X < 0) || decide (4294967296 ≤ X))) (decide (0 < kd) && (wd != sg r))), .agg #[.int .i64 0, .int .i64 0]]
def RefPost (r X wd kd : Int) (w : World) (e : Ending) (w' : World) : Prop := e = .returned (refv r X wd kd) ∧ Below w.heap.size w w'
abbrev wF (w : World) : World := w.alloc (.cells #[.int .i64 0, .int .i64 0] 33)
theorem tmod_range (X : Int) : -4294967296 < X.tmod 4294967296 ∧ X.tmod 4294967296 < 4294967296 ∧ X.tmod 4294967296 % 4294967296 = X % 4294967296 := by
  have h1 := Int.tmod_lt_of_pos X (show (0 : Int) < 4294967296 by omega)
  have h2 := Int.lt_tmod_of_pos X (show (0 : Int) < 4294967296 by omega)
  have h3 := Int.mul_tdiv_add_tmod X 4294967296
  refine ⟨h2, h1, ?_⟩
  omega
set_option maxRecDepth 100000 in
set_option maxHeartbeats 20000000 in
theorem ref_any (f a b X wd kd r : Int) (hfm : As (AluX f a b X wd kd)) (hk : kd = 0 ∨ 0 < kd) (hx1 : -4294967296 < X) (hx2 : X < 4611686018427387904) (hr : As (X % 4294967296 = r)) (ha : 0 ≤ a) (ha2 : a < 4294967296) (hb : 0 ≤ b) (hb2 : b < 4294967296) (w : World) : Calls Try.prog 21 #[.int .i64 f, .int .u32 a, .int .u32 b] w (RefPost r X wd kd w) := by
  have HK := As.mk hk
  clear hk
  go_enter Try.func21, Try.ntmps21
  go_upto_region 7 with fail
  go_cut [26] (fun v wc => v = .bool (f == 9 || f == 10) ∧ wc = w.alloc (.cells #[.int .i64 0, .int .i64 0] 33))
  case first =>
    cases h9 : (f == 9)
    all_goals
      go_wp2
      go_meet
      case rel => exact ⟨by simp [h9], rfl⟩
  case rest =>
    obtain ⟨rfl, rfl⟩ := hcut
    go_upto_if 26 with fail
    go_cut [12, 13, 14] (fun v12 v13 v14 wc => v12 = .int .i64 X ∧ v13 = .int .i64 wd ∧ v14 = .int .i64 kd ∧ wc = w.alloc (.cells #[.int .i64 0, .int .i64 0] 33))
    case first =>
      clear hx1 hx2 hr HK
      rcases hfm.out with ⟨rfl | rfl, hX, hw, hk⟩ | ⟨rfl | rfl | rfl, hX, hw, hk⟩ | ⟨rfl, hX, hw, hk⟩ | ⟨rfl, hne, hX, hw, hk⟩ | ⟨rfl, hX, hw, hk⟩ | ⟨rfl, hX, hw, hk⟩ | ⟨rfl, hX, hw, hk⟩ | ⟨rfl, hX, hw, hk⟩ | ⟨rfl, hX, hw, hk⟩
      · have HX := As.mk hX
        have HW := As.mk hw
        have HK := As.mk hk
        have sa := sg_range a ⟨ha, ha2⟩
        have sb := sg_range b ⟨hb, hb2⟩
        clear hX hw hk hfm
        go_wp2_with fail
        refine (signed_any a ha ha2 _).mono ?_
        rintro e w1 ⟨rfl, rfl⟩
        go_wp2_with fail
        refine (signed_any b hb hb2 _).mono ?_
        rintro e w1 ⟨rfl, rfl⟩
        go_wp2
        go_meet
        case rel => exact ⟨by rw [HX.out], by rw [HW.out], by rw [HK.out], rfl⟩
      · have HX := As.mk hX
        have HW := As.mk hw
        have HK := As.mk hk
        have sa := sg_range a ⟨ha, ha2⟩
        have sb := sg_range b ⟨hb, hb2⟩
        clear hX hw hk hfm
        go_wp2_with fail
        refine (signed_any a ha ha2 _).mono ?_
        rintro e w1 ⟨rfl, rfl⟩
        go_wp2_with fail
        refine (signed_any b hb hb2 _).mono ?_
        rintro e w1 ⟨rfl, rfl⟩
        go_wp2
        go_meet
        case rel => exact ⟨by rw [HX.out], by rw [HW.out], by rw [HK.out], rfl⟩
      · have HX := As.mk hX
        have HW := As.mk hw
        have HK := As.mk hk
        have sa := sg_range a ⟨ha, ha2⟩
        have sb := sg_range b ⟨hb, hb2⟩
        clear hX hw hk hfm
        go_wp2_with fail
        refine (signed_any a ha ha2 _).mono ?_
        rintro e w1 ⟨rfl, rfl⟩
        go_wp2_with fail
        refine (signed_any b hb hb2 _).mono ?_
        rintro e w1 ⟨rfl, rfl⟩
        go_wp2
        go_meet
        case rel => exact ⟨by rw [HX.out], by rw [HW.out], by rw [HK.out], rfl⟩
      · have HX := As.mk hX
        have HW := As.mk hw
        have HK := As.mk hk
        have sa := sg_range a ⟨ha, ha2⟩
        have sb := sg_range b ⟨hb, hb2⟩
        clear hX hw hk hfm
        go_wp2_with fail
        refine (signed_any a ha ha2 _).mono ?_
        rintro e w1 ⟨rfl, rfl⟩
        go_wp2_with fail
        refine (signed_any b hb hb2 _).mono ?_
        rintro e w1 ⟨rfl, rfl⟩
        go_wp2
        go_meet
        case rel => exact ⟨by rw [HX.out], by rw [HW.out], by rw [HK.out], rfl⟩
      · have HX := As.mk hX
        have HW := As.mk hw
        have HK := As.mk hk
        have sa := sg_range a ⟨ha, ha2⟩
        have sb := sg_range b ⟨hb, hb2⟩
        clear hX hw hk hfm
        go_wp2_with fail
        refine (signed_any a ha ha2 _).mono ?_
        rintro e w1 ⟨rfl, rfl⟩
        go_wp2_with fail
        refine (signed_any b hb hb2 _).mono ?_
        rintro e w1 ⟨rfl, rfl⟩
        go_wp2
        go_meet
        case rel => exact ⟨by rw [HX.out], by rw [HW.out], by rw [HK.out], rfl⟩
      · have HX := As.mk hX
        have HW := As.mk hw
        have HK := As.mk hk
        have p0 : 0 ≤ a % 65536 * b := Int.mul_nonneg (by omega) hb
        have p1 : a % 65536 * b ≤ 65536 * 4294967296 := Int.mul_le_mul (by omega) (by omega) hb (by omega)
        have p2 : 0 ≤ a / 65536 * (b % 65536) := Int.mul_nonneg (by omega) (by omega)
        have p3 : a / 65536 * (b % 65536) ≤ 65536 * 65536 := Int.mul_le_mul (by omega) (by omega) (by omega) (by omega)
        clear hX hw hk hfm
        go_wp2
        go_meet
        case rel => exact ⟨by rw [HX.out], by rw [HW.out], by rw [HK.out], rfl⟩
      · have HX := As.mk hX
        have HW := As.mk hw
        have HK := As.mk hk
        have hb3 : (b == 0) = false := beq_eq_false_iff_ne.2 hne
        have hb4 : 1 ≤ b := by omega
        have q0 : 0 ≤ a / b := Int.ediv_nonneg ha hb
        have q1 : a / b ≤ a := Int.ediv_le_self _ ha
        clear hX hw hk hfm hne
        go_wp2
        go_meet
        case rel => exact ⟨by rw [HX.out], by rw [HW.out], by rw [HK.out], rfl⟩
      · have HX := As.mk hX
        have HW := As.mk hw
        have HK := As.mk hk
        have ea : a = ((a.toNat : Nat) : Int) := by omega
        have eb : b = ((b.toNat : Nat) : Int) := by omega
        have C := bits_0 a.toNat b.toNat (by omega) (by omega)
        rw [← ea, ← eb] at C
        have C' := As.mk C
        have hl := opOf_lt 0 a.toNat b.toNat (by omega) (by omega)
        obtain ⟨N, hN⟩ : ∃ N, As (opOf 0 a.toNat b.toNat = N) := ⟨_, ⟨rfl⟩⟩
        rw [hN.out] at hl
        clear hX hw hk hfm ea eb C
        go_wp2_with fail
        refine (C'.out _).mono ?_
        rintro e w1 ⟨rfl, rfl⟩
        rw [hN.out]
        go_wp2
        go_meet
        case rel => exact ⟨by rw [HX.out, hN.out], by rw [HW.out], by rw [HK.out], rfl⟩
      · have HX := As.mk hX
        have HW := As.mk hw
        have HK := As.mk hk
        have ea : a = ((a.toNat : Nat) : Int) := by omega
        have eb : b = ((b.toNat : Nat) : Int) := by omega
        have C := bits_1 a.toNat b.toNat (by omega) (by omega)
        rw [← ea, ← eb] at C
        have C' := As.mk C
        have hl := opOf_lt 1 a.toNat b.toNat (by omega) (by omega)
        obtain ⟨N, hN⟩ : ∃ N, As (opOf 1 a.toNat b.toNat = N) := ⟨_, ⟨rfl⟩⟩
        rw [hN.out] at hl
        clear hX hw hk hfm ea eb C
        go_wp2_with fail
        refine (C'.out _).mono ?_
        rintro e w1 ⟨rfl, rfl⟩
        rw [hN.out]
        go_wp2
        go_meet
        case rel => exact ⟨by rw [HX.out, hN.out], by rw [HW.out], by rw [HK.out], rfl⟩
      · have HX := As.mk hX
        have HW := As.mk hw
        have HK := As.mk hk
        have ea : a = ((a.toNat : Nat) : Int) := by omega
        have eb : b = ((b.toNat : Nat) : Int) := by omega
        have C := bits_2 a.toNat b.toNat (by omega) (by omega)
        rw [← ea, ← eb] at C
        have C' := As.mk C
        have hl := opOf_lt 2 a.toNat b.toNat (by omega) (by omega)
        obtain ⟨N, hN⟩ : ∃ N, As (opOf 2 a.toNat b.toNat = N) := ⟨_, ⟨rfl⟩⟩
        rw [hN.out] at hl
        clear hX hw hk hfm ea eb C
        go_wp2_with fail
        refine (C'.out _).mono ?_
        rintro e w1 ⟨rfl, rfl⟩
        rw [hN.out]
        go_wp2
        go_meet
        case rel => exact ⟨by rw [HX.out, hN.out], by rw [HW.out], by rw [HK.out], rfl⟩
      · have HX := As.mk hX
        have HW := As.mk hw
        have HK := As.mk hk
        obtain ⟨s, hs⟩ : ∃ s, b % 32 = s := ⟨_, rfl⟩
        have s0 : 0 ≤ s := by omega
        have s1 : s ≤ 31 := by omega
        obtain ⟨P, hP, P1, P2⟩ := two_i s s0 s1
        obtain ⟨R, hR, R1, R2⟩ := two_i' (32 - s) (by omega) (by omega)
        have u1 : IntKind.u64.wrap s = s := u64_small _ (by omega) (by omega)
        have u2 : IntKind.u64.wrap (32 - s) = 32 - s := u64_small _ (by omega) (by omega)
        have m0 : 0 ≤ a % R := Int.emod_nonneg _ (by omega)
        have m1 : a % R < R := Int.emod_lt_of_pos _ (by omega)
        have m2 : 0 ≤ a % R * P := Int.mul_nonneg m0 (by omega)
        have hRP : R * P = 4294967296 := by
          rw [← hR, ← hP, ← Int.pow_add, show (32 - s).toNat + s.toNat = 32 from by omega]; simp
        have m3 : a % R * P ≤ 4294967296 := by rw [← hRP]; exact Int.mul_le_mul_of_nonneg_right (by omega) (by omega)
        have v1 : ∀ [Inhabited Nat], wrap64 ((2 : Int) ^ s.toNat) = P := by intro _; rw [hP]; exact w64_small _ (by omega) (by omega)
        have v2 : ∀ [Inhabited Nat], wrap64 ((2 : Int) ^ (32 - s).toNat) = R := by intro _; rw [hR]; exact w64_small _ (by omega) (by omega)
        have HP := As.mk hP
        have HR := As.mk hR
        rw [hs] at HX
        clear hX hw hk hfm hP hR
        go_wp2_with fail
        go_meet
        case rel => exact ⟨by rw [HX.out, HP.out, HR.out], by rw [HW.out], by rw [HK.out], rfl⟩
      · have HX := As.mk hX
        have HW := As.mk hw
        have HK := As.mk hk
        obtain ⟨s, hs⟩ : ∃ s, b % 32 = s := ⟨_, rfl⟩
        have s0 : 0 ≤ s := by omega
        have s1 : s ≤ 31 := by omega
        obtain ⟨P, hP, P1, P2⟩ := two_i s s0 s1
        have u1 : IntKind.u64.wrap s = s := u64_small _ (by omega) (by omega)
        have q0 : 0 ≤ a / P := Int.ediv_nonneg ha (by omega)
        have q1 : a / P ≤ a := Int.ediv_le_self _ ha
        have v1 : ∀ [Inhabited Nat], wrap64 ((2 : Int) ^ s.toNat) = P := by intro _; rw [hP]; exact w64_small _ (by omega) (by omega)
        have HP := As.mk hP
        rw [hs] at HX
        clear hX hw hk hfm hP
        go_wp2_with fail
        go_meet
        case rel => exact ⟨by rw [HX.out, HP.out], by rw [HW.out], by rw [HK.out], rfl⟩
    case rest =>
      obtain ⟨rfl, rfl, rfl, rfl⟩ := hcut
      obtain ⟨t0, t1, t2⟩ := tmod_range X
      obtain ⟨t, ht⟩ : ∃ t, X.tmod 4294967296 = t := ⟨_, rfl⟩
      rw [ht] at t0 t1 t2
      have hr2 : ∀ [Inhabited Nat], t % 4294967296 = r := by intro _; rw [t2]; exact hr.out
      have r0 : 0 ≤ r := by rw [← hr.out]; omega
      have r1 : r < 4294967296 := by rw [← hr.out]; omega
      have ht' : ∀ [Inhabited Nat], X.tmod 4294967296 = t := by intro _; exact ht
      have sr := sg_range r ⟨r0, r1⟩
      clear t2 hr hfm ht
      rcases HK.out with hk0 | hk0
      · subst hk0
        clear HK
        by_cases hn : 2147483648 ≤ r
        · have hz : (r == 0) = false := beq_eq_false_iff_ne.2 (by omega)
          go_wp2_with fail
          refine bodyPost_ret (v := .tuple #[.int .u32 r, .int .i64 2, .agg #[.int .i64 0, .int .i64 0]]) (by simp [results, Try.results21, go_sem]) rfl ⟨?_, ?_⟩
          · first | (simp [refv, fl, hz, hn]; done) | (simp [refv, fl, hz, hn]; (repeat' split) <;> omega)
          · repeat (first | exact Below.refl _ _ | refine bl_drew ?_ | refine bl_alloc ?_ _ | refine Below.setCell ?_ (by simp) _)
        · cases hz : (r == 0)
          · go_wp2_with fail
            refine bodyPost_ret (v := .tuple #[.int .u32 r, .int .i64 0, .agg #[.int .i64 0, .int .i64 0]]) (by simp [results, Try.results21, go_sem]) rfl ⟨?_, ?_⟩
            · first | (simp [refv, fl, hz, hn]; done) | (simp [refv, fl, hz, hn]; (repeat' split) <;> omega)
            · repeat (first | exact Below.refl _ _ | refine bl_drew ?_ | refine bl_alloc ?_ _ | refine Below.setCell ?_ (by simp) _)
          · go_wp2_with fail
            refine bodyPost_ret (v := .tuple #[.int .u32 r, .int .i64 1, .agg #[.int .i64 0, .int .i64 0]]) (by simp [results, Try.results21, go_sem]) rfl ⟨?_, ?_⟩
            · first | (simp [refv, fl, hz, hn]; done) | (simp [refv, fl, hz, hn]; (repeat' split) <;> omega)
            · repeat (first | exact Below.refl _ _ | refine bl_drew ?_ | refine bl_alloc ?_ _ | refine Below.setCell ?_ (by simp) _)
      · clear HK
        by_cases hn : 2147483648 ≤ r
        · have hz : (r == 0) = false := beq_eq_false_iff_ne.2 (by omega)
          by_cases hx : X < 0
          · have hm : ¬ 4294967296 ≤ X := by omega
            cases hv : (wd != sg r)
            · have hV := As.mk hv
              go_wp2_with fail
              refine (signed_any r r0 r1 _).mono ?_
              rintro e w1 ⟨rfl, rfl⟩
              go_wp2_with fail
              refine bodyPost_ret (v := .tuple #[.int .u32 r, .int .i64 6, .agg #[.int .i64 0, .int .i64 0]]) (by simp [results, Try.results21, go_sem]) rfl ⟨?_, ?_⟩
              · have hv2 := hV.out
                first | (simp [refv, fl, hz, hn, hk0, hx, hm, hv2]; done) | (simp [refv, fl, hz, hn, hk0, hx, hm, hv2]; (repeat' split) <;> omega)
              · repeat (first | exact Below.refl _ _ | refine bl_drew ?_ | refine bl_alloc ?_ _ | refine Below.setCell ?_ (by simp) _)
            · have hV := As.mk hv
              go_wp2_with fail
              refine (signed_any r r0 r1 _).mono ?_
              rintro e w1 ⟨rfl, rfl⟩
              go_wp2_with fail
              refine bodyPost_ret (v := .tuple #[.int .u32 r, .int .i64 14, .agg #[.int .i64 0, .int .i64 0]]) (by simp [results, Try.results21, go_sem]) rfl ⟨?_, ?_⟩
              · have hv2 := hV.out
                first | (simp [refv, fl, hz, hn, hk0, hx, hm, hv2]; done) | (simp [refv, fl, hz, hn, hk0, hx, hm, hv2]; (repeat' split) <;> omega)
              · repeat (first | exact Below.refl _ _ | refine bl_drew ?_ | refine bl_alloc ?_ _ | refine Below.setCell ?_ (by simp) _)
          · by_cases hm : 4294967296 ≤ X
            · cases hv : (wd != sg r)
              · have hV := As.mk hv
                go_wp2_with fail
                refine (signed_any r r0 r1 _).mono ?_
                rintro e w1 ⟨rfl, rfl⟩
                go_wp2_with fail
                refine bodyPost_ret (v := .tuple #[.int .u32 r, .int .i64 6, .agg #[.int .i64 0, .int .i64 0]]) (by simp [results, Try.results21, go_sem]) rfl ⟨?_, ?_⟩
                · have hv2 := hV.out
                  first | (simp [refv, fl, hz, hn, hk0, hx, hm, hv2]; done) | (simp [refv, fl, hz, hn, hk0, hx, hm, hv2]; (repeat' split) <;> omega)
                · repeat (first | exact Below.refl _ _ | refine bl_drew ?_ | refine bl_alloc ?_ _ | refine Below.setCell ?_ (by simp) _)
              · have hV := As.mk hv
                go_wp2_with fail
                refine (signed_any r r0 r1 _).mono ?_
                rintro e w1 ⟨rfl, rfl⟩
                go_wp2_with fail
                refine bodyPost_ret (v := .tuple #[.int .u32 r, .int .i64 14, .agg #[.int .i64 0, .int .i64 0]]) (by simp [results, Try.results21, go_sem]) rfl ⟨?_, ?_⟩
                · have hv2 := hV.out
                  first | (simp [refv, fl, hz, hn, hk0, hx, hm, hv2]; done) | (simp [refv, fl, hz, hn, hk0, hx, hm, hv2]; (repeat' split) <;> omega)
                · repeat (first | exact Below.refl _ _ | refine bl_drew ?_ | refine bl_alloc ?_ _ | refine Below.setCell ?_ (by simp) _)
            · cases hv : (wd != sg r)
              · have hV := As.mk hv
                go_wp2_with fail
                refine (signed_any r r0 r1 _).mono ?_
                rintro e w1 ⟨rfl, rfl⟩
                go_wp2_with fail
                refine bodyPost_ret (v := .tuple #[.int .u32 r, .int .i64 2, .agg #[.int .i64 0, .int .i64 0]]) (by simp [results, Try.results21, go_sem]) rfl ⟨?_, ?_⟩
                · have hv2 := hV.out
                  first | (simp [refv, fl, hz, hn, hk0, hx, hm, hv2]; done) | (simp [refv, fl, hz, hn, hk0, hx, hm, hv2]; (repeat' split) <;> omega)
                · repeat (first | exact Below.refl _ _ | refine bl_drew ?_ | refine bl_alloc ?_ _ | refine Below.setCell ?_ (by simp) _)
              · have hV := As.mk hv
                go_wp2_with fail
                refine (signed_any r r0 r1 _).mono ?_
                rintro e w1 ⟨rfl, rfl⟩
                go_wp2_with fail
                refine bodyPost_ret (v := .tuple #[.int .u32 r, .int .i64 10, .agg #[.int .i64 0, .int .i64 0]]) (by simp [results, Try.results21, go_sem]) rfl ⟨?_, ?_⟩
                · have hv2 := hV.out
                  first | (simp [refv, fl, hz, hn, hk0, hx, hm, hv2]; done) | (simp [refv, fl, hz, hn, hk0, hx, hm, hv2]; (repeat' split) <;> omega)
                · repeat (first | exact Below.refl _ _ | refine bl_drew ?_ | refine bl_alloc ?_ _ | refine Below.setCell ?_ (by simp) _)
        · cases hz : (r == 0)
          · skip
            by_cases hx : X < 0
            · have hm : ¬ 4294967296 ≤ X := by omega
              cases hv : (wd != sg r)
              · have hV := As.mk hv
                go_wp2_with fail
                refine (signed_any r r0 r1 _).mono ?_
                rintro e w1 ⟨rfl, rfl⟩
                go_wp2_with fail
                refine bodyPost_ret (v := .tuple #[.int .u32 r, .int .i64 4, .agg #[.int .i64 0, .int .i64 0]]) (by simp [results, Try.results21, go_sem]) rfl ⟨?_, ?_⟩
                · have hv2 := hV.out
                  first | (simp [refv, fl, hz, hn, hk0, hx, hm, hv2]; done) | (simp [refv, fl, hz, hn, hk0, hx, hm, hv2]; (repeat' split) <;> omega)
                · repeat (first | exact Below.refl _ _ | refine bl_drew ?_ | refine bl_alloc ?_ _ | refine Below.setCell ?_ (by simp) _)
              · have hV := As.mk hv
                go_wp2_with fail
                refine (signed_any r r0 r1 _).mono ?_
                rintro e w1 ⟨rfl, rfl⟩
                go_wp2_with fail
                refine bodyPost_ret (v := .tuple #[.int .u32 r, .int .i64 12, .agg #[.int .i64 0, .int .i64 0]]) (by simp [results, Try.results21, go_sem]) rfl ⟨?_, ?_⟩
                · have hv2 := hV.out
                  first | (simp [refv, fl, hz, hn, hk0, hx, hm, hv2]; done) | (simp [refv, fl, hz, hn, hk0, hx, hm, hv2]; (repeat' split) <;> omega)
                · repeat (first | exact Below.refl _ _ | refine bl_drew ?_ | refine bl_alloc ?_ _ | refine Below.setCell ?_ (by simp) _)
            · by_cases hm : 4294967296 ≤ X
              · cases hv : (wd != sg r)
                · have hV := As.mk hv
                  go_wp2_with fail
                  refine (signed_any r r0 r1 _).mono ?_
                  rintro e w1 ⟨rfl, rfl⟩
                  go_wp2_with fail
                  refine bodyPost_ret (v := .tuple #[.int .u32 r, .int .i64 4, .agg #[.int .i64 0, .int .i64 0]]) (by simp [results, Try.results21, go_sem]) rfl ⟨?_, ?_⟩
                  · have hv2 := hV.out
                    first | (simp [refv, fl, hz, hn, hk0, hx, hm, hv2]; done) | (simp [refv, fl, hz, hn, hk0, hx, hm, hv2]; (repeat' split) <;> omega)
                  · repeat (first | exact Below.refl _ _ | refine bl_drew ?_ | refine bl_alloc ?_ _ | refine Below.setCell ?_ (by simp) _)
                · have hV := As.mk hv
                  go_wp2_with fail
                  refine (signed_any r r0 r1 _).mono ?_
                  rintro e w1 ⟨rfl, rfl⟩
                  go_wp2_with fail
                  refine bodyPost_ret (v := .tuple #[.int .u32 r, .int .i64 12, .agg #[.int .i64 0, .int .i64 0]]) (by simp [results, Try.results21, go_sem]) rfl ⟨?_, ?_⟩
                  · have hv2 := hV.out
                    first | (simp [refv, fl, hz, hn, hk0, hx, hm, hv2]; done) | (simp [refv, fl, hz, hn, hk0, hx, hm, hv2]; (repeat' split) <;> omega)
                  · repeat (first | exact Below.refl _ _ | refine bl_drew ?_ | refine bl_alloc ?_ _ | refine Below.setCell ?_ (by simp) _)
              · cases hv : (wd != sg r)
                · have hV := As.mk hv
                  go_wp2_with fail
                  refine (signed_any r r0 r1 _).mono ?_
                  rintro e w1 ⟨rfl, rfl⟩
                  go_wp2_with fail
                  refine bodyPost_ret (v := .tuple #[.int .u32 r, .int .i64 0, .agg #[.int .i64 0, .int .i64 0]]) (by simp [results, Try.results21, go_sem]) rfl ⟨?_, ?_⟩
                  · have hv2 := hV.out
                    first | (simp [refv, fl, hz, hn, hk0, hx, hm, hv2]; done) | (simp [refv, fl, hz, hn, hk0, hx, hm, hv2]; (repeat' split) <;> omega)
                  · repeat (first | exact Below.refl _ _ | refine bl_drew ?_ | refine bl_alloc ?_ _ | refine Below.setCell ?_ (by simp) _)
                · have hV := As.mk hv
                  go_wp2_with fail
                  refine (signed_any r r0 r1 _).mono ?_
                  rintro e w1 ⟨rfl, rfl⟩
                  go_wp2_with fail
                  refine bodyPost_ret (v := .tuple #[.int .u32 r, .int .i64 8, .agg #[.int .i64 0, .int .i64 0]]) (by simp [results, Try.results21, go_sem]) rfl ⟨?_, ?_⟩
                  · have hv2 := hV.out
                    first | (simp [refv, fl, hz, hn, hk0, hx, hm, hv2]; done) | (simp [refv, fl, hz, hn, hk0, hx, hm, hv2]; (repeat' split) <;> omega)
                  · repeat (first | exact Below.refl _ _ | refine bl_drew ?_ | refine bl_alloc ?_ _ | refine Below.setCell ?_ (by simp) _)
          · skip
            by_cases hx : X < 0
            · have hm : ¬ 4294967296 ≤ X := by omega
              cases hv : (wd != sg r)
              · have hV := As.mk hv
                go_wp2_with fail
                refine (signed_any r r0 r1 _).mono ?_
                rintro e w1 ⟨rfl, rfl⟩
                go_wp2_with fail
                refine bodyPost_ret (v := .tuple #[.int .u32 r, .int .i64 5, .agg #[.int .i64 0, .int .i64 0]]) (by simp [results, Try.results21, go_sem]) rfl ⟨?_, ?_⟩
                · have hv2 := hV.out
                  first | (simp [refv, fl, hz, hn, hk0, hx, hm, hv2]; done) | (simp [refv, fl, hz, hn, hk0, hx, hm, hv2]; (repeat' split) <;> omega)
                · repeat (first | exact Below.refl _ _ | refine bl_drew ?_ | refine bl_alloc ?_ _ | refine Below.setCell ?_ (by simp) _)
              · have hV := As.mk hv
                go_wp2_with fail
                refine (signed_any r r0 r1 _).mono ?_
                rintro e w1 ⟨rfl, rfl⟩
                go_wp2_with fail
                refine bodyPost_ret (v := .tuple #[.int .u32 r, .int .i64 13, .agg #[.int .i64 0, .int .i64 0]]) (by simp [results, Try.results21, go_sem]) rfl ⟨?_, ?_⟩
                · have hv2 := hV.out
                  first | (simp [refv, fl, hz, hn, hk0, hx, hm, hv2]; done) | (simp [refv, fl, hz, hn, hk0, hx, hm, hv2]; (repeat' split) <;> omega)
                · repeat (first | exact Below.refl _ _ | refine bl_drew ?_ | refine bl_alloc ?_ _ | refine Below.setCell ?_ (by simp) _)
            · by_cases hm : 4294967296 ≤ X
              · cases hv : (wd != sg r)
                · have hV := As.mk hv
                  go_wp2_with fail
                  refine (signed_any r r0 r1 _).mono ?_
                  rintro e w1 ⟨rfl, rfl⟩
                  go_wp2_with fail
                  refine bodyPost_ret (v := .tuple #[.int .u32 r, .int .i64 5, .agg #[.int .i64 0, .int .i64 0]]) (by simp [results, Try.results21, go_sem]) rfl ⟨?_, ?_⟩
                  · have hv2 := hV.out
                    first | (simp [refv, fl, hz, hn, hk0, hx, hm, hv2]; done) | (simp [refv, fl, hz, hn, hk0, hx, hm, hv2]; (repeat' split) <;> omega)
                  · repeat (first | exact Below.refl _ _ | refine bl_drew ?_ | refine bl_alloc ?_ _ | refine Below.setCell ?_ (by simp) _)
                · have hV := As.mk hv
                  go_wp2_with fail
                  refine (signed_any r r0 r1 _).mono ?_
                  rintro e w1 ⟨rfl, rfl⟩
                  go_wp2_with fail
                  refine bodyPost_ret (v := .tuple #[.int .u32 r, .int .i64 13, .agg #[.int .i64 0, .int .i64 0]]) (by simp [results, Try.results21, go_sem]) rfl ⟨?_, ?_⟩
                  · have hv2 := hV.out
                    first | (simp [refv, fl, hz, hn, hk0, hx, hm, hv2]; done) | (simp [refv, fl, hz, hn, hk0, hx, hm, hv2]; (repeat' split) <;> omega)
                  · repeat (first | exact Below.refl _ _ | refine bl_drew ?_ | refine bl_alloc ?_ _ | refine Below.setCell ?_ (by simp) _)
              · cases hv : (wd != sg r)
                · have hV := As.mk hv
                  go_wp2_with fail
                  refine (signed_any r r0 r1 _).mono ?_
                  rintro e w1 ⟨rfl, rfl⟩
                  go_wp2_with fail
                  refine bodyPost_ret (v := .tuple #[.int .u32 r, .int .i64 1, .agg #[.int .i64 0, .int .i64 0]]) (by simp [results, Try.results21, go_sem]) rfl ⟨?_, ?_⟩
                  · have hv2 := hV.out
                    first | (simp [refv, fl, hz, hn, hk0, hx, hm, hv2]; done) | (simp [refv, fl, hz, hn, hk0, hx, hm, hv2]; (repeat' split) <;> omega)
                  · repeat (first | exact Below.refl _ _ | refine bl_drew ?_ | refine bl_alloc ?_ _ | refine Below.setCell ?_ (by simp) _)
                · have hV := As.mk hv
                  go_wp2_with fail
                  refine (signed_any r r0 r1 _).mono ?_
                  rintro e w1 ⟨rfl, rfl⟩
                  go_wp2_with fail
                  refine bodyPost_ret (v := .tuple #[.int .u32 r, .int .i64 9, .agg #[.int .i64 0, .int .i64 0]]) (by simp [results, Try.results21, go_sem]) rfl ⟨?_, ?_⟩
                  · have hv2 := hV.out
                    first | (simp [refv, fl, hz, hn, hk0, hx, hm, hv2]; done) | (simp [refv, fl, hz, hn, hk0, hx, hm, hv2]; (repeat' split) <;> omega)
                  · repeat (first | exact Below.refl _ _ | refine bl_drew ?_ | refine bl_alloc ?_ _ | refine Below.setCell ?_ (by simp) _)
theorem refat (c i : Int) (w : World) : Calls Try.prog 18 #[.int .i64 c, .int .i64 i] w fun e w' => e = .returned (.agg #[.int .i64 c, .int .i64 i]) ∧ w' = w.alloc (.cells #[.int .i64 c, .int .i64 i] 33) := by
  go_enter Try.func18, Try.ntmps18
  go_wp2
  exact bodyPost_ret (v := .agg #[.int .i64 c, .int .i64 i]) (by simp [results, Try.results18, go_sem]) rfl ⟨rfl, rfl⟩
set_option maxRecDepth 100000 in
set_option maxHeartbeats 4000000 in
theorem ref_zero (a : Int) (w : World) (ha : 0 ≤ a) (ha2 : a < 4294967296) : Calls Try.prog 21 #[.int .i64 13, .int .u32 a, .int .u32 0] w fun e w' => e = .returned (.tuple #[.int .u32 0, .int .i64 0, .agg #[.int .i64 3, .int .i64 (-2)]]) ∧ Below w.heap.size w w' := by
  go_enter Try.func21, Try.ntmps21
  go_wp2_with fail
  refine (refat _ _ _).mono ?_
  rintro e w1 ⟨rfl, rfl⟩
  go_wp2
  refine bodyPost_ret (v := .tuple #[.int .u32 0, .int .i64 0, .agg #[.int .i64 3, .int .i64 (-2)]]) (by simp [results, Try.results21, go_sem]) rfl ⟨rfl, ?_⟩
  repeat (first | exact Below.refl _ _ | refine bl_drew ?_ | refine bl_alloc ?_ _ | refine Below.setCell ?_ (by simp) _)
set_option maxRecDepth 100000 in
set_option maxHeartbeats 4000000 in
theorem ref_no (f a b : Int) (h9 : (f == 9) = false) (h10 : (f == 10) = false) (h11 : (f == 11) = false) (h19 : (f == 19) = false) (h20 : (f == 20) = false) (h12 : (f == 12) = false) (h13 : (f == 13) = false) (h14 : (f == 14) = false) (h15 : (f == 15) = false) (h16 : (f == 16) = false) (h17 : (f == 17) = false) (h18 : (f == 18) = false) (w : World) (ha : 0 ≤ a) (ha2 : a < 4294967296) (hb : 0 ≤ b) (hb2 : b < 4294967296) : Calls Try.prog 21 #[.int .i64 f, .int .u32 a, .int .u32 b] w fun e w' => e = .returned (.tuple #[.int .u32 0, .int .i64 0, .agg #[.int .i64 4, .int .i64 (-1)]]) ∧ Below w.heap.size w w' := by
  go_enter Try.func21, Try.ntmps21
  go_wp2_with fail
  refine (refat _ _ _).mono ?_
  rintro e w1 ⟨rfl, rfl⟩
  go_wp2
  refine bodyPost_ret (v := .tuple #[.int .u32 0, .int .i64 0, .agg #[.int .i64 4, .int .i64 (-1)]]) (by simp [results, Try.results21, go_sem]) rfl ⟨rfl, ?_⟩
  repeat (first | exact Below.refl _ _ | refine bl_drew ?_ | refine bl_alloc ?_ _ | refine Below.setCell ?_ (by simp) _)
end Go.Proofs.Ytdbeeblicpdphaa
