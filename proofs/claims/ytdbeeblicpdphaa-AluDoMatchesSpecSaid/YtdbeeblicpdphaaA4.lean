/- What Do of package alu computes, form by form, as contracts of its Go text. Conditions: the words are words; the divisor is not zero where one divides. -/
import Derived.Test.YtdbeeblicpdphaaA3
namespace Go.Proofs.Ytdbeeblicpdphaa
open Go.RowKit
set_option linter.unusedVariables false
set_option linter.unusedSimpArgs false
theorem wraps_u32' (n : Int) (h₀ : 0 ≤ n) (h₁ : n < 2 ^ 32) : IntKind.u32.wrap n = n := by rw [IntKind.wrap_u32]; omega
theorem and31 (b : Int) (h0 : 0 ≤ b) (h1 : b < 4294967296) : bits BinOp.and .u32 b 31 = b % 32 := bits_mask .u32 32 (by decide) wraps_u32' 5 (by decide) b h0 (by omega)
/-- An answer of Do that is no fault. -/
def done (a : Int) (c v : Bool) : Value := .tuple #[.int .u32 a, .int .i64 (fl (a == 0) (a / 2147483648 == 1) c v), .agg #[.int .i64 0, .int .i64 0]]
theorem Bk.one {W : World} {g : Nat} {c0 : Value} {t : TypeId} (h : Bk W g #[c0] t) : W.cell? ⟨g, 0, none⟩ = some c0 := h.cell 0
theorem qfn (f : Fn) (x y : Array Value) (w : World) : (binOp .eql 49 (.func f x y) .nilFunc).run Try.prog w = .ok (.bool false) w := by kernel_rfl
theorem qnn (w : World) : (binOp .eql 49 .nilFunc .nilFunc).run Try.prog w = .ok (.bool true) w := by kernel_rfl
theorem l36 (a b : Int) (w : World) : Calls Try.prog 36 #[.int .u32 a, .int .u32 b] w fun e w' => e = .returned (.int .u32 (a * b % 4294967296)) ∧ w' = w := by
  go_enter Try.func36, Try.ntmps36
  go_wp2
  go_ret
  exact ⟨rfl, rfl⟩
theorem p36 (a b : Int) (g : Nat) (w : World) (hB : Bk w g #[.func (.func 36) #[] #[]] 48) : Calls Try.prog 45 #[.int .u32 a, .int .u32 b, .pointer (some ⟨g, 0, none⟩)] w fun e w' => e = .returned (res (a * b % 4294967296) false false) ∧ Below w.heap.size w w' := by
  obtain k0 := (hB.alloc (.cells #[.int .u32 0, .int .i64 0] 52)).one
  go_enter Try.func45, Try.ntmps45
  go_wp2_with fail
  refine (l36 a b _).mono ?_
  rintro e w1 ⟨rfl, rfl⟩
  go_wp2_with fail
  refine (of_w _ _ _ _).mono ?_
  rintro e w1 ⟨rfl, hb⟩
  obtain ⟨hc, hf⟩ := bcell hb
  clear k0
  simp only [res]
  go_wp2
  refine bodyPost_ret (v := res (a * b % 4294967296) false false) (by simp [results, Try.results45, go_sem, res, hc]) rfl ⟨rfl, ?_⟩
  refine Below.trans (b := w1) (bl_then ?_ hb) ?_
  · repeat (first | exact Below.refl _ _ | refine bl_drew ?_ | refine bl_alloc ?_ _)
  · repeat (first | exact Below.refl _ _ | refine Below.setCell ?_ (by simp) _)
theorem l37 (a b : Int) (h0 : (b == 0) = false) (w : World) : Calls Try.prog 37 #[.int .u32 a, .int .u32 b] w fun e w' => e = .returned (.int .u32 (a.tdiv b % 4294967296)) ∧ w' = w := by
  have h2 : ¬ b = 0 := by simpa using h0
  go_enter Try.func37, Try.ntmps37
  go_wp2
  go_ret
  exact ⟨rfl, rfl⟩
theorem p37 (a b : Int) (h0 : (b == 0) = false) (g : Nat) (w : World) (hB : Bk w g #[.func (.func 37) #[] #[]] 48) : Calls Try.prog 45 #[.int .u32 a, .int .u32 b, .pointer (some ⟨g, 0, none⟩)] w fun e w' => e = .returned (res (a.tdiv b % 4294967296) false false) ∧ Below w.heap.size w w' := by
  obtain k0 := (hB.alloc (.cells #[.int .u32 0, .int .i64 0] 52)).one
  go_enter Try.func45, Try.ntmps45
  go_wp2_with fail
  refine (l37 a b h0 _).mono ?_
  rintro e w1 ⟨rfl, rfl⟩
  go_wp2_with fail
  refine (of_w _ _ _ _).mono ?_
  rintro e w1 ⟨rfl, hb⟩
  obtain ⟨hc, hf⟩ := bcell hb
  clear k0
  simp only [res]
  go_wp2
  refine bodyPost_ret (v := res (a.tdiv b % 4294967296) false false) (by simp [results, Try.results45, go_sem, res, hc]) rfl ⟨rfl, ?_⟩
  refine Below.trans (b := w1) (bl_then ?_ hb) ?_
  · repeat (first | exact Below.refl _ _ | refine bl_drew ?_ | refine bl_alloc ?_ _)
  · repeat (first | exact Below.refl _ _ | refine Below.setCell ?_ (by simp) _)
theorem l38 (a b : Int) (w : World) : Calls Try.prog 38 #[.int .u32 a, .int .u32 b] w fun e w' => e = .returned (.int .u32 (bits BinOp.and .u32 a b)) ∧ w' = w := by
  go_enter Try.func38, Try.ntmps38
  go_wp2
  go_ret
  exact ⟨rfl, rfl⟩
theorem p38 (a b : Int) (g : Nat) (w : World) (hB : Bk w g #[.func (.func 38) #[] #[]] 48) : Calls Try.prog 45 #[.int .u32 a, .int .u32 b, .pointer (some ⟨g, 0, none⟩)] w fun e w' => e = .returned (res (bits BinOp.and .u32 a b) false false) ∧ Below w.heap.size w w' := by
  obtain k0 := (hB.alloc (.cells #[.int .u32 0, .int .i64 0] 52)).one
  go_enter Try.func45, Try.ntmps45
  go_wp2_with fail
  refine (l38 a b _).mono ?_
  rintro e w1 ⟨rfl, rfl⟩
  go_wp2_with fail
  refine (of_w _ _ _ _).mono ?_
  rintro e w1 ⟨rfl, hb⟩
  obtain ⟨hc, hf⟩ := bcell hb
  clear k0
  simp only [res]
  go_wp2
  refine bodyPost_ret (v := res (bits BinOp.and .u32 a b) false false) (by simp [results, Try.results45, go_sem, res, hc]) rfl ⟨rfl, ?_⟩
  refine Below.trans (b := w1) (bl_then ?_ hb) ?_
  · repeat (first | exact Below.refl _ _ | refine bl_drew ?_ | refine bl_alloc ?_ _)
  · repeat (first | exact Below.refl _ _ | refine Below.setCell ?_ (by simp) _)
theorem l39 (a b : Int) (w : World) : Calls Try.prog 39 #[.int .u32 a, .int .u32 b] w fun e w' => e = .returned (.int .u32 (bits BinOp.or .u32 a b)) ∧ w' = w := by
  go_enter Try.func39, Try.ntmps39
  go_wp2
  go_ret
  exact ⟨rfl, rfl⟩
theorem p39 (a b : Int) (g : Nat) (w : World) (hB : Bk w g #[.func (.func 39) #[] #[]] 48) : Calls Try.prog 45 #[.int .u32 a, .int .u32 b, .pointer (some ⟨g, 0, none⟩)] w fun e w' => e = .returned (res (bits BinOp.or .u32 a b) false false) ∧ Below w.heap.size w w' := by
  obtain k0 := (hB.alloc (.cells #[.int .u32 0, .int .i64 0] 52)).one
  go_enter Try.func45, Try.ntmps45
  go_wp2_with fail
  refine (l39 a b _).mono ?_
  rintro e w1 ⟨rfl, rfl⟩
  go_wp2_with fail
  refine (of_w _ _ _ _).mono ?_
  rintro e w1 ⟨rfl, hb⟩
  obtain ⟨hc, hf⟩ := bcell hb
  clear k0
  simp only [res]
  go_wp2
  refine bodyPost_ret (v := res (bits BinOp.or .u32 a b) false false) (by simp [results, Try.results45, go_sem, res, hc]) rfl ⟨rfl, ?_⟩
  refine Below.trans (b := w1) (bl_then ?_ hb) ?_
  · repeat (first | exact Below.refl _ _ | refine bl_drew ?_ | refine bl_alloc ?_ _)
  · repeat (first | exact Below.refl _ _ | refine Below.setCell ?_ (by simp) _)
theorem l40 (a b : Int) (w : World) : Calls Try.prog 40 #[.int .u32 a, .int .u32 b] w fun e w' => e = .returned (.int .u32 (bits BinOp.xor .u32 a b)) ∧ w' = w := by
  go_enter Try.func40, Try.ntmps40
  go_wp2
  go_ret
  exact ⟨rfl, rfl⟩
theorem p40 (a b : Int) (g : Nat) (w : World) (hB : Bk w g #[.func (.func 40) #[] #[]] 48) : Calls Try.prog 45 #[.int .u32 a, .int .u32 b, .pointer (some ⟨g, 0, none⟩)] w fun e w' => e = .returned (res (bits BinOp.xor .u32 a b) false false) ∧ Below w.heap.size w w' := by
  obtain k0 := (hB.alloc (.cells #[.int .u32 0, .int .i64 0] 52)).one
  go_enter Try.func45, Try.ntmps45
  go_wp2_with fail
  refine (l40 a b _).mono ?_
  rintro e w1 ⟨rfl, rfl⟩
  go_wp2_with fail
  refine (of_w _ _ _ _).mono ?_
  rintro e w1 ⟨rfl, hb⟩
  obtain ⟨hc, hf⟩ := bcell hb
  clear k0
  simp only [res]
  go_wp2
  refine bodyPost_ret (v := res (bits BinOp.xor .u32 a b) false false) (by simp [results, Try.results45, go_sem, res, hc]) rfl ⟨rfl, ?_⟩
  refine Below.trans (b := w1) (bl_then ?_ hb) ?_
  · repeat (first | exact Below.refl _ _ | refine bl_drew ?_ | refine bl_alloc ?_ _)
  · repeat (first | exact Below.refl _ _ | refine Below.setCell ?_ (by simp) _)
theorem l41 (a b : Int) (h0 : 0 ≤ b) (h1 : b < 4294967296) (w : World) : Calls Try.prog 41 #[.int .u32 a, .int .u32 b] w fun e w' => e = .returned (.int .u32 (a * 2 ^ (b % 32).toNat % 4294967296)) ∧ w' = w := by
  have hs := and31 b h0 h1
  have g0 : 0 ≤ b % 32 := by omega
  have g1 : b % 32 ≤ 31 := by omega
  generalize b % 32 = s at hs g0 g1 ⊢
  go_enter Try.func41, Try.ntmps41
  go_wp2
  go_ret
  exact ⟨rfl, rfl⟩
theorem p41 (a b : Int) (h0 : 0 ≤ b) (h1 : b < 4294967296) (g : Nat) (w : World) (hB : Bk w g #[.func (.func 41) #[] #[]] 48) : Calls Try.prog 45 #[.int .u32 a, .int .u32 b, .pointer (some ⟨g, 0, none⟩)] w fun e w' => e = .returned (res (a * 2 ^ (b % 32).toNat % 4294967296) false false) ∧ Below w.heap.size w w' := by
  obtain k0 := (hB.alloc (.cells #[.int .u32 0, .int .i64 0] 52)).one
  go_enter Try.func45, Try.ntmps45
  go_wp2_with fail
  refine (l41 a b h0 h1 _).mono ?_
  rintro e w1 ⟨rfl, rfl⟩
  go_wp2_with fail
  refine (of_w _ _ _ _).mono ?_
  rintro e w1 ⟨rfl, hb⟩
  obtain ⟨hc, hf⟩ := bcell hb
  clear k0
  simp only [res]
  go_wp2
  refine bodyPost_ret (v := res (a * 2 ^ (b % 32).toNat % 4294967296) false false) (by simp [results, Try.results45, go_sem, res, hc]) rfl ⟨rfl, ?_⟩
  refine Below.trans (b := w1) (bl_then ?_ hb) ?_
  · repeat (first | exact Below.refl _ _ | refine bl_drew ?_ | refine bl_alloc ?_ _)
  · repeat (first | exact Below.refl _ _ | refine Below.setCell ?_ (by simp) _)
theorem l42 (a b : Int) (h0 : 0 ≤ b) (h1 : b < 4294967296) (w : World) : Calls Try.prog 42 #[.int .u32 a, .int .u32 b] w fun e w' => e = .returned (.int .u32 (a / 2 ^ (b % 32).toNat)) ∧ w' = w := by
  have hs := and31 b h0 h1
  have g0 : 0 ≤ b % 32 := by omega
  have g1 : b % 32 ≤ 31 := by omega
  generalize b % 32 = s at hs g0 g1 ⊢
  go_enter Try.func42, Try.ntmps42
  go_wp2
  go_ret
  exact ⟨rfl, rfl⟩
theorem p42 (a b : Int) (h0 : 0 ≤ b) (h1 : b < 4294967296) (g : Nat) (w : World) (hB : Bk w g #[.func (.func 42) #[] #[]] 48) : Calls Try.prog 45 #[.int .u32 a, .int .u32 b, .pointer (some ⟨g, 0, none⟩)] w fun e w' => e = .returned (res (a / 2 ^ (b % 32).toNat) false false) ∧ Below w.heap.size w w' := by
  obtain k0 := (hB.alloc (.cells #[.int .u32 0, .int .i64 0] 52)).one
  go_enter Try.func45, Try.ntmps45
  go_wp2_with fail
  refine (l42 a b h0 h1 _).mono ?_
  rintro e w1 ⟨rfl, rfl⟩
  go_wp2_with fail
  refine (of_w _ _ _ _).mono ?_
  rintro e w1 ⟨rfl, hb⟩
  obtain ⟨hc, hf⟩ := bcell hb
  clear k0
  simp only [res]
  go_wp2
  refine bodyPost_ret (v := res (a / 2 ^ (b % 32).toNat) false false) (by simp [results, Try.results45, go_sem, res, hc]) rfl ⟨rfl, ?_⟩
  refine Below.trans (b := w1) (bl_then ?_ hb) ?_
  · repeat (first | exact Below.refl _ _ | refine bl_drew ?_ | refine bl_alloc ?_ _)
  · repeat (first | exact Below.refl _ _ | refine Below.setCell ?_ (by simp) _)
set_option maxHeartbeats 1000000 in
theorem do9 (a b : Int) (w : World) : Calls Try.prog 20 #[.int .i64 9, .int .u32 a, .int .u32 b] w fun e w' => e = .returned (done ((a + b) % 4294967296) (decide ((a + b) % 4294967296 < a)) (ovA a b)) ∧ Below w.heap.size w w' := by
  have q1 := qfn
  go_enter Try.func20, Try.ntmps20
  go_wp2_with fail
  refine (opn9 _).mono ?_
  rintro e w1 ⟨rfl, rfl⟩
  go_wp2_with fail
  refine (add_w a b _).mono ?_
  rintro e w2 ⟨rfl, hb⟩
  have B8 : Bk w2 w.heap.size _ _ := (Bk.new w #[.int .i64 0, .int .i64 0] 33).below hb
  replace B8 := B8.alloc (.cells #[.int .u32 ((a + b) % 4294967296), .int .i64 (fl (((a + b) % 4294967296) == 0) (((a + b) % 4294967296) / 2147483648 == 1) (decide ((a + b) % 4294967296 < a)) (ovA a b))] 52)
  obtain ⟨k0, k1⟩ := B8.two
  have f0 := B8.frozen 0
  have f1 := B8.frozen 1
  simp only [res]
  go_wp2_with fail
  go_region
  go_wp2
  refine bodyPost_ret (v := done ((a + b) % 4294967296) (decide ((a + b) % 4294967296 < a)) (ovA a b)) (by simp [results, Try.results20, go_sem, done, k0, k1, f0, f1]) rfl ⟨rfl, ?_⟩
  repeat (first | exact Below.refl _ _ | refine bl_drew ?_ | refine bl_alloc ?_ _ | refine Below.setCell ?_ (by simp) _ | refine bl_then ?_ hb)
set_option maxHeartbeats 1000000 in
theorem do10 (a b : Int) (w : World) : Calls Try.prog 20 #[.int .i64 10, .int .u32 a, .int .u32 b] w fun e w' => e = .returned (done ((a + b) % 4294967296) (decide ((a + b) % 4294967296 < a)) (ovA a b)) ∧ Below w.heap.size w w' := by
  have q1 := qfn
  go_enter Try.func20, Try.ntmps20
  go_wp2_with fail
  refine (opn10 _).mono ?_
  rintro e w1 ⟨rfl, rfl⟩
  go_wp2_with fail
  refine (add_w a b _).mono ?_
  rintro e w2 ⟨rfl, hb⟩
  have B8 : Bk w2 w.heap.size _ _ := (Bk.new w #[.int .i64 0, .int .i64 0] 33).below hb
  replace B8 := B8.alloc (.cells #[.int .u32 ((a + b) % 4294967296), .int .i64 (fl (((a + b) % 4294967296) == 0) (((a + b) % 4294967296) / 2147483648 == 1) (decide ((a + b) % 4294967296 < a)) (ovA a b))] 52)
  obtain ⟨k0, k1⟩ := B8.two
  have f0 := B8.frozen 0
  have f1 := B8.frozen 1
  simp only [res]
  go_wp2_with fail
  go_region
  go_wp2
  refine bodyPost_ret (v := done ((a + b) % 4294967296) (decide ((a + b) % 4294967296 < a)) (ovA a b)) (by simp [results, Try.results20, go_sem, done, k0, k1, f0, f1]) rfl ⟨rfl, ?_⟩
  repeat (first | exact Below.refl _ _ | refine bl_drew ?_ | refine bl_alloc ?_ _ | refine Below.setCell ?_ (by simp) _ | refine bl_then ?_ hb)
set_option maxHeartbeats 1000000 in
theorem do11 (a b : Int) (w : World) : Calls Try.prog 20 #[.int .i64 11, .int .u32 a, .int .u32 b] w fun e w' => e = .returned (done ((a - b) % 4294967296) (decide (a < b)) (ovS a b)) ∧ Below w.heap.size w w' := by
  have q1 := qfn
  go_enter Try.func20, Try.ntmps20
  go_wp2_with fail
  refine (opn11 _).mono ?_
  rintro e w1 ⟨rfl, rfl⟩
  go_wp2_with fail
  refine (sub_w a b _).mono ?_
  rintro e w2 ⟨rfl, hb⟩
  have B8 : Bk w2 w.heap.size _ _ := (Bk.new w #[.int .i64 0, .int .i64 0] 33).below hb
  replace B8 := B8.alloc (.cells #[.int .u32 ((a - b) % 4294967296), .int .i64 (fl (((a - b) % 4294967296) == 0) (((a - b) % 4294967296) / 2147483648 == 1) (decide (a < b)) (ovS a b))] 52)
  obtain ⟨k0, k1⟩ := B8.two
  have f0 := B8.frozen 0
  have f1 := B8.frozen 1
  simp only [res]
  go_wp2_with fail
  go_region
  go_wp2
  refine bodyPost_ret (v := done ((a - b) % 4294967296) (decide (a < b)) (ovS a b)) (by simp [results, Try.results20, go_sem, done, k0, k1, f0, f1]) rfl ⟨rfl, ?_⟩
  repeat (first | exact Below.refl _ _ | refine bl_drew ?_ | refine bl_alloc ?_ _ | refine Below.setCell ?_ (by simp) _ | refine bl_then ?_ hb)
set_option maxHeartbeats 1000000 in
theorem do19 (a b : Int) (w : World) : Calls Try.prog 20 #[.int .i64 19, .int .u32 a, .int .u32 b] w fun e w' => e = .returned (done ((a - b) % 4294967296) (decide (a < b)) (ovS a b)) ∧ Below w.heap.size w w' := by
  have q1 := qfn
  go_enter Try.func20, Try.ntmps20
  go_wp2_with fail
  refine (opn19 _).mono ?_
  rintro e w1 ⟨rfl, rfl⟩
  go_wp2_with fail
  refine (sub_w a b _).mono ?_
  rintro e w2 ⟨rfl, hb⟩
  have B8 : Bk w2 w.heap.size _ _ := (Bk.new w #[.int .i64 0, .int .i64 0] 33).below hb
  replace B8 := B8.alloc (.cells #[.int .u32 ((a - b) % 4294967296), .int .i64 (fl (((a - b) % 4294967296) == 0) (((a - b) % 4294967296) / 2147483648 == 1) (decide (a < b)) (ovS a b))] 52)
  obtain ⟨k0, k1⟩ := B8.two
  have f0 := B8.frozen 0
  have f1 := B8.frozen 1
  simp only [res]
  go_wp2_with fail
  go_region
  go_wp2
  refine bodyPost_ret (v := done ((a - b) % 4294967296) (decide (a < b)) (ovS a b)) (by simp [results, Try.results20, go_sem, done, k0, k1, f0, f1]) rfl ⟨rfl, ?_⟩
  repeat (first | exact Below.refl _ _ | refine bl_drew ?_ | refine bl_alloc ?_ _ | refine Below.setCell ?_ (by simp) _ | refine bl_then ?_ hb)
set_option maxHeartbeats 1000000 in
theorem do20 (a b : Int) (w : World) : Calls Try.prog 20 #[.int .i64 20, .int .u32 a, .int .u32 b] w fun e w' => e = .returned (done ((a - b) % 4294967296) (decide (a < b)) (ovS a b)) ∧ Below w.heap.size w w' := by
  have q1 := qfn
  go_enter Try.func20, Try.ntmps20
  go_wp2_with fail
  refine (opn20 _).mono ?_
  rintro e w1 ⟨rfl, rfl⟩
  go_wp2_with fail
  refine (sub_w a b _).mono ?_
  rintro e w2 ⟨rfl, hb⟩
  have B8 : Bk w2 w.heap.size _ _ := (Bk.new w #[.int .i64 0, .int .i64 0] 33).below hb
  replace B8 := B8.alloc (.cells #[.int .u32 ((a - b) % 4294967296), .int .i64 (fl (((a - b) % 4294967296) == 0) (((a - b) % 4294967296) / 2147483648 == 1) (decide (a < b)) (ovS a b))] 52)
  obtain ⟨k0, k1⟩ := B8.two
  have f0 := B8.frozen 0
  have f1 := B8.frozen 1
  simp only [res]
  go_wp2_with fail
  go_region
  go_wp2
  refine bodyPost_ret (v := done ((a - b) % 4294967296) (decide (a < b)) (ovS a b)) (by simp [results, Try.results20, go_sem, done, k0, k1, f0, f1]) rfl ⟨rfl, ?_⟩
  repeat (first | exact Below.refl _ _ | refine bl_drew ?_ | refine bl_alloc ?_ _ | refine Below.setCell ?_ (by simp) _ | refine bl_then ?_ hb)
set_option maxHeartbeats 1000000 in
theorem do12 (a b : Int) (w : World) : Calls Try.prog 20 #[.int .i64 12, .int .u32 a, .int .u32 b] w fun e w' => e = .returned (done (a * b % 4294967296) false false) ∧ Below w.heap.size w w' := by
  have q1 := qfn
  go_enter Try.func20, Try.ntmps20
  go_wp2_with fail
  refine (opn12 _).mono ?_
  rintro e w1 ⟨rfl, rfl⟩
  go_wp2_with fail
  refine (p36 a b _ _ (Bk.new' _ _ (by simp))).mono ?_
  rintro e w2 ⟨rfl, hb⟩
  have B8 : Bk w2 w.heap.size _ _ := ((Bk.new w #[.int .i64 0, .int .i64 0] 33).alloc _).below hb
  replace B8 := B8.alloc (.cells #[.int .u32 (a * b % 4294967296), .int .i64 (fl ((a * b % 4294967296) == 0) ((a * b % 4294967296) / 2147483648 == 1) false false)] 52)
  obtain ⟨k0, k1⟩ := B8.two
  have f0 := B8.frozen 0
  have f1 := B8.frozen 1
  simp only [res]
  go_wp2_with fail
  go_region
  go_wp2
  refine bodyPost_ret (v := done (a * b % 4294967296) false false) (by simp [results, Try.results20, go_sem, done, k0, k1, f0, f1]) rfl ⟨rfl, ?_⟩
  repeat (first | exact Below.refl _ _ | refine bl_drew ?_ | refine bl_alloc ?_ _ | refine Below.setCell ?_ (by simp) _ | refine bl_then ?_ hb)
set_option maxHeartbeats 1000000 in
theorem do13 (a b : Int) (h0 : (b == 0) = false) (w : World) : Calls Try.prog 20 #[.int .i64 13, .int .u32 a, .int .u32 b] w fun e w' => e = .returned (done (a.tdiv b % 4294967296) false false) ∧ Below w.heap.size w w' := by
  have q1 := qfn
  go_enter Try.func20, Try.ntmps20
  go_wp2_with fail
  refine (opn13 _).mono ?_
  rintro e w1 ⟨rfl, rfl⟩
  go_wp2_with fail
  refine (p37 a b h0 _ _ (Bk.new' _ _ (by simp))).mono ?_
  rintro e w2 ⟨rfl, hb⟩
  have B8 : Bk w2 w.heap.size _ _ := ((Bk.new w #[.int .i64 0, .int .i64 0] 33).alloc _).below hb
  replace B8 := B8.alloc (.cells #[.int .u32 (a.tdiv b % 4294967296), .int .i64 (fl ((a.tdiv b % 4294967296) == 0) ((a.tdiv b % 4294967296) / 2147483648 == 1) false false)] 52)
  obtain ⟨k0, k1⟩ := B8.two
  have f0 := B8.frozen 0
  have f1 := B8.frozen 1
  simp only [res]
  go_wp2_with fail
  go_region
  go_wp2
  refine bodyPost_ret (v := done (a.tdiv b % 4294967296) false false) (by simp [results, Try.results20, go_sem, done, k0, k1, f0, f1]) rfl ⟨rfl, ?_⟩
  repeat (first | exact Below.refl _ _ | refine bl_drew ?_ | refine bl_alloc ?_ _ | refine Below.setCell ?_ (by simp) _ | refine bl_then ?_ hb)
set_option maxHeartbeats 1000000 in
theorem do14 (a b : Int) (w : World) : Calls Try.prog 20 #[.int .i64 14, .int .u32 a, .int .u32 b] w fun e w' => e = .returned (done (bits BinOp.and .u32 a b) false false) ∧ Below w.heap.size w w' := by
  have q1 := qfn
  go_enter Try.func20, Try.ntmps20
  go_wp2_with fail
  refine (opn14 _).mono ?_
  rintro e w1 ⟨rfl, rfl⟩
  go_wp2_with fail
  refine (p38 a b _ _ (Bk.new' _ _ (by simp))).mono ?_
  rintro e w2 ⟨rfl, hb⟩
  have B8 : Bk w2 w.heap.size _ _ := ((Bk.new w #[.int .i64 0, .int .i64 0] 33).alloc _).below hb
  replace B8 := B8.alloc (.cells #[.int .u32 (bits BinOp.and .u32 a b), .int .i64 (fl ((bits BinOp.and .u32 a b) == 0) ((bits BinOp.and .u32 a b) / 2147483648 == 1) false false)] 52)
  obtain ⟨k0, k1⟩ := B8.two
  have f0 := B8.frozen 0
  have f1 := B8.frozen 1
  simp only [res]
  go_wp2_with fail
  go_region
  go_wp2
  refine bodyPost_ret (v := done (bits BinOp.and .u32 a b) false false) (by simp [results, Try.results20, go_sem, done, k0, k1, f0, f1]) rfl ⟨rfl, ?_⟩
  repeat (first | exact Below.refl _ _ | refine bl_drew ?_ | refine bl_alloc ?_ _ | refine Below.setCell ?_ (by simp) _ | refine bl_then ?_ hb)
set_option maxHeartbeats 1000000 in
theorem do15 (a b : Int) (w : World) : Calls Try.prog 20 #[.int .i64 15, .int .u32 a, .int .u32 b] w fun e w' => e = .returned (done (bits BinOp.or .u32 a b) false false) ∧ Below w.heap.size w w' := by
  have q1 := qfn
  go_enter Try.func20, Try.ntmps20
  go_wp2_with fail
  refine (opn15 _).mono ?_
  rintro e w1 ⟨rfl, rfl⟩
  go_wp2_with fail
  refine (p39 a b _ _ (Bk.new' _ _ (by simp))).mono ?_
  rintro e w2 ⟨rfl, hb⟩
  have B8 : Bk w2 w.heap.size _ _ := ((Bk.new w #[.int .i64 0, .int .i64 0] 33).alloc _).below hb
  replace B8 := B8.alloc (.cells #[.int .u32 (bits BinOp.or .u32 a b), .int .i64 (fl ((bits BinOp.or .u32 a b) == 0) ((bits BinOp.or .u32 a b) / 2147483648 == 1) false false)] 52)
  obtain ⟨k0, k1⟩ := B8.two
  have f0 := B8.frozen 0
  have f1 := B8.frozen 1
  simp only [res]
  go_wp2_with fail
  go_region
  go_wp2
  refine bodyPost_ret (v := done (bits BinOp.or .u32 a b) false false) (by simp [results, Try.results20, go_sem, done, k0, k1, f0, f1]) rfl ⟨rfl, ?_⟩
  repeat (first | exact Below.refl _ _ | refine bl_drew ?_ | refine bl_alloc ?_ _ | refine Below.setCell ?_ (by simp) _ | refine bl_then ?_ hb)
set_option maxHeartbeats 1000000 in
theorem do16 (a b : Int) (w : World) : Calls Try.prog 20 #[.int .i64 16, .int .u32 a, .int .u32 b] w fun e w' => e = .returned (done (bits BinOp.xor .u32 a b) false false) ∧ Below w.heap.size w w' := by
  have q1 := qfn
  go_enter Try.func20, Try.ntmps20
  go_wp2_with fail
  refine (opn16 _).mono ?_
  rintro e w1 ⟨rfl, rfl⟩
  go_wp2_with fail
  refine (p40 a b _ _ (Bk.new' _ _ (by simp))).mono ?_
  rintro e w2 ⟨rfl, hb⟩
  have B8 : Bk w2 w.heap.size _ _ := ((Bk.new w #[.int .i64 0, .int .i64 0] 33).alloc _).below hb
  replace B8 := B8.alloc (.cells #[.int .u32 (bits BinOp.xor .u32 a b), .int .i64 (fl ((bits BinOp.xor .u32 a b) == 0) ((bits BinOp.xor .u32 a b) / 2147483648 == 1) false false)] 52)
  obtain ⟨k0, k1⟩ := B8.two
  have f0 := B8.frozen 0
  have f1 := B8.frozen 1
  simp only [res]
  go_wp2_with fail
  go_region
  go_wp2
  refine bodyPost_ret (v := done (bits BinOp.xor .u32 a b) false false) (by simp [results, Try.results20, go_sem, done, k0, k1, f0, f1]) rfl ⟨rfl, ?_⟩
  repeat (first | exact Below.refl _ _ | refine bl_drew ?_ | refine bl_alloc ?_ _ | refine Below.setCell ?_ (by simp) _ | refine bl_then ?_ hb)
set_option maxHeartbeats 1000000 in
theorem do17 (a b : Int) (h0 : 0 ≤ b) (h1 : b < 4294967296) (w : World) : Calls Try.prog 20 #[.int .i64 17, .int .u32 a, .int .u32 b] w fun e w' => e = .returned (done (a * 2 ^ (b % 32).toNat % 4294967296) false false) ∧ Below w.heap.size w w' := by
  have q1 := qfn
  go_enter Try.func20, Try.ntmps20
  go_wp2_with fail
  refine (opn17 _).mono ?_
  rintro e w1 ⟨rfl, rfl⟩
  go_wp2_with fail
  refine (p41 a b h0 h1 _ _ (Bk.new' _ _ (by simp))).mono ?_
  rintro e w2 ⟨rfl, hb⟩
  have B8 : Bk w2 w.heap.size _ _ := ((Bk.new w #[.int .i64 0, .int .i64 0] 33).alloc _).below hb
  replace B8 := B8.alloc (.cells #[.int .u32 (a * 2 ^ (b % 32).toNat % 4294967296), .int .i64 (fl ((a * 2 ^ (b % 32).toNat % 4294967296) == 0) ((a * 2 ^ (b % 32).toNat % 4294967296) / 2147483648 == 1) false false)] 52)
  obtain ⟨k0, k1⟩ := B8.two
  have f0 := B8.frozen 0
  have f1 := B8.frozen 1
  simp only [res]
  go_wp2_with fail
  go_region
  go_wp2
  refine bodyPost_ret (v := done (a * 2 ^ (b % 32).toNat % 4294967296) false false) (by simp [results, Try.results20, go_sem, done, k0, k1, f0, f1]) rfl ⟨rfl, ?_⟩
  repeat (first | exact Below.refl _ _ | refine bl_drew ?_ | refine bl_alloc ?_ _ | refine Below.setCell ?_ (by simp) _ | refine bl_then ?_ hb)
set_option maxHeartbeats 1000000 in
theorem do18 (a b : Int) (h0 : 0 ≤ b) (h1 : b < 4294967296) (w : World) : Calls Try.prog 20 #[.int .i64 18, .int .u32 a, .int .u32 b] w fun e w' => e = .returned (done (a / 2 ^ (b % 32).toNat) false false) ∧ Below w.heap.size w w' := by
  have q1 := qfn
  go_enter Try.func20, Try.ntmps20
  go_wp2_with fail
  refine (opn18 _).mono ?_
  rintro e w1 ⟨rfl, rfl⟩
  go_wp2_with fail
  refine (p42 a b h0 h1 _ _ (Bk.new' _ _ (by simp))).mono ?_
  rintro e w2 ⟨rfl, hb⟩
  have B8 : Bk w2 w.heap.size _ _ := ((Bk.new w #[.int .i64 0, .int .i64 0] 33).alloc _).below hb
  replace B8 := B8.alloc (.cells #[.int .u32 (a / 2 ^ (b % 32).toNat), .int .i64 (fl ((a / 2 ^ (b % 32).toNat) == 0) ((a / 2 ^ (b % 32).toNat) / 2147483648 == 1) false false)] 52)
  obtain ⟨k0, k1⟩ := B8.two
  have f0 := B8.frozen 0
  have f1 := B8.frozen 1
  simp only [res]
  go_wp2_with fail
  go_region
  go_wp2
  refine bodyPost_ret (v := done (a / 2 ^ (b % 32).toNat) false false) (by simp [results, Try.results20, go_sem, done, k0, k1, f0, f1]) rfl ⟨rfl, ?_⟩
  repeat (first | exact Below.refl _ _ | refine bl_drew ?_ | refine bl_alloc ?_ _ | refine Below.setCell ?_ (by simp) _ | refine bl_then ?_ hb)
theorem do_zero (a : Int) (w : World) : Calls Try.prog 20 #[.int .i64 13, .int .u32 a, .int .u32 0] w fun e w' => e = .returned (.tuple #[.int .u32 0, .int .i64 0, .agg #[.int .i64 3, .int .i64 (-2)]]) ∧ Below w.heap.size w w' := by
  have q1 := qfn
  go_enter Try.func20, Try.ntmps20
  go_wp2_with fail
  refine (opn13 _).mono ?_
  rintro e w1 ⟨rfl, rfl⟩
  go_wp2
  refine bodyPost_ret (v := .tuple #[.int .u32 0, .int .i64 0, .agg #[.int .i64 3, .int .i64 (-2)]]) (by simp [results, Try.results20, go_sem]) rfl ⟨rfl, ?_⟩
  repeat (first | exact Below.refl _ _ | refine bl_drew ?_ | refine bl_alloc ?_ _ | refine Below.setCell ?_ (by simp) _)
theorem do_no (f a b : Int) (h9 : (f == 9) = false) (h10 : (f == 10) = false) (h11 : (f == 11) = false) (h19 : (f == 19) = false) (h20 : (f == 20) = false) (h12 : (f == 12) = false) (h13 : (f == 13) = false) (h14 : (f == 14) = false) (h15 : (f == 15) = false) (h16 : (f == 16) = false) (h17 : (f == 17) = false) (h18 : (f == 18) = false) (w : World) : Calls Try.prog 20 #[.int .i64 f, .int .u32 a, .int .u32 b] w fun e w' => e = .returned (.tuple #[.int .u32 0, .int .i64 0, .agg #[.int .i64 4, .int .i64 (-1)]]) ∧ Below w.heap.size w w' := by
  have q1 := qnn
  go_enter Try.func20, Try.ntmps20
  go_wp2_with fail
  refine (opn_no f h9 h10 h11 h19 h20 h12 h13 h14 h15 h16 h17 h18 _).mono ?_
  rintro e w1 ⟨rfl, rfl⟩
  go_wp2
  refine bodyPost_ret (v := .tuple #[.int .u32 0, .int .i64 0, .agg #[.int .i64 4, .int .i64 (-1)]]) (by simp [results, Try.results20, go_sem]) rfl ⟨rfl, ?_⟩
  repeat (first | exact Below.refl _ _ | refine bl_drew ?_ | refine bl_alloc ?_ _ | refine Below.setCell ?_ (by simp) _)
end Go.Proofs.Ytdbeeblicpdphaa
