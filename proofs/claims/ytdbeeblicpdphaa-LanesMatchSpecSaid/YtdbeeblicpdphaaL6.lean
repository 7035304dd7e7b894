/- LanesMatchSpec: Add, Mul, Sum and Set compute lane by lane. Condition: the words are words. -/
import Derived.Test.YtdbeeblicpdphaaL4
namespace Go.Proofs.Ytdbeeblicpdphaa
open Go.RowKit
set_option linter.unusedVariables false
set_option maxHeartbeats 8000000 in
theorem lanesMatch_walk (a b c d : Int) (_ : W4 a b c d) (a' b' c' d' : Int) (_ : W4 a' b' c' d') (x : Int) (_ : (Lit.int .u32 x).wf = true) (w : World) : Calls Try.prog 3 #[.agg #[.int .u32 a, .int .u32 b, .int .u32 c, .int .u32 d], .agg #[.int .u32 a', .int .u32 b', .int .u32 c', .int .u32 d'], .int .u32 x] w fun e w' => e = .returned (.bool true) ∧ Below w.heap.size w w' := by
  go_enter Try.func3, Try.ntmps3
  go_wp2_with fail
  refine (lanesExample_any _).mono ?_
  rintro e w1 ⟨rfl, hb1⟩
  have B1 := ((Bk.new w #[.int .u32 a, .int .u32 b, .int .u32 c, .int .u32 d] 23).alloc (.cells #[.int .u32 a', .int .u32 b', .int .u32 c', .int .u32 d'] 23)).below hb1
  have B2 : Bk _ (w.heap.size + 1) _ _ := (Bk.new' (W := w.alloc (.cells #[.int .u32 a, .int .u32 b, .int .u32 c, .int .u32 d] 23)) #[.int .u32 a', .int .u32 b', .int .u32 c', .int .u32 d'] 23 (by simp)).below hb1
  have hb1 : Below w.heap.size w w1 := bl_then (bl_alloc (bl_alloc (Below.refl _ _) _) _) hb1
  obtain ⟨k0, k1, k2, k3⟩ := B1.four
  obtain ⟨l0, l1, l2, l3⟩ := B2.four
  go_wp2_with fail
  refine (add_any a b c d a' b' c' d' _).mono ?_
  rintro e w2 ⟨rfl, hb2⟩
  clear k0 k1 k2 k3 l0 l1 l2 l3
  replace B1 := (B1.below hb2).alloc (.cells #[.int .u32 ((a + a') % 4294967296), .int .u32 ((b + b') % 4294967296), .int .u32 ((c + c') % 4294967296), .int .u32 ((d + d') % 4294967296)] 23)
  replace B2 := (B2.below hb2).alloc (.cells #[.int .u32 ((a + a') % 4294967296), .int .u32 ((b + b') % 4294967296), .int .u32 ((c + c') % 4294967296), .int .u32 ((d + d') % 4294967296)] 23)
  have B3 := Bk.new w2 #[.int .u32 ((a + a') % 4294967296), .int .u32 ((b + b') % 4294967296), .int .u32 ((c + c') % 4294967296), .int .u32 ((d + d') % 4294967296)] 23
  replace hb1 := bl_alloc (bl_then hb1 hb2) (.cells #[.int .u32 ((a + a') % 4294967296), .int .u32 ((b + b') % 4294967296), .int .u32 ((c + c') % 4294967296), .int .u32 ((d + d') % 4294967296)] 23)
  clear hb2
  obtain ⟨k0, k1, k2, k3⟩ := B1.four
  obtain ⟨l0, l1, l2, l3⟩ := B2.four
  go_wp2_with fail
  refine (mul_any a b c d a' b' c' d' _).mono ?_
  rintro e w3 ⟨rfl, hb2⟩
  clear k0 k1 k2 k3 l0 l1 l2 l3
  replace B1 := (B1.below hb2).alloc (.cells #[.int .u32 ((a * a') % 4294967296), .int .u32 ((b * b') % 4294967296), .int .u32 ((c * c') % 4294967296), .int .u32 ((d * d') % 4294967296)] 23)
  replace B2 := (B2.below hb2).alloc (.cells #[.int .u32 ((a * a') % 4294967296), .int .u32 ((b * b') % 4294967296), .int .u32 ((c * c') % 4294967296), .int .u32 ((d * d') % 4294967296)] 23)
  replace B3 := (B3.below hb2).alloc (.cells #[.int .u32 ((a * a') % 4294967296), .int .u32 ((b * b') % 4294967296), .int .u32 ((c * c') % 4294967296), .int .u32 ((d * d') % 4294967296)] 23)
  have B4 := Bk.new w3 #[.int .u32 ((a * a') % 4294967296), .int .u32 ((b * b') % 4294967296), .int .u32 ((c * c') % 4294967296), .int .u32 ((d * d') % 4294967296)] 23
  replace hb1 := bl_alloc (bl_then hb1 hb2) (.cells #[.int .u32 ((a * a') % 4294967296), .int .u32 ((b * b') % 4294967296), .int .u32 ((c * c') % 4294967296), .int .u32 ((d * d') % 4294967296)] 23)
  clear hb2
  go_wp2_with fail
  refine (set_any x _).mono ?_
  rintro e w4 ⟨rfl, hb2⟩
  replace B1 := (B1.below hb2).alloc (.cells #[.int .u32 x, .int .u32 x, .int .u32 x, .int .u32 x] 23)
  replace B2 := (B2.below hb2).alloc (.cells #[.int .u32 x, .int .u32 x, .int .u32 x, .int .u32 x] 23)
  replace B3 := (B3.below hb2).alloc (.cells #[.int .u32 x, .int .u32 x, .int .u32 x, .int .u32 x] 23)
  replace B4 := (B4.below hb2).alloc (.cells #[.int .u32 x, .int .u32 x, .int .u32 x, .int .u32 x] 23)
  have B5 := Bk.new w4 #[.int .u32 x, .int .u32 x, .int .u32 x, .int .u32 x] 23
  replace hb1 := bl_alloc (bl_then hb1 hb2) (.cells #[.int .u32 x, .int .u32 x, .int .u32 x, .int .u32 x] 23)
  clear hb2
  obtain ⟨k0, k1, k2, k3⟩ := B1.four
  obtain ⟨l0, l1, l2, l3⟩ := B2.four
  obtain ⟨m0, m1, m2, m3⟩ := B3.four
  obtain ⟨n0, n1, n2, n3⟩ := B4.four
  obtain ⟨o0, o1, o2, o3⟩ := B5.four
  have hw32 := IntKind.wrap_u32
  go_wp2_with fail
  refine wp_loop_rounds 5 ?_
  iterate 4
   (go_wp2_with (rw [rounds_succ])
    go_quiet (fail))
  go_wp2_with (first | fail | rw [rounds_succ])
  refine (sum_any a b c d _).mono ?_
  rintro e w5 ⟨rfl, hb5⟩
  clear k0 k1 k2 k3 l0 l1 l2 l3 m0 m1 m2 m3 n0 n1 n2 n3 o0 o1 o2 o3 hw32
  go_wp2
  go_ret
  exact ⟨rfl, bl_then (bl_drewN hb1 _) hb5⟩
end Go.Proofs.Ytdbeeblicpdphaa
