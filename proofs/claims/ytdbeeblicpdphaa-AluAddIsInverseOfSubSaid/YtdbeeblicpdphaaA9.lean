/- AluAddIsInverseOfSub: adding a word and subtracting it again yields the first word; multiplication distributes over addition. Conditions: the words are words. -/
import Derived.Test.YtdbeeblicpdphaaA7
namespace Go.Proofs.Ytdbeeblicpdphaa
open Go.RowKit
set_option linter.unusedVariables false
set_option linter.unusedSimpArgs false
structure Aside2 (p : Prop) : Prop where mk :: (out : p)
theorem dn_eq2 (a : Int) (c v : Bool) (r : Int) (h : a = r) : ∃ f : Int, done a c v = .tuple #[.int .u32 r, .int .i64 f, .agg #[.int .i64 0, .int .i64 0]] := ⟨_, by rw [h]; rfl⟩
theorem mul_pure (a b c : Int) : ((a + b) % 4294967296 * c) % 4294967296 = (a * c % 4294967296 + b * c % 4294967296) % 4294967296 := by
  rw [Int.mul_emod, Int.emod_emod_of_dvd _ (Int.dvd_refl _), ← Int.mul_emod, Int.add_mul, Int.add_emod]
set_option maxHeartbeats 4000000 in
theorem inverse_walk (a : Int) (wa : (Lit.int .u32 a).wf = true) (b : Int) (wb : (Lit.int .u32 b).wf = true) (c : Int) (wc : (Lit.int .u32 c).wf = true) (w : World) : Calls Try.prog 9 #[.int .u32 a, .int .u32 b, .int .u32 c] w fun e w' => e = .returned (.bool true) ∧ Below w.heap.size w w' := by
  have ha := w_range wa
  have hb := w_range wb
  obtain ⟨s, hs⟩ : ∃ s, Aside2 ((a + b) % 4294967296 = s) := ⟨_, ⟨rfl⟩⟩
  obtain ⟨y, hy⟩ : ∃ y, Aside2 (a * c % 4294967296 = y) := ⟨_, ⟨rfl⟩⟩
  obtain ⟨z, hz⟩ : ∃ z, Aside2 (b * c % 4294967296 = z) := ⟨_, ⟨rfl⟩⟩
  obtain ⟨x, hx⟩ : ∃ x, Aside2 (s * c % 4294967296 = x) := ⟨_, ⟨rfl⟩⟩
  have P1 : Aside2 ((s - b) % 4294967296 = a) := ⟨by rw [← hs.out]; omega⟩
  have P2 : Aside2 ((y + z) % 4294967296 = x) := ⟨by rw [← hx.out, ← hs.out, ← hy.out, ← hz.out]; exact (mul_pure a b c).symm⟩
  clear ha hb
  go_enter Try.func9, Try.ntmps9
  go_wp2_with fail
  refine (aluExample_any _).mono ?_
  rintro e w0 ⟨rfl, hb1⟩
  go_wp2_with fail
  refine (do9 a b _).mono ?_
  rintro e w1 ⟨rfl, hb2⟩
  obtain ⟨f1, e1⟩ := dn_eq2 _ _ _ s hs.out
  rw [e1]
  clear e1
  replace hb1 := bl_alloc (bl_then hb1 hb2) (.cells #[.int .i64 0, .int .i64 0] 33)
  have B1 := Bk.new w1 #[.int .i64 0, .int .i64 0] 33
  clear hb2
  go_wp2_with fail
  refine (do11 s b _).mono ?_
  rintro e w2 ⟨rfl, hb2⟩
  obtain ⟨f2, e2⟩ := dn_eq2 _ _ _ a P1.out
  rw [e2]
  clear e2
  replace hb1 := bl_alloc (bl_then hb1 hb2) (.cells #[.int .i64 0, .int .i64 0] 33)
  replace B1 := (B1.below hb2).alloc (.cells #[.int .i64 0, .int .i64 0] 33)
  have B2 := Bk.new w2 #[.int .i64 0, .int .i64 0] 33
  clear hb2
  go_wp2_with fail
  refine (do12 s c _).mono ?_
  rintro e w3 ⟨rfl, hb2⟩
  obtain ⟨f3, e3⟩ := dn_eq2 _ _ _ x hx.out
  rw [e3]
  clear e3
  replace hb1 := bl_alloc (bl_then hb1 hb2) (.cells #[.int .i64 0, .int .i64 0] 33)
  replace B1 := (B1.below hb2).alloc (.cells #[.int .i64 0, .int .i64 0] 33)
  replace B2 := (B2.below hb2).alloc (.cells #[.int .i64 0, .int .i64 0] 33)
  have B3 := Bk.new w3 #[.int .i64 0, .int .i64 0] 33
  clear hb2
  go_wp2_with fail
  refine (do12 a c _).mono ?_
  rintro e w4 ⟨rfl, hb2⟩
  obtain ⟨f4, e4⟩ := dn_eq2 _ _ _ y hy.out
  rw [e4]
  clear e4
  replace hb1 := bl_alloc (bl_then hb1 hb2) (.cells #[.int .i64 0, .int .i64 0] 33)
  replace B1 := (B1.below hb2).alloc (.cells #[.int .i64 0, .int .i64 0] 33)
  replace B2 := (B2.below hb2).alloc (.cells #[.int .i64 0, .int .i64 0] 33)
  replace B3 := (B3.below hb2).alloc (.cells #[.int .i64 0, .int .i64 0] 33)
  have B4 := Bk.new w4 #[.int .i64 0, .int .i64 0] 33
  clear hb2
  go_wp2_with fail
  refine (do12 b c _).mono ?_
  rintro e w5 ⟨rfl, hb2⟩
  obtain ⟨f5, e5⟩ := dn_eq2 _ _ _ z hz.out
  rw [e5]
  clear e5
  replace hb1 := bl_alloc (bl_then hb1 hb2) (.cells #[.int .i64 0, .int .i64 0] 33)
  replace B1 := (B1.below hb2).alloc (.cells #[.int .i64 0, .int .i64 0] 33)
  replace B2 := (B2.below hb2).alloc (.cells #[.int .i64 0, .int .i64 0] 33)
  replace B3 := (B3.below hb2).alloc (.cells #[.int .i64 0, .int .i64 0] 33)
  replace B4 := (B4.below hb2).alloc (.cells #[.int .i64 0, .int .i64 0] 33)
  have B5 := Bk.new w5 #[.int .i64 0, .int .i64 0] 33
  clear hb2
  go_wp2_with fail
  refine (do9 y z _).mono ?_
  rintro e w6 ⟨rfl, hb2⟩
  obtain ⟨f6, e6⟩ := dn_eq2 _ _ _ x P2.out
  rw [e6]
  clear e6
  replace hb1 := bl_alloc (bl_then hb1 hb2) (.cells #[.int .i64 0, .int .i64 0] 33)
  replace B1 := (B1.below hb2).alloc (.cells #[.int .i64 0, .int .i64 0] 33)
  replace B2 := (B2.below hb2).alloc (.cells #[.int .i64 0, .int .i64 0] 33)
  replace B3 := (B3.below hb2).alloc (.cells #[.int .i64 0, .int .i64 0] 33)
  replace B4 := (B4.below hb2).alloc (.cells #[.int .i64 0, .int .i64 0] 33)
  replace B5 := (B5.below hb2).alloc (.cells #[.int .i64 0, .int .i64 0] 33)
  have B6 := Bk.new w6 #[.int .i64 0, .int .i64 0] 33
  clear hb2
  obtain ⟨k0, l0⟩ := B1.two
  obtain ⟨k1, l1⟩ := B2.two
  obtain ⟨k2, l2⟩ := B3.two
  obtain ⟨k3, l3⟩ := B4.two
  obtain ⟨k4, l4⟩ := B5.two
  obtain ⟨k5, l5⟩ := B6.two
  go_wp2
  go_ret
  exact ⟨rfl, hb1⟩
end Go.Proofs.Ytdbeeblicpdphaa
