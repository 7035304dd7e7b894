/- What lanesExample of the statements computes: true. No condition. -/
import Derived.Test.YtdbeeblicpdphaaL1
import Derived.Test.YtdbeeblicpdphaaL2
import Derived.Test.YtdbeeblicpdphaaL3
namespace Go.Proofs.Ytdbeeblicpdphaa
open Go.RowKit
/-- Sixteen bytes in a row of the call's own, one cell each. -/
theorem row16 {w : World} {base : Nat} {v : Value} {x0 x1 x2 x3 x4 x5 x6 x7 x8 x9 x10 x11 x12 x13 x14 x15 : Value} (h : w.ownsRow base 5 1 v 16 [x0, x1, x2, x3, x4, x5, x6, x7, x8, x9, x10, x11, x12, x13, x14, x15]) :
    ∃ g cap, v = .slice (some ⟨g, 0, none⟩) 16 cap ∧ base ≤ g ∧ g < w.heap.size ∧ w.cell? ⟨g, 0, none⟩ = some x0 ∧ w.cell? ⟨g, 0 + 1, none⟩ = some x1 ∧ w.cell? ⟨g, 0 + 2, none⟩ = some x2 ∧ w.cell? ⟨g, 0 + 3, none⟩ = some x3 ∧
      w.cell? ⟨g, 0 + 4, none⟩ = some x4 ∧ w.cell? ⟨g, 0 + 5, none⟩ = some x5 ∧ w.cell? ⟨g, 0 + 6, none⟩ = some x6 ∧ w.cell? ⟨g, 0 + 7, none⟩ = some x7 ∧
      w.cell? ⟨g, 0 + 8, none⟩ = some x8 ∧ w.cell? ⟨g, 0 + 9, none⟩ = some x9 ∧ w.cell? ⟨g, 0 + 10, none⟩ = some x10 ∧ w.cell? ⟨g, 0 + 11, none⟩ = some x11 ∧
      w.cell? ⟨g, 0 + 12, none⟩ = some x12 ∧ w.cell? ⟨g, 0 + 13, none⟩ = some x13 ∧ w.cell? ⟨g, 0 + 14, none⟩ = some x14 ∧ w.cell? ⟨g, 0 + 15, none⟩ = some x15 := by
  obtain ⟨g, cap, rfl, hb, hlt⟩ : ∃ g cap, v = .slice (some ⟨g, 0, none⟩) 16 cap ∧ base ≤ g ∧ g < w.heap.size := by
    rcases h.2 with ⟨_, h0⟩ | ⟨g, cap, cur, hv, hg, hh, _⟩
    · omega
    · exact ⟨g, cap, hv, hg, (Array.getElem?_eq_some_iff.1 hh).1⟩
  have hc := h.cells (g := g) rfl
  have ha : ∀ j, (⟨g, 0, none⟩ : Addr).add j = ⟨g, 0 + j, none⟩ := fun j => by unfold Addr.add; split <;> simp_all
  simp only [ha] at hc
  exact ⟨g, cap, rfl, hb, hlt, hc 0 _ rfl, hc 1 _ rfl, hc 2 _ rfl, hc 3 _ rfl, hc 4 _ rfl, hc 5 _ rfl, hc 6 _ rfl, hc 7 _ rfl, hc 8 _ rfl, hc 9 _ rfl, hc 10 _ rfl, hc 11 _ rfl, hc 12 _ rfl, hc 13 _ rfl, hc 14 _ rfl, hc 15 _ rfl⟩
set_option maxHeartbeats 4000000 in
theorem lanesExample_any (w : World) : Calls Try.prog 11 #[] w fun e w' => e = .returned (.bool true) ∧ Below w.heap.size w w' := by
  go_enter Try.func11, Try.ntmps11
  go_wp2_with fail
  refine (bytes_any 1 2 3 4 _).mono ?_
  rintro e w1 ⟨v, rfl, ho, hb1⟩
  obtain ⟨g, cap, rfl, hg, hg2, c0, c1, c2, c3, c4, c5, c6, c7, c8, c9, c10, c11, c12, c13, c14, c15⟩ := row16 ho
  go_wp2_with fail
  refine (of_16 g 0 cap _ _ _ _ _ _ _ _ _ _ _ _ _ _ _ _ w1 hg2 c0 c1 c2 c3 c4 c5 c6 c7 c8 c9 c10 c11 c12 c13 c14 c15).mono ?_
  rintro e w2 ⟨rfl, hb2⟩
  have e1 : wd (1 % 256) (1 / 256 % 256) (1 / 65536 % 256) (1 / 16777216 % 256) = 1 := by decide
  have e2 : wd (2 % 256) (2 / 256 % 256) (2 / 65536 % 256) (2 / 16777216 % 256) = 2 := by decide
  have e3 : wd (3 % 256) (3 / 256 % 256) (3 / 65536 % 256) (3 / 16777216 % 256) = 3 := by decide
  have e4 : wd (4 % 256) (4 / 256 % 256) (4 / 65536 % 256) (4 / 16777216 % 256) = 4 := by decide
  rw [e1, e2, e3, e4]
  clear e1 e2 e3 e4 c0 c1 c2 c3 c4 c5 c6 c7 c8 c9 c10 c11 c12 c13 c14 c15 ho
  have qe := arr_eq
  go_wp2_with fail
  refine (sum_any 1 2 3 4 _).mono ?_
  rintro e w3 ⟨rfl, hb3⟩
  go_wp2_with fail
  refine (set_any 5 _).mono ?_
  rintro e w4 ⟨rfl, hb4⟩
  have B4 : Bk w4 w2.heap.size #[.int .u32 1, .int .u32 2, .int .u32 3, .int .u32 4] 23 := (((Bk.new w2 _ _).alloc _).below hb3).below hb4
  obtain ⟨k0, k1, k2, k3⟩ := B4.four
  go_wp2_with fail
  refine (add_any 1 2 3 4 1 2 3 4 _).mono ?_
  rintro e w5 ⟨rfl, hb5⟩
  have B5 := B4.below hb5
  clear k0 k1 k2 k3
  obtain ⟨k0, k1, k2, k3⟩ := B5.four
  go_wp2_with fail
  refine (mul_any 1 2 3 4 1 2 3 4 _).mono ?_
  rintro e w6 ⟨rfl, hb6⟩
  clear k0 k1 k2 k3
  go_wp2
  go_ret
  refine ⟨rfl, ?_⟩
  refine bl_then (bl_then (bl_then (bl_then (bl_then hb1 hb2) ?_) hb4) hb5) hb6
  refine bl_then ?_ hb3
  exact bl_alloc (bl_alloc (Below.refl _ _) _) _
end Go.Proofs.Ytdbeeblicpdphaa
