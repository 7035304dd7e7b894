/- The example of the memory laws. No condition. -/
import Derived.Test.YtbbhkjljiljadaaM28
import Derived.Deep.RegionHeld3
import Derived.Deep.DrawnRows
namespace Go.Proofs.Ytbbhkjljiljadaa
open Go.RowKit
set_option linter.unusedVariables false
set_option linter.unusedSimpArgs false
attribute [local go_sem ↓] Go.wp_at_zero Go.wp_at_succ
def P1 : List Pg := newP 512 3 1
theorem P1_len : P1.length = 1 := newP_len _ _ _
theorem page_any (w : World) : Calls Try.prog 46 #[] w (RmPost P1 w) := by
  have hmk := mk256
  go_enter Try.func46, Try.ntmps46
  go_wp2
  go_ret
  have hB0 : Bk ((w.alloc (.cells zb 5)).alloc (.cells #[.int .i64 512, .int .i64 3, .slice (some ⟨w.heap.size, 0, none⟩) 256 256] 68)) w.heap.size zb 5 := (Bk.new w zb 5).alloc _
  have hB1 : Bk ((w.alloc (.cells zb 5)).alloc (.cells #[.int .i64 512, .int .i64 3, .slice (some ⟨w.heap.size, 0, none⟩) 256 256] 68)) (w.heap.size + 1) #[.int .i64 512, .int .i64 3, .slice (some ⟨w.heap.size, 0, none⟩) 256 256] 68 := Bk.new' _ _ (by simp)
  have hrow := newRow_ok (W := (w.alloc (.cells zb 5)).alloc (.cells #[.int .i64 512, .int .i64 3, .slice (some ⟨w.heap.size, 0, none⟩) 256 256] 68)) (a := 512) (r := 3) (fun k hk => by unfold I64; omega) (by unfold I64; omega) (fun _ => w.heap.size) (fun _ => True) 1 (by omega) (fun j hj => ⟨hB0, trivial⟩)
  have hl : (newP 512 3 1).length = 1 := newP_len _ _ _
  have := hrow.rd (g := w.heap.size + 1) (c := 1) (by rw [hl]; omega) (by rw [hl]; omega) (fun j u hj => by
    rw [hB1.cell]
    have e : rowN 512 3 (fun _ => w.heap.size) 1 = [.int .i64 512, .int .i64 3, .slice (some ⟨w.heap.size, 0, none⟩) 256 256] := by simp [rowN]
    rw [e] at hj
    rw [← hj, ← List.getElem?_toArray])
  rw [hl] at this
  refine ⟨_, rfl, this, ?_⟩
  repeat (first | exact Below.refl _ _ | assumption | refine bl_drew ?_ | refine bl_drewN ?_ _ | refine bl_alloc ?_ _ | refine Below.setCell ?_ (by first | exact Nat.le_refl _ | exact bl_size (by assumption) | omega | simp) _)
theorem P1_vf : vf P1 = (0, 0) := by decide +kernel
theorem P1_ok : Ok P1 := Ok.of P1_vf
theorem P1_byt : Byt P1 := by
  intro i hi x hx
  have : ∀ p ∈ P1, ∀ x ∈ p.d, 0 ≤ x ∧ x ≤ 255 := by decide +kernel
  exact this _ (List.getElem_mem hi) x hx
theorem e1 : mf [] 512 1 3 = (0, 0) := by decide +kernel
theorem e2 : af P1 515 (([7, 8] : List Int).length : Int) 2 = (0, 0) := by decide +kernel
def P2 : List Pg := putn P1 515 [7, 8] 2
theorem e3 : af P2 514 3 1 = (0, 0) := by decide +kernel
theorem e3b : byte P2 514 = 0 ∧ byte P2 515 = 7 ∧ byte P2 516 = 8 := by decide +kernel
theorem e4 : pf P1 512 1 1 = (0, 0) := by decide +kernel
def P4 : List Pg := prot P1 512 1 1
theorem P4_vf : vf P4 = (0, 0) := by decide +kernel
theorem e5 : af P4 512 (([1] : List Int).length : Int) 2 = (18, 0) := by decide +kernel
theorem e6 : uf P1 512 1 = (0, 0) := by decide +kernel
theorem P2_ok : Ok P2 := P1_ok.putn _ _ _
theorem P2_byt : Byt P2 := P1_byt.putn _ (by decide) _
theorem P4_byt : Byt P4 := by
  intro i hi x hx
  have : ∀ p ∈ P4, ∀ x ∈ p.d, 0 ≤ x ∧ x ≤ 255 := by decide +kernel
  exact this _ (List.getElem_mem hi) x hx
theorem keep7 {w w1 : World} {b1 b2 b3 b4 b5 b6 : Nat} {v1 v2 v3 v4 v5 v6 v7 : Value} (hb : Below w.heap.size w w1)
    (h : w.cell? ⟨b1, 0, none⟩ = some v1 ∧ w.cell? ⟨b2, 0, none⟩ = some v2 ∧ w.cell? ⟨b3, 0, none⟩ = some v3 ∧ w.cell? ⟨b4, 0, none⟩ = some v4 ∧ (w.cell? ⟨b5, 0, none⟩ = some v5 ∧ w.cell? ⟨b5, 1, none⟩ = some v6) ∧ w.cell? ⟨b6, 0, none⟩ = some v7) :
    w1.cell? ⟨b1, 0, none⟩ = some v1 ∧ w1.cell? ⟨b2, 0, none⟩ = some v2 ∧ w1.cell? ⟨b3, 0, none⟩ = some v3 ∧ w1.cell? ⟨b4, 0, none⟩ = some v4 ∧ (w1.cell? ⟨b5, 0, none⟩ = some v5 ∧ w1.cell? ⟨b5, 1, none⟩ = some v6) ∧ w1.cell? ⟨b6, 0, none⟩ = some v7 :=
  ⟨bl_cell hb h.1, bl_cell hb h.2.1, bl_cell hb h.2.2.1, bl_cell hb h.2.2.2.1, ⟨bl_cell hb h.2.2.2.2.1.1, bl_cell hb h.2.2.2.2.1.2⟩, bl_cell hb h.2.2.2.2.2⟩
theorem RdB.of2 {W : World} {g : Nat} {x y : Int} (hx : 0 ≤ x ∧ x ≤ 255) (hy : 0 ≤ y ∧ y ≤ 255) (h : Bk W g #[.int .u8 x, .int .u8 y] 5) : RdB W (some ⟨g, 0, none⟩) 2 [x, y] :=
  ⟨rfl, by omega, by intro z hz; simp at hz; omega, fun _ => ⟨g, 0, rfl, fun j hj => by
    rw [Nat.zero_add, h.cell]
    have : j = 0 ∨ j = 1 := by omega
    rcases this with rfl | rfl <;> rfl⟩⟩
theorem RdB.of1 {W : World} {g : Nat} {x : Int} (hx : 0 ≤ x ∧ x ≤ 255) (h : Bk W g #[.int .u8 x] 5) : RdB W (some ⟨g, 0, none⟩) 1 [x] :=
  ⟨rfl, by omega, by intro z hz; simp at hz; omega, fun _ => ⟨g, 0, rfl, fun j hj => by
    rw [Nat.zero_add, h.cell]
    obtain rfl : j = 0 := by omega
    rfl⟩⟩
theorem RdB.of3 {W : World} {g : Nat} {x y t : Int} (hx : 0 ≤ x ∧ x ≤ 255) (hy : 0 ≤ y ∧ y ≤ 255) (ht : 0 ≤ t ∧ t ≤ 255) (h : Bk W g #[.int .u8 x, .int .u8 y, .int .u8 t] 5) : RdB W (some ⟨g, 0, none⟩) 3 [x, y, t] :=
  ⟨rfl, by omega, by intro z hz; simp at hz; omega, fun _ => ⟨g, 0, rfl, fun j hj => by
    rw [Nat.zero_add, h.cell]
    have : j = 0 ∨ j = 1 ∨ j = 2 := by omega
    rcases this with rfl | rfl | rfl <;> rfl⟩⟩
/-- A row of bytes of its own reads as them. -/
theorem RdB.own {W : World} {base : Nat} {v : Value} {n : Nat} {zs : List Int} (h : W.ownsRow base 5 1 v n (zs.map (Value.int .u8))) (hz : ∀ x ∈ zs, 0 ≤ x ∧ x ≤ 255) (hn : n ≤ 1000000) : ∃ A c, v = .slice A n c ∧ RdB W A n zs := by
  obtain ⟨hl, ⟨h0, h1⟩ | ⟨g, cap, cur, e1, e2, e3, e4, e5, e6, e7⟩⟩ := h
  · subst h1
    rw [List.length_map] at hl
    exact ⟨none, 0, h0, by omega, by omega, hz, fun h => absurd h (by omega)⟩
  · rw [List.length_map] at hl
    refine ⟨_, cap, e1, by omega, by omega, hz, fun _ => ⟨g, 0, rfl, fun j hj => ?_⟩⟩
    have hB : Bk W g cur 5 := e3
    rw [Nat.zero_add, hB.cell]
    have : (zs.map (Value.int .u8))[j]? = some (.int .u8 (zs.getD j 0)) := by
      rw [List.getElem?_map, List.getElem?_eq_getElem (by omega), List.getD_eq_getElem?_getD, List.getElem?_eq_getElem (by omega)]; rfl
    rw [← this, ← e7, List.getElem?_take_of_lt (by omega), Array.getElem?_toList]
end Go.Proofs.Ytbbhkjljiljadaa
