/- How the arguments of this seat's rows are opened: a vector of four words; a slice of bytes. Conditions: the argument is read as the row reads it. -/
import Derived.Test.YtdbeeblicpdphaaK
import Derived.ProofKit
import Derived.OpenShut
import Derived.Lib.SmallJoins
import Derived.ShutString
import Derived.ChangeOld
import Derived.SizedLaws
namespace Go.Proofs.Ytdbeeblicpdphaa
open Go.ChangeShapes Go.WideShapes Go.ChangeAt Go.RowKit Go.Joins
theorem cells22 : Try.prog.cellsOf 22 = 1 := by kernel_rfl
theorem cells23 : Try.prog.cellsOf 23 = 4 := by kernel_rfl
theorem laidOut : laidOutB Try.prog = true := by kernel_rfl
theorem own : ownKnob Try.prog.godebug = none := by kernel_rfl
theorem open_arr {H : Type} {enc : TypeId × Value → H} {W : World} {base : Nat} {v : Value} {d : DataW H} {p : List MemPlace} (hv : Value.okWide Try.prog W .any base 23 v) (h : DataW.Trod enc Try.prog W 0 (fun _ => true) true 23 v d p) :
    ∃ a b c e : Int, v = .agg #[.int .u32 a, .int .u32 b, .int .u32 c, .int .u32 e] ∧ ((Lit.int .u32 a).wf = true ∧ (Lit.int .u32 b).wf = true ∧ (Lit.int .u32 c).wf = true ∧ (Lit.int .u32 e).wf = true) ∧ (∀ x ∈ p, x.block < W.heap.size) := by
  have hlt : ∀ x ∈ p, x.block < W.heap.size := by obtain ⟨m, hm⟩ := h; exact DataW.trod_lt m _ _ _ hm
  simp only [Value.okWide, Try.underlying23] at hv
  obtain ⟨cs, rfl, h2, _⟩ := hv
  rw [cells23] at h2
  obtain ⟨c0, c1, c2, c3, rfl⟩ := array4 h2
  obtain ⟨fuel, hf⟩ := h
  have hf' : DataW.trod enc Try.prog W 0 (fun _ => true) true fuel 23 [c0, c1, c2, c3] = some (d, p) := hf
  obtain ⟨y0, y1, y2, y3, n, _, h0, h1, h2, h3⟩ := trod_array4 Try.underlying23 cells22 hf'
  obtain ⟨a, e0, _, wa⟩ := DataW.trod_int Try.underlying22 h0
  obtain ⟨b, e1, _, wb⟩ := DataW.trod_int Try.underlying22 h1
  obtain ⟨c, e2, _, wc⟩ := DataW.trod_int Try.underlying22 h2
  obtain ⟨f, e3, _, wf⟩ := DataW.trod_int Try.underlying22 h3
  simp at e0 e1 e2 e3
  subst e0 e1 e2 e3
  exact ⟨a, b, c, f, rfl, ⟨wa, wb, wc, wf⟩, hlt⟩
theorem cells5 : Try.prog.cellsOf 5 = 1 := by kernel_rfl
theorem open_bytes {H : Type} {enc : TypeId × Value → H} {W : World} {base : Nat} {v : Value} {d : DataW H} {p : List MemPlace} (hv : Value.okWide Try.prog W .any base 29 v) (h : DataW.Trod enc Try.prog W 0 (fun _ => true) true 29 v d p) :
    ∃ A n c zs, v = .slice A n c ∧ RdB W A n zs ∧ (∀ x ∈ p, x.block < W.heap.size) := by
  have hlt : ∀ x ∈ p, x.block < W.heap.size := by obtain ⟨m, hm⟩ := h; exact DataW.trod_lt m _ _ _ hm
  obtain ⟨A, n, c, rfl⟩ := okWide_slice Try.underlying29 hv
  obtain ⟨fuel, hf⟩ := h
  refine ⟨A, n, c, ?_⟩
  rcases open_ints Try.underlying29 Try.underlying5 cells5 hf with ⟨hcs, _⟩ | ⟨x, l, c', zs, hcs, _, hl, hm, hz, _, hcell, hwz⟩
  · simp [Value.cells] at hcs
    obtain ⟨rfl, rfl, rfl⟩ := hcs
    exact ⟨[], rfl, ⟨rfl, fun h => absurd h (by omega), by simp⟩, hlt⟩
  · simp [Value.cells] at hcs
    obtain ⟨rfl, rfl, rfl⟩ := hcs
    have hz' : zs.length = c := by simpa using hz
    refine ⟨zs.take n, rfl, ⟨by rw [List.length_take]; omega, fun hn => ?_, fun x hx => ?_⟩, hlt⟩
    · obtain ⟨b, off, rfl, hc⟩ := ints_at hcell (by omega)
      refine ⟨b, off, rfl, World.block_lt_of_cell? W _ (hc 0 (by omega)), fun j hj => ?_⟩
      rw [hc j (by omega)]
      simp [List.getD_eq_getElem?_getD, hj]
    · have h1 := hwz x (List.mem_of_mem_take hx)
      simp only [Lit.wf, Bool.and_eq_true, decide_eq_true_eq] at h1
      exact h1
end Go.Proofs.Ytdbeeblicpdphaa
