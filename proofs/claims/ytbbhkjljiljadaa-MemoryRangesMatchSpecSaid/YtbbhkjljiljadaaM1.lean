/- Words of this seat: a memory that reads as a list of pages; worlds with new blocks; regions that draw their order. No condition. -/
import Derived.Test.YtbbhkjljiljadaaProg
import Derived.WalkKit
import Derived.KernelRfl
import Derived.StillTailTactics
import Derived.Deep.QuietTactic
import Derived.BigQuiet
import Derived.Deep.AppendLies
import Derived.Deep.DeepCutAuto
import Derived.Deep.CutBlock
namespace Go.Proofs.Ytbbhkjljiljadaa
open Go.RowKit
set_option linter.unusedVariables false
set_option linter.unusedSimpArgs false
structure As (p : Prop) : Prop where mk :: (out : p)
theorem st_tail {P : Program} {id : Nat} {Q : Exit → Act → World → Prop} {a : Act} {w : World} {l : List Oper} (n : Nat) (hm : P.follows .mixedOrders = true) (hB : Region.lexTailB .any l.toArray n = true)
    (h : wpStill P l.toArray w.drew (fun a' => wpList P l.toArray Q (l.drop n) a' w.drew) (l.take n) a) : (Code.region id l.toArray true).wp P Q a w := wp_region_still_tail n hm hB h
theorem bl_alloc {w W : World} (h : Below w.heap.size w W) (o : Obj) : Below w.heap.size w (W.alloc o) := h.alloc h.size o
theorem bl_drew {w W : World} (h : Below w.heap.size w W) : Below w.heap.size w W.drew := ⟨h.os, h.tape, h.output, h.size, h.block⟩
theorem bl_drewN {w W : World} (h : Below w.heap.size w W) (n : Nat) : Below w.heap.size w (W.drewN n) := ⟨h.os, h.tape, h.output, h.size, h.block⟩
theorem bl_then {w w1 w2 : World} (h : Below w.heap.size w w1) (k : Below w1.heap.size w1 w2) : Below w.heap.size w w2 := h.trans (k.mono h.size)
theorem bl_size {w W : World} (h : Below w.heap.size w W) : w.heap.size ≤ W.heap.size := h.size
theorem bcell {W w1 : World} (hb : Below W.heap.size W w1) : (∀ b o, b < W.heap.size → w1.cell? ⟨b, o, none⟩ = W.cell? ⟨b, o, none⟩) ∧ (∀ b o, b < W.heap.size → w1.frozen? ⟨b, o, none⟩ = W.frozen? ⟨b, o, none⟩) :=
  ⟨fun b o h => hb.cell (p := ⟨b, o, none⟩) h, fun b o h => hb.frozen (p := ⟨b, o, none⟩) h⟩
theorem bl_cell {w w1 : World} (h : Below w.heap.size w w1) {a : Addr} {v : Value} (hc : w.cell? a = some v) : w1.cell? a = some v := (h.cell (World.block_lt_of_cell? w a hc)).trans hc
/-- A block, kept from the walk's own rules. -/
def Bk (W : World) (g : Nat) (cs : Array Value) (t : TypeId) : Prop := W.heap[g]? = some (.cells cs t (0, 0))
section
variable {W W1 : World} {g : Nat} {cs : Array Value} {t : TypeId}
theorem Bk.lt (h : Bk W g cs t) : g < W.heap.size := (Array.getElem?_eq_some_iff.1 h).1
theorem Bk.below (h : Bk W g cs t) (hb : Below W.heap.size W W1) : Bk W1 g cs t := (hb.block g h.lt).trans h
theorem Bk.alloc (h : Bk W g cs t) (o : Obj) : Bk (W.alloc o) g cs t := (Below.heap_alloc W o g h.lt).trans h
theorem Bk.drew (h : Bk W g cs t) : Bk W.drew g cs t := h
theorem Bk.drewN (h : Bk W g cs t) (n : Nat) : Bk (W.drewN n) g cs t := h
theorem Bk.new (W : World) (cs : Array Value) (t : TypeId) : Bk (W.alloc (.cells cs t)) W.heap.size cs t := heap_alloc_new W _
theorem Bk.new' {W : World} {g : Nat} (cs : Array Value) (t : TypeId) (h : g = W.heap.size) : Bk (W.alloc (.cells cs t)) g cs t := by subst h; exact Bk.new W cs t
theorem Bk.cell (h : Bk W g cs t) (j : Nat) : W.cell? ⟨g, j, none⟩ = cs[j]? := by simp [World.cell?, show W.heap[g]? = some (.cells cs t (0, 0)) from h]
theorem Bk.frozen (h : Bk W g cs t) (j : Nat) : W.frozen? ⟨g, j, none⟩ = false := by simp [World.frozen?, show W.heap[g]? = some (.cells cs t (0, 0)) from h]
theorem Bk.one {c0 : Value} (h : Bk W g #[c0] t) : W.cell? ⟨g, 0, none⟩ = some c0 := h.cell 0
theorem Bk.two {c0 c1 : Value} (h : Bk W g #[c0, c1] t) : W.cell? ⟨g, 0, none⟩ = some c0 ∧ W.cell? ⟨g, 1, none⟩ = some c1 := ⟨h.cell 0, h.cell 1⟩
theorem Bk.three {c0 c1 c2 : Value} (h : Bk W g #[c0, c1, c2] t) : W.cell? ⟨g, 0, none⟩ = some c0 ∧ W.cell? ⟨g, 1, none⟩ = some c1 ∧ W.cell? ⟨g, 2, none⟩ = some c2 := ⟨h.cell 0, h.cell 1, h.cell 2⟩
theorem Bk.set (h : Bk W g cs t) (j : Nat) (v : Value) : Bk (W.setCell ⟨g, j, none⟩ v) g (cs.setIfInBounds j v) t := by
  have h' : W.heap[g]? = some (.cells cs t (0, 0)) := h
  show (W.setCell ⟨g, j, none⟩ v).heap[g]? = _
  simp [World.setCell, Array.getElem?_modify, h']
theorem Bk.other (h : Bk W g cs t) {a : Addr} (ha : a.block ≠ g) (v : Value) : Bk (W.setCell a v) g cs t := (Below.heap_setCell W a v g (Ne.symm ha)).trans h
end
section
variable {P : Program} {ops : Array Oper} {C : World → Prop} {Q : Act → Prop} {a : Act} {o : Oper} {rest : List Oper} {v : Value}
theorem q_val (hw : Region.wanted o (yielded ops a.tmps) = true) (h : ∀ W, C W → (execOp a.eval o).run P W = .ok (.value v) W) (k : wpQuiet P ops C Q rest (a.put o.dst v)) : wpQuiet P ops C Q (o :: rest) a := by
  unfold wpQuiet; rw [if_pos hw]
  exact ⟨v, fun W hW => by simp [Oper.quietAt, Oper.quietUpon, h W hW], k⟩
theorem q_call {f : FuncId} {args : Array Value} (hw : Region.wanted o (yielded ops a.tmps) = true) (h : ∀ W, C W → (execOp a.eval o).run P W = .ok (.enter f args) W) (hc : ∀ W, C W → Calls P f args W (fun e W2 => e = .returned v ∧ C W2)) (k : wpQuiet P ops C Q rest (a.put o.dst v)) : wpQuiet P ops C Q (o :: rest) a := by
  unfold wpQuiet; rw [if_pos hw]
  exact ⟨v, fun W hW => by simpa [Oper.quietAt, Oper.quietUpon, h W hW] using hc W hW, k⟩
theorem q_not (hw : Region.wanted o (yielded ops a.tmps) = false) (k : wpQuiet P ops C Q rest (a.put o.dst undef)) : wpQuiet P ops C Q (o :: rest) a := by
  unfold wpQuiet; rw [if_neg (by rw [hw]; decide)]; exact k
end
/-- Worlds that are w with new blocks. -/
def Cb (w W : World) : Prop := Below w.heap.size w W
theorem Cb.of {P : Program} {f : FuncId} {args : Array Value} {w W : World} {v : Value} (hW : Cb w W) (h : Calls P f args W (fun e W2 => e = .returned v ∧ Below W.heap.size W W2)) : Calls P f args W (fun e W2 => e = .returned v ∧ Cb w W2) :=
  h.mono fun _ _ ⟨he, hb⟩ => ⟨he, bl_then hW hb⟩
theorem quiet_in {P : Program} {id : Nat} {Q : Exit → Act → World → Prop} {a : Act} {w : World} {l : List Oper} (hm : P.follows .mixedOrders = true) (hB : Region.lexB .any l.toArray = true)
    (h : wpQuiet P l.toArray (Cb w) (fun a' => ∀ w', Cb w w' → Q .normal a' w') l a) : (Code.region id l.toArray true).wp P Q a w :=
  wp_region_quiet (C := Cb w) hm hB (bl_drew (Below.refl _ w)) (by simpa using h)
/-- A page: its address, its rights, its bytes. -/
structure Pg where
  a : Int
  r : Int
  d : List Int
def I64 (n : Int) : Prop := -9223372036854775808 ≤ n ∧ n ≤ 9223372036854775807
/-- A slice that reads as these bytes. -/
def RdB (W : World) (A : Option Addr) (n : Nat) (zs : List Int) : Prop :=
  zs.length = n ∧ n ≤ 140737488351232 ∧ (∀ x ∈ zs, 0 ≤ x ∧ x ≤ 255) ∧ (0 < n → ∃ b off, A = some ⟨b, off, none⟩ ∧ ∀ j, j < n → W.cell? ⟨b, off + j, none⟩ = some (.int .u8 (zs.getD j 0)))
/-- Three cells that read as a page. -/
def RdP (W : World) (b off : Nat) (p : Pg) : Prop :=
  I64 p.a ∧ I64 p.r ∧ W.cell? ⟨b, off, none⟩ = some (.int .i64 p.a) ∧ W.cell? ⟨b, off + 1, none⟩ = some (.int .i64 p.r) ∧ ∃ D c, W.cell? ⟨b, off + 2, none⟩ = some (.slice D p.d.length c) ∧ p.d.length ≤ c ∧ RdB W D p.d.length p.d
/-- A slice that reads as these pages. -/
def RdM (W : World) (v : Value) (l : List Pg) : Prop :=
  ∃ A c, v = .slice A l.length c ∧ l.length ≤ c ∧ l.length * 40 ≤ 140737488351232 ∧ (0 < l.length → ∃ b off, A = some ⟨b, off, none⟩ ∧ ∀ i (h : i < l.length), RdP W b (off + i * 3) l[i])
theorem RdB.below {w w1 : World} {A : Option Addr} {n : Nat} {zs : List Int} (h : RdB w A n zs) (hb : Below w.heap.size w w1) : RdB w1 A n zs := by
  obtain ⟨h1, h2, h3, h4⟩ := h
  refine ⟨h1, h2, h3, fun hn => ?_⟩
  obtain ⟨b, off, e, hc⟩ := h4 hn
  exact ⟨b, off, e, fun j hj => bl_cell hb (hc j hj)⟩
theorem RdP.below {w w1 : World} {b off : Nat} {p : Pg} (h : RdP w b off p) (hb : Below w.heap.size w w1) : RdP w1 b off p := by
  obtain ⟨h1, h2, h3, h4, D, c, h5, h6, h7⟩ := h
  exact ⟨h1, h2, bl_cell hb h3, bl_cell hb h4, D, c, bl_cell hb h5, h6, h7.below hb⟩
theorem RdM.below {w w1 : World} {v : Value} {l : List Pg} (h : RdM w v l) (hb : Below w.heap.size w w1) : RdM w1 v l := by
  obtain ⟨A, c, h1, h2, h3, h4⟩ := h
  refine ⟨A, c, h1, h2, h3, fun hn => ?_⟩
  obtain ⟨b, off, e, hc⟩ := h4 hn
  exact ⟨b, off, e, fun i hi => (hc i hi).below hb⟩
theorem RdM.alloc {w : World} {v : Value} {l : List Pg} (h : RdM w v l) (o : Obj) : RdM (w.alloc o) v l := h.below (bl_alloc (Below.refl _ _) o)
theorem RdM.drew {w : World} {v : Value} {l : List Pg} (h : RdM w v l) : RdM w.drew v l := h.below (bl_drew (Below.refl _ _))
theorem RdM.drewN {w : World} {v : Value} {l : List Pg} (h : RdM w v l) (n : Nat) : RdM (w.drewN n) v l := h.below (bl_drewN (Below.refl _ _) n)
theorem RdM.len {w : World} {v : Value} {l : List Pg} (h : RdM w v l) : l.length ≤ 3518437208783 := by obtain ⟨_, _, _, _, h3, _⟩ := h; omega
/-- Page i of a memory that reads so. -/
theorem RdM.at {w : World} {A : Option Addr} {n c : Nat} {l : List Pg} (h : RdM w (.slice A n c) l) (i : Nat) (hi : i < l.length) : ∃ b off, A = some ⟨b, off, none⟩ ∧ RdP w b (off + i * 3) l[i] := by
  obtain ⟨A', c', h1, h2, h3, h4⟩ := h
  obtain ⟨b, off, e, hc⟩ := h4 (by omega)
  injection h1 with e1 _ _
  subst e1
  exact ⟨b, off, e, hc i hi⟩
end Go.Proofs.Ytbbhkjljiljadaa
