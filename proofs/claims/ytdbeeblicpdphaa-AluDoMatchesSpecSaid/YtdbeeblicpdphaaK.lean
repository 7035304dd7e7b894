/- Small lemmas for the walks of this seat: regions that draw, and 'Below' over new blocks and draws. No condition. -/
import Derived.Test.YtdbeeblicpdphaaProg
import Derived.WalkKit
import Derived.KernelRfl
import Derived.StillTailTactics
import Derived.Deep.QuietTactic
import Derived.BigQuiet
import Derived.Deep.AppendLies
namespace Go.Proofs.Ytdbeeblicpdphaa
open Go.RowKit
set_option linter.unusedSimpArgs false
set_option linter.unusedVariables false
theorem st_tail {P : Program} {id : Nat} {Q : Exit → Act → World → Prop} {a : Act} {w : World} {l : List Oper} (n : Nat) (hm : P.follows .mixedOrders = true) (hB : Region.lexTailB .any l.toArray n = true)
    (h : wpStill P l.toArray w.drew (fun a' => wpList P l.toArray Q (l.drop n) a' w.drew) (l.take n) a) : (Code.region id l.toArray true).wp P Q a w := wp_region_still_tail n hm hB h
theorem bl_alloc {w W : World} (h : Below w.heap.size w W) (o : Obj) : Below w.heap.size w (W.alloc o) := h.alloc h.size o
theorem bl_drew {w W : World} (h : Below w.heap.size w W) : Below w.heap.size w W.drew := ⟨h.os, h.tape, h.output, h.size, h.block⟩
theorem bl_drewN {w W : World} (h : Below w.heap.size w W) (n : Nat) : Below w.heap.size w (W.drewN n) := ⟨h.os, h.tape, h.output, h.size, h.block⟩
theorem bl_then {w w1 w2 : World} (h : Below w.heap.size w w1) (k : Below w1.heap.size w1 w2) : Below w.heap.size w w2 := h.trans (k.mono h.size)
theorem bl_size {w W : World} (h : Below w.heap.size w W) : w.heap.size ≤ W.heap.size := h.size
theorem bcell {W w1 : World} (hb : Below W.heap.size W w1) : (∀ b o, b < W.heap.size → w1.cell? ⟨b, o, none⟩ = W.cell? ⟨b, o, none⟩) ∧ (∀ b o, b < W.heap.size → w1.frozen? ⟨b, o, none⟩ = W.frozen? ⟨b, o, none⟩) :=
  ⟨fun b o h => hb.cell (p := ⟨b, o, none⟩) h, fun b o h => hb.frozen (p := ⟨b, o, none⟩) h⟩
theorem ret_u32 {a b : Int} (h : a = b) : Ending.returned (.int .u32 a) = .returned (.int .u32 b) := by rw [h]
theorem ret_bool {a b : Bool} (h : a = b) : Ending.returned (.bool a) = .returned (.bool b) := by rw [h]
theorem info5 : (Try.prog.info? 5).map (fun i => (i.zero, i.size, i.bytes)) = some (some (.int .u8 0), 1, 1) := by kernel_rfl
/-- append of one byte to a slice of the call's own. -/
theorem ap_u8 {ops : Array Oper} {rest : List Oper} {o : Oper} {a : Act} {Q : Exit → Act → World → Prop} {w0 W : World} {base : Nat} (hgd : o.guard = none) (s x : Operand)
    (ho : o.op = .call { callee := .builtin .append, args := #[s, x], argTypes := #[29, 29] })
    (v : Value) (xs : List Value) (y : Value) (g : Nat) (hs : a.eval s = v) (hx : a.eval x = .slice (some ⟨g, 0, none⟩) 1 1) (hgg : g = W.heap.size) (h1 : y.oneCell' = true)
    (HO : W.ownsRow base 5 1 v xs.length xs) (HB : Below base w0 W) (hbase : base ≤ W.heap.size) (hl : xs.length ≤ 1000000)
    (h : ∀ v1 w1, w1.ownsRow base 5 1 v1 (xs ++ [y]).length (xs ++ [y]) → Below base w0 w1 → base ≤ w1.heap.size → wpList Try.prog ops Q rest (a.put o.dst v1) w1) :
    wpList Try.prog ops Q (o :: rest) a (W.alloc (.cells #[y] 5)) := by
  subst hgg
  obtain ⟨i0, hi, hzz⟩ := Option.map_eq_some_iff.1 info5
  simp only [Prod.mk.injEq] at hzz
  obtain ⟨hz0, hz1, hz2⟩ := hzz
  refine wpList_append_own (W.alloc (.cells #[y] 5)) hgd s x 29 ho base 5 i0 (.int .u8 0) 1 1 Try.underlying29 hi hz0 hz1 hz2 rfl (by omega) v xs.length xs hs (HO.alloc _) ⟨W.heap.size, 0, none⟩ 1 1 [y] hx rfl
    (World.news_of_block (cs := #[y]) (t := 5) (fr := (0, 0)) (heap_alloc_new W _)) (by simpa using h1) (by simp only [maxLen]; omega) (by omega) (by simp; omega) ?_
  intro v1 w1 hown hg _
  refine h v1 w1 (by simpa using hown) ((HB.alloc hbase _).grown hg (by simp; omega) (fun k hk => (HO.lt k hk).1)) ?_
  have h1 := hg.size
  simp at h1
  omega
theorem arr_eqIn (a b c d a' b' c' d' : Int) (w : World) : (Op.equalIn 10000 23 (.agg #[.int .u32 a, .int .u32 b, .int .u32 c, .int .u32 d]) (.agg #[.int .u32 a', .int .u32 b', .int .u32 c', .int .u32 d'])).run Try.prog w = .ok ((a == a') && ((b == b') && ((c == c') && (d == d')))) w := by
  have hs : ∀ w, (sizeOf 22).run Try.prog w = .ok 1 w := fun _ => by kernel_rfl
  have p0 : ∀ a b c d w, (part 22 #[.int .u32 a, .int .u32 b, .int .u32 c, .int .u32 d] 0).run Try.prog w = .ok (.int .u32 a) w := fun _ _ _ _ _ => by kernel_rfl
  have p1 : ∀ a b c d w, (part 22 #[.int .u32 a, .int .u32 b, .int .u32 c, .int .u32 d] 1).run Try.prog w = .ok (.int .u32 b) w := fun _ _ _ _ _ => by kernel_rfl
  have p2 : ∀ a b c d w, (part 22 #[.int .u32 a, .int .u32 b, .int .u32 c, .int .u32 d] 2).run Try.prog w = .ok (.int .u32 c) w := fun _ _ _ _ _ => by kernel_rfl
  have p3 : ∀ a b c d w, (part 22 #[.int .u32 a, .int .u32 b, .int .u32 c, .int .u32 d] 3).run Try.prog w = .ok (.int .u32 d) w := fun _ _ _ _ _ => by kernel_rfl
  have he : ∀ (x y : Int) w, (Op.equalIn 9999 22 (.int .u32 x) (.int .u32 y)).run Try.prog w = .ok (x == y) w := fun x y w => run_equalIn_int w 9998 22 .u32 .u32 x y Try.underlying22
  have h1 : Op.equalIn 10000 = Op.equalIn (9999 + 1) := rfl
  rw [h1, Op.equalIn]
  generalize Op.equalIn 9999 = f at he
  simp only [Sem.run_bind, run_underlying Try.underlying23, Result.andThen_ok, hs, Std.Legacy.Range.forIn_eq_forIn_range', Std.Legacy.Range.size, Nat.sub_zero, Nat.reduceAdd, Nat.reduceSub, Nat.reduceDiv, List.range'_succ, List.range'_zero, List.forIn_cons, List.forIn_nil, Nat.mul_one, p0, p1, p2, p3, he]
  cases g0 : (a == a') <;> cases g1 : (b == b') <;> cases g2 : (c == c') <;> cases g3 : (d == d') <;> simp [Sem.run_bind, Sem.run_pure, Result.andThen_ok, p1, p2, p3, he, g1, g2, g3]
theorem arr_eq (a b c d a' b' c' d' : Int) (w : World) : (binOp .eql 23 (.agg #[.int .u32 a, .int .u32 b, .int .u32 c, .int .u32 d]) (.agg #[.int .u32 a', .int .u32 b', .int .u32 c', .int .u32 d'])).run Try.prog w = .ok (.bool ((a == a') && ((b == b') && ((c == c') && (d == d'))))) w := by
  rw [run_eql_struct, arr_eqIn]; rfl
theorem arr_neq (a b c d a' b' c' d' : Int) (w : World) : (binOp .neq 23 (.agg #[.int .u32 a, .int .u32 b, .int .u32 c, .int .u32 d]) (.agg #[.int .u32 a', .int .u32 b', .int .u32 c', .int .u32 d'])).run Try.prog w = .ok (.bool (!((a == a') && ((b == b') && ((c == c') && (d == d')))))) w := by
  rw [run_neq_struct, arr_eqIn]; rfl
/-- A block, kept from the walk's own rules. -/
def Bk (W : World) (g : Nat) (cs : Array Value) (t : TypeId) : Prop := W.heap[g]? = some (.cells cs t (0, 0))
theorem Bk.below {W W1 : World} {g : Nat} {cs : Array Value} {t : TypeId} (h : Bk W g cs t) (hb : Below W.heap.size W W1) : Bk W1 g cs t := (hb.block g (Array.getElem?_eq_some_iff.1 h).1).trans h
theorem Bk.alloc {W : World} {g : Nat} {cs : Array Value} {t : TypeId} (h : Bk W g cs t) (o : Obj) : Bk (W.alloc o) g cs t := (Below.heap_alloc W o g (Array.getElem?_eq_some_iff.1 h).1).trans h
theorem Bk.drew {W : World} {g : Nat} {cs : Array Value} {t : TypeId} (h : Bk W g cs t) : Bk W.drew g cs t := h
theorem Bk.new (W : World) (cs : Array Value) (t : TypeId) : Bk (W.alloc (.cells cs t)) W.heap.size cs t := heap_alloc_new W _
theorem Bk.cell {W : World} {g : Nat} {cs : Array Value} {t : TypeId} (h : Bk W g cs t) (j : Nat) : W.cell? ⟨g, j, none⟩ = cs[j]? := by simp [World.cell?, show W.heap[g]? = some (.cells cs t (0, 0)) from h]
theorem Bk.frozen {W : World} {g : Nat} {cs : Array Value} {t : TypeId} (h : Bk W g cs t) (j : Nat) : W.frozen? ⟨g, j, none⟩ = false := by simp [World.frozen?, show W.heap[g]? = some (.cells cs t (0, 0)) from h]
theorem Bk.four {W : World} {g : Nat} {c0 c1 c2 c3 : Value} {t : TypeId} (h : Bk W g #[c0, c1, c2, c3] t) : W.cell? ⟨g, 0, none⟩ = some c0 ∧ W.cell? ⟨g, 1, none⟩ = some c1 ∧ W.cell? ⟨g, 2, none⟩ = some c2 ∧ W.cell? ⟨g, 3, none⟩ = some c3 :=
  ⟨h.cell 0, h.cell 1, h.cell 2, h.cell 3⟩
theorem Bk.two {W : World} {g : Nat} {c0 c1 : Value} {t : TypeId} (h : Bk W g #[c0, c1] t) : W.cell? ⟨g, 0, none⟩ = some c0 ∧ W.cell? ⟨g, 1, none⟩ = some c1 := ⟨h.cell 0, h.cell 1⟩
theorem Bk.new' {W : World} {g : Nat} (cs : Array Value) (t : TypeId) (h : g = W.heap.size) : Bk (W.alloc (.cells cs t)) g cs t := by subst h; exact Bk.new W cs t
section
variable {P : Program} {ops : Array Oper} {C : World → Prop} {Q : Act → Prop} {a : Act} {o : Oper} {rest : List Oper} {v : Value}
theorem q_val (hw : Region.wanted o (yielded ops a.tmps) = true) (h : ∀ W, C W → (execOp a.eval o).run P W = .ok (.value v) W) (k : wpQuiet P ops C Q rest (a.put o.dst v)) : wpQuiet P ops C Q (o :: rest) a := by
  unfold wpQuiet; rw [if_pos hw]
  exact ⟨v, fun W hW => by simp [Oper.quietAt, Oper.quietUpon, h W hW], k⟩
theorem q_call {f : FuncId} {args : Array Value} (hw : Region.wanted o (yielded ops a.tmps) = true) (h : ∀ W, C W → (execOp a.eval o).run P W = .ok (.enter f args) W) (hc : ∀ W, C W → Calls P f args W (fun e W2 => e = .returned v ∧ C W2)) (k : wpQuiet P ops C Q rest (a.put o.dst v)) : wpQuiet P ops C Q (o :: rest) a := by
  unfold wpQuiet; rw [if_pos hw]
  exact ⟨v, fun W hW => by simpa [Oper.quietAt, Oper.quietUpon, h W hW] using hc W hW, k⟩
end
/-- Worlds that are w with new blocks. -/
def Cb (w W : World) : Prop := Below w.heap.size w W
theorem Cb.of {P : Program} {f : FuncId} {args : Array Value} {w W : World} {v : Value} (hW : Cb w W) (h : Calls P f args W (fun e W2 => e = .returned v ∧ Below W.heap.size W W2)) : Calls P f args W (fun e W2 => e = .returned v ∧ Cb w W2) :=
  h.mono fun _ _ ⟨he, hb⟩ => ⟨he, bl_then hW hb⟩
theorem quiet_in {P : Program} {id : Nat} {Q : Exit → Act → World → Prop} {a : Act} {w : World} {l : List Oper} (hm : P.follows .mixedOrders = true) (hB : Region.lexB .any l.toArray = true)
    (h : wpQuiet P l.toArray (Cb w) (fun a' => ∀ w', Cb w w' → Q .normal a' w') l a) : (Code.region id l.toArray true).wp P Q a w :=
  wp_region_quiet (C := Cb w) hm hB (bl_drew (Below.refl _ w)) (by simpa using h)
def W4 (a b c d : Int) : Prop := (Lit.int .u32 a).wf = true ∧ (Lit.int .u32 b).wf = true ∧ (Lit.int .u32 c).wf = true ∧ (Lit.int .u32 d).wf = true
/-- A slice that reads as these bytes. -/
def RdB (W : World) (A : Option Addr) (n : Nat) (zs : List Int) : Prop := zs.length = n ∧ (0 < n → ∃ b off, A = some ⟨b, off, none⟩ ∧ b < W.heap.size ∧ ∀ j, j < n → W.cell? ⟨b, off + j, none⟩ = some (.int .u8 (zs.getD j 0))) ∧ (∀ x ∈ zs, 0 ≤ x ∧ x ≤ 255)
end Go.Proofs.Ytdbeeblicpdphaa
