/- Rows of pages of a call's own, side by side. No condition. -/
import Derived.Test.YtbbhkjljiljadaaM41
namespace Go.Proofs.Ytbbhkjljiljadaa
open Go.RowKit
set_option linter.unusedVariables false
set_option linter.unusedSimpArgs false
theorem own_grown {w w' : World} {base : Nat} {v : Value} {n : Nat} {xs : List Value} {g : Option Nat} (h : w.ownsRow base 68 3 v n xs) (hg : w.grownBy w' g) (hne : ∀ b, v.ownBlock = some b → some b ≠ g) : w'.ownsRow base 68 3 v n xs := by
  obtain ⟨hl, h | ⟨b, cap, cur, rfl, e2, e3, rest⟩⟩ := h
  · exact ⟨hl, Or.inl h⟩
  · exact ⟨hl, Or.inr ⟨b, cap, cur, rfl, e2, (hg.block b (Array.getElem?_eq_some_iff.1 e3).1 (hne b rfl)).trans e3, rest⟩⟩
theorem own_lt {w : World} {base : Nat} {v : Value} {n : Nat} {xs : List Value} (h : w.ownsRow base 68 3 v n xs) {b : Nat} (hb : v.ownBlock = some b) : b < w.heap.size ∧ base ≤ b := by
  obtain ⟨hl, ⟨rfl, _⟩ | ⟨b', cap, cur, rfl, e2, e3, rest⟩⟩ := h
  · simp [Value.ownBlock] at hb
  · have : b' = b := by simpa [Value.ownBlock] using hb
    subst this
    exact ⟨(Array.getElem?_eq_some_iff.1 e3).1, e2⟩
/-- A row of its own that reads as these pages; their bytes lie in w. -/
def Rw (w W0 wr : World) (v : Value) (m : List Pg) : Prop := ∃ xs, wr.ownsRow W0.heap.size 68 3 v m.length xs ∧ RowP w (fun _ => True) xs m
theorem Rw.nil (w W0 wr : World) : Rw w W0 wr (.slice none 0 0) [] := ⟨[], ⟨rfl, Or.inl ⟨rfl, rfl⟩⟩, RowP.nil _ _⟩
theorem Rw.below {w W0 wr wr' : World} {v : Value} {m : List Pg} (h : Rw w W0 wr v m) (hb : Below wr.heap.size wr wr') : Rw w W0 wr' v m := by
  obtain ⟨xs, h1, h2⟩ := h
  exact ⟨xs, own_below h1 hb, h2⟩
theorem Rw.grown {w W0 wr wr' : World} {v : Value} {m : List Pg} {g : Option Nat} (h : Rw w W0 wr v m) (hg : wr.grownBy wr' g) (hne : ∀ b, v.ownBlock = some b → some b ≠ g) : Rw w W0 wr' v m := by
  obtain ⟨xs, h1, h2⟩ := h
  exact ⟨xs, own_grown h1 hg hne, h2⟩
theorem Rw.lt {w W0 wr : World} {v : Value} {m : List Pg} (h : Rw w W0 wr v m) {b : Nat} (hb : v.ownBlock = some b) : b < wr.heap.size ∧ W0.heap.size ≤ b := by
  obtain ⟨xs, h1, h2⟩ := h
  exact own_lt h1 hb
theorem Rw.rd {w W0 wr : World} {v : Value} {m : List Pg} (h : Rw w W0 wr v m) (hb : Below w.heap.size w wr) (hl : m.length * 40 ≤ 140737488351232) : RdM wr v m := by
  obtain ⟨xs, h1, h2⟩ := h
  exact RowP.own (h2.below hb) h1 hl
theorem Rw.setb {w W0 wr : World} {v : Value} {m : List Pg} (h : Rw w W0 wr v m) {p : Addr} (hp : ∀ b, v.ownBlock = some b → b ≠ p.block) (u : Value) : Rw w W0 (wr.setCell p u) v m := by
  obtain ⟨xs, ⟨hl, h | ⟨b, cap, cur, rfl, e2, e3, rest⟩⟩, h2⟩ := h
  · exact ⟨xs, ⟨hl, Or.inl h⟩, h2⟩
  · exact ⟨xs, ⟨hl, Or.inr ⟨b, cap, cur, rfl, e2, (Below.heap_setCell wr p u b (hp b rfl)).trans e3, rest⟩⟩, h2⟩
/-- append of one page to such a row. -/
theorem ap_rw {ops : Array Oper} {rest : List Oper} {o : Oper} {a : Act} {Q : Exit → Act → World → Prop} {w W0 W : World} (hgd : o.guard = none) (s x : Operand)
    (ho : o.op = .call { callee := .builtin .append, args := #[s, x], argTypes := #[30, 30] })
    (v : Value) (m : List Pg) (p : Pg) (D : Option Addr) (cd : Nat) (g c : Nat) (hs : a.eval s = v) (hx : a.eval x = .slice (some ⟨g, 0, none⟩) 1 c) (hB : Bk W g #[.int .i64 p.a, .int .i64 p.r, .slice D p.d.length cd] 68)
    (HO : Rw w W0 W v m) (hp : RowP w (fun _ => True) [.int .i64 p.a, .int .i64 p.r, .slice D p.d.length cd] [p]) (hbase : W0.heap.size ≤ W.heap.size) (hl : m.length + 1 ≤ 3518437208783)
    (h : ∀ v1 w1, Rw w W0 w1 v1 (m ++ [p]) → W.grownBy w1 v.ownBlock → (v1.ownBlock = v.ownBlock ∨ v1.ownBlock = some W.heap.size) → wpList Try.prog ops Q rest (a.put o.dst v1) w1) :
    wpList Try.prog ops Q (o :: rest) a W := by
  obtain ⟨xs, h1, h2⟩ := HO
  obtain ⟨i0, hi, hz0, hz1, hz2⟩ := info_parts inf68
  refine wpList_append_own_at W hgd s x 30 ho W0.heap.size 68 i0 _ 3 40 Try.underlying30 hi hz0 hz1 hz2 rfl (by omega) v m.length xs hs h1 ⟨g, 0, none⟩ 1 c [.int .i64 p.a, .int .i64 p.r, .slice D p.d.length cd] hx rfl
    (World.news_of_block (cs := #[.int .i64 p.a, .int .i64 p.r, .slice D p.d.length cd]) (t := 68) (fr := (0, 0)) hB) hp.one' (by simp only [maxLen]; omega) (by omega) hbase ?_
  intro v1 w1 hown hg _ hb
  refine h v1 w1 ⟨_, ?_, h2.app hp⟩ hg hb
  rw [List.length_append]
  exact hown
end Go.Proofs.Ytbbhkjljiljadaa
