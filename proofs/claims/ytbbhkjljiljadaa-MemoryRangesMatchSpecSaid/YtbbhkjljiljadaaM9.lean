/- Memories of the call own. No condition. -/
import Derived.Test.YtbbhkjljiljadaaM8
namespace Go.Proofs.Ytbbhkjljiljadaa
open Go.RowKit
set_option linter.unusedVariables false
set_option linter.unusedSimpArgs false
/-- A row of pages of its own at block g, of which the first i have bytes of their own; the others' bytes lie in w0. -/
structure Part (w0 W : World) (base g cap : Nat) (l : List Pg) (i : Nat) (cur : Array Value) (D C : Nat → Nat) (dc : Nat → Array Value) : Prop where
  blk : Bk W g cur 68
  size : cur.size = cap * 3
  fits : l.length ≤ cap
  most : cap ≤ maxLen
  low : base ≤ g
  adr : ∀ k (h : k < l.length), cur[k * 3]? = some (.int .i64 l[k].a)
  rts : ∀ k (h : k < l.length), cur[k * 3 + 1]? = some (.int .i64 l[k].r)
  own : ∀ k, k < l.length → k < i → cur[k * 3 + 2]? = some (.slice (some ⟨D k, 0, none⟩) 256 (C k)) ∧ 256 ≤ C k ∧ base ≤ D k ∧ D k ≠ g ∧ Bk W (D k) (dc k) 5
  byt : ∀ k (h : k < l.length), k < i → ∀ j, j < 256 → (dc k)[j]? = some (.int .u8 (l[k].d.getD j 0))
  oth : ∀ k (h : k < l.length), i ≤ k → ∃ A c, cur[k * 3 + 2]? = some (.slice A 256 c) ∧ 256 ≤ c ∧ RdB w0 A 256 l[k].d
  dif : ∀ j k, j < i → k < i → j ≠ k → D j ≠ D k
theorem Bk.set' {W : World} {g : Nat} {cs : Array Value} {t : TypeId} (h : Bk W g cs t) (j : Nat) (v : Value) : Bk (W.setCell ⟨g, j, none⟩ v) g (cs.setIfInBounds j v) t := h.set j v
theorem Part.step {w0 W w3 : World} {base g cap : Nat} {l : List Pg} {i : Nat} {cur : Array Value} {D C : Nat → Nat} {dc : Nat → Array Value} (hp : Part w0 W base g cap l i cur D C dc) (hi : i < l.length)
    (hb : Below W.heap.size W w3) (hbase : base ≤ W.heap.size) {d c : Nat} {ds : Array Value} (hd : W.heap.size ≤ d) (hB : Bk w3 d ds 5) (hc : 256 ≤ c) (hds : ∀ j, j < 256 → ds[j]? = some (.int .u8 (l[i].d.getD j 0))) :
    Part w0 (w3.setCell ⟨g, i * 3 + 2, none⟩ (.slice (some ⟨d, 0, none⟩) 256 c)) base g cap l (i + 1) (cur.setIfInBounds (i * 3 + 2) (.slice (some ⟨d, 0, none⟩) 256 c)) (fun k => if k = i then d else D k) (fun k => if k = i then c else C k) (fun k => if k = i then ds else dc k) := by
  have hg := hp.blk.lt
  refine ⟨(hp.blk.below hb).set' _ _, by simpa using hp.size, hp.fits, hp.most, hp.low, ?_, ?_, ?_, ?_, ?_, ?_⟩
  · intro k h
    rw [Array.getElem?_setIfInBounds_ne (by omega)]
    exact hp.adr k h
  · intro k h
    rw [Array.getElem?_setIfInBounds_ne (by omega)]
    exact hp.rts k h
  · intro k h hk
    by_cases e : k = i
    · subst e
      have hs : k * 3 + 2 < cur.size := by rw [hp.size]; have := hp.fits; omega
      simp only [if_true]
      refine ⟨by simp [hs], hc, by omega, by omega, hB.other (by simp; omega) _⟩
    · simp only [if_neg e]
      rw [Array.getElem?_setIfInBounds_ne (by omega)]
      obtain ⟨h1, h2, h3, h4, h5⟩ := hp.own k h (by omega)
      exact ⟨h1, h2, h3, h4, (h5.below hb).other (by simp; omega) _⟩
  · intro k h hk j hj
    by_cases e : k = i
    · subst e
      simp only [if_true]
      exact hds j hj
    · simp only [if_neg e]
      exact hp.byt k h (by omega) j hj
  · intro k h hk
    rw [Array.getElem?_setIfInBounds_ne (by omega)]
    exact hp.oth k h (by omega)
  · intro j k hj hk hne
    by_cases e1 : j = i
    · have e2 : ¬ k = i := by omega
      simp only [if_pos e1, if_neg e2]
      obtain ⟨_, _, _, _, h5⟩ := hp.own k (by omega) (by omega)
      have := h5.lt
      omega
    · by_cases e2 : k = i
      · simp only [if_pos e2, if_neg e1]
        obtain ⟨_, _, _, _, h5⟩ := hp.own j (by omega) (by omega)
        have := h5.lt
        omega
      · simp only [if_neg e1, if_neg e2]
        exact hp.dif j k (by omega) (by omega) hne
/-- A memory of its own: nothing of it lies below base. -/
def OwnM (W : World) (base : Nat) (v : Value) (l : List Pg) : Prop :=
  (l = [] ∧ RdM W v l) ∨ ∃ w0 g cap cur D C dc, v = .slice (some ⟨g, 0, none⟩) l.length cap ∧ Part w0 W base g cap l l.length cur D C dc
theorem own_rd {W : World} {base : Nat} {v : Value} {l : List Pg} (hk : Ok l) (hz : ∀ i (h : i < l.length), ∀ x ∈ l[i].d, 0 ≤ x ∧ x ≤ 255) (h : OwnM W base v l) : RdM W v l := by
  rcases h with ⟨_, h⟩ | ⟨w0, g, cap, cur, D, C, dc, rfl, hp⟩
  · exact h
  · refine ⟨_, cap, rfl, hp.fits, by have := hk.len; omega, fun _ => ⟨g, 0, rfl, fun i hi => ?_⟩⟩
    obtain ⟨h1, h2, h3, h4, h5⟩ := hp.own i hi hi
    obtain ⟨p1, p2, p3, p4, p5, p6⟩ := hk.pg i hi
    refine ⟨by unfold I64; omega, by unfold I64; omega, ?_, ?_, some ⟨D i, 0, none⟩, C i, ?_, by omega, ?_⟩
    · rw [Nat.zero_add, hp.blk.cell]; exact hp.adr i hi
    · rw [Nat.zero_add, hp.blk.cell]; exact hp.rts i hi
    · rw [Nat.zero_add, hp.blk.cell, h1, p6]
    · refine ⟨rfl, by omega, hz i hi, fun _ => ⟨D i, 0, rfl, fun j hj => ?_⟩⟩
      rw [Nat.zero_add, h5.cell]
      exact hp.byt i hi hi j (by omega)
end Go.Proofs.Ytbbhkjljiljadaa
