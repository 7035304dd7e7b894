/- The pages of a range; what Protect does to them. No condition. -/
import Derived.Test.YtbbhkjljiljadaaM12
namespace Go.Proofs.Ytbbhkjljiljadaa
open Go.RowKit
set_option linter.unusedVariables false
set_option linter.unusedSimpArgs false
theorem sp_cases (l : List Pg) (a n : Int) : (sp l a n = (0, 0) ∧ vf l = (0, 0) ∧ a % 256 = 0 ∧ 1 ≤ n ∧ n ≤ 200 ∧ 0 ≤ a ∧ a ≤ 1048576 - n * 256) ∨ ∃ c i, sp l a n = (c, i) ∧ 0 < c ∧ c ≤ 18 ∧ -3 ≤ i ∧ i ≤ 1500 := by
  unfold sp
  split
  · rename_i h
    rcases vf_cases l with h0 | ⟨c, i, h0, h1, h2, h3, h4⟩
    · exact absurd h0 h
    · exact Or.inr ⟨c, i, h0, h1, by omega, by omega, by omega⟩
  · split
    · exact Or.inr ⟨5, -2, rfl, by omega, by omega, by omega, by omega⟩
    · rename_i hv hm
      split
      · exact Or.inr ⟨3, -2, rfl, by omega, by omega, by omega, by omega⟩
      · rename_i hn
        have h0 : 0 ≤ a := by omega
        have hm : a.tmod 256 = 0 := Decidable.not_not.1 hm
        rw [Int.tmod_eq_emod_of_nonneg h0] at hm
        exact Or.inl ⟨rfl, Decidable.not_not.1 hv, hm, by omega, by omega, h0, by omega⟩
theorem ms_cases (l : List Pg) (a : Int) (n : Nat) : (ms l a n = (0, 0) ∧ ∀ j, j < n → look l (a + (j : Int) * 256) ≠ none) ∨ ∃ k : Nat, k < n ∧ ms l a n = (6, (k : Int)) := by
  unfold ms
  cases h : (List.range n).find? (fun k : Nat => (look l (a + (k : Int) * 256)).isNone) with
  | none =>
    refine Or.inl ⟨rfl, fun j hj he => ?_⟩
    rw [List.find?_eq_none] at h
    have := h j (List.mem_range.2 hj)
    rw [he] at this
    simp at this
  | some k => exact Or.inr ⟨k, List.mem_range.1 (List.mem_of_find?_eq_some h), rfl⟩
theorem look_at {l : List Pg} {a : Int} (h : look l a ≠ none) : ∃ j, ∃ h : j < l.length, l[j].a = a - a % 256 := by
  rcases Decidable.em (∃ j, ∃ h : j < l.length, l[j].a = a - a % 256) with h' | h'
  · exact h'
  · exact absurd (look_none h') h
/-- Pages of a range that is all there lie one behind the other. -/
theorem runs {l : List Pg} (hk : Ok l) {a : Int} (ha : a % 256 = 0) {i n : Nat} (hi : i < l.length) (he : l[i].a = a) (hb : ∀ j, j < n → look l (a + (j : Int) * 256) ≠ none) : ∀ k, k < n → ∃ h : i + k < l.length, l[i + k].a = a + (k : Int) * 256
  | 0, _ => ⟨by omega, by simpa using he⟩
  | k + 1, hlt => by
    obtain ⟨h, e⟩ := runs hk ha hi he hb k (by omega)
    obtain ⟨j, hj, ej⟩ := look_at (hb (k + 1) hlt)
    have e2 : l[j].a = a + ((k + 1 : Nat) : Int) * 256 := by omega
    have hgt : i + k < j := by
      rcases Nat.lt_trichotomy j (i + k) with h' | h' | h'
      · have := hk.inc j (i + k) hj h h'; omega
      · subst h'; omega
      · exact h'
    rcases Nat.lt_or_ge (i + k + 1) j with h' | h'
    · have h1 := hk.inc (i + k) (i + k + 1) h (by omega) (by omega)
      have h2 := hk.inc (i + k + 1) j (by omega) hj h'
      have h3 := (hk.pg (i + k + 1) (by omega)).2.1
      omega
    · obtain rfl : j = i + k + 1 := by omega
      exact ⟨hj, e2⟩
/-- The pages with other rights in a range. -/
def prot (l : List Pg) (a n r : Int) : List Pg := l.map fun p => if a ≤ p.a ∧ p.a < a + n * 256 then ⟨p.a, r, p.d⟩ else p
theorem prot_len (l : List Pg) (a n r : Int) : (prot l a n r).length = l.length := by simp [prot]
theorem prot_get (l : List Pg) (a n r : Int) (k : Nat) (h : k < l.length) : (prot l a n r)[k]'(by rw [prot_len]; exact h) = if a ≤ l[k].a ∧ l[k].a < a + n * 256 then ⟨l[k].a, r, l[k].d⟩ else l[k] := by simp [prot]
theorem prot_a (l : List Pg) (a n r : Int) (k : Nat) (h : k < l.length) : ((prot l a n r)[k]'(by rw [prot_len]; exact h)).a = l[k].a := by rw [prot_get l a n r k h]; split <;> rfl
theorem prot_d (l : List Pg) (a n r : Int) (k : Nat) (h : k < l.length) : ((prot l a n r)[k]'(by rw [prot_len]; exact h)).d = l[k].d := by rw [prot_get l a n r k h]; split <;> rfl
theorem prot_r (l : List Pg) (a n r : Int) (k : Nat) (h : k < l.length) : ((prot l a n r)[k]'(by rw [prot_len]; exact h)).r = if a ≤ l[k].a ∧ l[k].a < a + n * 256 then r else l[k].r := by rw [prot_get l a n r k h]; split <;> rfl
theorem prot_zero {l : List Pg} (a r : Int) : prot l a 0 r = l := by
  unfold prot
  conv => rhs; rw [← List.map_id l]
  apply List.map_congr_left
  intro p _
  rw [if_neg (by omega)]; rfl
theorem Part.prot {w0 W : World} {base g cap : Nat} {l : List Pg} {a r : Int} {i k : Nat} {cur : Array Value} {D C : Nat → Nat} {dc : Nat → Array Value} (hk : Ok l) (ha : a % 256 = 0) (hi : i < l.length) (he : l[i].a = a + (k : Int) * 256)
    (hp : Part w0 W base g cap (prot l a k r) (prot l a k r).length cur D C dc) :
    Part w0 (W.setCell ⟨g, i * 3 + 1, none⟩ (.int .i64 r)) base g cap (Ytbbhkjljiljadaa.prot l a ((k + 1 : Nat) : Int) r) (Ytbbhkjljiljadaa.prot l a ((k + 1 : Nat) : Int) r).length (cur.setIfInBounds (i * 3 + 1) (.int .i64 r)) D C dc := by
  refine hp.right (by rw [prot_len]; exact hi) r (by rw [prot_len, prot_len]) ?_ ?_ ?_ ?_
  · intro j h
    rw [prot_len] at h
    rw [prot_a _ _ _ _ j h, prot_a _ _ _ _ j h]
  · intro j h hne
    rw [prot_len] at h
    rw [prot_r _ _ _ _ j h, prot_r _ _ _ _ j h]
    have h1 := (hk.pg j h).2.1
    have h2 : l[j].a ≠ a + (k : Int) * 256 := by
      intro e
      rcases Nat.lt_or_gt_of_ne hne with h' | h'
      · have := hk.inc j i h hi h'; omega
      · have := hk.inc i j hi h h'; omega
    by_cases c : a ≤ l[j].a ∧ l[j].a < a + (k : Int) * 256
    · rw [if_pos c, if_pos (by omega)]
    · rw [if_neg c, if_neg (by omega)]
  · intro j h
    rw [prot_len] at h
    rw [prot_d _ _ _ _ j h, prot_d _ _ _ _ j h]
  · rw [prot_r _ _ _ _ i hi, if_pos (by omega)]
/-- What Protect says. -/
def pf (l : List Pg) (a n r : Int) : Int × Int := if sp l a n ≠ (0, 0) then sp l a n else if rf r ≠ (0, 0) then rf r else ms l a n.toNat
end Go.Proofs.Ytbbhkjljiljadaa
