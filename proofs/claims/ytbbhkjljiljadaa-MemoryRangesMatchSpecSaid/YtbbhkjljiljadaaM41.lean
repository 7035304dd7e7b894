/- What the reference's lists of pages are: plain laws for MemoryRangesMatchSpec. No condition. -/
import Derived.Test.YtbbhkjljiljadaaM40
namespace Go.Proofs.Ytbbhkjljiljadaa
open Go.RowKit
set_option linter.unusedVariables false
set_option linter.unusedSimpArgs false
theorem ins_take (l : List Pg) {i : Nat} (a r : Int) (k : Nat) (hi : i ≤ l.length) : (ins l i a r k).take (i + k) = l.take i ++ newP a r k := by
  unfold ins
  have h1 : (l.take i ++ newP a r k).length = i + k := by rw [List.length_append, List.length_take, newP_len]; omega
  rw [List.take_append_of_le_length (by omega), List.take_of_length_le (by omega)]
theorem ins_drop (l : List Pg) {i : Nat} (a r : Int) (k : Nat) (hi : i ≤ l.length) : (ins l i a r k).drop (i + k) = l.drop i := by
  unfold ins
  have h1 : (l.take i ++ newP a r k).length = i + k := by rw [List.length_append, List.length_take, newP_len]; omega
  rw [List.drop_append_of_le_length (by omega), List.drop_of_length_le (by omega), List.nil_append]
/-- One page more put in behind those that were put in. -/
theorem ins_step {l : List Pg} {i k q : Nat} {a r : Int} (hi : i ≤ l.length) (hlo : ∀ j (h : j < l.length), j < i → l[j].a < a) (hhi : ∀ j (h : j < l.length), i ≤ j → a + (k : Int) * 256 < l[j].a)
    (hq : q ≤ (ins l i a r k).length) (h1 : ∀ j (h : j < (ins l i a r k).length), j < q → (ins l i a r k)[j].a < a + (k : Int) * 256) (h2 : ∀ h : q < (ins l i a r k).length, a + (k : Int) * 256 ≤ (ins l i a r k)[q].a) :
    (ins l i a r k).take q ++ [⟨a + (k : Int) * 256, r, List.replicate 256 0⟩] ++ (ins l i a r k).drop q = ins l i a r (k + 1) := by
  have hl := ins_len l a r k hi
  have e : q = i + k := by
    rcases Nat.lt_trichotomy q (i + k) with h | h | h
    · exfalso
      have := h2 (by omega)
      rcases ins_cases (a := a) (r := r) (n := k) hi (show q < (ins l i a r k).length by omega) with ⟨g, e1⟩ | ⟨j, g, ej, e1⟩ | ⟨j, g, g2, ej, e1⟩
      · rw [e1] at this
        have := hlo q (by omega) g
        omega
      · rw [e1] at this
        simp only at this
        omega
      · omega
    · exact h
    · exfalso
      have := h1 (i + k) (by omega) h
      rcases ins_cases (a := a) (r := r) (n := k) hi (show i + k < (ins l i a r k).length by omega) with ⟨g, e1⟩ | ⟨j, g, ej, e1⟩ | ⟨j, g, g2, ej, e1⟩
      · omega
      · omega
      · rw [e1] at this
        have := hhi j g g2
        omega
  rw [e, ins_take l a r k hi, ins_drop l a r k hi]
  conv => rhs; unfold ins
  rw [newP_succ, List.append_assoc (l.take i)]
theorem ins_zero (l : List Pg) (i : Nat) (a r : Int) : ins l i a r 0 = l := by
  unfold ins
  rw [show newP a r 0 = [] from rfl, List.append_nil, List.take_append_drop]
/-- Whether a page is in a range. -/
def inr (a n : Int) (p : Pg) : Bool := inB p.a a (a + 256 * n - 1)
theorem inr_iff (a n : Int) (p : Pg) : inr a n p = true ↔ a ≤ p.a ∧ p.a < a + n * 256 := by
  unfold inr inB
  rw [decide_eq_true_iff]
  omega
theorem cut_filter {l : List Pg} (hk : Ok l) {a : Int} {n : Nat} (ha : a % 256 = 0) {i : Nat} (hs : Spot l a i true) (hall : ∀ j : Nat, j < n → look l (a + (j : Int) * 256) ≠ none) (hin : i + n ≤ l.length) :
    l.filter (fun p => !inr a n p) = l.take i ++ l.drop (i + n) := by
  obtain ⟨hi, he⟩ := hs.2.2.2.1 rfl
  have hr := runs hk ha hi he hall
  have e : l = l.take i ++ ((l.drop i).take n ++ l.drop (i + n)) := by
    rw [← List.drop_drop, List.take_append_drop, List.take_append_drop]
  conv => lhs; rw [e]
  rw [List.filter_append, List.filter_append]
  have f1 : (l.take i).filter (fun p => !inr a n p) = l.take i := by
    rw [List.filter_eq_self]
    intro p hp
    obtain ⟨j, hj, rfl⟩ := List.getElem_of_mem hp
    rw [List.length_take] at hj
    rw [List.getElem_take]
    have := hs.2.1 j (by omega) (by omega)
    have hn : ¬ (inr a n l[j] = true) := by rw [inr_iff]; omega
    simpa using hn
  have f2 : ((l.drop i).take n).filter (fun p => !inr a n p) = [] := by
    rw [List.filter_eq_nil_iff]
    intro p hp
    obtain ⟨j, hj, rfl⟩ := List.getElem_of_mem hp
    rw [List.length_take, List.length_drop] at hj
    rw [List.getElem_take, List.getElem_drop]
    obtain ⟨h, e2⟩ := hr j (by omega)
    have : inr a n l[i + j] = true := by rw [inr_iff, e2]; omega
    simp [this]
  have f3 : (l.drop (i + n)).filter (fun p => !inr a n p) = l.drop (i + n) := by
    rw [List.filter_eq_self]
    intro p hp
    obtain ⟨j, hj, rfl⟩ := List.getElem_of_mem hp
    rw [List.length_drop] at hj
    rw [List.getElem_drop]
    have hn : ¬ (inr a n l[i + n + j] = true) := by
      rw [inr_iff]
      rcases Nat.eq_zero_or_pos n with h0 | h0
      · subst h0; omega
      · obtain ⟨h, e2⟩ := hr (n - 1) (by omega)
        have h3 := hk.inc (i + (n - 1)) (i + n + j) h (by omega) (by omega)
        have h4 := (hk.pg (i + n + j) (by omega)).2.1
        omega
    simpa using hn
  rw [f1, f2, f3, List.nil_append]
theorem prot_eq (l : List Pg) (a n r : Int) : prot l a n r = l.map (fun p => if inr a n p then ⟨p.a, r, p.d⟩ else p) := by
  unfold prot
  apply List.map_congr_left
  intro p _
  by_cases h : a ≤ p.a ∧ p.a < a + n * 256
  · rw [if_pos h, if_pos ((inr_iff a n p).2 h)]
  · rw [if_neg h, if_neg (fun h2 => h ((inr_iff a n p).1 h2))]
end Go.Proofs.Ytbbhkjljiljadaa
