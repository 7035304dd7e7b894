/- Removing what Map has added: the plain law. No condition. -/
import Derived.Test.YtbbhkjljiljadaaM30
namespace Go.Proofs.Ytbbhkjljiljadaa
open Go.RowKit
set_option linter.unusedVariables false
set_option linter.unusedSimpArgs false
theorem vfFrom_of {l : List Pg} : ∀ (m : List Pg) (k : Nat) (last : Int), Inc m → (∀ i (h : i < m.length), last < m[i].a) → (∀ i (h : i < m.length), 0 ≤ m[i].a ∧ m[i].a % 256 = 0 ∧ m[i].a ≤ 1048320 ∧ 0 ≤ m[i].r ∧ m[i].r ≤ 7 ∧ m[i].d.length = 256) → vfFrom m k last = (0, 0)
  | [], _, _, _, _, _ => rfl
  | p :: t, k, last, hi, hl, hp => by
    have h0 := hp 0 (by simp)
    have hl0 := hl 0 (by simp)
    simp only [List.getElem_cons_zero] at h0 hl0
    have hm : p.a.tmod 256 = 0 := by rw [Int.tmod_eq_emod_of_nonneg h0.1]; exact h0.2.1
    unfold vfFrom
    rw [bad0 (last := last) (p := p) (by rintro (h | h | h); exact h hm; omega; omega) (by omega) h0.2.2.2.2.2]
    simp only [ne_eq, not_true_eq_false, if_false]
    refine vfFrom_of (l := l) t (k + 1) p.a ?_ ?_ ?_
    · intro i j hi' hj hij
      exact hi (i + 1) (j + 1) (by simp; omega) (by simp; omega) (by omega)
    · intro i h
      exact hi 0 (i + 1) (by simp) (by simp; omega) (by omega)
    · intro i h
      exact hp (i + 1) (by simp; omega)
theorem Ok.vf {l : List Pg} (h : Ok l) : vf l = (0, 0) := by
  unfold Ytbbhkjljiljadaa.vf
  rw [if_neg (by have := h.len; omega)]
  exact vfFrom_of (l := l) l 0 (-1) h.inc (fun i hi => by have := (h.pg i hi).1; omega) h.pg
/-- The pages with new ones at place i. -/
def ins (l : List Pg) (i : Nat) (a r : Int) (n : Nat) : List Pg := l.take i ++ newP a r n ++ l.drop i
theorem newP_get (a r : Int) (n k : Nat) (h : k < (newP a r n).length) : (newP a r n)[k] = ⟨a + (k : Int) * 256, r, List.replicate 256 0⟩ := by
  simp only [newP, List.getElem_map, List.getElem_range]
theorem ins_len (l : List Pg) {i : Nat} (a r : Int) (n : Nat) (hi : i ≤ l.length) : (ins l i a r n).length = l.length + n := by
  unfold ins; rw [List.length_append, List.length_append, List.length_take, List.length_drop, newP_len]; omega
theorem ins_lo {l : List Pg} {i : Nat} {a r : Int} {n : Nat} (hi : i ≤ l.length) {k : Nat} (hk : k < i) : (ins l i a r n)[k]'(by rw [ins_len l a r n hi]; omega) = l[k] := by
  unfold ins
  rw [List.getElem_append_left (by rw [List.length_append, List.length_take]; omega), List.getElem_append_left (by rw [List.length_take]; omega), List.getElem_take]
theorem ins_mid {l : List Pg} {i : Nat} {a r : Int} {n : Nat} (hi : i ≤ l.length) {k : Nat} (hk : k < n) : (ins l i a r n)[i + k]'(by rw [ins_len l a r n hi]; omega) = ⟨a + (k : Int) * 256, r, List.replicate 256 0⟩ := by
  unfold ins
  rw [List.getElem_append_left (by rw [List.length_append, List.length_take, newP_len]; omega), List.getElem_append_right (by rw [List.length_take]; omega)]
  have e : i + k - (l.take i).length = k := by rw [List.length_take]; omega
  rw [newP_get, e]
theorem ins_hi {l : List Pg} {i : Nat} {a r : Int} {n : Nat} (hi : i ≤ l.length) {k : Nat} (h1 : i ≤ k) (h2 : k < l.length) : (ins l i a r n)[k + n]'(by rw [ins_len l a r n hi]; omega) = l[k] := by
  unfold ins
  rw [List.getElem_append_right (by rw [List.length_append, List.length_take, newP_len]; omega), List.getElem_drop]
  congr 1
  rw [List.length_append, List.length_take, newP_len]; omega
theorem ins_cases {l : List Pg} {i : Nat} {a r : Int} {n : Nat} (hi : i ≤ l.length) {k : Nat} (hk : k < (ins l i a r n).length) :
    (∃ h : k < i, (ins l i a r n)[k] = l[k]) ∨ (∃ j : Nat, j < n ∧ k = i + j ∧ (ins l i a r n)[k] = ⟨a + (j : Int) * 256, r, List.replicate 256 0⟩) ∨ (∃ j : Nat, ∃ h : j < l.length, i ≤ j ∧ k = j + n ∧ (ins l i a r n)[k] = l[j]) := by
  have hl := ins_len l a r n hi
  rcases Nat.lt_or_ge k i with h | h
  · exact Or.inl ⟨h, ins_lo hi h⟩
  · rcases Nat.lt_or_ge k (i + n) with h' | h'
    · obtain ⟨j, rfl⟩ : ∃ j, k = i + j := ⟨k - i, by omega⟩
      exact Or.inr (Or.inl ⟨j, by omega, rfl, ins_mid hi (by omega)⟩)
    · obtain ⟨j, rfl⟩ : ∃ j, k = j + n := ⟨k - n, by omega⟩
      exact Or.inr (Or.inr ⟨j, by omega, by omega, rfl, ins_hi hi (by omega) (by omega)⟩)
/-- Where nothing of a range is there, the pages behind its place lie behind the range. -/
theorem far {l : List Pg} (hk : Ok l) {a : Int} {n i : Nat} {ok : Bool} (ha : a % 256 = 0) (hs : Spot l a i ok) (hno : ∀ j : Nat, j < n → look l (a + (j : Int) * 256) = none) {k : Nat} (hk1 : k < l.length) (hk2 : i ≤ k) : a + (n : Int) * 256 ≤ l[k].a := by
  have h1 := hs.2.2.1 k hk1 hk2
  have h2 := (hk.pg k hk1).2.1
  rcases Int.lt_or_le l[k].a (a + (n : Int) * 256) with h | h
  · exfalso
    have hj := hno ((l[k].a - a) / 256).toNat (by omega)
    have he : l[k].a = (a + (((l[k].a - a) / 256).toNat : Int) * 256) - (a + (((l[k].a - a) / 256).toNat : Int) * 256) % 256 := by omega
    rw [look_some hk.inc hk1 he] at hj
    cases hj
  · exact h
theorem ins_ok {l : List Pg} (hk : Ok l) {a r : Int} {n i : Nat} {ok : Bool} (ha : a % 256 = 0) (ha0 : 0 ≤ a) (ha1 : a ≤ 1048576 - (n : Int) * 256) (hr : 0 ≤ r ∧ r ≤ 7) (hs : Spot l a i ok) (hno : ∀ j : Nat, j < n → look l (a + (j : Int) * 256) = none) (hlen : l.length + n ≤ 200) : Ok (ins l i a r n) := by
  have hi := hs.1
  have hl := ins_len l a r n hi
  refine ⟨by omega, ?_, ?_⟩
  · intro x y hx hy hxy
    rcases ins_cases hi hx with ⟨h1, e1⟩ | ⟨j1, h1, rfl, e1⟩ | ⟨j1, h1, g1, rfl, e1⟩ <;> rcases ins_cases hi hy with ⟨h2, e2⟩ | ⟨j2, h2, rfl, e2⟩ | ⟨j2, h2, g2, rfl, e2⟩ <;> rw [e1, e2]
    · exact hk.inc x y (by omega) (by omega) hxy
    · have := hs.2.1 x (by omega) h1
      simp only; omega
    · exact hk.inc x j2 (by omega) h2 (by omega)
    · omega
    · simp only; omega
    · have := far hk ha hs hno h2 g2
      simp only; omega
    · omega
    · omega
    · exact hk.inc j1 j2 h1 h2 (by omega)
  · intro x hx
    rcases ins_cases hi hx with ⟨h1, e1⟩ | ⟨j1, h1, rfl, e1⟩ | ⟨j1, h1, g1, rfl, e1⟩ <;> rw [e1]
    · exact hk.pg x (by omega)
    · simp only
      have : (List.replicate 256 (0 : Int)).length = 256 := List.length_replicate ..
      refine ⟨by omega, by omega, by omega, hr.1, hr.2, this⟩
    · exact hk.pg j1 h1
theorem ins_byt {l : List Pg} (hz : Byt l) {a r : Int} {n i : Nat} (hi : i ≤ l.length) : Byt (ins l i a r n) := by
  intro x hx y hy
  rcases ins_cases hi hx with ⟨h1, e1⟩ | ⟨j1, h1, rfl, e1⟩ | ⟨j1, h1, g1, rfl, e1⟩ <;> rw [e1] at hy
  · exact hz x (by omega) y hy
  · simp only at hy
    have := (List.mem_replicate.1 hy).2
    omega
  · exact hz j1 h1 y hy
theorem ins_back {l : List Pg} {a r : Int} {n i : Nat} (hi : i ≤ l.length) : (ins l i a r n).take i ++ (ins l i a r n).drop (i + n) = l := by
  unfold ins
  have h1 : (l.take i).length = i := by rw [List.length_take]; omega
  have h2 : (l.take i ++ newP a r n).length = i + n := by rw [List.length_append, h1, newP_len]
  rw [List.append_assoc, List.take_append_of_le_length (by omega), List.take_of_length_le (by omega), ← List.append_assoc, List.drop_append_of_le_length (by omega), List.drop_of_length_le (by omega), List.nil_append, List.take_append_drop]
theorem mf_ok {l : List Pg} {a n r : Int} (h : mf l a n r = (0, 0)) : sp l a n = (0, 0) ∧ rf r = (0, 0) ∧ ex l a n.toNat = (0, 0) ∧ (l.length : Int) + n ≤ 200 := by
  unfold mf at h
  split at h
  · rename_i h1; exact absurd h h1
  · rename_i h1
    split at h
    · rename_i h2; exact absurd h h2
    · rename_i h2
      split at h
      · rename_i h3; exact absurd h h3
      · rename_i h3
        split at h
        · cases h
        · exact ⟨Decidable.not_not.1 h1, Decidable.not_not.1 h2, Decidable.not_not.1 h3, by omega⟩
theorem ex_none {l : List Pg} {a : Int} {n : Nat} (h : ex l a n = (0, 0)) : ∀ j, j < n → look l (a + (j : Int) * 256) = none := by
  intro j hj
  unfold ex at h
  cases hf : (List.range n).find? (fun k : Nat => (look l (a + (k : Int) * 256)).isSome) with
  | some k => rw [hf] at h; cases h
  | none =>
    rw [List.find?_eq_none] at hf
    have := hf j (List.mem_range.2 hj)
    simpa using this
theorem rf_ok {r : Int} (h : rf r = (0, 0)) : 0 ≤ r ∧ r ≤ 7 := by
  unfold rf at h; split at h
  · cases h
  · omega
/-- What Map gives is valid, and Unmap takes it back. -/
theorem map_unmap {l : List Pg} {a n r : Int} (h : mf l a n r = (0, 0)) {i : Nat} {ok : Bool} (hs : Spot l a i ok) :
    vf (ins l i a r n.toNat) = (0, 0) ∧ uf (ins l i a r n.toNat) a n = (0, 0) ∧ ∀ i', Spot (ins l i a r n.toNat) a i' true → (ins l i a r n.toNat).take i' ++ (ins l i a r n.toNat).drop (i' + n.toNat) = l := by
  obtain ⟨h1, h2, h3, h4⟩ := mf_ok h
  rcases sp_cases l a n with ⟨_, hv, hm, hn0, hn1, ha0, ha1⟩ | ⟨c, i, hc, hc0, _⟩
  · have hk := Ok.of hv
    have hno := ex_none h3
    have hI := ins_ok (r := r) hk hm ha0 (by omega) (rf_ok h2) hs hno (by omega)
    have hV := hI.vf
    have hi := hs.1
    have hl := ins_len l a r n.toNat hi
    have hms : ms (ins l i a r n.toNat) a n.toNat = (0, 0) := by
      rcases ms_cases (ins l i a r n.toNat) a n.toNat with h | ⟨k, hk', he⟩
      · exact h.1
      · exfalso
        have hnone : look (ins l i a r n.toNat) (a + (k : Int) * 256) = none := by
          unfold ms at he
          cases hf : (List.range n.toNat).find? (fun k : Nat => (look (ins l i a r n.toNat) (a + (k : Int) * 256)).isNone) with
          | none => rw [hf] at he; cases he
          | some q =>
            rw [hf] at he
            injection he with _ he
            have : q = k := by omega
            subst this
            have := List.find?_some hf
            simpa using this
        have e := ins_mid (l := l) (a := a) (r := r) hi hk'
        rw [look_some hI.inc (i := i + k) (by omega) (by rw [e]; simp only; omega)] at hnone
        cases hnone
    refine ⟨hV, ?_, ?_⟩
    · unfold uf
      have hsp : sp (ins l i a r n.toNat) a n = (0, 0) := by
        unfold sp
        have : a.tmod 256 = 0 := by rw [Int.tmod_eq_emod_of_nonneg ha0]; exact hm
        rw [if_neg (by rw [hV]; simp), if_neg (by simpa using this), if_neg (by omega)]
      rw [if_neg (by rw [hsp]; simp), hms]
    · intro i' hs'
      obtain ⟨hi', he'⟩ := hs'.2.2.2.1 rfl
      have e0 := ins_mid (l := l) (a := a) (r := r) (n := n.toNat) hi (k := 0) (by omega)
      have : i' = i := by
        rcases Nat.lt_trichotomy i' i with h | h | h
        · have := hI.inc i' (i + 0) hi' (by omega) (by omega)
          rw [e0, he'] at this
          simp at this
        · exact h
        · have := hI.inc (i + 0) i' (by omega) hi' (by omega)
          rw [e0, he'] at this
          simp at this
      rw [this]
      exact ins_back hi
  · rw [h1] at hc
    injection hc with hc
    omega
end Go.Proofs.Ytbbhkjljiljadaa
