/- What a write and Protect do to what is read: plain laws. No condition. -/
import Derived.Test.YtbbhkjljiljadaaM32
namespace Go.Proofs.Ytbbhkjljiljadaa
open Go.RowKit
set_option linter.unusedVariables false
set_option linter.unusedSimpArgs false
theorem look_map {l : List Pg} {f : Pg → Pg} (hf : ∀ p, (f p).a = p.a) (x : Int) : look (l.map f) x = (look l x).map f := by
  unfold look
  induction l with
  | nil => rfl
  | cons p t ih =>
    rw [List.map_cons, List.find?_cons, List.find?_cons, hf]
    cases p.a == x - x % 256 with
    | true => rfl
    | false => exact ih
def putf (a b : Int) (p : Pg) : Pg := if p.a = a - a % 256 then ⟨p.a, p.r, p.d.set (a % 256).toNat b⟩ else p
theorem put_map (l : List Pg) (a b : Int) : put l a b = l.map (putf a b) := rfl
theorem putf_a (a b : Int) (p : Pg) : (putf a b p).a = p.a := by unfold putf; split <;> rfl
theorem putf_r (a b : Int) (p : Pg) : (putf a b p).r = p.r := by unfold putf; split <;> rfl
theorem can_put (l : List Pg) (a b x r : Int) : can (put l a b) x r = can l x r := by
  unfold can
  rw [put_map, look_map (putf_a a b)]
  cases look l x with
  | none => rfl
  | some p => simp [putf_r]
theorem look_mem {l : List Pg} {x : Int} {p : Pg} (h : look l x = some p) : p ∈ l ∧ p.a = x - x % 256 := by
  unfold look at h
  exact ⟨List.mem_of_find?_eq_some h, by simpa using List.find?_some h⟩
theorem byte_put {l : List Pg} (hk : Ok l) {a b : Int} (x : Int) (ha : look l a ≠ none) : byte (put l a b) x = if x = a then b else byte l x := by
  unfold byte
  rw [put_map, look_map (putf_a a b)]
  cases hx : look l x with
  | none =>
    by_cases e : x = a
    · subst e; exact absurd hx ha
    · rw [if_neg e]; rfl
  | some p =>
    obtain ⟨hm, he⟩ := look_mem hx
    obtain ⟨i, hi, rfl⟩ := List.getElem_of_mem hm
    have hd := (hk.pg i hi).2.2.2.2.2
    simp only [Option.map_some]
    unfold putf
    by_cases c : l[i].a = a - a % 256
    · rw [if_pos c]
      simp only [List.getD_eq_getElem?_getD]
      by_cases e : x = a
      · subst e
        rw [if_pos rfl, List.getElem?_set_self (by omega)]; rfl
      · rw [if_neg e, List.getElem?_set_ne (by omega)]
    · rw [if_neg c]
      by_cases e : x = a
      · subst e; exact absurd he c
      · rw [if_neg e]
theorem look_put (l : List Pg) (a b x : Int) : look (put l a b) x ≠ none ↔ look l x ≠ none := by
  rw [put_map, look_map (putf_a a b)]
  cases look l x <;> simp
theorem can_putn (l : List Pg) (a : Int) (ds : List Int) (x r : Int) : ∀ k, can (putn l a ds k) x r = can l x r
  | 0 => rfl
  | k + 1 => (can_put _ _ _ _ _).trans (can_putn l a ds x r k)
theorem look_putn (l : List Pg) (a : Int) (ds : List Int) (x : Int) : ∀ k, look (putn l a ds k) x ≠ none ↔ look l x ≠ none
  | 0 => Iff.rfl
  | k + 1 => (look_put _ _ _ _).trans (look_putn l a ds x k)
theorem byte_putn {l : List Pg} (hk : Ok l) {a : Int} {ds : List Int} (x : Int) : ∀ (n : Nat), (∀ j : Nat, j < n → look l (a + (j : Int)) ≠ none) → byte (putn l a ds n) x = if a ≤ x ∧ x < a + (n : Int) then ds.getD (x - a).toNat 0 else byte l x
  | 0, _ => by rw [if_neg (by omega)]; rfl
  | n + 1, h => by
    show byte (put (putn l a ds n) (a + (n : Int)) (ds.getD n 0)) x = _
    rw [byte_put (hk.putn a ds n) x ((look_putn l a ds _ n).2 (h n (by omega))), byte_putn hk x n (fun j hj => h j (by omega))]
    by_cases e : x = a + (n : Int)
    · rw [if_pos e, if_pos (by omega)]
      congr 1; omega
    · rw [if_neg e]
      by_cases c : a ≤ x ∧ x < a + (n : Int)
      · rw [if_pos c, if_pos (by omega)]
      · rw [if_neg c, if_neg (by omega)]
theorem can_look {l : List Pg} {x r : Int} (h : can l x r = true) : look l x ≠ none := by
  intro e
  rw [can_none e] at h
  cases h
theorem and_zero (q : Int) : (bits BinOp.and .i64 q 0 == 0) = true := by
  unfold bits
  simp
  decide
theorem can_zero {l : List Pg} (hk : Ok l) {x : Int} (h : look l x ≠ none) : can l x 0 = true := by
  obtain ⟨j, hj, he⟩ := look_at h
  rw [can_some hk hj (look_some hk.inc hj he) he]
  exact and_zero _
theorem af_ok {l : List Pg} {a n r : Int} (h : af l a n r = (0, 0)) : vf l = (0, 0) ∧ 0 ≤ n ∧ n ≤ 1500 ∧ 0 ≤ a ∧ a ≤ 1048576 - n ∧ rf r = (0, 0) ∧ ∀ j : Nat, j < n.toNat → can l (a + (j : Int)) r = true := by
  unfold af at h
  split at h
  · rename_i h1; exact absurd h h1
  · rename_i h1
    split at h
    · cases h
    · rename_i h2
      split at h
      · rename_i h3; exact absurd h h3
      · rename_i h3
        refine ⟨Decidable.not_not.1 h1, by omega, by omega, by omega, by omega, Decidable.not_not.1 h3, fun j hj => ?_⟩
        unfold cf at h
        cases hf : (List.range n.toNat).find? (fun k : Nat => !can l (a + (k : Int)) r) with
        | some k => rw [hf] at h; cases h
        | none =>
          rw [List.find?_eq_none] at hf
          have := hf j (List.mem_range.2 hj)
          simpa using this
theorem af_of {l : List Pg} {a n r : Int} (hv : vf l = (0, 0)) (hn0 : 0 ≤ n) (hn : n ≤ 1500) (ha0 : 0 ≤ a) (ha : a ≤ 1048576 - n) (hr : rf r = (0, 0)) (h : ∀ j : Nat, j < n.toNat → can l (a + (j : Int)) r = true) : af l a n r = (0, 0) := by
  unfold af
  rw [if_neg (by rw [hv]; simp), if_neg (by omega), if_neg (by rw [hr]; simp)]
  exact cf_ok h
theorem af_cong {l m : List Pg} {a n r : Int} (hl : vf l = (0, 0)) (hm : vf m = (0, 0)) (h : ∀ x, can l x r = can m x r) : af l a n r = af m a n r := by
  unfold af
  rw [hl, hm]
  simp only [cf, h]
/-- What is read behind a write. -/
theorem write_read {l : List Pg} {a : Int} {ds : List Int} (h : af l a ds.length 2 = (0, 0)) :
    Ok (putn l a ds ds.length) ∧ af (putn l a ds ds.length) a ds.length 0 = (0, 0) ∧ (∀ j : Nat, j < ds.length → byte (putn l a ds ds.length) (a + (j : Int)) = ds.getD j 0) ∧ (∀ o, af l o 1 0 = af (putn l a ds ds.length) o 1 0) ∧ ∀ o, ¬ (a ≤ o ∧ o ≤ a + (ds.length : Int) - 1) → byte (putn l a ds ds.length) o = byte l o := by
  obtain ⟨hv, hn0, hn, ha0, ha, _, hc⟩ := af_ok h
  have hk := Ok.of hv
  have hK := hk.putn a ds ds.length
  have hl : ∀ j : Nat, j < ds.length → look l (a + (j : Int)) ≠ none := fun j hj => can_look (hc j (by simpa using hj))
  refine ⟨hK, af_of hK.vf hn0 hn ha0 ha rfl (fun j hj => can_zero hK ((look_putn l a ds _ _).2 (hl j (by simpa using hj)))), ?_, fun o => af_cong hv hK.vf (fun x => (can_putn l a ds x 0 _).symm), ?_⟩
  · intro j hj
    rw [byte_putn hk _ _ hl, if_pos (by omega)]
    congr 1; omega
  · intro o ho
    rw [byte_putn hk _ _ hl, if_neg (by omega)]
def protf (a n r : Int) (p : Pg) : Pg := if a ≤ p.a ∧ p.a < a + n * 256 then ⟨p.a, r, p.d⟩ else p
theorem protf_a (a n r : Int) (p : Pg) : (protf a n r p).a = p.a := by unfold protf; split <;> rfl
theorem protf_d (a n r : Int) (p : Pg) : (protf a n r p).d = p.d := by unfold protf; split <;> rfl
theorem prot_map (l : List Pg) (a n r : Int) : prot l a n r = l.map (protf a n r) := rfl
theorem prot_ok {l : List Pg} (hk : Ok l) {a n r : Int} (hr : 0 ≤ r ∧ r ≤ 7) : Ok (prot l a n r) := by
  refine ⟨by rw [prot_len]; exact hk.len, ?_, ?_⟩
  · intro i j hi hj hij
    rw [prot_len] at hi hj
    rw [prot_a _ _ _ _ i hi, prot_a _ _ _ _ j hj]
    exact hk.inc i j hi hj hij
  · intro i hi
    rw [prot_len] at hi
    have := hk.pg i hi
    rw [prot_a _ _ _ _ i hi, prot_r _ _ _ _ i hi, prot_d _ _ _ _ i hi]
    refine ⟨this.1, this.2.1, this.2.2.1, ?_, ?_, this.2.2.2.2.2⟩ <;> split <;> omega
theorem prot_byt {l : List Pg} (hz : Byt l) {a n r : Int} : Byt (prot l a n r) := by
  intro i hi x hx
  rw [prot_len] at hi
  rw [prot_d _ _ _ _ i hi] at hx
  exact hz i hi x hx
theorem byte_prot (l : List Pg) (a n r x : Int) : byte (prot l a n r) x = byte l x := by
  unfold byte
  rw [prot_map, look_map (protf_a a n r)]
  cases look l x with
  | none => rfl
  | some p => simp [protf_d]
theorem pf_ok {l : List Pg} {a n r : Int} (h : pf l a n r = (0, 0)) : sp l a n = (0, 0) ∧ rf r = (0, 0) ∧ ms l a n.toNat = (0, 0) := by
  unfold pf at h
  split at h
  · rename_i h1; exact absurd h h1
  · rename_i h1
    split at h
    · rename_i h2; exact absurd h h2
    · rename_i h2
      exact ⟨Decidable.not_not.1 h1, Decidable.not_not.1 h2, h⟩
/-- What is read behind Protect. -/
theorem protect_read {l : List Pg} {a n r : Int} (h : pf l a n r = (0, 0)) {k : Int} (hk0 : 0 ≤ k) (hk1 : k ≤ 256 * n - 1) {want : Int} (hw0 : 0 ≤ want) (hw7 : want ≤ 7) :
    Ok (prot l a n r) ∧ af l (a + k) 1 0 = (0, 0) ∧ (af (prot l a n r) (a + k) 1 want = if bits BinOp.and .i64 r want = want then (0, 0) else (18, 0)) := by
  obtain ⟨h1, h2, h3⟩ := pf_ok h
  rcases sp_cases l a n with ⟨_, hv, hm, hn0, hn1, ha0, ha1⟩ | ⟨c, i, hc, hc0, _⟩
  · have hk := Ok.of hv
    have hK := prot_ok hk (a := a) (n := n) (rf_ok h2)
    have hall : ∀ j, j < n.toNat → look l (a + (j : Int) * 256) ≠ none := by
      rcases ms_cases l a n.toNat with h | ⟨q, _, hq⟩
      · exact h.2
      · rw [h3] at hq; cases hq
    obtain ⟨j, hj, he⟩ := look_at (hall (k / 256).toNat (by omega))
    have he2 : l[j].a = (a + k) - (a + k) % 256 := by omega
    have hlk := look_some hk.inc hj he2
    have hlk2 : look (prot l a n r) (a + k) = some ((prot l a n r)[j]'(by rw [prot_len]; exact hj)) := look_some hK.inc _ (by rw [prot_a _ _ _ _ j hj]; exact he2)
    have hrf : rf want = (0, 0) := if_neg (by omega)
    refine ⟨hK, ?_, ?_⟩
    · refine af_of hv (by omega) (by omega) (by omega) (by omega) rfl (fun q hq => ?_)
      obtain rfl : q = 0 := by omega
      rw [show a + k + ((0 : Nat) : Int) = a + k from by omega]
      exact can_zero hk (by rw [hlk]; simp)
    · have hcan : can (prot l a n r) (a + k) want = (bits BinOp.and .i64 r want == want) := by
        rw [can_some hK _ hlk2 (by rw [prot_a _ _ _ _ j hj]; exact he2), prot_r _ _ _ _ j hj, if_pos (by omega)]
      by_cases c : bits BinOp.and .i64 r want = want
      · rw [if_pos c]
        refine af_of hK.vf (by omega) (by omega) (by omega) (by omega) hrf (fun q hq => ?_)
        obtain rfl : q = 0 := by omega
        rw [show a + k + ((0 : Nat) : Int) = a + k from by omega, hcan]
        simpa using c
      · rw [if_neg c]
        unfold af
        rw [if_neg (by rw [hK.vf]; simp), if_neg (by omega), if_neg (by rw [hrf]; simp)]
        refine cf_bad (i := 0) (by decide) ?_ (fun j hj => absurd hj (by omega))
        rw [show a + k + ((0 : Nat) : Int) = a + k from by omega, hcan]
        simpa using c
  · rw [h1] at hc
    injection hc with hc
    omega
theorem byte_rng {l : List Pg} (hz : Byt l) (x : Int) : 0 ≤ byte l x ∧ byte l x ≤ 255 := by
  unfold byte
  cases h : look l x with
  | none => simp
  | some p =>
    obtain ⟨hm, _⟩ := look_mem h
    obtain ⟨i, hi, rfl⟩ := List.getElem_of_mem hm
    simp only
    rw [List.getD_eq_getElem?_getD]
    cases e : l[i].d[(x % 256).toNat]? with
    | none => simp
    | some y => exact hz i hi y (List.mem_of_getElem? e)
/-- The bytes that Read gives. -/
def bs (l : List Pg) (a : Int) (n : Nat) : List Int := (List.range n).map fun k : Nat => byte l (a + (k : Int))
theorem bs_len (l : List Pg) (a : Int) (n : Nat) : (bs l a n).length = n := by simp [bs]
theorem bs_rd {W : World} {base : Nat} {v : Value} {l : List Pg} {a : Int} {n : Nat} (h : W.ownsRow base 5 1 v n ((List.range n).map fun k : Nat => Value.int .u8 (byte l (a + (k : Int))))) (hz : Byt l) (hn : n ≤ 1000000) : ∃ A c, v = .slice A n c ∧ RdB W A n (bs l a n) := by
  have e : ((List.range n).map fun k : Nat => Value.int .u8 (byte l (a + (k : Int)))) = (bs l a n).map (Value.int .u8) := by unfold bs; rw [List.map_map]; rfl
  rw [e] at h
  refine RdB.own h ?_ hn
  intro x hx
  obtain ⟨k, _, rfl⟩ := List.mem_map.1 hx
  exact byte_rng hz _
end Go.Proofs.Ytbbhkjljiljadaa
