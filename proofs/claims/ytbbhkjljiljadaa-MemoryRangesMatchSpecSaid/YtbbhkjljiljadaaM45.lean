/- What the three calls of the ranges' law give, as plain facts; Inserted at a new page. No condition. -/
import Derived.Test.YtbbhkjljiljadaaM44
import Derived.Test.YtbbhkjljiljadaaM36
namespace Go.Proofs.Ytbbhkjljiljadaa
open Go.RowKit
set_option linter.unusedVariables false
set_option linter.unusedSimpArgs false
theorem Ok.cut {l : List Pg} (hk : Ok l) (i n : Nat) : Ok (l.take i ++ l.drop (i + n)) := by
  have hget : ∀ k (h : k < (l.take i ++ l.drop (i + n)).length), ∃ q, ∃ hq : q < l.length, (l.take i ++ l.drop (i + n))[k] = l[q] ∧ q = if k < i then k else k + n := by
    intro k h
    by_cases hki : k < (l.take i).length
    · refine ⟨k, by have := List.length_take_le' i l; omega, ?_, ?_⟩
      · rw [List.getElem_append_left hki, List.getElem_take]
      · rw [if_pos (by have := List.length_take_le i l; omega)]
    · have hil : i ≤ l.length := by
        rcases Nat.lt_or_ge l.length i with h9 | h9
        · have h8 : l.drop (i + n) = [] := List.drop_eq_nil_of_le (by omega)
          rw [List.length_append, h8] at h
          simp only [List.length_nil] at h
          omega
        · exact h9
      have hti : (l.take i).length = i := by rw [List.length_take]; omega
      rw [List.length_append, List.length_drop, hti] at h
      refine ⟨k + n, by omega, ?_, ?_⟩
      · rw [List.getElem_append_right (by omega), List.getElem_drop]
        congr 1; omega
      · rw [if_neg (by omega)]
  refine ⟨?_, ?_, ?_⟩
  · have := hk.len
    rw [List.length_append, List.length_take, List.length_drop]; omega
  · intro x y hx hy hxy
    obtain ⟨q, hq, e, hqe⟩ := hget x hx
    obtain ⟨q', hq', e', hqe'⟩ := hget y hy
    rw [e, e']
    refine hk.inc q q' hq hq' ?_
    rw [hqe, hqe']
    split <;> split <;> omega
  · intro x hx
    obtain ⟨q, hq, e, _⟩ := hget x hx
    rw [e]
    exact hk.pg q hq
theorem Byt.cut {l : List Pg} (hz : Byt l) (i n : Nat) : Byt (l.take i ++ l.drop (i + n)) := by
  intro k h x hx
  have hm : (l.take i ++ l.drop (i + n))[k] ∈ l := by
    rcases List.mem_append.1 (List.getElem_mem h) with h1 | h1
    · exact List.mem_of_mem_take h1
    · exact List.mem_of_mem_drop h1
  obtain ⟨q, hq, e⟩ := List.getElem_of_mem hm
  rw [← e] at hx
  exact hz q hq x hx
theorem uf_cases (l : List Pg) (a n : Int) : uf l a n = (0, 0) ∨ ∃ c i, uf l a n = (c, i) ∧ 0 < c := by
  unfold uf
  split
  · rename_i h
    rcases sp_cases l a n with ⟨h1, _⟩ | ⟨c, i, h1, h2, _⟩
    · exact absurd h1 h
    · exact Or.inr ⟨c, i, h1, h2⟩
  · rcases ms_cases l a n.toNat with ⟨h1, _⟩ | ⟨k, _, h1⟩
    · exact Or.inl h1
    · exact Or.inr ⟨6, k, h1, by decide⟩
theorem code_zero {f : Int × Int} {c i : Int} (h : f = (c, i)) (hf : f = (0, 0) ∨ ∃ c i, f = (c, i) ∧ 0 < c) (hc : c = 0) : f = (0, 0) := by
  rcases hf with h1 | ⟨c', i', h1, h2⟩
  · exact h1
  · rw [h] at h1; injection h1 with h3 _; omega
theorem mf_c (l : List Pg) (a n r : Int) : mf l a n r = (0, 0) ∨ ∃ c i, mf l a n r = (c, i) ∧ 0 < c := by
  rcases mf_cases l a n r with h | ⟨c, i, h, h2, _⟩
  · exact Or.inl h
  · exact Or.inr ⟨c, i, h, h2⟩
theorem pf_c (l : List Pg) (a n r : Int) : pf l a n r = (0, 0) ∨ ∃ c i, pf l a n r = (c, i) ∧ 0 < c := by
  rcases pf_cases l a n r with h | ⟨c, i, h, h2, _⟩
  · exact Or.inl h
  · exact Or.inr ⟨c, i, h, h2⟩
theorem uf_ok {l : List Pg} {a n : Int} (h : uf l a n = (0, 0)) : sp l a n = (0, 0) ∧ ms l a n.toNat = (0, 0) := by
  unfold uf at h
  split at h
  · rename_i h1; exact absurd h h1
  · rename_i h1
    exact ⟨by simpa using h1, h⟩
/-- Unmap's memory, as the law's own list. -/
theorem unm_rd {W : World} {base : Nat} {v : Value} {l : List Pg} {a n : Int} (hu : uf l a n = (0, 0)) (hk : Ok l) (hz : Byt l) (h : ∃ i : Nat, Spot l a i true ∧ i + n.toNat ≤ l.length ∧ OwnM W base v (l.take i ++ l.drop (i + n.toNat))) :
    RdM W v (l.filter (fun p => !inr a n p)) := by
  obtain ⟨i, hs, hin, ho⟩ := h
  obtain ⟨h1, h2⟩ := uf_ok hu
  rcases sp_cases l a n with ⟨_, hv, hq, hn1, _⟩ | ⟨c, i, hc, hc0, _⟩
  · have e : n = (n.toNat : Int) := by omega
    have hall : ∀ j : Nat, j < n.toNat → look l (a + (j : Int) * 256) ≠ none := by
      rcases ms_cases l a n.toNat with ⟨_, h3⟩ | ⟨k, _, h3⟩
      · exact h3
      · rw [h3] at h2; injection h2 with h4 _; omega
    have := cut_filter hk hq hs hall hin
    rw [← e] at this
    rw [this]
    exact own_rd (hk.cut _ _) (hz.cut _ _) ho
  · rw [h1] at hc; injection hc with h3 _; omega
theorem pro_rd {W : World} {base : Nat} {v : Value} {l : List Pg} {a n r : Int} (hp : pf l a n r = (0, 0)) (hk : Ok l) (hz : Byt l) (h : OwnM W base v (prot l a n r)) : RdM W v (l.map (fun p => if inr a n p then ⟨p.a, r, p.d⟩ else p)) := by
  rw [← prot_eq]
  exact own_rd (prot_ok hk (rf_ok (pf_ok hp).2.1)) (prot_byt hz) h
/-- One page more, in the row that Inserted makes. -/
def NwRel (l : List Pg) (a r n : Int) (i : Nat) (W0 : World) (vx vi : Value) (wr : World) : Prop :=
  ∃ k : Nat, vi = .int .i64 k ∧ (k : Int) ≤ n ∧ As (RdM wr vx (ins l i a r k)) ∧ As (Below W0.heap.size W0 wr)
theorem nw_step {l : List Pg} {a n r : Int} (hm : mf l a n r = (0, 0)) (hk : Ok l) (ha : a % 256 = 0) {i : Nat} {ok : Bool} (hs : Spot l a i ok) {k : Nat} (hkn : (k : Int) < n) {q : Nat}
    (hq : q ≤ (ins l i a r k).length) (h1 : ∀ j (h : j < (ins l i a r k).length), j < q → (ins l i a r k)[j].a < a + (k : Int) * 256) (h2 : ∀ h : q < (ins l i a r k).length, a + (k : Int) * 256 ≤ (ins l i a r k)[q].a) :
    (ins l i a r k).take q ++ [⟨a + (k : Int) * 256, r, List.replicate 256 0⟩] ++ (ins l i a r k).drop q = ins l i a r (k + 1) := by
  obtain ⟨_, _, h3, _⟩ := mf_ok hm
  have hno := ex_none h3
  refine ins_step hs.1 (fun j h hj => hs.2.1 j h hj) (fun j h hj => ?_) hq h1 h2
  have := far hk ha hs hno h hj
  omega
theorem zb_rd {W : World} {b : Nat} (h : Bk W b zb 5) : RdB W (some ⟨b, 0, none⟩) 256 (List.replicate 256 0) := by
  refine ⟨List.length_replicate, by omega, fun x hx => by have := List.eq_of_mem_replicate hx; omega, fun _ => ⟨b, 0, rfl, fun j hj => ?_⟩⟩
  rw [Nat.zero_add, h.cell, zb_get hj, List.getD_eq_getElem?_getD, List.getElem?_replicate, if_pos hj]; rfl
theorem inserted_new (v : Value) (m : List Pg) (a r : Int) (b : Nat) (w : World) (hm : RdM w v m) (hz : Bk w b zb 5) (ha : I64 a) (hr : I64 r) (hlen : m.length ≤ 1000000) :
    Calls Try.prog 39 #[v, .agg #[.int .i64 a, .int .i64 r, .slice (some ⟨b, 0, none⟩) 256 256]] w (InPost m ⟨a, r, List.replicate 256 0⟩ w) := by
  obtain ⟨d, hd⟩ : ∃ d : List Int, d = List.replicate 256 0 := ⟨_, rfl⟩
  have hdl : d.length = 256 := by rw [hd]; exact List.length_replicate
  have hz2 := zb_rd hz
  rw [← hd] at hz2 ⊢
  have := inserted_any v m ⟨a, r, d⟩ (some ⟨b, 0, none⟩) 256 w hm (by rw [hdl]; exact hz2) (by rw [hdl]; exact Nat.le_refl _) ha hr hlen
  dsimp only at this
  rw [hdl] at this
  exact this
theorem mod256 {a : Int} {k : Nat} (ha0 : 0 ≤ a) (ha1 : a ≤ 1048576) (hk : k ≤ 200) : I64 (a + (k : Int) * 256) := by unfold I64; omega
theorem ins_len2 {l : List Pg} (hk : Ok l) {a r : Int} {i k : Nat} (hi : i ≤ l.length) (hk2 : k ≤ 200) : (ins l i a r k).length ≤ 1000000 := by rw [ins_len l a r k hi]; have := hk.len; omega
theorem same_true (v u : Value) (l : List Pg) (w : World) (h1 : RdM w v l) (h2 : RdM w u l) : Calls Try.prog 23 #[v, u] w (BPost true w) :=
  (same_any v u l l w h1 h2).mono fun _ _ ⟨b, he, hb, hw⟩ => by
    obtain rfl : b = true := hb.2 rfl
    exact ⟨he, hw⟩
end Go.Proofs.Ytbbhkjljiljadaa
