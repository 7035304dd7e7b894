/- Put of package memory; its effect on the pages. Conditions: the memory is the call own. -/
import Derived.Test.YtbbhkjljiljadaaM10
namespace Go.Proofs.Ytbbhkjljiljadaa
open Go.RowKit
set_option linter.unusedVariables false
set_option linter.unusedSimpArgs false
theorem ret_none {fn : Func} {R : Ending → World → Prop} {a : Act} {W : World} (h : fn.results = #[]) (hd : a.defers = []) (hR : R (.returned (.tuple #[])) W) : bodyPost Try.prog fn R .normal a W :=
  ⟨hd, .tuple #[], by simp [results, h], hR⟩
theorem Part.below {w0 W w1 : World} {base g cap : Nat} {l : List Pg} {i : Nat} {cur : Array Value} {D C : Nat → Nat} {dc : Nat → Array Value} (hp : Part w0 W base g cap l i cur D C dc) (hb : Below W.heap.size W w1) : Part w0 w1 base g cap l i cur D C dc :=
  ⟨hp.blk.below hb, hp.size, hp.fits, hp.most, hp.low, hp.adr, hp.rts, fun k h hk => by obtain ⟨h1, h2, h3, h4, h5⟩ := hp.own k h hk; exact ⟨h1, h2, h3, h4, h5.below hb⟩, hp.byt, hp.oth, hp.dif⟩
theorem OwnM.below {W w1 : World} {base : Nat} {v : Value} {l : List Pg} (h : OwnM W base v l) (hb : Below W.heap.size W w1) : OwnM w1 base v l := by
  rcases h with ⟨e, h⟩ | ⟨w0, g, cap, cur, D, C, dc, e, hp⟩
  · exact Or.inl ⟨e, h.below hb⟩
  · exact Or.inr ⟨w0, g, cap, cur, D, C, dc, e, hp.below hb⟩
theorem Part.put {w0 W : World} {base g cap : Nat} {l l' : List Pg} {i q : Nat} {cur : Array Value} {D C : Nat → Nat} {dc : Nat → Array Value} (hp : Part w0 W base g cap l l.length cur D C dc) (hi : i < l.length) (hq : q < 256) (b : Int)
    (hl : l'.length = l.length) (ha : ∀ k (h : k < l.length), (l'[k]'(hl ▸ h)).a = l[k].a) (hr : ∀ k (h : k < l.length), (l'[k]'(hl ▸ h)).r = l[k].r) (hd : ∀ k (h : k < l.length), k ≠ i → (l'[k]'(hl ▸ h)).d = l[k].d)
    (hdi : ∀ j, j < 256 → (l'[i]'(hl ▸ hi)).d.getD j 0 = if j = q then b else l[i].d.getD j 0) :
    Part w0 (W.setCell ⟨D i, q, none⟩ (.int .u8 b)) base g cap l' l'.length cur D C (fun k => if k = i then (dc i).setIfInBounds q (.int .u8 b) else dc k) := by
  have oi := hp.own i hi hi
  refine ⟨hp.blk.other oi.2.2.2.1 _, hp.size, by rw [hl]; exact hp.fits, hp.most, hp.low, ?_, ?_, ?_, ?_, fun k h hk => absurd h (by omega), ?_⟩
  · intro k h
    rw [ha k (by omega)]; exact hp.adr k (by omega)
  · intro k h
    rw [hr k (by omega)]; exact hp.rts k (by omega)
  · intro k h hk
    obtain ⟨h1, h2, h3, h4, h5⟩ := hp.own k (by omega) (by omega)
    refine ⟨h1, h2, h3, h4, ?_⟩
    by_cases e : k = i
    · subst e
      simp only [if_true]
      exact h5.set' _ _
    · simp only [if_neg e]
      exact h5.other (hp.dif i k hi (by omega) (Ne.symm e)) _
  · intro k h hk j hj
    by_cases e : k = i
    · subst e
      simp only [if_true]
      have hs : q < (dc k).size := (Array.getElem?_eq_some_iff.1 (hp.byt k hi hi q hq)).1
      rw [hdi j hj]
      by_cases e2 : j = q
      · subst e2
        simp [hs]
      · rw [Array.getElem?_setIfInBounds_ne (Ne.symm e2), if_neg e2]
        exact hp.byt k hi hi j hj
    · simp only [if_neg e]
      rw [hd k (by omega) e]
      exact hp.byt k (by omega) (by omega) j hj
  · intro j k hj hk hne
    exact hp.dif j k (by omega) (by omega) hne
theorem Part.right {w0 W : World} {base g cap : Nat} {l l' : List Pg} {i : Nat} {cur : Array Value} {D C : Nat → Nat} {dc : Nat → Array Value} (hp : Part w0 W base g cap l l.length cur D C dc) (hi : i < l.length) (r : Int)
    (hl : l'.length = l.length) (ha : ∀ k (h : k < l.length), (l'[k]'(hl ▸ h)).a = l[k].a) (hr : ∀ k (h : k < l.length), k ≠ i → (l'[k]'(hl ▸ h)).r = l[k].r) (hd : ∀ k (h : k < l.length), (l'[k]'(hl ▸ h)).d = l[k].d)
    (hri : (l'[i]'(hl ▸ hi)).r = r) :
    Part w0 (W.setCell ⟨g, i * 3 + 1, none⟩ (.int .i64 r)) base g cap l' l'.length (cur.setIfInBounds (i * 3 + 1) (.int .i64 r)) D C dc := by
  refine ⟨hp.blk.set' _ _, by simpa using hp.size, by rw [hl]; exact hp.fits, hp.most, hp.low, ?_, ?_, ?_, ?_, fun k h hk => absurd h (by omega), ?_⟩
  · intro k h
    rw [ha k (by omega), Array.getElem?_setIfInBounds_ne (by omega)]; exact hp.adr k (by omega)
  · intro k h
    by_cases e : k = i
    · subst e
      have hs : k * 3 + 1 < cur.size := by rw [hp.size]; have := hp.fits; omega
      rw [hri]; simp [hs]
    · rw [hr k (by omega) e, Array.getElem?_setIfInBounds_ne (by omega)]; exact hp.rts k (by omega)
  · intro k h hk
    obtain ⟨h1, h2, h3, h4, h5⟩ := hp.own k (by omega) (by omega)
    exact ⟨by rw [Array.getElem?_setIfInBounds_ne (by omega)]; exact h1, h2, h3, h4, h5.other (Ne.symm h4) _⟩
  · intro k h hk j hj
    rw [hd k (by omega)]
    exact hp.byt k (by omega) (by omega) j hj
  · intro j k hj hk hne
    exact hp.dif j k (by omega) (by omega) hne
/-- What Put does to the pages. -/
def put (l : List Pg) (a b : Int) : List Pg := l.map fun p => if p.a = a - a % 256 then ⟨p.a, p.r, p.d.set (a % 256).toNat b⟩ else p
theorem put_len (l : List Pg) (a b : Int) : (put l a b).length = l.length := by simp [put]
theorem put_get (l : List Pg) (a b : Int) (k : Nat) (h : k < l.length) : (put l a b)[k]'(by rw [put_len]; exact h) = if l[k].a = a - a % 256 then ⟨l[k].a, l[k].r, l[k].d.set (a % 256).toNat b⟩ else l[k] := by simp [put]
theorem put_a (l : List Pg) (a b : Int) (k : Nat) (h : k < l.length) : ((put l a b)[k]'(by rw [put_len]; exact h)).a = l[k].a := by rw [put_get l a b k h]; split <;> rfl
theorem put_r (l : List Pg) (a b : Int) (k : Nat) (h : k < l.length) : ((put l a b)[k]'(by rw [put_len]; exact h)).r = l[k].r := by rw [put_get l a b k h]; split <;> rfl
theorem put_dlen (l : List Pg) (a b : Int) (k : Nat) (h : k < l.length) : ((put l a b)[k]'(by rw [put_len]; exact h)).d.length = l[k].d.length := by rw [put_get l a b k h]; split <;> simp
theorem Ok.put {l : List Pg} (h : Ok l) (a b : Int) : Ok (put l a b) := by
  refine ⟨by rw [put_len]; exact h.len, ?_, ?_⟩
  · intro i j hi hj hij
    rw [put_len] at hi hj
    rw [put_a l a b i hi, put_a l a b j hj]
    exact h.inc i j hi hj hij
  · intro i hi
    rw [put_len] at hi
    rw [put_a l a b i hi, put_r l a b i hi, put_dlen l a b i hi]
    exact h.pg i hi
theorem Byt.put {l : List Pg} (h : Byt l) (a : Int) {b : Int} (hb : 0 ≤ b ∧ b ≤ 255) : Byt (put l a b) := by
  intro i hi x hx
  rw [put_len] at hi
  rw [put_get l a b i hi] at hx
  split at hx
  · rcases List.mem_or_eq_of_mem_set hx with h1 | h1
    · exact h i hi x h1
    · rw [h1]; exact hb
  · exact h i hi x hx
def PutPost (l : List Pg) (W : World) (base : Nat) (v : Value) (e : Ending) (w' : World) : Prop := e = .returned (.tuple #[]) ∧ OwnM w' base v l ∧ Below base W w'
set_option maxHeartbeats 4000000 in
theorem put_any (v : Value) (l : List Pg) (a b : Int) (W : World) (base : Nat) (ho : OwnM W base v l) (hk : Ok l) (hz : Byt l) (h0 : 0 ≤ a) (h1 : a < 4611686018427387904) (hb0 : base ≤ W.heap.size) : Calls Try.prog 66 #[v, .int .i64 a, .int .u8 b] W (PutPost (put l a b) W base v) := by
  have HR := As.mk (own_rd hk hz ho)
  have HK := As.mk hk
  have HO := As.mk ho
  obtain ⟨A, c, rfl, hr⟩ := id HR.out
  clear hk ho hr
  have hlen := HK.out.len
  go_enter Try.func66, Try.ntmps66
  go_wp2_with fail
  refine (find_any _ l a W HR.out HK.out.inc h0 h1).mono ?_
  rintro e w1 ⟨i, ok, hsp, rfl, hb⟩
  have HO1 := As.mk (HO.out.below hb)
  have HB := As.mk (hb.mono hb0)
  rcases hsp.look HK.out.inc with ⟨rfl, hi, hlk, he⟩ | ⟨rfl, hlk⟩
  · rcases HO1.out with ⟨e0, _⟩ | ⟨w0, g, cap, cur, D, C, dc, e0, hp⟩
    · subst e0
      exact absurd hi (by simp)
    · injection e0 with e1 _ e2
      subst e1 e2
      obtain ⟨o1, o2, o3, o4, o5⟩ := hp.own i hi hi
      have hq : (a % 256).toNat < 256 := by omega
      have hz5 := hp.blk.cell (i * 3 + 2)
      rw [o1] at hz5
      have hz6 := o5.cell (a % 256).toNat
      rw [hp.byt i hi hi _ hq] at hz6
      have hz7 := o5.frozen (a % 256).toNat
      have NP := As.mk (hp.put (l' := put l a b) (q := (a % 256).toNat) hi hq b (put_len l a b) (put_a l a b) (put_r l a b)
        (fun k h hne => by
          rw [put_get l a b k h, if_neg]
          intro he2
          rcases Nat.lt_or_gt_of_ne hne with h' | h'
          · have := HK.out.inc k i h hi h'; omega
          · have := HK.out.inc i k hi h h'; omega)
        (fun j hj => by
          rw [put_get l a b i hi, if_pos he]
          have hdl := (HK.out.pg i hi).2.2.2.2.2
          simp only [List.getD_eq_getElem?_getD]
          by_cases e : j = (a % 256).toNat
          · rw [if_pos e, e, List.getElem?_set_self (by omega)]; rfl
          · rw [if_neg e, List.getElem?_set_ne (Ne.symm e)]))
      have em : ∀ [Inhabited Nat], a.tmod 256 = ((a % 256).toNat : Int) := by intro _; rw [Int.tmod_eq_emod_of_nonneg h0]; omega
      have ho3 := As.mk o3
      generalize (a % 256).toNat = q at *
      clear hsp hlk he hb hp o1 o5 HO1 o3
      go_wp2
      refine ret_none rfl rfl ⟨rfl, Or.inr ⟨w0, g, c, cur, D, C, _, by rw [put_len], NP.out⟩, ?_⟩
      exact HB.out.setCell ho3.out _
  · have NP : As (put l a b = l) := ⟨by
      have : ∀ k (h : k < l.length), l[k].a ≠ a - a % 256 := by
        intro k h he
        rw [look_some HK.out.inc h he] at hlk
        cases hlk
      unfold put
      conv => rhs; rw [← List.map_id l]
      apply List.map_congr_left
      intro p hp
      obtain ⟨k, h, rfl⟩ := List.getElem_of_mem hp
      rw [if_neg (this k h)]; rfl⟩
    clear hsp hlk hb
    go_wp2
    refine ret_none rfl rfl ⟨rfl, by rw [NP.out]; exact HO1.out, HB.out⟩
end Go.Proofs.Ytbbhkjljiljadaa
