/- Rows of pages; New of package memory. Conditions: the memory reads as those pages, which are valid. -/
import Derived.Test.YtbbhkjljiljadaaM18
namespace Go.Proofs.Ytbbhkjljiljadaa
open Go.RowKit
set_option linter.unusedVariables false
set_option linter.unusedSimpArgs false
/-- Cells that read as pages, whose bytes lie in blocks with B. -/
def RowP (W : World) (B : Nat → Prop) (xs : List Value) (l : List Pg) : Prop :=
  xs.length = l.length * 3 ∧ ∀ k (h : k < l.length), I64 l[k].a ∧ I64 l[k].r ∧ xs[k * 3]? = some (.int .i64 l[k].a) ∧ xs[k * 3 + 1]? = some (.int .i64 l[k].r) ∧
    ∃ A c, xs[k * 3 + 2]? = some (.slice A l[k].d.length c) ∧ l[k].d.length ≤ c ∧ RdB W A l[k].d.length l[k].d ∧ (0 < l[k].d.length → ∀ b off, A = some ⟨b, off, none⟩ → B b)
theorem RowP.nil (W : World) (B : Nat → Prop) : RowP W B [] [] := ⟨rfl, fun k h => absurd h (by simp)⟩
theorem RowP.app {W : World} {B : Nat → Prop} {xs ys : List Value} {l m : List Pg} (h : RowP W B xs l) (k : RowP W B ys m) : RowP W B (xs ++ ys) (l ++ m) := by
  have hl := h.1
  have hm := k.1
  refine ⟨by rw [List.length_append, List.length_append]; omega, fun j hj => ?_⟩
  rw [List.length_append] at hj
  by_cases c : j < l.length
  · have e : (l ++ m)[j]'(by rw [List.length_append]; omega) = l[j] := List.getElem_append_left c
    rw [e, List.getElem?_append_left (by omega), List.getElem?_append_left (by omega), List.getElem?_append_left (by omega)]
    exact h.2 j c
  · have e : (l ++ m)[j]'(by rw [List.length_append]; omega) = m[j - l.length]'(by omega) := List.getElem_append_right (by omega)
    rw [e, List.getElem?_append_right (by omega), List.getElem?_append_right (by omega), List.getElem?_append_right (by omega)]
    have := k.2 (j - l.length) (by omega)
    rw [show j * 3 - xs.length = (j - l.length) * 3 from by omega, show j * 3 + 1 - xs.length = (j - l.length) * 3 + 1 from by omega, show j * 3 + 2 - xs.length = (j - l.length) * 3 + 2 from by omega]
    exact this
theorem RowP.take {W : World} {B : Nat → Prop} {xs : List Value} {l : List Pg} (h : RowP W B xs l) (i : Nat) : RowP W B (xs.take (i * 3)) (l.take i) := by
  have hl := h.1
  refine ⟨by rw [List.length_take, List.length_take]; omega, fun j hj => ?_⟩
  rw [List.length_take] at hj
  rw [List.getElem_take, List.getElem?_take_of_lt (by omega), List.getElem?_take_of_lt (by omega), List.getElem?_take_of_lt (by omega)]
  exact h.2 j (by omega)
theorem RowP.drop {W : World} {B : Nat → Prop} {xs : List Value} {l : List Pg} (h : RowP W B xs l) (i : Nat) : RowP W B (xs.drop (i * 3)) (l.drop i) := by
  have hl := h.1
  refine ⟨by rw [List.length_drop, List.length_drop]; omega, fun j hj => ?_⟩
  rw [List.length_drop] at hj
  rw [List.getElem_drop, List.getElem?_drop, List.getElem?_drop, List.getElem?_drop, show i * 3 + j * 3 = (i + j) * 3 from by omega, show i * 3 + (j * 3 + 1) = (i + j) * 3 + 1 from by omega, show i * 3 + (j * 3 + 2) = (i + j) * 3 + 2 from by omega]
  exact h.2 (i + j) (by omega)
theorem RdB.grown {w w' : World} {A : Option Addr} {n : Nat} {zs : List Int} {g : Option Nat} (h : RdB w A n zs) (hg : w.grownBy w' g) (hb : 0 < n → ∀ b off, A = some ⟨b, off, none⟩ → some b ≠ g) : RdB w' A n zs := by
  obtain ⟨h1, h2, h3, h4⟩ := h
  refine ⟨h1, h2, h3, fun hn => ?_⟩
  obtain ⟨b, off, e, hc⟩ := h4 hn
  refine ⟨b, off, e, fun j hj => ?_⟩
  have := hc j hj
  rw [← this]
  exact World.cell?_of_block (hg.block b (World.block_lt_of_cell? w _ this) (hb hn b off e))
theorem RowP.grown {W W' : World} {B : Nat → Prop} {xs : List Value} {l : List Pg} {g : Option Nat} (h : RowP W B xs l) (hg : W.grownBy W' g) (hb : ∀ b, B b → some b ≠ g) : RowP W' B xs l := by
  refine ⟨h.1, fun k hk => ?_⟩
  obtain ⟨h1, h2, h3, h4, A, c, h5, h6, h7, h8⟩ := h.2 k hk
  exact ⟨h1, h2, h3, h4, A, c, h5, h6, h7.grown hg (fun h0 b off e => hb b (h8 h0 b off e)), h8⟩
theorem RowP.below {W W' : World} {B : Nat → Prop} {xs : List Value} {l : List Pg} (h : RowP W B xs l) (hg : Below W.heap.size W W') : RowP W' B xs l := by
  refine ⟨h.1, fun k hk => ?_⟩
  obtain ⟨h1, h2, h3, h4, A, c, h5, h6, h7, h8⟩ := h.2 k hk
  exact ⟨h1, h2, h3, h4, A, c, h5, h6, h7.below hg, h8⟩
theorem RowP.imp {W : World} {B B' : Nat → Prop} {xs : List Value} {l : List Pg} (h : RowP W B xs l) (hb : ∀ b, B b → B' b) : RowP W B' xs l := by
  refine ⟨h.1, fun k hk => ?_⟩
  obtain ⟨h1, h2, h3, h4, A, c, h5, h6, h7, h8⟩ := h.2 k hk
  exact ⟨h1, h2, h3, h4, A, c, h5, h6, h7, fun h0 b off e => hb b (h8 h0 b off e)⟩
theorem RowP.rd {W : World} {B : Nat → Prop} {xs : List Value} {l : List Pg} (h : RowP W B xs l) (hb : l.length * 40 ≤ 140737488351232) {g c : Nat} (hc : l.length ≤ c) (hcell : ∀ (j : Nat) (u : Value), xs[j]? = some u → W.cell? ⟨g, j, none⟩ = some u) : RdM W (.slice (some ⟨g, 0, none⟩) l.length c) l := by
  refine ⟨_, c, rfl, hc, hb, fun _ => ⟨g, 0, rfl, fun k hk => ?_⟩⟩
  obtain ⟨h1, h2, h3, h4, A, c, h5, h6, h7, h8⟩ := h.2 k hk
  rw [Nat.zero_add]
  exact ⟨h1, h2, hcell _ _ h3, hcell _ _ h4, A, c, hcell _ _ h5, h6, h7⟩
theorem RowP.one {W : World} {B : Nat → Prop} {p : Pg} {A : Option Addr} {c : Nat} (h1 : I64 p.a) (h2 : I64 p.r) (h6 : p.d.length ≤ c) (h7 : RdB W A p.d.length p.d) (h8 : 0 < p.d.length → ∀ b off, A = some ⟨b, off, none⟩ → B b) : RowP W B [.int .i64 p.a, .int .i64 p.r, .slice A p.d.length c] [p] := by
  refine ⟨rfl, fun k hk => ?_⟩
  simp only [List.length_singleton] at hk
  obtain rfl : k = 0 := by omega
  exact ⟨h1, h2, rfl, rfl, A, c, rfl, h6, h7, h8⟩
theorem RowP.one' {W : World} {B : Nat → Prop} {xs : List Value} {l : List Pg} (h : RowP W B xs l) : ∀ u ∈ xs, u.oneCell' = true := by
  intro u hu
  obtain ⟨t, ht, rfl⟩ := List.mem_iff_getElem.1 hu
  have hl := h.1
  have hk : t / 3 < l.length := by omega
  obtain ⟨h1, h2, h3, h4, A, c, h5, h6, h7, h8⟩ := h.2 (t / 3) hk
  have h0 : xs[t]? = some xs[t] := List.getElem?_eq_getElem ht
  have : t = t / 3 * 3 + 0 ∨ t = t / 3 * 3 + 1 ∨ t = t / 3 * 3 + 2 := by omega
  rcases this with e | e | e
  · rw [Nat.add_zero] at e; rw [← e, h0] at h3; injection h3 with h3; rw [h3]; rfl
  · rw [← e, h0] at h4; injection h4 with h4; rw [h4]; rfl
  · rw [← e, h0] at h5; injection h5 with h5; rw [h5]; rfl
/-- The cells of a memory of its own. -/
theorem Part.row {w0 W : World} {base g cap : Nat} {l : List Pg} {cur : Array Value} {D C : Nat → Nat} {dc : Nat → Array Value} (hp : Part w0 W base g cap l l.length cur D C dc) (hk : Ok l) (hz : Byt l) : RowP W (fun b => b ≠ g) (cur.toList.take (l.length * 3)) l := by
  have hs := hp.size
  have hf := hp.fits
  have hq : cur.toList.length = cur.size := Array.length_toList
  refine ⟨by rw [List.length_take, hq]; omega, fun k h => ?_⟩
  obtain ⟨h1, h2, h3, h4, h5⟩ := hp.own k h h
  obtain ⟨p1, p2, p3, p4, p5, p6⟩ := hk.pg k h
  rw [List.getElem?_take_of_lt (by omega), List.getElem?_take_of_lt (by omega), List.getElem?_take_of_lt (by omega), Array.getElem?_toList, Array.getElem?_toList, Array.getElem?_toList]
  refine ⟨by unfold I64; omega, by unfold I64; omega, hp.adr k h, hp.rts k h, some ⟨D k, 0, none⟩, C k, by rw [h1, p6], by omega, ?_, fun _ b off e => by injection e with e; injection e with e1; rw [← e1]; exact h4⟩
  refine ⟨rfl, by omega, hz k h, fun _ => ⟨D k, 0, rfl, fun j hj => ?_⟩⟩
  rw [Nat.zero_add, h5.cell]
  exact hp.byt k h h j (by omega)
def IoPost (l m : List Pg) (i : Nat) (W : World) (base : Nat) (e : Ending) (w' : World) : Prop := ∃ v, e = .returned v ∧ RdM w' v (l.take i ++ m ++ l.drop i) ∧ Below base W w'
/-- slices.Insert at a memory of its own. -/
theorem insert_own (v2 : Value) (l m : List Pg) (i vb vc base : Nat) (vcur : Array Value) (vs : List Value) (W : World) (ho : OwnN W base v2 l) (hk : Ok l) (hz : Byt l) (hi : i ≤ l.length) (hm : 0 < m.length) (hm2 : m.length ≤ 200) (hbase : base ≤ W.heap.size)
    (hlow : ∀ g, v2.ownBlock = some g → vb ≠ g) (hV : Bk W vb vcur 68) (hvs : ∀ (j : Nat) (u : Value), vs[j]? = some u → vcur[j]? = some u) (hR : RowP W (fun b => some b ≠ v2.ownBlock) vs m) :
    Calls Try.prog 75 #[v2, .int .i64 i, .slice (some ⟨vb, 0, none⟩) m.length vc] W (IoPost l m i W base) := by
  have hl2 := hk.len
  have hlen : (l.take i ++ m ++ l.drop i).length = l.length + m.length := by simp; omega
  have h1v := hR.one'
  rcases ho with ⟨rfl, rfl⟩ | ⟨w0, g, cap, cur, D, C, dc, rfl, hp⟩
  · obtain rfl : i = 0 := by simpa using hi
    refine (insert_end (.slice none 0 0) base 0 m.length vb vc vcur [] vs W ⟨rfl, Or.inl ⟨rfl, rfl⟩⟩ hm (by omega) hbase hV hR.1 hvs h1v).mono ?_
    rintro e w' ⟨g', cap', rfl, hc, hcell, hg⟩
    rw [Nat.zero_add] at hc
    refine ⟨_, rfl, ?_, ?_⟩
    · have := (hR.grown hg (fun b hb => hb)).rd (g := g') (c := cap') (by omega) hc (by simpa using hcell)
      simpa using this
    · exact (Below.refl _ _).grown hg hbase (fun k hk => by simp [Value.ownBlock] at hk)
  · have hrow := hp.row hk hz
    have hlow' := hlow g rfl
    have hrow' : RowP W (fun b => some b ≠ some g) (cur.toList.take (l.length * 3)) l := hrow.imp (fun b h h2 => h (by injection h2))
    have hRg : RowP W (fun b => some b ≠ some g) vs m := hR
    have hall := ((hrow'.take i).app hRg).app (hrow'.drop i)
    have hcs : ∀ (j : Nat) (u : Value), (cur.toList.take (l.length * 3))[j]? = some u → cur[j]? = some u := by
      intro j u hj
      rw [List.getElem?_take] at hj
      split at hj
      · rwa [Array.getElem?_toList] at hj
      · cases hj
    have fin : ∀ (e : Ending) (w' : World), InsPost W g l.length m.length ((cur.toList.take (l.length * 3)).take (i * 3) ++ vs ++ (cur.toList.take (l.length * 3)).drop (i * 3)) e w' → IoPost l m i W base e w' := by
      rintro e w' ⟨g', cap', rfl, hc, hcell, hg⟩
      have hrd := (hall.grown hg (fun b hb => hb)).rd (g := g') (c := cap') (by rw [hlen]; omega) (by rw [hlen]; exact hc) hcell
      rw [hlen] at hrd
      exact ⟨_, rfl, hrd, (Below.refl _ _).grown hg hbase (fun k hk => by injection hk with hk; rw [← hk]; exact hp.low)⟩
    have hcap := hp.cap
    rcases Nat.lt_or_ge i l.length with hlt | hge
    · rcases Nat.lt_or_ge cap (l.length + m.length) with hroom | hroom
      · exact (insert_grow g cap l.length i m.length vb vc cur vcur _ vs W hp.blk hp.size hp.fits hroom (by omega) hlt hm hlow' hV hrow.1 hR.1 hcs hvs hrow.one' h1v).mono fin
      · exact (insert_shift g cap l.length i m.length vb vc cur vcur _ vs W hp.blk hp.size hroom hcap hlt hm hlow' hV hrow.1 hR.1 hcs hvs hrow.one' h1v).mono fin
    · obtain rfl : i = l.length := by omega
      have hown : W.ownsRow base 68 3 (.slice (some ⟨g, 0, none⟩) l.length cap) l.length (cur.toList.take (l.length * 3)) := ⟨hrow.1, Or.inr ⟨g, cap, cur, rfl, hp.low, hp.blk, hp.fits, hp.most, hp.size, rfl⟩⟩
      refine (insert_end _ base l.length m.length vb vc vcur _ vs W hown hm (by omega) hbase hV hR.1 hvs h1v).mono ?_
      rintro e w' ⟨g', cap', rfl, hc, hcell, hg⟩
      refine fin _ _ ⟨g', cap', rfl, hc, ?_, hg⟩
      rw [List.take_of_length_le (by rw [hrow.1]; omega), List.drop_of_length_le (by rw [hrow.1]; omega), List.append_nil]
      exact hcell
theorem OwnN.below {W w1 : World} {base : Nat} {v : Value} {l : List Pg} (h : OwnN W base v l) (hb : Below W.heap.size W w1) : OwnN w1 base v l := by
  rcases h with h | ⟨w0, g, cap, cur, D, C, dc, e, hp⟩
  · exact Or.inl h
  · exact Or.inr ⟨w0, g, cap, cur, D, C, dc, e, hp.below hb⟩
theorem OwnN.lt {W : World} {base : Nat} {v : Value} {l : List Pg} (h : OwnN W base v l) {g : Nat} (hg : v.ownBlock = some g) : g < W.heap.size := by
  rcases h with ⟨_, rfl⟩ | ⟨w0, g', cap, cur, D, C, dc, rfl, hp⟩
  · simp [Value.ownBlock] at hg
  · have : g' = g := by simpa [Value.ownBlock] using hg
    rw [← this]; exact hp.blk.lt
/-- New zero pages. -/
def newP (a r : Int) (n : Nat) : List Pg := (List.range n).map fun k : Nat => ⟨a + (k : Int) * 256, r, List.replicate 256 0⟩
def rowN (a r : Int) (D : Nat → Nat) (n : Nat) : List Value := (List.range n).flatMap fun k : Nat => [.int .i64 (a + (k : Int) * 256), .int .i64 r, .slice (some ⟨D k, 0, none⟩) 256 256]
theorem rowN_succ (a r : Int) (D : Nat → Nat) (n : Nat) : rowN a r D (n + 1) = rowN a r D n ++ [.int .i64 (a + (n : Int) * 256), .int .i64 r, .slice (some ⟨D n, 0, none⟩) 256 256] := by
  simp [rowN, List.range_succ]
theorem newP_succ (a r : Int) (n : Nat) : newP a r (n + 1) = newP a r n ++ [⟨a + (n : Int) * 256, r, List.replicate 256 0⟩] := by
  unfold newP; rw [List.range_succ, List.map_append]; rfl
theorem newP_len (a r : Int) (n : Nat) : (newP a r n).length = n := by unfold newP; rw [List.length_map, List.length_range]
theorem rowN_cong (a r : Int) (D D' : Nat → Nat) (n : Nat) (h : ∀ k, k < n → D k = D' k) : rowN a r D n = rowN a r D' n := by
  induction n with
  | zero => rfl
  | succ n ih => rw [rowN_succ, rowN_succ, ih (fun k hk => h k (by omega)), h n (by omega)]
/-- The bytes of a zero page. -/
def zb : Array Value := madeCells #[.int .u8 0] 256
theorem zb_get {j : Nat} (h : j < 256) : zb[j]? = some (.int .u8 0) := by
  have hs : zb.size = 256 := size_madeCells _ _
  rw [Array.getElem?_eq_getElem (by omega)]
  have : j % 1 = 0 := Nat.mod_one j
  simp only [zb, madeCells, Array.getElem_map, Array.getElem_range]
  rw [show (#[Value.int .u8 0] : Array Value).size = 1 from rfl, this]
  rfl
theorem mk256 (w : World) : (Instr.makeSlice 66 (.int .i64 256) (.int .i64 256)).run Try.prog w = .ok (.slice (some ⟨w.heap.size, 0, none⟩) 256 256) (w.alloc (.cells zb 5)) := by
  obtain ⟨i, hi, h0, h3, h4⟩ := info_parts inf5
  have := run_make (P := Try.prog) w 66 5 i _ Try.underlying66 hi h0 .i64 .i64 256 256 (by omega) (by omega) (by rw [h4]; omega) (by omega)
  rw [h3] at this
  exact this
theorem rowp_ne {w : World} {base : Nat} {v : Value} {n : Nat} {xs : List Value} {g : Nat} {cs : Array Value} (h : w.ownsRow base 68 3 v n xs) (hg : Bk w g cs 5) : some g ≠ v.ownBlock := by
  rcases h.2 with ⟨rfl, _⟩ | ⟨g', cap, cur, rfl, _, hh, _⟩
  · simp [Value.ownBlock]
  · intro he
    have : g = g' := by simpa [Value.ownBlock] using he
    subst this
    have hg' : w.heap[g]? = some (.cells cs 5 (0, 0)) := hg
    rw [hg'] at hh
    injection hh with hh
    injection hh with _ h2
    cases h2
/-- append of one page to a row of the call's own. -/
theorem ap_pg {ops : Array Oper} {rest : List Oper} {o : Oper} {a : Act} {Q : Exit → Act → World → Prop} {W : World} {base : Nat} (hgd : o.guard = none) (s x : Operand) (t : TypeId) (ht : Try.prog.underlying t = some (.slice 68))
    (ho : o.op = .call { callee := .builtin .append, args := #[s, x], argTypes := #[t, t] })
    (v : Value) (n : Nat) (xs : List Value) (y0 y1 y2 : Value) (g c : Nat) (hs : a.eval s = v) (hx : a.eval x = .slice (some ⟨g, 0, none⟩) 1 c) (hB : Bk W g #[y0, y1, y2] 68) (h1 : ∀ u ∈ [y0, y1, y2], u.oneCell' = true)
    (HO : W.ownsRow base 68 3 v n xs) (hbase : base ≤ W.heap.size) (hl : n ≤ 3518437208783)
    (h : ∀ v1 w1, w1.ownsRow base 68 3 v1 (n + 1) (xs ++ [y0, y1, y2]) → W.grownBy w1 v.ownBlock → wpList Try.prog ops Q rest (a.put o.dst v1) w1) :
    wpList Try.prog ops Q (o :: rest) a W := by
  obtain ⟨i0, hi, hz0, hz1, hz2⟩ := info_parts inf68
  refine wpList_append_own W hgd s x t ho base 68 i0 _ 3 40 ht hi hz0 hz1 hz2 rfl (by omega) v n xs hs HO ⟨g, 0, none⟩ 1 c [y0, y1, y2] hx rfl
    (World.news_of_block (cs := #[y0, y1, y2]) (t := 68) (fr := (0, 0)) hB) h1 (by simp only [maxLen]; omega) (by omega) hbase ?_
  intro v1 w1 hown hg _
  exact h v1 w1 hown hg
theorem newRow_ok {W : World} {a r : Int} (ha : ∀ k : Nat, k ≤ 200 → I64 (a + (k : Int) * 256)) (hr : I64 r) (D : Nat → Nat) (B : Nat → Prop) : ∀ n, n ≤ 200 → (∀ j, j < n → Bk W (D j) zb 5 ∧ B (D j)) → RowP W B (rowN a r D n) (newP a r n)
  | 0, _, _ => RowP.nil _ _
  | n + 1, hn, h => by
    rw [rowN_succ, newP_succ]
    obtain ⟨hB, hBB⟩ := h n (by omega)
    refine (newRow_ok ha hr D B n (by omega) (fun j hj => h j (by omega))).app ?_
    have hl : (List.replicate 256 (0 : Int)).length = 256 := List.length_replicate ..
    have := RowP.one (W := W) (B := B) (p := ⟨a + (n : Int) * 256, r, List.replicate 256 0⟩) (A := some ⟨D n, 0, none⟩) (c := 256) (ha n (by omega)) hr (by rw [hl]; omega) ⟨rfl, by rw [hl]; omega, ?_, fun _ => ⟨D n, 0, rfl, ?_⟩⟩ (fun _ b off e => by injection e with e; injection e with e1; rw [← e1]; exact hBB)
    · rw [hl] at this
      exact this
    · intro x hx
      rw [List.mem_replicate] at hx
      omega
    · intro j hj
      rw [hl] at hj
      rw [Nat.zero_add, hB.cell, zb_get hj, List.getD_eq_getElem?_getD, List.getElem?_replicate, if_pos hj]
      rfl
def NRel (a r : Int) (n : Nat) (W3 : World) (vi vs : Value) (wr : World) : Prop :=
  ∃ (k : Nat) (D : Nat → Nat), vi = .int .i64 k ∧ k ≤ n ∧ As (wr.ownsRow W3.heap.size 68 3 vs k (rowN a r D k)) ∧ As (∀ j, j < k → Bk wr (D j) zb 5 ∧ W3.heap.size ≤ D j) ∧ As (Below W3.heap.size W3 wr)
def NPost (l : List Pg) (a r : Int) (n : Nat) (w : World) (e : Ending) (w' : World) : Prop :=
  ∃ (v : Value) (i : Nat) (ok : Bool), e = .returned v ∧ Spot l (a - a % 256) i ok ∧ RdM w' v (l.take i ++ newP a r n ++ l.drop i) ∧ Below w.heap.size w w'
set_option maxHeartbeats 4000000 in
set_option maxRecDepth 100000 in
theorem new_any (v : Value) (l : List Pg) (a r : Int) (n : Nat) (w : World) (hm : RdM w v l) (hk : Ok l) (h0 : 0 ≤ a) (h1 : a ≤ 1048576) (hn : 1 ≤ n) (hn2 : n ≤ 200) (hr : I64 r) : Calls Try.prog 60 #[v, .int .i64 a, .int .i64 n, .int .i64 r] w (NPost l a r n w) := by
  have HM := As.mk hm
  have HK := As.mk hk
  have HR := As.mk hr
  clear hm hk hr
  go_enter Try.func60, Try.ntmps60
  go_wp2_with fail
  refine (clone_own v l _ HM.out HK.out).mono ?_
  rintro e W2 ⟨v2, rfl, hown, hb2⟩
  have HO2 := As.mk hown
  have HB2 := As.mk hb2
  clear hown hb2
  go_wp2_with fail
  refine (find_any v l a _ (HM.out.below HB2.out) HK.out.inc h0 (by omega)).mono ?_
  rintro e W3 ⟨i, ok, hsp, rfl, hb3⟩
  have HS := As.mk hsp
  have HB3 := As.mk hb3
  clear hsp hb3
  go_wp2
  go_loopw [12, 23] (fun vs vi wr => NRel a r n W3 vi vs wr) (fun _ vi _ => (n - intOf vi).toNat)
  case atStart => exact ⟨0, fun _ => 0, rfl, by omega, ⟨⟨rfl, Or.inl ⟨rfl, rfl⟩⟩⟩, ⟨fun j h => absurd h (by omega)⟩, ⟨Below.refl _ _⟩⟩
  case round =>
    obtain ⟨k, D, rfl, hk2, hO, hD, hb⟩ := hrel
    by_cases hlt : (k : Int) < (n : Int)
    · have hmk := mk256
      have hsz := hb.out.size
      have hO2 : As (∀ o1 o2, ((wr.alloc o1).alloc o2).ownsRow W3.heap.size 68 3 u12 k (rowN a r D k)) := ⟨fun o1 o2 => own_below hO.out (bl_alloc (bl_alloc (Below.refl _ _) _) _)⟩
      have hD2 : As (∀ o1 o2 j, j < k → Bk ((wr.alloc o1).alloc o2) (D j) zb 5) := ⟨fun o1 o2 j hj => ((hD.out j hj).1.alloc _).alloc _⟩
      have hB2 : As (∀ o1 o2, Below W3.heap.size W3 ((wr.alloc o1).alloc o2)) := ⟨fun o1 o2 => (hb.out.alloc hsz _).alloc (by simp; omega) _⟩
      go_wp2_with (at_builtin; refine ap_pg rfl (.tmp 26) (.tmp 34) 29 Try.underlying29 rfl _ k (rowN a r D k) (.int .i64 (a + (k : Int) * 256)) (.int .i64 r) (.slice (some ⟨wr.heap.size, 0, none⟩) 256 256) (wr.heap.size + 1) 1 rfl rfl (Bk.new' _ _ (by simp)) (by simp [Value.oneCell']) (hO2.out _ _) (by simp; omega) (by omega) ?_; (intro v1 w1 hown hg; have HO3 := As.mk hown; have HG := As.mk hg; clear hown hg))
      go_roundw
      case rel => exact ⟨k + 1, fun j => if j = k then wr.heap.size else D j, by go_num, by omega, ⟨by
        rw [rowN_succ, rowN_cong a r _ D k (fun j hj => by simp; omega)]
        have := HO3.out
        simpa using this⟩, ⟨fun j hj => by
          by_cases e : j = k
          · simp only [if_pos e]
            have hq : Bk ((wr.alloc (.cells zb 5)).alloc (.cells #[.int .i64 (a + (k : Int) * 256), .int .i64 r, .slice (some ⟨wr.heap.size, 0, none⟩) 256 256] 68)) wr.heap.size zb 5 := (Bk.new wr zb 5).alloc _
            exact ⟨(HG.out.block _ hq.lt (rowp_ne (hO2.out _ _) hq)).trans hq, hsz⟩
          · simp only [if_neg e]
            have hq := hD2.out (.cells zb 5) (.cells #[.int .i64 (a + (k : Int) * 256), .int .i64 r, .slice (some ⟨wr.heap.size, 0, none⟩) 256 256] 68) j (by omega)
            exact ⟨(HG.out.block _ hq.lt (rowp_ne (hO2.out _ _) hq)).trans hq, (hD.out j (by omega)).2⟩⟩, ⟨(hB2.out _ _).grown HG.out (by simp; omega) (fun q hq => (hO.out.lt q hq).1)⟩⟩
      case measure => simp [intOf]; omega
    · obtain rfl : k = n := by omega
      have ho1 := OwnN.below (OwnN.below HO2.out HB3.out) hb.out
      have hlt0 : ∀ g, v2.ownBlock = some g → g < W3.heap.size := fun g hg => (OwnN.below HO2.out HB3.out).lt hg
      have hbb : As (Below w.heap.size w wr) := ⟨bl_then HB2.out (bl_then HB3.out hb.out)⟩
      have hsz := hb.out.size
      have hsw := HB2.out.size
      have hsw3 := HB3.out.size
      rcases hO.out with ⟨hl, ⟨_, hk0⟩ | ⟨vb, vc, vcur, rfl, e2, e3, e4, e5, e6, e7⟩⟩
      · omega
      · have hV : Bk wr vb vcur 68 := e3
        have hrow := newRow_ok (W := wr) (a := a) (r := r) (fun k hk => by unfold I64; omega) HR.out D (fun b => some b ≠ v2.ownBlock) k (by omega) (fun j hj => ⟨(hD.out j hj).1, fun hq => by have := hlt0 _ hq.symm; have := (hD.out j hj).2; omega⟩)
        have hvs : ∀ (j : Nat) (u : Value), (rowN a r D k)[j]? = some u → vcur[j]? = some u := by
          intro j u hj
          rw [← e7, List.getElem?_take] at hj
          split at hj
          · rwa [Array.getElem?_toList] at hj
          · cases hj
        have hi : i ≤ l.length := HS.out.1
        have hml : (newP a r k).length = k := newP_len a r k
        have HC := As.mk (insert_own v2 l (newP a r k) i vb vc w.heap.size vcur (rowN a r D k) wr ho1 HK.out HM.out.byt hi (by omega) (by omega) (by omega) (fun g hg => by have := hlt0 g hg; omega) hV hvs hrow)
        rw [hml] at HC
        clear hrow hvs hV e3 e7 e6 hlt0 ho1 hml e5 hO hD
        go_wp2_with fail
        refine HC.out.mono ?_
        rintro e w4 ⟨v4, rfl, hrd, hb4⟩
        have HRD := As.mk hrd
        have HB4 := As.mk (hbb.out.trans hb4)
        clear hrd hb4
        go_wp2
        go_ret
        exact ⟨v4, i, ok, rfl, HS.out, HRD.out, HB4.out⟩
end Go.Proofs.Ytbbhkjljiljadaa
