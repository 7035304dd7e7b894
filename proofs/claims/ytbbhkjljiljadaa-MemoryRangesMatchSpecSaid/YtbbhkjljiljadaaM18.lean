/- slices.Insert at pages. Conditions: the row and what is put in lie in two blocks of their own. -/
import Derived.Test.YtbbhkjljiljadaaM17
import Derived.Shelf.Spec.SlicesInsert
import Derived.Lib.AppendZerosOnto
import Derived.Laws.NewBlocks
import Derived.Maps.AppendAt
namespace Go.Proofs.Ytbbhkjljiljadaa
open Go.RowKit Go.Lib
set_option linter.unusedVariables false
set_option linter.unusedSimpArgs false
theorem copy_pages (w : World) (dT sT ty : TypeId) (b o dLen dCap : Nat) (a : Addr) (sLen sCap k : Nat) (cs : List Value)
    (hu : Try.prog.underlying dT = some (.slice 68)) (hn : cs.length = k * 3) (hk : k = Nat.min sLen dLen)
    (hsrc : ∀ j v, cs[j]? = some v → w.cell? (a.add j) = some v) (hc : ∀ j, j < cs.length → (w.cell? ⟨b, o + j, none⟩).isSome = true) (hf : ∀ j, j < cs.length → w.frozen? ⟨b, o + j, none⟩ = false) (h1 : ∀ v ∈ cs, v.oneCell' = true) :
    (Builtin.copy_ #[dT, sT] ty #[.slice (some ⟨b, o, none⟩) dLen dCap, .slice (some a) sLen sCap]).run Try.prog w = .ok (goInt k) (w.setCells b o cs) := by
  have hl := run_loadCells_list (P := Try.prog) w a cs hsrc
  have hst := run_storeCells_cells (P := Try.prog) b o cs 0 w (by simpa using hc) (by simpa using hf) h1
  obtain ⟨i, hi, h0, h3, h4⟩ := info_parts inf68
  rw [hn] at hl
  simp [Builtin.copy_, run_underlying hu, Builtin.lenOf, Builtin.firstCells, sizeOf, typeInfo, hi, h3, ← hk, hl, hst]
theorem append_ty (ty : TypeId) (s x : Value) (w : World) : (Builtin.append_ #[30, 29] ty #[s, x]).run Try.prog w = (Builtin.append_ #[30, 30] ty #[s, x]).run Try.prog w := by
  have hz : ∀ w, (Go.sizeOf 68).run Try.prog w = .ok 3 w := fun w => by obtain ⟨i, hi, h0, h3, h4⟩ := info_parts inf68; simp [sizeOf, typeInfo, hi, h3]
  cases s <;> simp [Builtin.append_, run_underlying Try.underlying29, run_underlying Try.underlying30, hz]
def InsPost (W : World) (g n m : Nat) (rows : List Value) (e : Ending) (w' : World) : Prop :=
  ∃ g' cap', e = .returned (.slice (some ⟨g', 0, none⟩) (n + m) cap') ∧ n + m ≤ cap' ∧ (∀ j u, rows[j]? = some u → w'.cell? ⟨g', j, none⟩ = some u) ∧ W.grownBy w' (some g)
theorem grown_cells {W W1 : World} {g : Nat} : ∀ (vs : List Value) (o : Nat) {W1 : World}, W.grownBy W1 (some g) → W.grownBy (W1.setCells g o vs) (some g)
  | [], _, _, h => h
  | v :: r, o, W1, h => grown_cells (W1 := W1) r (o + 1) ⟨h.os, h.tape, h.output, by have := h.size; simpa using this, fun k hk hne => (Below.heap_setCell W1 ⟨g, o, none⟩ v k (fun e => hne (by rw [e]))).trans (h.block k hk hne)⟩
theorem grown_drew {W W1 : World} {r : Option Nat} (h : W.grownBy W1 r) : W.grownBy W1.drew r := ⟨h.os, h.tape, h.output, h.size, h.block⟩
theorem grown_new {W : World} {g : Nat} {r : Option Nat} : ∀ (vs : List Value) (o : Nat) {W1 : World}, W.heap.size ≤ g → W.grownBy W1 r → W.grownBy (W1.setCells g o vs) r
  | [], _, _, _, h => h
  | v :: t, o, W1, hg, h => grown_new t (o + 1) hg ⟨h.os, h.tape, h.output, by have := h.size; simpa using this, fun k hk hne => (Below.heap_setCell W1 ⟨g, o, none⟩ v k (by simp; omega)).trans (h.block k hk hne)⟩
theorem rows_split {cs vs : List Value} {i n m : Nat} (hi : i ≤ n) (hc : cs.length = n * 3) (hv : vs.length = m * 3) (j : Nat) :
    (cs.take (i * 3) ++ vs ++ cs.drop (i * 3))[j]? = if j < i * 3 then cs[j]? else if j < (i + m) * 3 then vs[j - i * 3]? else cs[j - m * 3]? := by
  have h1 : (cs.take (i * 3)).length = i * 3 := by rw [List.length_take]; omega
  by_cases a : j < i * 3
  · rw [if_pos a, List.append_assoc, List.getElem?_append_left (by omega), List.getElem?_take_of_lt a]
  · rw [if_neg a]
    by_cases b : j < (i + m) * 3
    · rw [if_pos b, List.getElem?_append_left (by rw [List.length_append]; omega), List.getElem?_append_right (by omega), h1]
    · rw [if_neg b, List.getElem?_append_right (by rw [List.length_append]; omega), List.getElem?_drop, List.length_append, h1]
      congr 1; omega
set_option maxHeartbeats 4000000 in
set_option maxRecDepth 100000 in
theorem insert_shift (g cap n i m vb vc : Nat) (cur vcur : Array Value) (cs vs : List Value) (W : World) (hB : Bk W g cur 68) (hsz : cur.size = cap * 3) (hroom : n + m ≤ cap) (hmost : cap ≤ 9223372036854775807) (hi : i < n) (hm : 0 < m) (hne : vb ≠ g)
    (hV : Bk W vb vcur 68) (hcl : cs.length = n * 3) (hvl : vs.length = m * 3) (hcs : ∀ (j : Nat) (u : Value), cs[j]? = some u → cur[j]? = some u) (hvs : ∀ (j : Nat) (u : Value), vs[j]? = some u → vcur[j]? = some u) (h1c : ∀ u ∈ cs, u.oneCell' = true) (h1v : ∀ u ∈ vs, u.oneCell' = true) :
    Calls Try.prog 75 #[.slice (some ⟨g, 0, none⟩) n cap, .int .i64 i, .slice (some ⟨vb, 0, none⟩) m vc] W (InsPost W g n m (cs.take (i * 3) ++ vs ++ cs.drop (i * 3))) := by
  have hz1 : ¬ ((m : Int) = 0) := by omega
  have hz2 : ¬ ((i : Int) = (n : Int)) := by omega
  have hov : ∀ lb cb, (callFunc 77 #[.slice (some ⟨vb, 0, none⟩) m vc, .slice (some ⟨g, (i + m) * 3, none⟩) lb cb]).run Try.prog W = .ok (.value (.bool false)) W := fun lb cb => by
    rw [run_callFunc_extern Try.func77 (by kernel_rfl) (by kernel_rfl) (by kernel_rfl) (e := Extern.SlicesOverlaps.overlaps #[29, 29] #[4]) (by kernel_rfl),
      Lib.run_overlaps_apart W 29 4 68 Try.underlying29 3 (fun w => by obtain ⟨i, hi, h0, h3, h4⟩ := info_parts inf68; simp [sizeOf, typeInfo, hi, h3]) ⟨vb, 0, none⟩ ⟨g, (i + m) * 3, none⟩ m vc lb cb hne 68 68 vcur.size cur.size (by simp [World.shape?, show W.heap[vb]? = some (.cells vcur 68 (0, 0)) from hV]) (by simp [World.shape?, show W.heap[g]? = some (.cells cur 68 (0, 0)) from hB]) (by omega) (hV.frozen _) (hV.frozen _)]
    rfl
  have mixed : Try.prog.follows .mixedOrders = true := by kernel_rfl
  have hdl : (cs.drop (i * 3)).length = (n - i) * 3 := by rw [List.length_drop, hcl]; omega
  have hw1 : IntKind.i64.wrap ((i : Int) + (m : Int)) = (i : Int) + (m : Int) := by rw [IntKind.wrap_i64]; omega
  have hb1 : (0 : Int) ≤ (i : Int) + (m : Int) := by omega
  have hin : i ≤ n := by omega
  have htn : ((i : Int) + (m : Int)).toNat = i + m := by omega
  have hb2 : ¬ (cap = i + m) := by omega
  have hb3 : (i : Int) ≤ (n : Int) + (m : Int) := by omega
  have hb4 : ¬ (cap = i) := by omega
  have hcp1 : ∀ ty dc sc, (Builtin.copy_ #[30, 30] ty #[.slice (some ⟨g, (i + m) * 3, none⟩) (n + m - (i + m)) dc, .slice (some ⟨g, i * 3, none⟩) (n + m - i) sc]).run Try.prog W.drew = .ok (goInt ((n - i : Nat) : Int)) (W.drew.setCells g ((i + m) * 3) (cs.drop (i * 3))) := fun ty dc sc =>
    copy_pages W.drew 30 30 ty g _ _ dc ⟨g, i * 3, none⟩ _ sc (n - i) (cs.drop (i * 3)) Try.underlying30 hdl (by simp only [Nat.min_def]; split <;> omega)
      (fun j v hj => by rw [Addr.add_lit, hB.drew.cell]; exact hcs _ v (by rwa [List.getElem?_drop] at hj))
      (fun j hj => by rw [hB.drew.cell, Array.getElem?_eq_getElem (by omega)]; rfl) (fun j hj => hB.drew.frozen _) (fun v hv => h1c v (List.mem_of_mem_drop hv))
  obtain ⟨W1, hW1⟩ : ∃ W1, W1 = W.drew.setCells g ((i + m) * 3) (cs.drop (i * 3)) := ⟨_, rfl⟩
  have hB1 : Bk W1 g (writes cur ((i + m) * 3) (cs.drop (i * 3))) 68 := by rw [hW1]; exact hB.drew.setCells _ _
  have hV1 : Bk W1 vb vcur 68 := by rw [hW1]; exact Bk.setCells_other (Ne.symm hne) _ _ hV.drew
  have hcp2 : ∀ (X : World), (∀ x, X.cell? x = W1.cell? x) → (∀ x, X.frozen? x = W1.frozen? x) → ∀ ty dc, (Builtin.copy_ #[30, 29] ty #[.slice (some ⟨g, i * 3, none⟩) (n + m - i) dc, .slice (some ⟨vb, 0, none⟩) m vc]).run Try.prog X = .ok (goInt (m : Int)) (X.setCells g (i * 3) vs) := fun X hXc hXf ty dc =>
    copy_pages X 30 29 ty g _ _ dc ⟨vb, 0, none⟩ m vc m vs Try.underlying30 hvl (by simp only [Nat.min_def]; split <;> omega)
      (fun j v hj => by rw [Addr.add_lit, hXc, hV1.cell, Nat.zero_add]; exact hvs j v hj)
      (fun j hj => by rw [hXc, hB1.cell, Array.getElem?_eq_getElem (by rw [writes_size]; omega)]; rfl) (fun j hj => by rw [hXf]; exact hB1.frozen _) h1v
  have HE : As (InsPost W g n m (cs.take (i * 3) ++ vs ++ cs.drop (i * 3)) (.returned (.slice (some ⟨g, 0, none⟩) (n + m) cap)) (W1.setCells g (i * 3) vs)) := ⟨by
    refine ⟨g, cap, rfl, hroom, fun j u hj => ?_, grown_cells (W1 := W1) _ _ (by rw [hW1]; exact grown_cells (W1 := W.drew) _ _ (grown_drew (World.grownBy.refl W _)))⟩
    rw [rows_split hin hcl hvl] at hj
    rw [(hB1.setCells vs (i * 3)).cell]
    split at hj
    · rw [writes_out _ _ _ _ (by omega), writes_out _ _ _ _ (by omega)]; exact hcs _ _ hj
    · split at hj
      · rw [show j = i * 3 + (j - i * 3) from by omega, writes_in _ _ _ _ (by rw [writes_size]; omega) (by omega)]
        exact hj
      · have hj2 : j - m * 3 < cs.length := (List.getElem?_eq_some_iff.1 hj).1
        rw [writes_out _ _ _ _ (by omega), show j = (i + m) * 3 + (j - (i + m) * 3) from by omega, writes_in _ _ _ _ (by omega) (by omega), List.getElem?_drop, ← hj]
        congr 1; omega⟩
  rw [← hW1] at hcp1
  clear hB hV hB1 hV1 hcs hvs h1c h1v hdl hcl hvl hsz
  go_enter Try.func75, Try.ntmps75
  go_wp2_with (simp only [hov])
  go_region_law_o (refine step_copy_runI rfl _ _ 30 30 rfl _ _ (by simp [Act.eval, Act.put]) (by simp [Act.eval, Act.put]) (hcp1 _ _ _) ?_)
  go_wp2_with (at_builtin; refine wpList_copy_runI _ rfl _ _ 30 29 rfl _ _ rfl rfl (hcp2 _ (fun _ => rfl) (fun _ => rfl) _ _) ?_)
  go_ret
  have h := HE.out
  rw [hW1] at h
  exact h
def EndPost (W : World) (o : Option Nat) (n m : Nat) (rows : List Value) (e : Ending) (w' : World) : Prop :=
  ∃ g' cap', e = .returned (.slice (some ⟨g', 0, none⟩) (n + m) cap') ∧ n + m ≤ cap' ∧ (∀ j u, rows[j]? = some u → w'.cell? ⟨g', j, none⟩ = some u) ∧ W.grownBy w' o
set_option maxHeartbeats 4000000 in
set_option maxRecDepth 100000 in
theorem insert_end (v : Value) (base n m vb vc : Nat) (vcur : Array Value) (cs vs : List Value) (W : World) (hown : W.ownsRow base 68 3 v n cs) (hm : 0 < m) (hsm : n + m ≤ 1000000) (hbase : base ≤ W.heap.size)
    (hV : Bk W vb vcur 68) (hvl : vs.length = m * 3) (hvs : ∀ (j : Nat) (u : Value), vs[j]? = some u → vcur[j]? = some u) (h1v : ∀ u ∈ vs, u.oneCell' = true) :
    Calls Try.prog 75 #[v, .int .i64 n, .slice (some ⟨vb, 0, none⟩) m vc] W (EndPost W v.ownBlock n m (cs ++ vs)) := by
  obtain ⟨i, hi, h0, h3, h4⟩ := info_parts inf68
  obtain ⟨v', w', hr, hown', hg, hnil, _⟩ := run_append_own_at (P := Try.prog) W base 30 30 68 i _ 3 40 Try.underlying30 hi h0 h3 h4 rfl (by omega) v n cs hown ⟨vb, 0, none⟩ m vc vs hvl (fun j u hj => by rw [Addr.add_lit, hV.cell, Nat.zero_add]; exact hvs j u hj) h1v (by unfold maxLen; omega) (by omega) hbase
  rw [← append_ty] at hr
  have HE : As (EndPost W v.ownBlock n m (cs ++ vs) (.returned v') w') := ⟨by
    obtain ⟨hl, ⟨_, h⟩ | ⟨g, cap, cur, rfl, e2, e3, e4, e5, e6, e7⟩⟩ := hown'
    · omega
    · refine ⟨g, cap, rfl, e4, fun j u hj => ?_, hg⟩
      have hB : Bk w' g cur 68 := e3
      rw [hB.cell]
      have hjl : j < (n + m) * 3 := by rw [← hl]; exact (List.getElem?_eq_some_iff.1 hj).1
      rw [← e7, List.getElem?_take_of_lt hjl, Array.getElem?_toList] at hj
      exact hj⟩
  have hz1 : ¬ ((m : Int) = 0) := by omega
  have HR := As.mk hr
  have hin : n ≤ n := Nat.le_refl _
  clear hr hown' hg hnil hV hvs h1v hi h0 h3 h4
  obtain ⟨hl, ⟨rfl, rfl⟩ | ⟨g, cap, cur, rfl, e2, e3, e4, e5, e6, e7⟩⟩ := hown
  · clear hl
    go_enter Try.func75, Try.ntmps75
    go_wp2_with (at_builtin; refine Lib.wpList_append_run _ rfl _ _ _ _ rfl _ _ rfl rfl _ _ HR.out ?_)
    go_ret
    exact HE.out
  · simp only [maxLen] at e5
    clear hl e3 e6 e7
    go_enter Try.func75, Try.ntmps75
    go_wp2_with (at_builtin; refine Lib.wpList_append_run _ rfl _ _ _ _ rfl _ _ rfl rfl _ _ HR.out ?_)
    all_goals (go_ret; exact HE.out)
set_option maxHeartbeats 4000000 in
set_option maxRecDepth 100000 in
theorem insert_grow (g cap n i m vb vc : Nat) (cur vcur : Array Value) (cs vs : List Value) (w : World) (hB : Bk w g cur 68) (hsz : cur.size = cap * 3) (hnc : n ≤ cap) (hroom : cap < n + m) (hsm : n + m ≤ 1000000) (hi : i < n) (hm : 0 < m) (hne : vb ≠ g)
    (hV : Bk w vb vcur 68) (hcl : cs.length = n * 3) (hvl : vs.length = m * 3) (hcs : ∀ (j : Nat) (u : Value), cs[j]? = some u → cur[j]? = some u) (hvs : ∀ (j : Nat) (u : Value), vs[j]? = some u → vcur[j]? = some u) (h1c : ∀ u ∈ cs, u.oneCell' = true) (h1v : ∀ u ∈ vs, u.oneCell' = true) :
    Calls Try.prog 75 #[.slice (some ⟨g, 0, none⟩) n cap, .int .i64 i, .slice (some ⟨vb, 0, none⟩) m vc] w (InsPost w g n m (cs.take (i * 3) ++ vs ++ cs.drop (i * 3))) := by
  obtain ⟨i0, hi0, hz0, hzs, hzb⟩ := info_parts inf68
  have mixed : Try.prog.follows .mixedOrders = true := by kernel_rfl
  have hz1 : ¬ ((m : Int) = 0) := by omega
  have hz2 : ¬ ((i : Int) = (n : Int)) := by omega
  have hz3 : (cap : Int) < (n : Int) + (m : Int) := by omega
  have hkk : (n : Int) + (m : Int) - (i : Int) = ((n + m - i : Nat) : Int) := by omega
  have hik : i + (n + m - i) = n + m := by omega
  have hold : (Builtin.firstCells i0.size i (.slice (some ⟨g, 0, none⟩) i cap)).run Try.prog w.drew = .ok (cs.take (i * 3)).toArray w.drew := by
    rw [hzs]
    exact run_firstCells_some w.drew 3 i ⟨g, 0, none⟩ i cap (cs.take (i * 3)) (by rw [List.length_take]; omega) (fun j v hj => by
      rw [Addr.add_lit, hB.drew.cell, Nat.zero_add]
      rw [List.getElem?_take] at hj
      split at hj
      · exact hcs j v hj
      · cases hj)
  have hrz : ∀ ty, (Builtin.append_ #[30, 3] ty #[.slice (some ⟨g, 0, none⟩) i cap, .int .i64 ((n : Int) + (m : Int) - (i : Int))]).run Try.prog w =
      .ok (.slice (some ⟨w.heap.size, 0, none⟩) (n + m) (grownCap w (n + m) cap 68)) (w.drew.alloc (.cells ((cs.take (i * 3)).toArray ++ Builtin.zeroCells (Value.agg #[.int .i64 0, .int .i64 0, .slice none 0 0]).cells (n + m - i) ++ Builtin.zeroCells (Value.agg #[.int .i64 0, .int .i64 0, .slice none 0 0]).cells (grownCap w (n + m) cap 68 - (n + m))) 68)) := fun ty => by
    have h := Lib.run_append_grow_zeros w 30 3 ty 68 i0 _ .i64 .i64 Try.underlying30 Try.underlying3 hi0 hz0 (some ⟨g, 0, none⟩) i cap (cs.take (i * 3)) hold (n + m - i) (by omega) (by omega) (by omega) (by omega) (by rw [hzb]; omega) (by rw [hzb, hik]; exact growslice_fits hroom (by omega))
    rw [hik] at h
    rw [hkk]
    exact h
  obtain ⟨G, hG⟩ : ∃ G, G = grownCap w (n + m) cap 68 := ⟨_, rfl⟩
  obtain ⟨ROW, hROW⟩ : ∃ ROW : Array Value, ROW = (cs.take (i * 3)).toArray ++ Builtin.zeroCells (Value.agg #[.int .i64 0, .int .i64 0, .slice none 0 0]).cells (n + m - i) ++ Builtin.zeroCells (Value.agg #[.int .i64 0, .int .i64 0, .slice none 0 0]).cells (G - (n + m)) := ⟨_, rfl⟩
  rw [← hG] at hrz
  rw [← hROW] at hrz
  have hRl : (n + m) * 3 ≤ ROW.size := by
    rw [hROW]
    simp [Builtin.zeroCells, Value.cells]
    omega
  have hRt : ∀ j, j < i * 3 → ROW[j]? = cs[j]? := fun j hj => by
    have hl : (cs.take (i * 3)).length = i * 3 := by rw [List.length_take]; omega
    rw [hROW, Array.append_assoc, Array.getElem?_append_left (by simp; omega), List.getElem?_toArray, List.getElem?_take_of_lt hj]
  obtain ⟨W1, hW1⟩ : ∃ W1, W1 = w.drew.alloc (.cells ROW 68) := ⟨_, rfl⟩
  rw [← hW1] at hrz
  have hN : Bk W1 w.heap.size ROW 68 := by rw [hW1]; exact Bk.new' _ _ rfl
  have hg1 : Bk W1 g cur 68 := by rw [hW1]; exact hB.drew.alloc _
  have hv1 : Bk W1 vb vcur 68 := by rw [hW1]; exact hV.drew.alloc _
  have hbw : g < w.heap.size := hB.lt
  have hvw : vb < w.heap.size := hV.lt
  have hcpA : ∀ (X : World), (∀ x, X.cell? x = W1.cell? x) → (∀ x, X.frozen? x = W1.frozen? x) → ∀ ty dc, (Builtin.copy_ #[30, 29] ty #[.slice (some ⟨w.heap.size, i * 3, none⟩) (n + m - i) dc, .slice (some ⟨vb, 0, none⟩) m vc]).run Try.prog X = .ok (goInt (m : Int)) (X.setCells w.heap.size (i * 3) vs) := fun X hXc hXf ty dc =>
    copy_pages X 30 29 ty _ _ _ dc ⟨vb, 0, none⟩ m vc m vs Try.underlying30 hvl (by simp only [Nat.min_def]; split <;> omega)
      (fun j v hj => by rw [Addr.add_lit, hXc, hv1.cell, Nat.zero_add]; exact hvs j v hj)
      (fun j hj => by rw [hXc, hN.cell, Array.getElem?_eq_getElem (by omega)]; rfl) (fun j hj => by rw [hXf]; exact hN.frozen _) h1v
  have hGn : n + m ≤ G := by rw [hG]; exact grownCap_ge w _ _ _
  have hG63 : G ≤ 9223372036854775807 := by
    have := grownCap_le_maxLen w (n + m) cap 68 (by unfold maxLen; omega)
    rw [← hG] at this
    unfold maxLen at this
    omega
  have hGi : ¬ (G = i) := by omega
  have hGim : ¬ (G = i + m) := by omega
  have hci : ¬ (cap = i) := by omega
  have hdl : (cs.drop (i * 3)).length = (n - i) * 3 := by rw [List.length_drop, hcl]; omega
  have hN2 : Bk (W1.setCells w.heap.size (i * 3) vs) w.heap.size (writes ROW (i * 3) vs) 68 := hN.setCells _ _
  have hg2 : Bk (W1.setCells w.heap.size (i * 3) vs) g cur 68 := Bk.setCells_other (by omega) _ _ hg1
  have hcpB : ∀ (X : World), (∀ x, X.cell? x = (W1.setCells w.heap.size (i * 3) vs).cell? x) → (∀ x, X.frozen? x = (W1.setCells w.heap.size (i * 3) vs).frozen? x) → ∀ ty dc sc, (Builtin.copy_ #[30, 30] ty #[.slice (some ⟨w.heap.size, (i + m) * 3, none⟩) (n + m - (i + m)) dc, .slice (some ⟨g, i * 3, none⟩) (n - i) sc]).run Try.prog X = .ok (goInt ((n - i : Nat) : Int)) (X.setCells w.heap.size ((i + m) * 3) (cs.drop (i * 3))) := fun X hXc hXf ty dc sc =>
    copy_pages X 30 30 ty _ _ _ dc ⟨g, i * 3, none⟩ (n - i) sc (n - i) (cs.drop (i * 3)) Try.underlying30 hdl (by simp only [Nat.min_def]; split <;> omega)
      (fun j v hj => by rw [Addr.add_lit, hXc, hg2.cell]; exact hcs _ v (by rwa [List.getElem?_drop] at hj))
      (fun j hj => by rw [hXc, hN2.cell, Array.getElem?_eq_getElem (by rw [writes_size]; omega)]; rfl)
      (fun j hj => by rw [hXf]; exact hN2.frozen _) (fun v hv => h1c v (List.mem_of_mem_drop hv))
  have HE : As (InsPost w g n m (cs.take (i * 3) ++ vs ++ cs.drop (i * 3)) (.returned (.slice (some ⟨w.heap.size, 0, none⟩) (n + m) G)) ((((w.alloc (.cells ROW 68)).drew.setCells w.heap.size (i * 3) vs).drew).setCells w.heap.size ((i + m) * 3) (cs.drop (i * 3)))) := ⟨by
    have hgb : (w.alloc (.cells ROW 68)).heap.size = w.heap.size + 1 := by simp
    have q : w.grownBy (w.alloc (.cells ROW 68)) (some g) := ⟨rfl, rfl, rfl, by omega, fun k hk _ => Below.heap_alloc w _ k hk⟩
    refine ⟨w.heap.size, G, rfl, hGn, fun j u hj => ?_, ?_⟩
    · rw [rows_split (by omega) hcl hvl] at hj
      have hX : Bk ((((w.alloc (.cells ROW 68)).drew.setCells w.heap.size (i * 3) vs).drew).setCells w.heap.size ((i + m) * 3) (cs.drop (i * 3))) w.heap.size (writes (writes ROW (i * 3) vs) ((i + m) * 3) (cs.drop (i * 3))) 68 := (((Bk.new w ROW 68).drew.setCells vs _).drew).setCells _ _
      rw [hX.cell]
      split at hj
      · rw [writes_out _ _ _ _ (by omega), writes_out _ _ _ _ (by omega), hRt j (by assumption)]; exact hj
      · split at hj
        · rw [writes_out _ _ _ _ (by omega), show j = i * 3 + (j - i * 3) from by omega, writes_in _ _ _ _ (by omega) (by omega)]
          exact hj
        · have hj2 : j - m * 3 < cs.length := (List.getElem?_eq_some_iff.1 hj).1
          rw [show j = (i + m) * 3 + (j - (i + m) * 3) from by omega, writes_in _ _ _ _ (by rw [writes_size]; omega) (by omega), List.getElem?_drop, ← hj]
          congr 1; omega
    · exact grown_new _ _ (Nat.le_refl _) (grown_drew (grown_new _ _ (Nat.le_refl _) (grown_drew q)))⟩
  subst hW1
  have hE1 : ∀ x, ((w.alloc (.cells ROW 68)).drew).cell? x = (w.drew.alloc (.cells ROW 68)).cell? x := fun x => rfl
  have hE2 : ∀ x, ((w.alloc (.cells ROW 68)).drew).frozen? x = (w.drew.alloc (.cells ROW 68)).frozen? x := fun x => rfl
  have hF1 : ∀ x, (((w.alloc (.cells ROW 68)).drew.setCells w.heap.size (i * 3) vs).drew).cell? x = ((w.drew.alloc (.cells ROW 68)).setCells w.heap.size (i * 3) vs).cell? x := fun x => rfl
  have hF2 : ∀ x, (((w.alloc (.cells ROW 68)).drew.setCells w.heap.size (i * 3) vs).drew).frozen? x = ((w.drew.alloc (.cells ROW 68)).setCells w.heap.size (i * 3) vs).frozen? x := fun x => rfl
  have hw1 : IntKind.i64.wrap ((i : Int) + (m : Int)) = (i : Int) + (m : Int) := by rw [IntKind.wrap_i64]; omega
  have hb1 : (0 : Int) ≤ (i : Int) + (m : Int) := by omega
  have hin : i ≤ n := by omega
  have htn : ((i : Int) + (m : Int)).toNat = i + m := by omega
  have hb3 : (i : Int) ≤ (n : Int) := by omega
  clear hkk hik hold hROW hG hRl hB hV hN hg1 hv1 hN2 hg2 hcs hvs h1c h1v hdl hcl hvl hsz hi0 hz0 hzs hzb hRt
  go_enter Try.func75, Try.ntmps75
  go_wp2_with (first
    | (at_builtin; refine Lib.wpList_append_run _ rfl _ _ _ _ rfl _ _ rfl rfl _ _ (hrz _) ?_)
    | (at_builtin; refine wpList_copy_runI _ rfl _ _ 30 29 rfl _ _ rfl rfl (hcpA _ hE1 hE2 _ _) ?_)
    | (at_builtin; refine wpList_copy_runI _ rfl _ _ 30 30 rfl _ _ rfl rfl (hcpB _ (fun _ => rfl) (fun _ => rfl) _ _ _) ?_))
  go_region_law_o (refine step_copy_runI rfl _ _ 30 30 rfl (.slice (some ⟨w.heap.size, (i + m) * 3, none⟩) (n + m - (i + m)) (G - (i + m))) (.slice (some ⟨g, i * 3, none⟩) (n - i) (cap - i)) (by simp [Act.eval, Act.put]) (by simp [Act.eval, Act.put]) (hcpB _ hF1 hF2 3 (G - (i + m)) (cap - i)) ?_)
  go_wp2
  go_ret
  exact HE.out
end Go.Proofs.Ytbbhkjljiljadaa
