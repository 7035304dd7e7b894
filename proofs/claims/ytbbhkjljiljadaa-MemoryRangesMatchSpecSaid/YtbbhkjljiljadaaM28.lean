/- With of the reference. Conditions: the memory reads as those pages, which are valid. -/
import Derived.Test.YtbbhkjljiljadaaM27
namespace Go.Proofs.Ytbbhkjljiljadaa
open Go.RowKit
set_option linter.unusedVariables false
set_option linter.unusedSimpArgs false
/-- The cells of a memory that reads as those pages. -/
theorem RdM.row {w : World} {b off n c : Nat} {l : List Pg} (hm : RdM w (.slice (some ⟨b, off, none⟩) n c) l) (hn : n = l.length) : RowP w (fun g => g < w.heap.size) (rowOf w b off n) l := by
  subst hn
  refine ⟨by simp [rowOf], fun k h => ?_⟩
  obtain ⟨b', off', e, h1, h2, h3, h4, D, cd, h5, h6, h7⟩ := hm.at k h
  injection e with e
  injection e with e1 e2 _
  subst e1 e2
  rw [rowOf_get (by omega), rowOf_get (by omega), rowOf_get (by omega)]
  refine ⟨h1, h2, by rw [h3]; rfl, by rw [show off + (k * 3 + 1) = off + k * 3 + 1 from by omega, h4]; rfl, D, cd, by rw [show off + (k * 3 + 2) = off + k * 3 + 2 from by omega, h5]; rfl, h6, h7, ?_⟩
  intro h0 b2 off2 e
  obtain ⟨b3, off3, e3, hc⟩ := h7.2.2.2 h0
  rw [e] at e3
  injection e3 with e3
  injection e3 with e4 _ _
  subst e4
  exact World.block_lt_of_cell? w _ (hc 0 h0)
theorem RdM.rowcell {w : World} {b off n c : Nat} {l : List Pg} (hm : RdM w (.slice (some ⟨b, off, none⟩) n c) l) (hn : n = l.length) (j : Nat) (u : Value) (hj : (rowOf w b off n)[j]? = some u) : w.cell? ((⟨b, off, none⟩ : Addr).add j) = some u := by
  subst hn
  have hjl : j < l.length * 3 := by
    have := (List.getElem?_eq_some_iff.1 hj).1
    simpa [rowOf] using this
  obtain ⟨u', h1, _⟩ := pg_cells hm rfl j hjl
  rw [rowOf_get hjl, h1] at hj
  injection hj with hj
  subst hj
  rw [Addr.add_lit]; exact h1
theorem own_slice {w : World} {base : Nat} {e : TypeId} {size : Nat} {v : Value} {n : Nat} {xs : List Value} (h : w.ownsRow base e size v n xs) (hn : 0 < n) :
    ∃ g cap cur, v = .slice (some ⟨g, 0, none⟩) n cap ∧ base ≤ g ∧ Bk w g cur e ∧ n ≤ cap ∧ cap ≤ 9223372036854775807 ∧ cur.size = cap * size ∧ ∀ (j : Nat) (u : Value), xs[j]? = some u → cur[j]? = some u := by
  obtain ⟨hl, ⟨_, h0⟩ | ⟨g, cap, cur, e1, e2, e3, e4, e5, e6, e7⟩⟩ := h
  · omega
  · refine ⟨g, cap, cur, e1, e2, e3, e4, by simp only [maxLen] at e5; omega, e6, fun j u hj => ?_⟩
    rw [← e7, List.getElem?_take] at hj
    split at hj
    · rwa [Array.getElem?_toList] at hj
    · cases hj
theorem RowP.setd {W : World} {B : Nat → Prop} {xs : List Value} {l : List Pg} (h : RowP W B xs l) {i : Nat} (hi : i < l.length) {d : List Int} {A : Option Addr} {c : Nat} (hc : d.length ≤ c) (hd : RdB W A d.length d) (hB : 0 < d.length → ∀ b off, A = some ⟨b, off, none⟩ → B b) :
    RowP W B (xs.set (i * 3 + 2) (.slice A d.length c)) (l.set i ⟨l[i].a, l[i].r, d⟩) := by
  have hl := h.1
  refine ⟨by rw [List.length_set, List.length_set]; exact hl, fun k hk => ?_⟩
  rw [List.length_set] at hk
  obtain ⟨h1, h2, h3, h4, A', c', h5, h6, h7, h8⟩ := h.2 k hk
  rw [List.getElem?_set_ne (by omega), List.getElem?_set_ne (by omega)]
  by_cases e : i = k
  · subst e
    rw [List.getElem_set_self, List.getElem?_set_self (by omega)]
    exact ⟨h1, h2, h3, h4, A, c, rfl, hc, hd, hB⟩
  · rw [List.getElem_set_ne e, List.getElem?_set_ne (by omega)]
    exact ⟨h1, h2, h3, h4, A', c', h5, h6, h7, h8⟩
theorem put_set {l : List Pg} {a b : Int} (hk : Ok l) {i : Nat} (hi : i < l.length) (he : l[i].a = a - a % 256) : put l a b = l.set i ⟨l[i].a, l[i].r, l[i].d.set (a % 256).toNat b⟩ := by
  apply List.ext_getElem (by rw [put_len, List.length_set])
  intro k h1 h2
  rw [put_len] at h1
  rw [put_get l a b k h1]
  by_cases e : i = k
  · subst e
    rw [List.getElem_set_self, if_pos he]
  · rw [List.getElem_set_ne e, if_neg]
    intro h3
    rcases Nat.lt_or_gt_of_ne e with h | h
    · have := hk.inc i k hi h1 h; omega
    · have := hk.inc k i h1 hi h; omega
theorem put_none {l : List Pg} {a b : Int} (hk : Ok l) (h : look l a = none) : put l a b = l := by
  have : ∀ k (h : k < l.length), l[k].a ≠ a - a % 256 := by
    intro k hkl he
    rw [look_some hk.inc hkl he] at h
    cases h
  unfold put
  conv => rhs; rw [← List.map_id l]
  apply List.map_congr_left
  intro p hp
  obtain ⟨k, h, rfl⟩ := List.getElem_of_mem hp
  rw [if_neg (this k h)]; rfl
def RmPost (l : List Pg) (w : World) (e : Ending) (w' : World) : Prop := ∃ v, e = .returned v ∧ RdM w' v l ∧ Below w.heap.size w w'
set_option maxHeartbeats 4000000 in
theorem with_any (v : Value) (l : List Pg) (a b : Int) (w : World) (hm : RdM w v l) (hk : Ok l) (hb0 : 0 ≤ b ∧ b ≤ 255) : Calls Try.prog 44 #[v, .int .i64 a, .int .u8 b] w (RmPost (put l a b) w) := by
  have hlen := hk.len
  obtain ⟨A, c, rfl, hr⟩ := id hm
  have hlc := hr.1
  have HM := As.mk hm
  have HK := As.mk hk
  clear hr hm hk
  go_enter Try.func44, Try.ntmps44
  go_wp2_with fail
  refine (pageof_any _ l a _ HM.out HK.out).mono ?_
  rintro e w1 ⟨i, rfl, hb1, ⟨rfl, hlk⟩ | ⟨k, hkl, rfl, hlk, he⟩⟩
  · have EB := As.mk (put_none (b := b) HK.out hlk)
    have HB := As.mk hb1
    clear hlk hb1
    go_wp2
    go_ret
    exact ⟨_, rfl, by rw [EB.out]; exact HM.out.below HB.out, HB.out⟩
  · have EP := As.mk (put_set (b := b) HK.out hkl he)
    have HB := As.mk hb1
    have HM1 := As.mk (HM.out.below hb1)
    obtain ⟨pb, poff, rfl, _⟩ := (HM1.out).at k hkl
    have hrow := HM1.out.row rfl
    have h1v := As.mk hrow.one'
    have HROW := As.mk hrow
    clear hb1 hrow hlk
    obtain ⟨i0, hi, hz0, hz1, hz2⟩ := info_parts inf68
    obtain ⟨j0, hj, yz0, yz1, yz2⟩ := info_parts inf5
    have hI := As.mk hi
    have hJ := As.mk hj
    have hZ := As.mk (And.intro hz0 (And.intro hz1 hz2))
    have hY := As.mk (And.intro yz0 (And.intro yz1 yz2))
    clear hi hj hz0 hz1 hz2 yz0 yz1 yz2
    have hq : (a % 256).toNat < 256 := by omega
    have ha : a = l[k].a + ((a % 256).toNat : Int) := by omega
    have hp0 := (HK.out.pg k hkl).1
    have hp1 := (HK.out.pg k hkl).2.2.1
    have hdl := As.mk (HK.out.pg k hkl).2.2.2.2.2
    have HQ := As.mk ha
    have hpa := As.mk (rfl : l[k].a = l[k].a)
    obtain ⟨D, cd, db, doff, hcd, hD1, hD2, hDs, hDA⟩ : ∃ (D : Option Addr) (cd db doff : Nat), 256 ≤ cd ∧ w1.cell? ⟨pb, poff + k * 3, none⟩ = some (.int .i64 l[k].a) ∧ w1.cell? ⟨pb, poff + k * 3 + 2, none⟩ = some (.slice (some ⟨db, doff, none⟩) 256 cd) ∧ As (∀ j, j < 256 → w1.cell? ⟨db, doff + j, none⟩ = some (.int .u8 (l[k].d.getD j 0))) ∧ As (∀ x ∈ l[k].d, 0 ≤ x ∧ x ≤ 255) := by
      obtain ⟨b', off', e, hq⟩ := (HM1.out).at k hkl
      injection e with e
      injection e with e1 e2 _
      subst e1 e2
      obtain ⟨q1, q2, q3, q4, D, cd, q5, q6, q7⟩ := hq
      rw [hdl.out] at q5 q6 q7
      obtain ⟨z1, z2, z3, z4⟩ := q7
      obtain ⟨b2, off2, rfl, hc2⟩ := z4 (by omega)
      exact ⟨some ⟨b2, off2, none⟩, cd, b2, off2, q6, q3, q5, ⟨hc2⟩, ⟨z3⟩⟩
    have HDA := As.mk hD1
    have HDB := As.mk hD2
    clear hD1 hD2
    generalize (a % 256).toNat = q at *
    have hpm : l[k].a ≤ 1048320 := hp1
    generalize hpe : l[k].a = p at *
    have HPE := As.mk hpe
    subst ha
    clear hpe hpa he
    have hwr : IntKind.i64.wrap (p + (q : Int) - p) = (q : Int) := by rw [IntKind.wrap_i64]; omega
    have hrowk : As (∃ x0, (rowOf w1 pb poff l.length)[k * 3 + 2]? = some x0) := ⟨by
      obtain ⟨_, _, _, _, A', c', h5, _⟩ := HROW.out.2 k hkl
      exact ⟨_, h5⟩⟩
    have hdq : As (([] ++ (l[k].d.map (Value.int .u8)))[q]? = some (.int .u8 (l[k].d.getD q 0))) := ⟨by
      have hql : q < l[k].d.length := by rw [hdl.out]; exact hq
      rw [List.nil_append, List.getElem?_map, List.getElem?_eq_getElem hql, List.getD_eq_getElem?_getD, List.getElem?_eq_getElem hql]; rfl⟩
    have hbytes : As (∀ (W : World), Below w1.heap.size w1 W → ∀ (j : Nat) (u : Value), (l[k].d.map (Value.int .u8))[j]? = some u → W.cell? ((⟨db, doff, none⟩ : Addr).add j) = some u) := ⟨by
      intro W hW j u hj
      have hjl : j < l[k].d.length := by
        have := (List.getElem?_eq_some_iff.1 hj).1
        simpa using this
      rw [Addr.add_lit]
      have := bl_cell hW (hDs.out j (by rw [← hdl.out]; exact hjl))
      rw [this]
      rw [List.getElem?_map, List.getElem?_eq_getElem hjl] at hj
      rw [List.getD_eq_getElem?_getD, List.getElem?_eq_getElem hjl]
      exact hj⟩
    go_wp2_with (first | (at_builtin; refine wpList_append_own _ rfl (.tmp 16) (.tmp 17) 30 rfl w1.heap.size 68 i0 _ 3 40 Try.underlying30 hI.out hZ.out.1 hZ.out.2.1 hZ.out.2.2 rfl (by omega) (.slice none 0 0) 0 [] rfl ⟨rfl, Or.inl ⟨rfl, rfl⟩⟩ ⟨pb, poff, none⟩ l.length c (rowOf w1 pb poff l.length) rfl (by simp [rowOf]) (fun j u hj => HM1.out.rowcell rfl j u hj) h1v.out (by unfold maxLen; omega) (by omega) (Nat.le_refl _) ?_; (intro v1 w2 hown hg _; have HO := As.mk hown; obtain ⟨g1, cap1, cur1, rfl, hg1, hB1, hf1, hm1, hs1, hx1⟩ := own_slice hown (by omega); have HB1 := As.mk hB1; have HX1 := As.mk hx1; have HS1 := As.mk hs1; have HB2 := As.mk ((Below.refl w1.heap.size w1).grown hg (Nat.le_refl _) (fun k hk => by simp [Value.ownBlock] at hk)); have hcA := bl_cell HB2.out HDA.out; have hcB := bl_cell HB2.out HDB.out; clear hown hg hB1 hx1 hs1)) | (at_builtin; refine wpList_append_own _ rfl (.tmp 19) (.tmp 24) 66 rfl w2.heap.size 5 j0 _ 1 1 Try.underlying66 hJ.out hY.out.1 hY.out.2.1 hY.out.2.2 rfl (by omega) (.slice none 0 0) 0 [] rfl ⟨rfl, Or.inl ⟨rfl, rfl⟩⟩ ⟨db, doff, none⟩ 256 cd (l[k].d.map (Value.int .u8)) rfl (by rw [List.length_map, hdl.out]) (fun j u hj => hbytes.out _ HB2.out j u hj) (by intro u hu; obtain ⟨x, _, rfl⟩ := List.mem_map.1 hu; rfl) (by unfold maxLen; omega) (by omega) (Nat.le_refl _) ?_; (intro v3 w3 hown hg _; obtain ⟨g2, cap2, cur2, rfl, hg2, hB2, hf2, hm2, hs2, hx2⟩ := own_slice hown (by omega); have HB3 := As.mk ((Below.refl w2.heap.size w2).grown hg (Nat.le_refl _) (fun k hk => by simp [Value.ownBlock] at hk)); clear hcA hcB; have hcA := bl_cell HB3.out (bl_cell HB2.out HDA.out); have hC1 := HB1.out.below HB3.out; have hC1l := HB1.out.lt; have hC1g : g1 < g2 := Nat.lt_of_lt_of_le hC1l hg2; have hc1 := hC1.cell (k * 3 + 2); obtain ⟨x0, hx0⟩ := hrowk.out; rw [HX1.out _ _ (by simpa using hx0)] at hc1; have hfr1 := hC1.frozen (k * 3 + 2); have hc2 := hB2.cell q; rw [hx2 q _ (hdq.out)] at hc2; have hfr2 := hB2.frozen q; have HC1 := As.mk hC1; have HC2 := As.mk hB2; have HX2 := As.mk hx2; have HS2 := As.mk hs2; clear hC1 hB2 hx2 hs2 hx0)))
    go_ret
    have hbw : Below w1.heap.size w1 w3 := bl_then HB2.out HB3.out
    have hg2' : w1.heap.size ≤ g2 := Nat.le_trans HB2.out.size hg2
    have hB4 : Below w1.heap.size w1 ((w3.setCell ⟨g2, q, none⟩ (.int .u8 b)).setCell ⟨g1, k * 3 + 2, none⟩ (.slice (some ⟨g2, 0, none⟩) 256 cap2)) := (hbw.setCell hg2' _).setCell hg1 _
    have hk1 : Bk ((w3.setCell ⟨g2, q, none⟩ (.int .u8 b)).setCell ⟨g1, k * 3 + 2, none⟩ (.slice (some ⟨g2, 0, none⟩) 256 cap2)) g1 (cur1.setIfInBounds (k * 3 + 2) (.slice (some ⟨g2, 0, none⟩) 256 cap2)) 68 := (HC1.out.other (by simp; omega) _).set' _ _
    have hk2 : Bk ((w3.setCell ⟨g2, q, none⟩ (.int .u8 b)).setCell ⟨g1, k * 3 + 2, none⟩ (.slice (some ⟨g2, 0, none⟩) 256 cap2)) g2 (cur2.setIfInBounds q (.int .u8 b)) 5 := (HC2.out.set' _ _).other (by simp; omega) _
    have hdl' : (l[k].d.set q b).length = 256 := by rw [List.length_set]; exact hdl.out
    have hlp : (put l (p + (q : Int)) b).length = l.length := put_len _ _ _
    have hqs : q < cur2.size := by rw [HS2.out]; omega
    have hks : k * 3 + 2 < cur1.size := by rw [HS1.out]; omega
    refine ⟨_, rfl, ?_, HB.out.trans (hB4.mono HB.out.size)⟩
    have hR := ((HROW.out.below hB4).imp (B' := fun _ => True) (fun _ _ => trivial)).setd hkl (d := l[k].d.set q b) (A := some ⟨g2, 0, none⟩) (c := cap2) (by rw [hdl']; omega) ⟨rfl, by rw [hdl']; omega, ?_, fun _ => ⟨g2, 0, rfl, ?_⟩⟩ (fun _ _ _ _ => trivial)
    · rw [hdl', HPE.out, ← EP.out] at hR
      have := hR.rd (g := g1) (c := cap1) (by rw [hlp]; omega) (by rw [hlp]; omega) (fun j u hj => by
        rw [hk1.cell]
        by_cases e : k * 3 + 2 = j
        · subst e
          rw [List.getElem?_set_self (by rw [HROW.out.1]; omega)] at hj
          simp only [Array.getElem?_setIfInBounds_self, hks]
          exact hj
        · rw [List.getElem?_set_ne e] at hj
          rw [Array.getElem?_setIfInBounds_ne e]
          exact HX1.out j u (by simpa using hj))
      rw [hlp] at this
      exact this
    · intro x hx
      rcases List.mem_or_eq_of_mem_set hx with h1 | h1
      · exact hDA.out x h1
      · rw [h1]; exact hb0
    · intro j hj
      rw [hdl'] at hj
      rw [Nat.zero_add, hk2.cell]
      by_cases e : q = j
      · subst e
        simp only [Array.getElem?_setIfInBounds_self, hqs]
        rw [List.getD_eq_getElem?_getD, List.getElem?_set_self (by rw [hdl.out]; exact hj)]; rfl
      · rw [Array.getElem?_setIfInBounds_ne e, List.getD_eq_getElem?_getD, List.getElem?_set_ne e, ← List.getD_eq_getElem?_getD]
        have hjl : j < l[k].d.length := by rw [hdl.out]; exact hj
        refine HX2.out j _ ?_
        rw [List.nil_append, List.getElem?_map, List.getElem?_eq_getElem hjl, List.getD_eq_getElem?_getD, List.getElem?_eq_getElem hjl]; rfl
end Go.Proofs.Ytbbhkjljiljadaa
