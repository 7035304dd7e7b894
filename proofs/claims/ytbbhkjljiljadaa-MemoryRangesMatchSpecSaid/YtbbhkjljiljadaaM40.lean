/- append of pages; Inserted of the reference. Conditions: the memory and the page read so. -/
import Derived.Test.YtbbhkjljiljadaaM38
namespace Go.Proofs.Ytbbhkjljiljadaa
open Go.RowKit
set_option linter.unusedVariables false
set_option linter.unusedSimpArgs false
theorem run_append_pages (W : World) (base : Nat) (t ty : TypeId) (ht : Try.prog.underlying t = some (.slice 68)) (v : Value) (n : Nat) (xs : List Value) (hown : W.ownsRow base 68 3 v n xs) (A : Option Addr) (m c : Nat) (news : List Value) (hl : news.length = m * 3)
    (hsrc : 0 < m → ∃ ad, A = some ad ∧ ∀ (j : Nat) (u : Value), news[j]? = some u → W.cell? (ad.add j) = some u) (h1 : ∀ u ∈ news, u.oneCell' = true) (hb : (n + m) * 40 ≤ 140737488355328) (hbase : base ≤ W.heap.size) :
    ∃ v' w', (Builtin.append_ #[t, t] ty #[v, .slice A m c]).run Try.prog W = .ok v' w' ∧ w'.ownsRow base 68 3 v' (n + m) (xs ++ news) ∧ W.grownBy w' v.ownBlock := by
  obtain ⟨i, hi, h0, h3, h4⟩ := info_parts inf68
  have hcell : ∀ ad, A = some ad → ∀ (j : Nat) (u : Value), news[j]? = some u → W.cell? (ad.add j) = some u := by
    intro ad e j u hj
    have hm : 0 < m := by
      have := (List.getElem?_eq_some_iff.1 hj).1
      rw [hl] at this
      omega
    obtain ⟨ad', e', hc⟩ := hsrc hm
    rw [e] at e'
    rw [Option.some.inj e']
    exact hc j u hj
  cases A with
  | some ad =>
    obtain ⟨v', w', hr, ho, hg, _, _⟩ := run_append_own_at (P := Try.prog) W base t ty 68 i _ 3 40 ht hi h0 h3 h4 rfl (by omega) v n xs hown ad m c news hl (hcell ad rfl) h1 (by unfold maxLen; omega) hb hbase
    exact ⟨v', w', hr, ho, hg⟩
  | none =>
    have hm : m = 0 := by
      rcases Nat.eq_zero_or_pos m with h | h
      · exact h
      · obtain ⟨ad, e, _⟩ := hsrc h
        cases e
    subst hm
    have hn : news = [] := List.eq_nil_of_length_eq_zero (by simpa using hl)
    subst hn
    refine ⟨v, W, ?_, by simpa using hown, World.grownBy.refl W _⟩
    have hz : ∀ w, (Go.sizeOf 68).run Try.prog w = .ok 3 w := fun w => by simp [sizeOf, typeInfo, hi, h3]
    rcases hown.2 with ⟨rfl, rfl⟩ | ⟨g, cap, cur, rfl, _, _, hnc, _⟩
    · simp [Builtin.append_, run_underlying ht, hz, Builtin.lenOf, Builtin.firstCells]
    · simp [Builtin.append_, run_underlying ht, hz, Builtin.lenOf, Builtin.firstCells, hnc, storeCells]
theorem RowP.srcs {W : World} {v : Value} {l : List Pg} (hm : RdM W v l) : ∃ A c xs, v = .slice A l.length c ∧ l.length ≤ c ∧ RowP W (fun g => g < W.heap.size) xs l ∧ (0 < l.length → ∃ b off, A = some ⟨b, off, none⟩ ∧ ∀ (j : Nat) (u : Value), xs[j]? = some u → W.cell? ⟨b, off + j, none⟩ = some u) := by
  obtain ⟨A, c, rfl, h1, h2, h3⟩ := id hm
  rcases Nat.eq_zero_or_pos l.length with h0 | h0
  · obtain rfl : l = [] := List.length_eq_zero_iff.1 h0
    exact ⟨A, c, [], rfl, h1, RowP.nil _ _, fun h => absurd h (by simp)⟩
  · obtain ⟨b, off, rfl, _⟩ := h3 h0
    refine ⟨_, c, rowOf W b off l.length, rfl, h1, hm.row rfl, fun _ => ⟨b, off, rfl, fun j u hj => ?_⟩⟩
    have := hm.rowcell rfl j u hj
    rwa [Addr.add_lit] at this
/-- A row of its own reads as its pages. -/
theorem RowP.own {W : World} {base : Nat} {v : Value} {xs : List Value} {l : List Pg} {B : Nat → Prop} (hR : RowP W B xs l) (ho : W.ownsRow base 68 3 v l.length xs) (hb : l.length * 40 ≤ 140737488351232) : RdM W v l := by
  rcases Nat.eq_zero_or_pos l.length with h0 | h0
  · obtain rfl : l = [] := List.length_eq_zero_iff.1 h0
    obtain ⟨_, ⟨rfl, _⟩ | ⟨g, cap, cur, rfl, _⟩⟩ := ho
    · exact ⟨none, 0, rfl, by simp, by simp, fun h => absurd h (by simp)⟩
    · exact ⟨_, cap, rfl, by simp, by simp, fun h => absurd h (by simp)⟩
  · obtain ⟨g, cap, cur, rfl, _, hB, hf, _, _, hx⟩ := own_slice ho h0
    exact hR.rd hb hf (fun j u hj => by rw [hB.cell]; exact hx j u hj)
theorem ap_rows {ops : Array Oper} {rest : List Oper} {o : Oper} {a : Act} {Q : Exit → Act → World → Prop} {W : World} {base : Nat} (hgd : o.guard = none) (s x : Operand) (t : TypeId) (ht : Try.prog.underlying t = some (.slice 68))
    (ho : o.op = .call { callee := .builtin .append, args := #[s, x], argTypes := #[t, t] })
    (v : Value) (n : Nat) (xs : List Value) (A : Option Addr) (m c : Nat) (news : List Value) (hs : a.eval s = v) (hx : a.eval x = .slice A m c) (hown : W.ownsRow base 68 3 v n xs) (hl : news.length = m * 3)
    (hsrc : 0 < m → ∃ ad, A = some ad ∧ ∀ (j : Nat) (u : Value), news[j]? = some u → W.cell? (ad.add j) = some u) (h1 : ∀ u ∈ news, u.oneCell' = true) (hb : (n + m) * 40 ≤ 140737488355328) (hbase : base ≤ W.heap.size)
    (h : ∀ v1 w1, w1.ownsRow base 68 3 v1 (n + m) (xs ++ news) → W.grownBy w1 v.ownBlock → wpList Try.prog ops Q rest (a.put o.dst v1) w1) : wpList Try.prog ops Q (o :: rest) a W := by
  obtain ⟨v', w', hr, ho', hg⟩ := run_append_pages W base t o.type ht v n xs hown A m c news hl hsrc h1 hb hbase
  exact Lib.wpList_append_run _ hgd s x t t ho v _ hs hx _ _ hr (h v' w' ho' hg)
def InRel (l : List Pg) (pa : Int) (W0 : World) (vi : Value) (wr : World) : Prop := ∃ k : Nat, vi = .int .i64 k ∧ k ≤ l.length ∧ As (∀ j (h : j < l.length), j < k → l[j].a < pa) ∧ As (Below W0.heap.size W0 wr)
def InPost (l : List Pg) (p : Pg) (w : World) (e : Ending) (w' : World) : Prop :=
  ∃ (v : Value) (k : Nat), e = .returned v ∧ k ≤ l.length ∧ (∀ j (h : j < l.length), j < k → l[j].a < p.a) ∧ (∀ h : k < l.length, p.a ≤ l[k].a) ∧ RdM w' v (l.take k ++ [p] ++ l.drop k) ∧ Below w.heap.size w w'
set_option maxHeartbeats 4000000 in
theorem inserted_any (v : Value) (l : List Pg) (p : Pg) (D : Option Addr) (cd : Nat) (w : World) (hm : RdM w v l) (hp : RdB w D p.d.length p.d) (hcd : p.d.length ≤ cd) (ha : I64 p.a) (hr : I64 p.r) (hlen : l.length ≤ 1000000) :
    Calls Try.prog 39 #[v, .agg #[.int .i64 p.a, .int .i64 p.r, .slice D p.d.length cd]] w (InPost l p w) := by
  obtain ⟨A, c, xs, rfl, hlc, hrow, hsrc⟩ := RowP.srcs hm
  have HM := As.mk hm
  have HP := As.mk hp
  have HROW := As.mk hrow
  have HSRC := As.mk hsrc
  have HI := As.mk (And.intro ha hr)
  have hpd := As.mk (And.intro hcd hp.2.1)
  clear hm hp hrow hsrc ha hr hcd
  have hpl : As (p.d.length = p.d.length) := ⟨rfl⟩
  generalize hpln : p.d.length = pl at *
  have HPL := As.mk hpln
  clear hpln hpl
  generalize hpa : p.a = pa at *
  generalize hpr : p.r = pr at *
  have HPA := As.mk (And.intro hpa hpr)
  clear hpa hpr
  go_enter Try.func39, Try.ntmps39
  go_wp2
  generalize hW0 : w.alloc _ = W0
  have B0 : As (Below w.heap.size w W0) := ⟨by rw [← hW0]; exact bl_alloc (Below.refl _ _) _⟩
  have K0 : As (Bk W0 w.heap.size #[.int .i64 pa, .int .i64 pr, .slice D pl cd] 68) := ⟨by rw [← hW0]; exact Bk.new _ _ _⟩
  clear hW0
  go_loopw [5] (fun vi wr => InRel l pa W0 vi wr) (fun vi _ => (l.length - intOf vi).toNat)
  case atStart => exact ⟨0, rfl, by omega, ⟨fun j h hj => by omega⟩, ⟨Below.refl _ _⟩⟩
  case round =>
    obtain ⟨k, rfl, hkl, hA, hb⟩ := hrel
    have hk3 := (K0.out.below hb.out).three
    by_cases hlt : k < l.length
    · obtain ⟨b, off, rfl, hP⟩ := ((HM.out.below B0.out).below hb.out).at k hlt
      obtain ⟨h1, h2, h3, h4, D1, c1, h5, h6, h7⟩ := hP
      clear h1 h2 h4 h5 h6 h7
      generalize hq : l[k].a = q at *
      have HQ := As.mk hq
      clear hq
      by_cases hc : q < pa
      · have hd1 : decide (k < l.length) = true := decide_eq_true hlt
        have hd2 : decide (q < pa) = true := decide_eq_true hc
        go_wp2
        go_quiet (fail)
        go_wp2
        go_roundw
        case rel => exact ⟨k + 1, by go_num, by omega, ⟨fun j h hj => by
          rcases Nat.lt_or_ge j k with h' | h'
          · exact hA.out j h h'
          · obtain rfl : j = k := by omega
            rw [HQ.out]; exact hc⟩, ⟨bl_drewN hb.out nq⟩⟩
        case measure => simp [intOf]; omega
      · have hd1 : decide (k < l.length) = true := decide_eq_true hlt
        have hd2 : decide (q < pa) = false := decide_eq_false hc
        go_wp2
        go_quiet (fail)
        have hcx : As (∀ (j : Nat) (u : Value), xs[j]? = some u → w.cell? ⟨b, off + j, none⟩ = some u) := ⟨by
          obtain ⟨b9, off9, e9, hx9⟩ := HSRC.out (by omega)
          cases e9; exact hx9⟩
        have hck : ¬ c = k := by omega
        generalize hW1 : wr.drewN nq = W1
        have BX : As (Below w.heap.size w W1) := ⟨by rw [← hW1]; exact bl_drewN (bl_then B0.out hb.out) nq⟩
        have KX : As (Bk W1 w.heap.size #[.int .i64 pa, .int .i64 pr, .slice D pl cd] 68) := ⟨by rw [← hW1]; exact (K0.out.below hb.out).drewN nq⟩
        have hwl := KX.out.lt
        have SRC : As (∀ (W : World), Below W1.heap.size W1 W → ∀ (j : Nat) (u : Value), xs[j]? = some u → W.cell? ⟨b, off + j, none⟩ = some u) := ⟨fun W hW j u hj => bl_cell hW (bl_cell BX.out (hcx.out j u hj))⟩
        have HX1 := As.mk HROW.out.one'
        have HXL := As.mk HROW.out.1
        clear hk3 hW1 hd1 hd2
        go_wp2_with (first | (at_builtin; refine ap_rows (base := W1.heap.size) rfl (.tmp 23) (.tmp 26) 30 Try.underlying30 rfl (.slice none 0 0) 0 [] (some ⟨b, off, none⟩) k c (xs.take (k * 3)) rfl rfl ⟨rfl, Or.inl ⟨rfl, rfl⟩⟩ (by have := HXL.out; rw [List.length_take]; omega) (fun _ => ⟨_, rfl, fun j u hj => by rw [Addr.add_lit]; refine SRC.out _ (Below.refl _ _) j u ?_; (rw [List.getElem?_take] at hj; split at hj; exact hj; cases hj)⟩) (fun u hu => HX1.out u (List.mem_of_mem_take hu)) (by omega) (Nat.le_refl _) ?_; (intro v2 w2 ho hg; have O2 := As.mk ho; have B2 := As.mk ((Below.refl W1.heap.size W1).grown hg (Nat.le_refl _) (fun k hk => by simp [Value.ownBlock] at hk)); have k3 := (KX.out.below B2.out).three; have hs2 := B2.out.size; clear ho hg)) | (at_builtin; refine ap_pg (base := W1.heap.size) rfl (.tmp 28) (.tmp 30) 30 Try.underlying30 rfl v2 (0 + k) ([] ++ xs.take (k * 3)) (.int .i64 pa) (.int .i64 pr) (.slice D pl cd) _ 1 rfl rfl (Bk.new _ _ _) (by simp [Value.oneCell']) (own_below O2.out (bl_alloc (Below.refl _ _) _)) (by simp; omega) (by omega) ?_; (intro v3 w3 ho hg; have O3 := As.mk ho; have B3 := As.mk ((B2.out.alloc B2.out.size _).grown hg (by simp; omega) (fun q hq => (O2.out.lt q hq).1)); clear ho hg k3)) | (at_builtin; refine ap_rows (base := W1.heap.size) rfl (.tmp 32) (.tmp 35) 30 Try.underlying30 rfl v3 (0 + k + 1) ([] ++ xs.take (k * 3) ++ [.int .i64 pa, .int .i64 pr, .slice D pl cd]) (some ⟨b, off + k * 3, none⟩) (l.length - k) (c - k) (xs.drop (k * 3)) rfl rfl O3.out (by have := HXL.out; rw [List.length_drop]; omega) (fun h0 => ⟨_, rfl, fun j u hj => by rw [Addr.add_lit, Nat.add_assoc]; refine SRC.out _ B3.out _ u ?_; rwa [List.getElem?_drop] at hj⟩) (fun u hu => HX1.out u (List.mem_of_mem_drop hu)) (by omega) B3.out.size ?_; (intro v4 w4 ho hg; have O4 := As.mk ho; have B4 := As.mk (B3.out.grown hg (by have := B3.out.size; omega) (fun q hq => (O3.out.lt q hq).1)); clear ho hg)))
        go_ret
        have HB4 := bl_then BX.out B4.out
        have hR1 : RowP w4 (fun _ => True) [.int .i64 pa, .int .i64 pr, .slice D pl cd] [p] := by
          have := RowP.one (W := w4) (B := fun _ => True) (p := p) (A := D) (c := cd) (by rw [HPA.out.1]; exact HI.out.1) (by rw [HPA.out.2]; exact HI.out.2) (by rw [HPL.out]; exact hpd.out.1) (by rw [HPL.out]; exact HP.out.below HB4) (fun _ _ _ _ => trivial)
          rw [HPA.out.1, HPA.out.2, HPL.out] at this
          exact this
        have hRR := ((HROW.out.below HB4).imp (B' := fun _ => True) (fun _ _ => trivial))
        have hall := ((hRR.take k).app hR1).app (hRR.drop k)
        have hll : (l.take k ++ [p] ++ l.drop k).length = 0 + k + 1 + (l.length - k) := by first | (simp; done) | (simp; omega)
        have ho := O4.out
        rw [← hll] at ho
        refine ⟨_, k, rfl, hkl, (fun j h hj => by rw [HPA.out.1]; exact hA.out j h hj), (fun h => by rw [HPA.out.1, HQ.out]; omega), RowP.own hall (by simpa using ho) (by omega), HB4⟩
    · obtain rfl : k = l.length := by omega
      have hd1 : decide (l.length < l.length) = false := decide_eq_false (by omega)
      by_cases h0 : l.length = 0
      · obtain rfl : l = [] := List.length_eq_zero_iff.1 h0
        go_wp2
        go_quiet (fail)
        cases A with
        | none =>
          by_cases hck : c = 0
          · subst hck
            generalize hW1 : wr.drewN nq = W1
            have BX : As (Below w.heap.size w W1) := ⟨by rw [← hW1]; exact bl_drewN (bl_then B0.out hb.out) nq⟩
            have KX : As (Bk W1 w.heap.size #[.int .i64 pa, .int .i64 pr, .slice D pl cd] 68) := ⟨by rw [← hW1]; exact (K0.out.below hb.out).drewN nq⟩
            have hwl := KX.out.lt
            have HX1 := As.mk HROW.out.one'
            have HXL := As.mk HROW.out.1
            clear hk3 hW1
            go_wp2_with (first | (at_builtin; refine ap_rows (base := W1.heap.size) rfl (.tmp 23) (.tmp 26) 30 Try.underlying30 rfl (.slice none 0 0) 0 [] (none) 0 0 (xs.take (0 * 3)) rfl rfl ⟨rfl, Or.inl ⟨rfl, rfl⟩⟩ (by have := HXL.out; rw [List.length_take]; omega) (fun h => absurd h (by omega)) (fun u hu => HX1.out u (List.mem_of_mem_take hu)) (by omega) (Nat.le_refl _) ?_; (intro v2 w2 ho hg; have O2 := As.mk ho; have B2 := As.mk ((Below.refl W1.heap.size W1).grown hg (Nat.le_refl _) (fun k hk => by simp [Value.ownBlock] at hk)); have k3 := (KX.out.below B2.out).three; have hs2 := B2.out.size; clear ho hg)) | (at_builtin; refine ap_pg (base := W1.heap.size) rfl (.tmp 28) (.tmp 30) 30 Try.underlying30 rfl v2 (0 + 0) ([] ++ xs.take (0 * 3)) (.int .i64 pa) (.int .i64 pr) (.slice D pl cd) _ 1 rfl rfl (Bk.new _ _ _) (by simp [Value.oneCell']) (own_below O2.out (bl_alloc (Below.refl _ _) _)) (by simp; omega) (by omega) ?_; (intro v3 w3 ho hg; have O3 := As.mk ho; have B3 := As.mk ((B2.out.alloc B2.out.size _).grown hg (by simp; omega) (fun q hq => (O2.out.lt q hq).1)); clear ho hg k3)) | (at_builtin; refine ap_rows (base := W1.heap.size) rfl (.tmp 32) (.tmp 35) 30 Try.underlying30 rfl v3 (0 + 0 + 1) ([] ++ xs.take (0 * 3) ++ [.int .i64 pa, .int .i64 pr, .slice D pl cd]) (none) 0 0 (xs.drop (0 * 3)) rfl rfl O3.out (by have := HXL.out; rw [List.length_drop]; omega) (fun h0 => absurd h0 (by omega)) (fun u hu => HX1.out u (List.mem_of_mem_drop hu)) (by omega) B3.out.size ?_; (intro v4 w4 ho hg; have O4 := As.mk ho; have B4 := As.mk (B3.out.grown hg (by have := B3.out.size; omega) (fun q hq => (O3.out.lt q hq).1)); clear ho hg)))
            go_ret
            have HB4 := bl_then BX.out B4.out
            have hR1 : RowP w4 (fun _ => True) [.int .i64 pa, .int .i64 pr, .slice D pl cd] [p] := by
              have := RowP.one (W := w4) (B := fun _ => True) (p := p) (A := D) (c := cd) (by rw [HPA.out.1]; exact HI.out.1) (by rw [HPA.out.2]; exact HI.out.2) (by rw [HPL.out]; exact hpd.out.1) (by rw [HPL.out]; exact HP.out.below HB4) (fun _ _ _ _ => trivial)
              rw [HPA.out.1, HPA.out.2, HPL.out] at this
              exact this
            have hRR := ((HROW.out.below HB4).imp (B' := fun _ => True) (fun _ _ => trivial))
            have hall := ((hRR.take 0).app hR1).app (hRR.drop 0)
            have hll : ([].take 0 ++ [p] ++ [].drop 0).length = 0 + 0 + 1 + 0 := by first | (simp; done) | (simp; omega)
            have ho := O4.out
            rw [← hll] at ho
            refine ⟨_, 0, rfl, Nat.le_refl _, (fun j h hj => by rw [HPA.out.1]; exact hA.out j h hj), (fun h => absurd h (by simp)), RowP.own hall (by simpa using ho) (by omega), HB4⟩
          · skip
            generalize hW1 : wr.drewN nq = W1
            have BX : As (Below w.heap.size w W1) := ⟨by rw [← hW1]; exact bl_drewN (bl_then B0.out hb.out) nq⟩
            have KX : As (Bk W1 w.heap.size #[.int .i64 pa, .int .i64 pr, .slice D pl cd] 68) := ⟨by rw [← hW1]; exact (K0.out.below hb.out).drewN nq⟩
            have hwl := KX.out.lt
            have HX1 := As.mk HROW.out.one'
            have HXL := As.mk HROW.out.1
            clear hk3 hW1
            go_wp2_with (first | (at_builtin; refine ap_rows (base := W1.heap.size) rfl (.tmp 23) (.tmp 26) 30 Try.underlying30 rfl (.slice none 0 0) 0 [] (none) 0 c (xs.take (0 * 3)) rfl rfl ⟨rfl, Or.inl ⟨rfl, rfl⟩⟩ (by have := HXL.out; rw [List.length_take]; omega) (fun h => absurd h (by omega)) (fun u hu => HX1.out u (List.mem_of_mem_take hu)) (by omega) (Nat.le_refl _) ?_; (intro v2 w2 ho hg; have O2 := As.mk ho; have B2 := As.mk ((Below.refl W1.heap.size W1).grown hg (Nat.le_refl _) (fun k hk => by simp [Value.ownBlock] at hk)); have k3 := (KX.out.below B2.out).three; have hs2 := B2.out.size; clear ho hg)) | (at_builtin; refine ap_pg (base := W1.heap.size) rfl (.tmp 28) (.tmp 30) 30 Try.underlying30 rfl v2 (0 + 0) ([] ++ xs.take (0 * 3)) (.int .i64 pa) (.int .i64 pr) (.slice D pl cd) _ 1 rfl rfl (Bk.new _ _ _) (by simp [Value.oneCell']) (own_below O2.out (bl_alloc (Below.refl _ _) _)) (by simp; omega) (by omega) ?_; (intro v3 w3 ho hg; have O3 := As.mk ho; have B3 := As.mk ((B2.out.alloc B2.out.size _).grown hg (by simp; omega) (fun q hq => (O2.out.lt q hq).1)); clear ho hg k3)) | (at_builtin; refine ap_rows (base := W1.heap.size) rfl (.tmp 32) (.tmp 35) 30 Try.underlying30 rfl v3 (0 + 0 + 1) ([] ++ xs.take (0 * 3) ++ [.int .i64 pa, .int .i64 pr, .slice D pl cd]) (none) 0 c (xs.drop (0 * 3)) rfl rfl O3.out (by have := HXL.out; rw [List.length_drop]; omega) (fun h0 => absurd h0 (by omega)) (fun u hu => HX1.out u (List.mem_of_mem_drop hu)) (by omega) B3.out.size ?_; (intro v4 w4 ho hg; have O4 := As.mk ho; have B4 := As.mk (B3.out.grown hg (by have := B3.out.size; omega) (fun q hq => (O3.out.lt q hq).1)); clear ho hg)))
            go_ret
            have HB4 := bl_then BX.out B4.out
            have hR1 : RowP w4 (fun _ => True) [.int .i64 pa, .int .i64 pr, .slice D pl cd] [p] := by
              have := RowP.one (W := w4) (B := fun _ => True) (p := p) (A := D) (c := cd) (by rw [HPA.out.1]; exact HI.out.1) (by rw [HPA.out.2]; exact HI.out.2) (by rw [HPL.out]; exact hpd.out.1) (by rw [HPL.out]; exact HP.out.below HB4) (fun _ _ _ _ => trivial)
              rw [HPA.out.1, HPA.out.2, HPL.out] at this
              exact this
            have hRR := ((HROW.out.below HB4).imp (B' := fun _ => True) (fun _ _ => trivial))
            have hall := ((hRR.take 0).app hR1).app (hRR.drop 0)
            have hll : ([].take 0 ++ [p] ++ [].drop 0).length = 0 + 0 + 1 + 0 := by first | (simp; done) | (simp; omega)
            have ho := O4.out
            rw [← hll] at ho
            refine ⟨_, 0, rfl, Nat.le_refl _, (fun j h hj => by rw [HPA.out.1]; exact hA.out j h hj), (fun h => absurd h (by simp)), RowP.own hall (by simpa using ho) (by omega), HB4⟩
        | some ad =>
          by_cases hck : c = 0
          · subst hck
            generalize hW1 : wr.drewN nq = W1
            have BX : As (Below w.heap.size w W1) := ⟨by rw [← hW1]; exact bl_drewN (bl_then B0.out hb.out) nq⟩
            have KX : As (Bk W1 w.heap.size #[.int .i64 pa, .int .i64 pr, .slice D pl cd] 68) := ⟨by rw [← hW1]; exact (K0.out.below hb.out).drewN nq⟩
            have hwl := KX.out.lt
            have HX1 := As.mk HROW.out.one'
            have HXL := As.mk HROW.out.1
            clear hk3 hW1
            go_wp2_with (first | (at_builtin; refine ap_rows (base := W1.heap.size) rfl (.tmp 23) (.tmp 26) 30 Try.underlying30 rfl (.slice none 0 0) 0 [] (some ad) 0 0 (xs.take (0 * 3)) rfl rfl ⟨rfl, Or.inl ⟨rfl, rfl⟩⟩ (by have := HXL.out; rw [List.length_take]; omega) (fun h => absurd h (by omega)) (fun u hu => HX1.out u (List.mem_of_mem_take hu)) (by omega) (Nat.le_refl _) ?_; (intro v2 w2 ho hg; have O2 := As.mk ho; have B2 := As.mk ((Below.refl W1.heap.size W1).grown hg (Nat.le_refl _) (fun k hk => by simp [Value.ownBlock] at hk)); have k3 := (KX.out.below B2.out).three; have hs2 := B2.out.size; clear ho hg)) | (at_builtin; refine ap_pg (base := W1.heap.size) rfl (.tmp 28) (.tmp 30) 30 Try.underlying30 rfl v2 (0 + 0) ([] ++ xs.take (0 * 3)) (.int .i64 pa) (.int .i64 pr) (.slice D pl cd) _ 1 rfl rfl (Bk.new _ _ _) (by simp [Value.oneCell']) (own_below O2.out (bl_alloc (Below.refl _ _) _)) (by simp; omega) (by omega) ?_; (intro v3 w3 ho hg; have O3 := As.mk ho; have B3 := As.mk ((B2.out.alloc B2.out.size _).grown hg (by simp; omega) (fun q hq => (O2.out.lt q hq).1)); clear ho hg k3)) | (at_builtin; refine ap_rows (base := W1.heap.size) rfl (.tmp 32) (.tmp 35) 30 Try.underlying30 rfl v3 (0 + 0 + 1) ([] ++ xs.take (0 * 3) ++ [.int .i64 pa, .int .i64 pr, .slice D pl cd]) (some ad) 0 0 (xs.drop (0 * 3)) rfl rfl O3.out (by have := HXL.out; rw [List.length_drop]; omega) (fun h0 => absurd h0 (by omega)) (fun u hu => HX1.out u (List.mem_of_mem_drop hu)) (by omega) B3.out.size ?_; (intro v4 w4 ho hg; have O4 := As.mk ho; have B4 := As.mk (B3.out.grown hg (by have := B3.out.size; omega) (fun q hq => (O3.out.lt q hq).1)); clear ho hg)))
            go_ret
            have HB4 := bl_then BX.out B4.out
            have hR1 : RowP w4 (fun _ => True) [.int .i64 pa, .int .i64 pr, .slice D pl cd] [p] := by
              have := RowP.one (W := w4) (B := fun _ => True) (p := p) (A := D) (c := cd) (by rw [HPA.out.1]; exact HI.out.1) (by rw [HPA.out.2]; exact HI.out.2) (by rw [HPL.out]; exact hpd.out.1) (by rw [HPL.out]; exact HP.out.below HB4) (fun _ _ _ _ => trivial)
              rw [HPA.out.1, HPA.out.2, HPL.out] at this
              exact this
            have hRR := ((HROW.out.below HB4).imp (B' := fun _ => True) (fun _ _ => trivial))
            have hall := ((hRR.take 0).app hR1).app (hRR.drop 0)
            have hll : ([].take 0 ++ [p] ++ [].drop 0).length = 0 + 0 + 1 + 0 := by first | (simp; done) | (simp; omega)
            have ho := O4.out
            rw [← hll] at ho
            refine ⟨_, 0, rfl, Nat.le_refl _, (fun j h hj => by rw [HPA.out.1]; exact hA.out j h hj), (fun h => absurd h (by simp)), RowP.own hall (by simpa using ho) (by omega), HB4⟩
          · skip
            generalize hW1 : wr.drewN nq = W1
            have BX : As (Below w.heap.size w W1) := ⟨by rw [← hW1]; exact bl_drewN (bl_then B0.out hb.out) nq⟩
            have KX : As (Bk W1 w.heap.size #[.int .i64 pa, .int .i64 pr, .slice D pl cd] 68) := ⟨by rw [← hW1]; exact (K0.out.below hb.out).drewN nq⟩
            have hwl := KX.out.lt
            have HX1 := As.mk HROW.out.one'
            have HXL := As.mk HROW.out.1
            clear hk3 hW1
            go_wp2_with (first | (at_builtin; refine ap_rows (base := W1.heap.size) rfl (.tmp 23) (.tmp 26) 30 Try.underlying30 rfl (.slice none 0 0) 0 [] (some ad) 0 c (xs.take (0 * 3)) rfl rfl ⟨rfl, Or.inl ⟨rfl, rfl⟩⟩ (by have := HXL.out; rw [List.length_take]; omega) (fun h => absurd h (by omega)) (fun u hu => HX1.out u (List.mem_of_mem_take hu)) (by omega) (Nat.le_refl _) ?_; (intro v2 w2 ho hg; have O2 := As.mk ho; have B2 := As.mk ((Below.refl W1.heap.size W1).grown hg (Nat.le_refl _) (fun k hk => by simp [Value.ownBlock] at hk)); have k3 := (KX.out.below B2.out).three; have hs2 := B2.out.size; clear ho hg)) | (at_builtin; refine ap_pg (base := W1.heap.size) rfl (.tmp 28) (.tmp 30) 30 Try.underlying30 rfl v2 (0 + 0) ([] ++ xs.take (0 * 3)) (.int .i64 pa) (.int .i64 pr) (.slice D pl cd) _ 1 rfl rfl (Bk.new _ _ _) (by simp [Value.oneCell']) (own_below O2.out (bl_alloc (Below.refl _ _) _)) (by simp; omega) (by omega) ?_; (intro v3 w3 ho hg; have O3 := As.mk ho; have B3 := As.mk ((B2.out.alloc B2.out.size _).grown hg (by simp; omega) (fun q hq => (O2.out.lt q hq).1)); clear ho hg k3)) | (at_builtin; refine ap_rows (base := W1.heap.size) rfl (.tmp 32) (.tmp 35) 30 Try.underlying30 rfl v3 (0 + 0 + 1) ([] ++ xs.take (0 * 3) ++ [.int .i64 pa, .int .i64 pr, .slice D pl cd]) (some ad) 0 c (xs.drop (0 * 3)) rfl rfl O3.out (by have := HXL.out; rw [List.length_drop]; omega) (fun h0 => absurd h0 (by omega)) (fun u hu => HX1.out u (List.mem_of_mem_drop hu)) (by omega) B3.out.size ?_; (intro v4 w4 ho hg; have O4 := As.mk ho; have B4 := As.mk (B3.out.grown hg (by have := B3.out.size; omega) (fun q hq => (O3.out.lt q hq).1)); clear ho hg)))
            go_ret
            have HB4 := bl_then BX.out B4.out
            have hR1 : RowP w4 (fun _ => True) [.int .i64 pa, .int .i64 pr, .slice D pl cd] [p] := by
              have := RowP.one (W := w4) (B := fun _ => True) (p := p) (A := D) (c := cd) (by rw [HPA.out.1]; exact HI.out.1) (by rw [HPA.out.2]; exact HI.out.2) (by rw [HPL.out]; exact hpd.out.1) (by rw [HPL.out]; exact HP.out.below HB4) (fun _ _ _ _ => trivial)
              rw [HPA.out.1, HPA.out.2, HPL.out] at this
              exact this
            have hRR := ((HROW.out.below HB4).imp (B' := fun _ => True) (fun _ _ => trivial))
            have hall := ((hRR.take 0).app hR1).app (hRR.drop 0)
            have hll : ([].take 0 ++ [p] ++ [].drop 0).length = 0 + 0 + 1 + 0 := by first | (simp; done) | (simp; omega)
            have ho := O4.out
            rw [← hll] at ho
            refine ⟨_, 0, rfl, Nat.le_refl _, (fun j h hj => by rw [HPA.out.1]; exact hA.out j h hj), (fun h => absurd h (by simp)), RowP.own hall (by simpa using ho) (by omega), HB4⟩
      · obtain ⟨b, off, rfl, _⟩ := HSRC.out (by omega)
        go_wp2
        go_quiet (fail)
        have hcx : As (∀ (j : Nat) (u : Value), xs[j]? = some u → w.cell? ⟨b, off + j, none⟩ = some u) := ⟨by
          obtain ⟨b9, off9, e9, hx9⟩ := HSRC.out (by omega)
          cases e9; exact hx9⟩
        by_cases hck : c = l.length
        · subst hck
          generalize hW1 : wr.drewN nq = W1
          have BX : As (Below w.heap.size w W1) := ⟨by rw [← hW1]; exact bl_drewN (bl_then B0.out hb.out) nq⟩
          have KX : As (Bk W1 w.heap.size #[.int .i64 pa, .int .i64 pr, .slice D pl cd] 68) := ⟨by rw [← hW1]; exact (K0.out.below hb.out).drewN nq⟩
          have hwl := KX.out.lt
          have SRC : As (∀ (W : World), Below W1.heap.size W1 W → ∀ (j : Nat) (u : Value), xs[j]? = some u → W.cell? ⟨b, off + j, none⟩ = some u) := ⟨fun W hW j u hj => bl_cell hW (bl_cell BX.out (hcx.out j u hj))⟩
          have HX1 := As.mk HROW.out.one'
          have HXL := As.mk HROW.out.1
          clear hk3 hW1
          go_wp2_with (first | (at_builtin; refine ap_rows (base := W1.heap.size) rfl (.tmp 23) (.tmp 26) 30 Try.underlying30 rfl (.slice none 0 0) 0 [] (some ⟨b, off, none⟩) l.length l.length (xs.take (l.length * 3)) rfl rfl ⟨rfl, Or.inl ⟨rfl, rfl⟩⟩ (by have := HXL.out; rw [List.length_take]; omega) (fun _ => ⟨_, rfl, fun j u hj => by rw [Addr.add_lit]; refine SRC.out _ (Below.refl _ _) j u ?_; (rw [List.getElem?_take] at hj; split at hj; exact hj; cases hj)⟩) (fun u hu => HX1.out u (List.mem_of_mem_take hu)) (by omega) (Nat.le_refl _) ?_; (intro v2 w2 ho hg; have O2 := As.mk ho; have B2 := As.mk ((Below.refl W1.heap.size W1).grown hg (Nat.le_refl _) (fun k hk => by simp [Value.ownBlock] at hk)); have k3 := (KX.out.below B2.out).three; have hs2 := B2.out.size; clear ho hg)) | (at_builtin; refine ap_pg (base := W1.heap.size) rfl (.tmp 28) (.tmp 30) 30 Try.underlying30 rfl v2 (0 + l.length) ([] ++ xs.take (l.length * 3)) (.int .i64 pa) (.int .i64 pr) (.slice D pl cd) _ 1 rfl rfl (Bk.new _ _ _) (by simp [Value.oneCell']) (own_below O2.out (bl_alloc (Below.refl _ _) _)) (by simp; omega) (by omega) ?_; (intro v3 w3 ho hg; have O3 := As.mk ho; have B3 := As.mk ((B2.out.alloc B2.out.size _).grown hg (by simp; omega) (fun q hq => (O2.out.lt q hq).1)); clear ho hg k3)) | (at_builtin; refine ap_rows (base := W1.heap.size) rfl (.tmp 32) (.tmp 35) 30 Try.underlying30 rfl v3 (0 + l.length + 1) ([] ++ xs.take (l.length * 3) ++ [.int .i64 pa, .int .i64 pr, .slice D pl cd]) (some ⟨b, off, none⟩) 0 0 (xs.drop (l.length * 3)) rfl rfl O3.out (by have := HXL.out; rw [List.length_drop]; omega) (fun h0 => absurd h0 (by omega)) (fun u hu => HX1.out u (List.mem_of_mem_drop hu)) (by omega) B3.out.size ?_; (intro v4 w4 ho hg; have O4 := As.mk ho; have B4 := As.mk (B3.out.grown hg (by have := B3.out.size; omega) (fun q hq => (O3.out.lt q hq).1)); clear ho hg)))
          go_ret
          have HB4 := bl_then BX.out B4.out
          have hR1 : RowP w4 (fun _ => True) [.int .i64 pa, .int .i64 pr, .slice D pl cd] [p] := by
            have := RowP.one (W := w4) (B := fun _ => True) (p := p) (A := D) (c := cd) (by rw [HPA.out.1]; exact HI.out.1) (by rw [HPA.out.2]; exact HI.out.2) (by rw [HPL.out]; exact hpd.out.1) (by rw [HPL.out]; exact HP.out.below HB4) (fun _ _ _ _ => trivial)
            rw [HPA.out.1, HPA.out.2, HPL.out] at this
            exact this
          have hRR := ((HROW.out.below HB4).imp (B' := fun _ => True) (fun _ _ => trivial))
          have hall := ((hRR.take l.length).app hR1).app (hRR.drop l.length)
          have hll : (l.take l.length ++ [p] ++ l.drop l.length).length = 0 + l.length + 1 + 0 := by first | (simp; done) | (simp; omega)
          have ho := O4.out
          rw [← hll] at ho
          refine ⟨_, l.length, rfl, hkl, (fun j h hj => by rw [HPA.out.1]; exact hA.out j h hj), (fun h => absurd h (by omega)), RowP.own hall (by simpa using ho) (by omega), HB4⟩
        · generalize hW1 : wr.drewN nq = W1
          have BX : As (Below w.heap.size w W1) := ⟨by rw [← hW1]; exact bl_drewN (bl_then B0.out hb.out) nq⟩
          have KX : As (Bk W1 w.heap.size #[.int .i64 pa, .int .i64 pr, .slice D pl cd] 68) := ⟨by rw [← hW1]; exact (K0.out.below hb.out).drewN nq⟩
          have hwl := KX.out.lt
          have SRC : As (∀ (W : World), Below W1.heap.size W1 W → ∀ (j : Nat) (u : Value), xs[j]? = some u → W.cell? ⟨b, off + j, none⟩ = some u) := ⟨fun W hW j u hj => bl_cell hW (bl_cell BX.out (hcx.out j u hj))⟩
          have HX1 := As.mk HROW.out.one'
          have HXL := As.mk HROW.out.1
          clear hk3 hW1
          go_wp2_with (first | (at_builtin; refine ap_rows (base := W1.heap.size) rfl (.tmp 23) (.tmp 26) 30 Try.underlying30 rfl (.slice none 0 0) 0 [] (some ⟨b, off, none⟩) l.length c (xs.take (l.length * 3)) rfl rfl ⟨rfl, Or.inl ⟨rfl, rfl⟩⟩ (by have := HXL.out; rw [List.length_take]; omega) (fun _ => ⟨_, rfl, fun j u hj => by rw [Addr.add_lit]; refine SRC.out _ (Below.refl _ _) j u ?_; (rw [List.getElem?_take] at hj; split at hj; exact hj; cases hj)⟩) (fun u hu => HX1.out u (List.mem_of_mem_take hu)) (by omega) (Nat.le_refl _) ?_; (intro v2 w2 ho hg; have O2 := As.mk ho; have B2 := As.mk ((Below.refl W1.heap.size W1).grown hg (Nat.le_refl _) (fun k hk => by simp [Value.ownBlock] at hk)); have k3 := (KX.out.below B2.out).three; have hs2 := B2.out.size; clear ho hg)) | (at_builtin; refine ap_pg (base := W1.heap.size) rfl (.tmp 28) (.tmp 30) 30 Try.underlying30 rfl v2 (0 + l.length) ([] ++ xs.take (l.length * 3)) (.int .i64 pa) (.int .i64 pr) (.slice D pl cd) _ 1 rfl rfl (Bk.new _ _ _) (by simp [Value.oneCell']) (own_below O2.out (bl_alloc (Below.refl _ _) _)) (by simp; omega) (by omega) ?_; (intro v3 w3 ho hg; have O3 := As.mk ho; have B3 := As.mk ((B2.out.alloc B2.out.size _).grown hg (by simp; omega) (fun q hq => (O2.out.lt q hq).1)); clear ho hg k3)) | (at_builtin; refine ap_rows (base := W1.heap.size) rfl (.tmp 32) (.tmp 35) 30 Try.underlying30 rfl v3 (0 + l.length + 1) ([] ++ xs.take (l.length * 3) ++ [.int .i64 pa, .int .i64 pr, .slice D pl cd]) (some ⟨b, off + l.length * 3, none⟩) 0 (c - l.length) (xs.drop (l.length * 3)) rfl rfl O3.out (by have := HXL.out; rw [List.length_drop]; omega) (fun h0 => ⟨_, rfl, fun j u hj => by rw [Addr.add_lit, Nat.add_assoc]; refine SRC.out _ B3.out _ u ?_; rwa [List.getElem?_drop] at hj⟩) (fun u hu => HX1.out u (List.mem_of_mem_drop hu)) (by omega) B3.out.size ?_; (intro v4 w4 ho hg; have O4 := As.mk ho; have B4 := As.mk (B3.out.grown hg (by have := B3.out.size; omega) (fun q hq => (O3.out.lt q hq).1)); clear ho hg)))
          go_ret
          have HB4 := bl_then BX.out B4.out
          have hR1 : RowP w4 (fun _ => True) [.int .i64 pa, .int .i64 pr, .slice D pl cd] [p] := by
            have := RowP.one (W := w4) (B := fun _ => True) (p := p) (A := D) (c := cd) (by rw [HPA.out.1]; exact HI.out.1) (by rw [HPA.out.2]; exact HI.out.2) (by rw [HPL.out]; exact hpd.out.1) (by rw [HPL.out]; exact HP.out.below HB4) (fun _ _ _ _ => trivial)
            rw [HPA.out.1, HPA.out.2, HPL.out] at this
            exact this
          have hRR := ((HROW.out.below HB4).imp (B' := fun _ => True) (fun _ _ => trivial))
          have hall := ((hRR.take l.length).app hR1).app (hRR.drop l.length)
          have hll : (l.take l.length ++ [p] ++ l.drop l.length).length = 0 + l.length + 1 + 0 := by first | (simp; done) | (simp; omega)
          have ho := O4.out
          rw [← hll] at ho
          refine ⟨_, l.length, rfl, hkl, (fun j h hj => by rw [HPA.out.1]; exact hA.out j h hj), (fun h => absurd h (by omega)), RowP.own hall (by simpa using ho) (by omega), HB4⟩
end Go.Proofs.Ytbbhkjljiljadaa
