/- Clone of package memory. Conditions: the memory reads as those pages, which are valid. -/
import Derived.Test.YtbbhkjljiljadaaM9
namespace Go.Proofs.Ytbbhkjljiljadaa
open Go.RowKit
set_option linter.unusedVariables false
set_option linter.unusedSimpArgs false
def Byt (l : List Pg) : Prop := ∀ i (h : i < l.length), ∀ x ∈ l[i].d, 0 ≤ x ∧ x ≤ 255
theorem RdM.byt {w : World} {v : Value} {l : List Pg} (h : RdM w v l) : Byt l := by
  intro i hi
  obtain ⟨A, c, rfl, _⟩ := id h
  obtain ⟨b, off, _, _, _, _, _, D, cd, _, _, h7⟩ := h.at i hi
  exact h7.2.2.1
/-- The cells of a row of pages. -/
def rowOf (w : World) (b off n : Nat) : List Value := (List.range (n * 3)).map fun j => (w.cell? ⟨b, off + j, none⟩).getD undef
theorem rowOf_get {w : World} {b off n j : Nat} (hj : j < n * 3) : (rowOf w b off n)[j]? = some ((w.cell? ⟨b, off + j, none⟩).getD undef) := by
  simp [rowOf, hj]
theorem pg_cells {w : World} {A : Option Addr} {n c : Nat} {l : List Pg} (hm : RdM w (.slice A n c) l) {b off : Nat} (hA : A = some ⟨b, off, none⟩) (j : Nat) (hj : j < l.length * 3) : ∃ u, w.cell? ⟨b, off + j, none⟩ = some u ∧ u.oneCell' = true := by
  obtain ⟨b', off', e, h1, h2, h3, h4, D, cd, h5, h6, h7⟩ := hm.at (j / 3) (by omega)
  rw [hA] at e
  injection e with e
  injection e with e1 e2 _
  subst e1 e2
  have : j = j / 3 * 3 + 0 ∨ j = j / 3 * 3 + 1 ∨ j = j / 3 * 3 + 2 := by omega
  rcases this with h | h | h
  · rw [show off + j = off + j / 3 * 3 from by omega]; exact ⟨_, h3, rfl⟩
  · rw [show off + j = off + j / 3 * 3 + 1 from by omega]; exact ⟨_, h4, rfl⟩
  · rw [show off + j = off + j / 3 * 3 + 2 from by omega]; exact ⟨_, h5, rfl⟩
/-- As OwnM, an empty one too. -/
def OwnN (W : World) (base : Nat) (v : Value) (l : List Pg) : Prop :=
  (l = [] ∧ v = .slice none 0 0) ∨ ∃ w0 g cap cur D C dc, v = .slice (some ⟨g, 0, none⟩) l.length cap ∧ Part w0 W base g cap l l.length cur D C dc
theorem OwnN.m {W : World} {base : Nat} {v : Value} {l : List Pg} (h : OwnN W base v l) : OwnM W base v l := by
  rcases h with ⟨rfl, rfl⟩ | h
  · exact Or.inl ⟨rfl, none, 0, rfl, by simp, by simp, by simp⟩
  · exact Or.inr h
def CPostN (l : List Pg) (w : World) (e : Ending) (w' : World) : Prop := ∃ v, e = .returned v ∧ OwnN w' w.heap.size v l ∧ Below w.heap.size w w'
def CPost (l : List Pg) (w : World) (e : Ending) (w' : World) : Prop := ∃ v, e = .returned v ∧ OwnM w' w.heap.size v l ∧ Below w.heap.size w w'
def CRel (l : List Pg) (w : World) (g cap : Nat) (vi : Value) (wr : World) : Prop :=
  ∃ (i : Nat) (cur : Array Value) (D C : Nat → Nat) (dc : Nat → Array Value), vi = .int .i64 i ∧ i ≤ l.length ∧ As (Part w wr w.heap.size g cap l i cur D C dc) ∧ As (Below w.heap.size w wr)
/-- A copy of a row of pages, as it begins. -/
theorem part_start {w w1 : World} {A : Option Addr} {c : Nat} {l : List Pg} (hm : RdM w (.slice A l.length c) l) {b off g cap : Nat} (hk : Ok l) (hA : A = some ⟨b, off, none⟩)
    {cur : Array Value} (hg : Bk w1 g cur 68) (hbase : w.heap.size ≤ g) (hfit : l.length ≤ cap) (hmost : cap ≤ maxLen) (hsz : cur.size = cap * 3) (ht : cur.toList.take (l.length * 3) = rowOf w b off l.length) :
    Part w w1 w.heap.size g cap l 0 cur (fun _ => 0) (fun _ => 0) (fun _ => #[]) := by
  have hget : ∀ j, j < l.length * 3 → cur[j]? = some ((w.cell? ⟨b, off + j, none⟩).getD undef) := by
    intro j hj
    rw [← rowOf_get hj, ← ht, List.getElem?_take_of_lt hj, Array.getElem?_toList]
  refine ⟨hg, hsz, hfit, hmost, hbase, ?_, ?_, fun k _ h => absurd h (Nat.not_lt_zero _), fun k _ h => absurd h (Nat.not_lt_zero _), ?_, fun j k h => absurd h (Nat.not_lt_zero _)⟩
  · intro k h
    obtain ⟨b', off', e, h1, h2, h3, h4, D, cd, h5, h6, h7⟩ := hm.at k h
    rw [hA] at e
    injection e with e
    injection e with e1 e2 _
    subst e1 e2
    rw [hget _ (by omega), h3]; rfl
  · intro k h
    obtain ⟨b', off', e, h1, h2, h3, h4, D, cd, h5, h6, h7⟩ := hm.at k h
    rw [hA] at e
    injection e with e
    injection e with e1 e2 _
    subst e1 e2
    rw [hget _ (by omega), show off + (k * 3 + 1) = off + k * 3 + 1 from by omega, h4]; rfl
  · intro k h _
    obtain ⟨b', off', e, h1, h2, h3, h4, D, cd, h5, h6, h7⟩ := hm.at k h
    rw [hA] at e
    injection e with e
    injection e with e1 e2 _
    subst e1 e2
    have h256 := (hk.pg k h).2.2.2.2.2
    rw [h256] at h5 h6 h7
    exact ⟨D, cd, by rw [hget _ (by omega), show off + (k * 3 + 2) = off + k * 3 + 2 from by omega, h5]; rfl, h6, h7⟩
set_option maxHeartbeats 4000000 in
theorem clone_own (v : Value) (l : List Pg) (w : World) (hm : RdM w v l) (hk : Ok l) : Calls Try.prog 50 #[v] w (CPostN l w) := by
  have hlen := hk.len
  obtain ⟨A, c, rfl, hr⟩ := id hm
  have HM := As.mk hm
  have HK := As.mk hk
  clear hm hk
  by_cases h0 : l.length = 0
  · obtain rfl : l = [] := List.length_eq_zero_iff.1 h0
    clear hr
    cases A with
    | none =>
      go_enter Try.func50, Try.ntmps50
      go_wp2_with fail
      refine (clone_nil _ _ _).mono ?_
      rintro e w1 ⟨rfl, rfl⟩
      go_wp2
      refine wp_loop_rounds 1 ?_
      go_wp2_with (rw [rounds_succ])
      go_ret
      exact ⟨_, rfl, Or.inl ⟨rfl, rfl⟩, Below.refl _ _⟩
    | some ad =>
      go_enter Try.func50, Try.ntmps50
      go_wp2_with fail
      refine (clone_pages ad 0 c [] w rfl (by omega) (by simp) (by simp)).mono ?_
      rintro e w1 ⟨v', rfl, ⟨_, ⟨rfl, _⟩ | ⟨g, cap, cur, rfl, e2, e3, e4, e5, e6, e7⟩⟩, hne, hb⟩
      · exact absurd rfl hne
      · go_wp2
        refine wp_loop_rounds 1 ?_
        go_wp2_with (rw [rounds_succ])
        go_ret
        exact ⟨_, rfl, Or.inr ⟨w, g, cap, cur, fun _ => 0, fun _ => 0, fun _ => #[], rfl, e3, e6, by simp, e5, e2, fun k h => absurd h (by simp), fun k h => absurd h (by simp), fun k h => absurd h (by simp), fun k h => absurd h (by simp), fun k h => absurd h (by simp), fun j k h => absurd h (by simp)⟩, hb⟩
  · obtain ⟨hc, hb40, hx⟩ := hr
    obtain ⟨b, off, rfl, _⟩ := hx (by omega)
    clear hx
    go_enter Try.func50, Try.ntmps50
    go_wp2_with fail
    refine (clone_pages ⟨b, off, none⟩ l.length c (rowOf w b off l.length) w (by simp [rowOf]) (by omega) ?_ ?_).mono ?_
    · intro j u hj
      have hjl : j < l.length * 3 := by
        have := (List.getElem?_eq_some_iff.1 hj).1
        simpa [rowOf] using this
      obtain ⟨u', h1, _⟩ := pg_cells HM.out rfl j hjl
      rw [rowOf_get hjl, h1] at hj
      injection hj with hj
      subst hj
      rw [Addr.add_lit]; exact h1
    · intro u hu
      obtain ⟨j, hj, rfl⟩ := List.mem_iff_getElem.1 hu
      have hjl : j < l.length * 3 := by simpa [rowOf] using hj
      obtain ⟨u', h1, h2⟩ := pg_cells HM.out rfl j hjl
      have := rowOf_get (w := w) (b := b) (off := off) hjl
      rw [h1, List.getElem?_eq_getElem hj] at this
      injection this with this
      rw [this]; exact h2
    · rintro e w1 ⟨v', rfl, ⟨_, ⟨rfl, hn⟩ | ⟨g, cap, cur, rfl, e2, e3, e4, e5, e6, e7⟩⟩, hne, hb⟩
      · exact absurd rfl hne
      · have hP := As.mk (part_start HM.out HK.out rfl e3 e2 e4 e5 e6 e7)
        have hB := As.mk hb
        have hg0 : w.heap.size ≤ g := e2
        clear e2 e3 e5 e6 e7 hb hne
        go_wp2
        go_loopw [9] (fun vi wr => CRel l w g cap vi wr) (fun vi _ => (l.length - intOf vi).toNat)
        case atStart => exact ⟨0, cur, _, _, _, rfl, by omega, hP, hB⟩
        case round =>
          obtain ⟨i, cur, D, C, dc, rfl, hil, hP, hB⟩ := hrel
          by_cases hlt : i < l.length
          · obtain ⟨A2, c2, ho1, ho2, ho3⟩ := hP.out.oth i hlt (Nat.le_refl _)
            obtain ⟨z1, z2, z3, z4⟩ := ho3
            obtain ⟨b2, off2, rfl, hz⟩ := z4 (by omega)
            have hcell := hP.out.blk.cell (i * 3 + 2)
            rw [ho1] at hcell
            have hfr := hP.out.blk.frozen (i * 3 + 2)
            have hcz := As.mk hz
            have hz3 := As.mk z3
            have hho := As.mk ho1
            clear ho1 hz z4 z3 z2
            have hln : l[i].d.length = 256 := z1
            go_wp2_with fail
            refine (clone_bytes ⟨b2, off2, none⟩ 256 c2 (l[i].d.map (Value.int .u8)) wr (by simp [hln]) (by omega) ?_ ?_).mono ?_
            · intro j u hj
              have hjl : j < l[i].d.length := by
                have := (List.getElem?_eq_some_iff.1 hj).1
                simpa using this
              have h1 := bl_cell hB.out (hcz.out j (by omega))
              rw [Addr.add_lit, h1]
              simp only [List.getElem?_map, List.getElem?_eq_getElem hjl, Option.map_some, Option.some.injEq] at hj
              rw [← hj, List.getD_eq_getElem?_getD, List.getElem?_eq_getElem hjl]; rfl
            · intro u hu
              obtain ⟨x, _, rfl⟩ := List.mem_map.1 hu
              rfl
            · rintro e w3 ⟨v', rfl, ⟨_, ⟨rfl, hn⟩ | ⟨d, cap2, ds, rfl, q2, q3, q4, q5, q6, q7⟩⟩, hne, hb3⟩
              · exact absurd rfl hne
              · have hlg : g < wr.heap.size := hP.out.blk.lt
                have hcell3 := bl_cell hb3 hcell
                have hfr3 : w3.frozen? ⟨g, i * 3 + 2, none⟩ = false := by rw [(bcell hb3).2 g _ hlg]; exact hfr
                have HS := As.mk (hP.out.step hlt hb3 hB.out.size q2 q3 q4 (by
                  intro j hj
                  have : (ds.toList.take (256 * 1))[j]? = (l[i].d.map (Value.int .u8))[j]? := by rw [q7]
                  rw [List.getElem?_take_of_lt (by omega), Array.getElem?_toList] at this
                  rw [this]
                  simp only [List.getElem?_map, List.getElem?_eq_getElem (show j < l[i].d.length by omega), Option.map_some]
                  rw [List.getD_eq_getElem?_getD, List.getElem?_eq_getElem (show j < l[i].d.length by omega)]; rfl))
                have HB := As.mk (bl_then hB.out hb3)
                clear q3 q5 q6 q7 hb3 hne hP hB hcell hfr
                go_wp2
                go_roundw
                case rel => exact ⟨i + 1, _, _, _, _, by go_num, by omega, HS, ⟨by have hb := HB.out; repeat (first | exact Below.refl _ _ | assumption | refine bl_drew ?_ | refine bl_drewN ?_ _ | refine bl_alloc ?_ _ | refine Below.setCell ?_ (by first | exact Nat.le_refl _ | exact bl_size (by assumption) | omega | simp) _)⟩⟩
                case measure => simp [intOf]; omega
          · obtain rfl : i = l.length := by omega
            go_wp2
            go_ret
            exact ⟨_, rfl, Or.inr ⟨_, g, cap, _, _, _, _, rfl, hP.out⟩, hB.out⟩
theorem clone_any (v : Value) (l : List Pg) (w : World) (hm : RdM w v l) (hk : Ok l) : Calls Try.prog 50 #[v] w (CPost l w) := by
  refine (clone_own v l w hm hk).mono ?_
  rintro e w1 ⟨v', rfl, ho, hb⟩
  exact ⟨v', rfl, ho.m, hb⟩
end Go.Proofs.Ytbbhkjljiljadaa
