/- SameBytes, SameMemory of the reference. Conditions: the lists read as those bytes, those pages. -/
import Derived.Test.YtbbhkjljiljadaaM22
import Derived.Laws.BytesArg
namespace Go.Proofs.Ytbbhkjljiljadaa
open Go.RowKit
set_option linter.unusedVariables false
set_option linter.unusedSimpArgs false
theorem conv_any {w : World} {A : Option Addr} {n c : Nat} {zs : List Int} (h : RdB w A n zs) : (convert 66 9 (.slice A n c)).run Try.prog w = .ok (.string (strOfNums zs)) w := by
  obtain ⟨h1, h2, h3, h4⟩ := h
  rcases Nat.eq_zero_or_pos n with h0 | h0
  · subst h0
    obtain rfl : zs = [] := List.length_eq_zero_iff.1 h1
    cases A with
    | none => exact run_convert_bytes_nil w 66 5 Try.underlying66 Try.underlying5 _ _ 9 Try.underlying9
    | some a =>
      rw [run_convert_bytes_string w 66 9 5 _ 0 c Try.underlying66 Try.underlying5 Try.underlying9, run_bytesToString w a 0 c [] (by simpa using run_loadCells_list (P := Try.prog) w a [] (by simp))]
      rfl
  · obtain ⟨b, off, rfl, hc⟩ := h4 h0
    exact run_convert_bytes_arg w 66 5 Try.underlying66 Try.underlying5 b off n c zs h1 hc 9 Try.underlying9
theorem bl_inj {s t : ByteArray} (h : s.toList = t.toList) : s = t := by
  rw [ByteArray.toList_eq, ByteArray.toList_eq] at h
  exact ByteArray.ext (Array.toList_inj.1 h)
theorem str_inj : ∀ (xs ys : List Int), (∀ x ∈ xs, 0 ≤ x ∧ x ≤ 255) → (∀ y ∈ ys, 0 ≤ y ∧ y ≤ 255) → strOfNums xs = strOfNums ys → xs = ys := by
  intro xs ys hx hy h
  have h2 : (xs.map fun n => UInt8.ofNat n.toNat) = (ys.map fun n => UInt8.ofNat n.toNat) := by rw [← strOfNums_data, ← strOfNums_data, h]
  clear h
  induction xs generalizing ys with
  | nil => cases ys with
    | nil => rfl
    | cons y ys => simp at h2
  | cons x xs ih => cases ys with
    | nil => simp at h2
    | cons y ys =>
      simp only [List.map_cons, List.cons.injEq] at h2
      have e : x = y := by
        have hx0 := hx x (by simp)
        have hy0 := hy y (by simp)
        have := congrArg UInt8.toNat h2.1
        simp only [UInt8.toNat_ofNat'] at this
        omega
      rw [e, ih ys (fun z hz => hx z (by simp [hz])) (fun z hz => hy z (by simp [hz])) h2.2]
def SmPost (p : Prop) (w : World) (e : Ending) (w' : World) : Prop := ∃ b : Bool, e = .returned (.bool b) ∧ (b = true ↔ p) ∧ Below w.heap.size w w'
theorem sameb_any (A B : Option Addr) (n m c d : Nat) (xs ys : List Int) (w : World) (h1 : RdB w A n xs) (h2 : RdB w B m ys) : Calls Try.prog 45 #[.slice A n c, .slice B m d] w (SmPost (xs = ys) w) := by
  have hc1 := conv_any (c := c) h1
  have hc2 := conv_any (c := d) h2
  have HI : As (strOfNums xs = strOfNums ys ↔ xs = ys) := ⟨⟨str_inj xs ys h1.2.2.1 h2.2.2.1, fun h => by rw [h]⟩⟩
  clear h1 h2
  generalize strOfNums xs = s at *
  generalize strOfNums ys = t at *
  go_enter Try.func45, Try.ntmps45
  go_wp2
  go_ret
  refine ⟨_, rfl, ?_, Below.refl _ _⟩
  rw [← HI.out]
  simp only [beq_iff_eq, decide_eq_true_iff]
  first | exact Iff.rfl | exact ⟨bl_inj, fun h => by rw [h]⟩ | (simp; exact ⟨bl_inj, fun h => by rw [h]⟩)
def SmRel (l m : List Pg) (w : World) (vi : Value) (wr : World) : Prop :=
  ∃ i : Nat, vi = .int .i64 i ∧ i ≤ l.length ∧ As (∀ j (h : j < l.length) (h' : j < m.length), j < i → l[j] = m[j]) ∧ As (Below w.heap.size w wr)
set_option maxHeartbeats 8000000 in
theorem same_any (v u : Value) (l m : List Pg) (w : World) (h1 : RdM w v l) (h2 : RdM w u m) : Calls Try.prog 23 #[v, u] w (SmPost (l = m) w) := by
  have hl1 := h1.len
  have hl2 := h2.len
  obtain ⟨A, c, rfl, hr⟩ := id h1
  obtain ⟨B, d, rfl, hr2⟩ := id h2
  have HL := As.mk h1
  have HM := As.mk h2
  clear h1 h2 hr hr2
  by_cases hlen : l.length = m.length
  · have HLEN := As.mk hlen
    have hlen0 := hlen
    generalize hml : m.length = ml at *
    subst hlen
    go_enter Try.func23, Try.ntmps23
    go_wp2
    go_loopw [5] (fun vi wr => SmRel l m w vi wr) (fun vi _ => (l.length - intOf vi).toNat)
    case atStart => exact ⟨0, rfl, by omega, ⟨fun j h h' hj => by omega⟩, ⟨Below.refl _ _⟩⟩
    case round =>
      obtain ⟨i, rfl, hil, hA, hb⟩ := hrel
      by_cases hlt : i < l.length
      · obtain ⟨b1, o1, hAe, hP1⟩ := (HL.out.below hb.out).at i hlt
        obtain ⟨b2, o2, hBe, hP2⟩ := (HM.out.below hb.out).at i (by omega)
        obtain ⟨p1, p2, p3, p4, D1, c1, p5, p6, p7⟩ := hP1
        obtain ⟨q1, q2, q3, q4, D2, c2, q5, q6, q7⟩ := hP2
        subst hAe
        subst hBe
        have hcv1 : ∀ k, (convert 66 9 (.slice D1 l[i].d.length c1)).run Try.prog (wr.drewN k) = .ok (.string (strOfNums l[i].d)) (wr.drewN k) := fun k => conv_any (p7.below (bl_drewN (Below.refl _ _) k))
        have hcv2 : ∀ k, (convert 66 9 (.slice D2 m[i].d.length c2)).run Try.prog (wr.drewN k) = .ok (.string (strOfNums m[i].d)) (wr.drewN k) := fun k => conv_any (q7.below (bl_drewN (Below.refl _ _) k))
        have HS : As (strOfNums l[i].d = strOfNums m[i].d → l[i].d = m[i].d) := ⟨str_inj _ _ p7.2.2.1 q7.2.2.1⟩
        have HE : As (l[i].a = m[i].a → l[i].r = m[i].r → l[i].d = m[i].d → l[i] = m[i]) := ⟨fun h1 h2 h3 => by
          cases hx : l[i] with | mk a1 r1 d1 => cases hy : m[i] with | mk a2 r2 d2 => rw [hx, hy] at h1 h2 h3; simp only at h1 h2 h3; rw [h1, h2, h3]⟩
        have HN : As (l[i] = m[i] → l[i].a = m[i].a ∧ l[i].r = m[i].r ∧ strOfNums l[i].d = strOfNums m[i].d) := ⟨fun h => by rw [h]; exact ⟨rfl, rfl, rfl⟩⟩
        have hb' := As.mk hb.out
        have hnot : As (l[i] ≠ m[i] → ¬ l = m) := ⟨fun h e => h (by subst e; rfl)⟩
        clear p1 p2 p6 p7 q1 q2 q6 q7
        generalize strOfNums l[i].d = s at *
        generalize strOfNums m[i].d = t at *
        generalize hx1 : l[i].d.length = x1 at *
        generalize hx2 : m[i].d.length = x2 at *
        generalize l[i].d = z1 at *
        generalize m[i].d = z2 at *
        generalize l[i].a = pa at *
        generalize m[i].a = qa at *
        generalize l[i].r = pr at *
        generalize m[i].r = qr at *
        clear hx1 hx2
        by_cases ha : pa = qa
        · subst ha
          by_cases hr : pr = qr
          · subst hr
            by_cases hs : s = t
            · subst hs
              have HEQ : As (l[i] = m[i]) := ⟨HE.out rfl rfl (HS.out rfl)⟩
              clear HE HS HN hnot hb
              go_wp2
              go_quiet (fail)
              go_wp2
              go_roundw
              case rel => exact ⟨i + 1, by go_num, by omega, ⟨fun j h h' hj => by
                rcases Nat.lt_or_ge j i with hlt' | hge
                · exact hA.out j h h' hlt'
                · obtain rfl : j = i := by omega
                  exact HEQ.out⟩, ⟨bl_drewN hb'.out nq⟩⟩
              case measure => simp [intOf]; omega
            · have hst : ¬ (s.toList = t.toList) := fun h => hs (bl_inj h)
              have HNE : As (¬ l = m) := ⟨hnot.out (fun h => hs (HN.out h).2.2)⟩
              have hb1 : (s.toList == t.toList) = false := by simpa using hst
              have hb2 : (s.toList != t.toList) = true := by simpa using hst
              clear HE HS HN hnot hb hs
              go_wp2
              go_quiet (fail)
              go_wp2
              go_ret
              exact ⟨false, rfl, ⟨(fun h => by cases h), (fun h => absurd h HNE.out)⟩, bl_drewN hb'.out nq⟩
          · have HNE : As (¬ l = m) := ⟨hnot.out (fun h => hr (HN.out h).2.1)⟩
            have hb1 : (pr == qr) = false := by simpa using hr
            have hb2 : (pr != qr) = true := by simpa using hr
            clear HE HS HN hnot hb hcv1 hcv2 p5 q5 hr
            go_wp2
            go_quiet (fail)
            go_wp2
            go_ret
            exact ⟨false, rfl, ⟨(fun h => by cases h), (fun h => absurd h HNE.out)⟩, bl_drewN hb'.out nq⟩
        · have HNE : As (¬ l = m) := ⟨hnot.out (fun h => ha (HN.out h).1)⟩
          have hb1 : (pa == qa) = false := by simpa using ha
          have hb2 : (pa != qa) = true := by simpa using ha
          clear HE HS HN hnot hb hcv1 hcv2 p4 p5 q4 q5 ha
          go_wp2
          go_quiet (fail)
          go_wp2
          go_ret
          exact ⟨false, rfl, ⟨(fun h => by cases h), (fun h => absurd h HNE.out)⟩, bl_drewN hb'.out nq⟩
      · go_wp2
        try go_ret
        refine ⟨true, rfl, ⟨fun _ => ?_, fun _ => rfl⟩, hb.out⟩
        apply List.ext_getElem (by rw [hml])
        intro j h h'
        exact hA.out j h h' (by omega)
  · go_enter Try.func23, Try.ntmps23
    go_wp2
    go_ret
    refine ⟨false, rfl, ?_, Below.refl _ _⟩
    constructor
    · intro h; cases h
    · intro h; exact absurd (congrArg List.length h) hlen
end Go.Proofs.Ytbbhkjljiljadaa
