/- Valid memories; Can, Byte, rightsFault of package memory. Conditions: the memory reads as those pages, in the order of their addresses. -/
import Derived.Test.YtbbhkjljiljadaaM3
namespace Go.Proofs.Ytbbhkjljiljadaa
open Go.RowKit
set_option linter.unusedVariables false
set_option linter.unusedSimpArgs false
/-- A valid memory. -/
structure Ok (l : List Pg) : Prop where
  len : l.length ≤ 200
  inc : Inc l
  pg : ∀ i (h : i < l.length), 0 ≤ l[i].a ∧ l[i].a % 256 = 0 ∧ l[i].a ≤ 1048320 ∧ 0 ≤ l[i].r ∧ l[i].r ≤ 7 ∧ l[i].d.length = 256
theorem pageBad_zero {last : Int} {p : Pg} (h : pageBad last p = 0) : ¬ (p.a.tmod 256 ≠ 0 ∨ p.a ≤ last ∨ 1048320 < p.a) ∧ ¬ (p.r < 0 ∨ 7 < p.r) ∧ p.d.length = 256 := by
  unfold pageBad at h
  split at h
  · cases h
  · split at h
    · cases h
    · split at h
      · cases h
      · rename_i h1 h2 h3
        exact ⟨h1, h2, by omega⟩
theorem vfFrom_ok : ∀ (l : List Pg) (k : Nat) (last : Int), -1 ≤ last → vfFrom l k last = (0, 0) → Inc l ∧ ∀ i (h : i < l.length), last < l[i].a ∧ 0 ≤ l[i].a ∧ l[i].a % 256 = 0 ∧ l[i].a ≤ 1048320 ∧ 0 ≤ l[i].r ∧ l[i].r ≤ 7 ∧ l[i].d.length = 256
  | [], _, _, _, _ => ⟨fun i j hi => by simp at hi, fun i hi => by simp at hi⟩
  | p :: t, k, last, hl, h => by
    have hb : pageBad last p = 0 := by
      by_cases hb : pageBad last p = 0
      · exact hb
      · unfold vfFrom at h
        rw [if_pos hb] at h
        exact absurd (congrArg Prod.fst h) hb
    unfold vfFrom at h
    rw [if_neg (by simpa using hb)] at h
    obtain ⟨n1, n2, n3⟩ := pageBad_zero hb
    have hm : p.a.tmod 256 = 0 := by by_cases h : p.a.tmod 256 = 0; exact h; exact absurd (Or.inl h) n1
    have hlt : last < p.a := by
      rcases Int.lt_or_le last p.a with h | h
      · exact h
      · exact absurd (Or.inr (Or.inl h)) n1
    have hle : p.a ≤ 1048320 := by
      rcases Int.lt_or_le 1048320 p.a with h | h
      · exact absurd (Or.inr (Or.inr h)) n1
      · exact h
    have h0 : 0 ≤ p.a := by omega
    have hmod : p.a % 256 = 0 := by rw [Int.tmod_eq_emod_of_nonneg h0] at hm; exact hm
    obtain ⟨hi, hp⟩ := vfFrom_ok t (k + 1) p.a (by omega) h
    refine ⟨?_, ?_⟩
    · intro i j hi' hj hij
      cases i with
      | zero =>
        cases j with
        | zero => omega
        | succ j =>
          simp only [List.length_cons] at hj
          exact (hp j (by omega)).1
      | succ i =>
        cases j with
        | zero => omega
        | succ j =>
          simp only [List.length_cons] at hi' hj
          exact hi i j (by omega) (by omega) (by omega)
    · intro i h'
      cases i with
      | zero => exact ⟨hlt, h0, hmod, hle, Int.not_lt.1 (fun h => n2 (Or.inl h)), Int.not_lt.1 (fun h => n2 (Or.inr h)), n3⟩
      | succ i =>
        simp only [List.length_cons] at h'
        obtain ⟨q1, q2⟩ := hp i (by omega)
        exact ⟨Int.lt_trans hlt q1, q2⟩
theorem Ok.of {l : List Pg} (h : vf l = (0, 0)) : Ok l := by
  unfold vf at h
  split at h
  · cases h
  · rename_i hn
    obtain ⟨h1, h2⟩ := vfFrom_ok l 0 (-1) (by omega) h
    exact ⟨by omega, h1, fun i hi => (h2 i hi).2⟩
theorem vfFrom_cases : ∀ (l : List Pg) (k : Nat) (last : Int), k + l.length ≤ 200 → vfFrom l k last = (0, 0) ∨ ∃ c i, vfFrom l k last = (c, i) ∧ 0 < c ∧ c ≤ 9 ∧ -1 ≤ i ∧ i ≤ 200
  | [], _, _, _ => Or.inl rfl
  | p :: t, k, last, hk => by
    unfold vfFrom
    simp only [List.length_cons] at hk
    split
    · rename_i hb
      refine Or.inr ⟨_, _, rfl, ?_⟩
      have : pageBad last p = 5 ∨ pageBad last p = 3 ∨ pageBad last p = 9 ∨ pageBad last p = 0 := by
        unfold pageBad
        split
        · exact Or.inl rfl
        · split
          · exact Or.inr (Or.inl rfl)
          · split
            · exact Or.inr (Or.inr (Or.inl rfl))
            · exact Or.inr (Or.inr (Or.inr rfl))
      omega
    · exact vfFrom_cases t (k + 1) p.a (by omega)
theorem vf_cases (l : List Pg) : vf l = (0, 0) ∨ ∃ c i, vf l = (c, i) ∧ 0 < c ∧ c ≤ 9 ∧ -1 ≤ i ∧ i ≤ 200 := by
  unfold vf
  split
  · exact Or.inr ⟨2, -1, rfl, by omega, by omega, by omega, by omega⟩
  · exact vfFrom_cases l 0 (-1) (by omega)
/-- The page that holds an address. -/
def look (l : List Pg) (a : Int) : Option Pg := l.find? (fun p => p.a == a - a % 256)
theorem look_some {l : List Pg} {a : Int} (hs : Inc l) {i : Nat} (h : i < l.length) (he : l[i].a = a - a % 256) : look l a = some l[i] := by
  unfold look
  rw [List.find?_eq_some_iff_getElem]
  refine ⟨by simpa using he, i, h, rfl, fun j hj => ?_⟩
  have := hs j i (by omega) h hj
  simp
  omega
theorem look_none {l : List Pg} {a : Int} (h : ¬ ∃ i, ∃ h : i < l.length, l[i].a = a - a % 256) : look l a = none := by
  unfold look
  rw [List.find?_eq_none]
  intro p hp he
  obtain ⟨i, hi, rfl⟩ := List.getElem_of_mem hp
  exact h ⟨i, hi, by simpa using he⟩
theorem Spot.look {l : List Pg} {a : Int} {i : Nat} {ok : Bool} (hs : Inc l) (h : Spot l (a - a % 256) i ok) : (ok = true ∧ ∃ h : i < l.length, Ytbbhkjljiljadaa.look l a = some l[i] ∧ l[i].a = a - a % 256) ∨ (ok = false ∧ Ytbbhkjljiljadaa.look l a = none) := by
  obtain ⟨h1, h2, h3, h4⟩ := h
  cases ok with
  | true =>
    obtain ⟨hi, he⟩ := h4.1 rfl
    exact Or.inl ⟨rfl, hi, look_some hs hi he, he⟩
  | false =>
    refine Or.inr ⟨rfl, look_none ?_⟩
    rintro ⟨j, hj, he⟩
    have hnot : ¬ ∃ h : i < l.length, l[i].a = a - a % 256 := fun h => by cases h4.2 h
    rcases Nat.lt_trichotomy j i with h | h | h
    · have := h2 j hj h; omega
    · subst h; exact hnot ⟨hj, he⟩
    · have hi : i < l.length := by omega
      have h5 := hs i j hi hj h
      have h6 := h3 i hi (Nat.le_refl _)
      omega
/-- Whether an address is in a page with all the rights. -/
def can (l : List Pg) (a r : Int) : Bool := decide (0 ≤ a ∧ a < 1048576) && (look l a).any fun p => bits BinOp.and .i64 p.r r == r
/-- A byte of a page, or 0. -/
def byte (l : List Pg) (a : Int) : Int := match look l a with | some p => p.d.getD (a % 256).toNat 0 | none => 0
/-- What rightsFault says. -/
def rf (r : Int) : Int × Int := if r < 0 ∨ 7 < r then (3, -3) else (0, 0)
theorem rights_any (r : Int) (w : World) : Calls Try.prog 58 #[.int .i64 r] w (VPost (rf r) w) := by
  by_cases c1 : r < 0
  · have e : rf r = (3, -3) := if_pos (Or.inl c1)
    rw [e]
    clear e
    go_enter Try.func58, Try.ntmps58
    go_wp2
    refine ret_flt (p := 2) (g := w.heap.size) (x := .int .i64 3) (y := .int .i64 (-3)) rfl rfl rfl (by repeat (first | with_reducible exact (Bk.new _ _ _) | with_reducible refine Bk.drew ?_ | with_reducible refine Bk.drewN ?_ _ | with_reducible apply Bk.set1 | with_reducible apply Bk.set0 | with_reducible refine Bk.alloc ?_ _ | with_reducible exact Bk.new _ _ _ | with_reducible refine Bk.other ?_ (by first | omega | (simp; omega)) _)) ⟨rfl, ?_⟩
    repeat (first | exact Below.refl _ _ | assumption | refine bl_drew ?_ | refine bl_drewN ?_ _ | refine bl_alloc ?_ _ | refine Below.setCell ?_ (by first | exact Nat.le_refl _ | exact bl_size (by assumption) | omega | simp) _)
  · by_cases c2 : 7 < r
    · have e : rf r = (3, -3) := if_pos (Or.inr c2)
      rw [e]
      clear e
      go_enter Try.func58, Try.ntmps58
      go_wp2
      refine ret_flt (p := 2) (g := w.heap.size) (x := .int .i64 3) (y := .int .i64 (-3)) rfl rfl rfl (by repeat (first | with_reducible exact (Bk.new _ _ _) | with_reducible refine Bk.drew ?_ | with_reducible refine Bk.drewN ?_ _ | with_reducible apply Bk.set1 | with_reducible apply Bk.set0 | with_reducible refine Bk.alloc ?_ _ | with_reducible exact Bk.new _ _ _ | with_reducible refine Bk.other ?_ (by first | omega | (simp; omega)) _)) ⟨rfl, ?_⟩
      repeat (first | exact Below.refl _ _ | assumption | refine bl_drew ?_ | refine bl_drewN ?_ _ | refine bl_alloc ?_ _ | refine Below.setCell ?_ (by first | exact Nat.le_refl _ | exact bl_size (by assumption) | omega | simp) _)
    · have e : rf r = (0, 0) := if_neg (by omega)
      rw [e]
      clear e
      go_enter Try.func58, Try.ntmps58
      go_wp2
      refine ret_flt (p := 2) (g := w.heap.size) (x := .int .i64 0) (y := .int .i64 0) rfl rfl rfl (by repeat (first | with_reducible exact (Bk.new _ _ _) | with_reducible refine Bk.drew ?_ | with_reducible refine Bk.drewN ?_ _ | with_reducible apply Bk.set1 | with_reducible apply Bk.set0 | with_reducible refine Bk.alloc ?_ _ | with_reducible exact Bk.new _ _ _ | with_reducible refine Bk.other ?_ (by first | omega | (simp; omega)) _)) ⟨rfl, ?_⟩
      repeat (first | exact Below.refl _ _ | assumption | refine bl_drew ?_ | refine bl_drewN ?_ _ | refine bl_alloc ?_ _ | refine Below.setCell ?_ (by first | exact Nat.le_refl _ | exact bl_size (by assumption) | omega | simp) _)
def BPost (b : Bool) (w : World) (e : Ending) (w' : World) : Prop := e = .returned (.bool b) ∧ Below w.heap.size w w'
theorem can_any (v : Value) (l : List Pg) (a r : Int) (w : World) (hm : RdM w v l) (hs : Inc l) : Calls Try.prog 67 #[v, .int .i64 a, .int .i64 r] w (BPost (can l a r) w) := by
  have hlen := hm.len
  obtain ⟨A, c, rfl, hr⟩ := hm
  have HM : As (RdM w (.slice A l.length c) l) := ⟨⟨A, c, rfl, hr⟩⟩
  have HS := As.mk hs
  clear hr hs
  by_cases c1 : a < 0
  · have e : can l a r = false := by unfold can; rw [decide_eq_false (by omega)]; rfl
    rw [e]
    clear e HM HS
    go_enter Try.func67, Try.ntmps67
    go_wp2
    go_ret
    exact ⟨rfl, Below.refl _ _⟩
  · by_cases c2 : 1048576 ≤ a
    · have e : can l a r = false := by unfold can; rw [decide_eq_false (by omega)]; rfl
      rw [e]
      clear e HM HS
      go_enter Try.func67, Try.ntmps67
      go_wp2
      go_ret
      exact ⟨rfl, Below.refl _ _⟩
    · have E : As (can l a r = (look l a).any fun p => bits BinOp.and .i64 p.r r == r) := ⟨by unfold can; rw [decide_eq_true (by omega)]; rfl⟩
      go_enter Try.func67, Try.ntmps67
      go_wp2_with fail
      refine (find_any _ l a w HM.out HS.out (by omega) (by omega)).mono ?_
      rintro e w1 ⟨i, ok, hsp, rfl, hb⟩
      rcases hsp.look HS.out with ⟨rfl, hi, hlk, he⟩ | ⟨rfl, hlk⟩
      · obtain ⟨b, off, hAe, hP⟩ := (HM.out.below hb).at i hi
        obtain ⟨h1, h2, h3, h4, D, cd, h5, h6, h7⟩ := hP
        subst hAe
        have HB := As.mk hb
        have HK := As.mk hlk
        clear hb hlk hsp he h7 h6 h5 h3 h1
        go_wp2
        go_ret
        refine ⟨?_, HB.out⟩
        rw [E.out, HK.out]
        first | rfl | simp
      · have HB := As.mk hb
        have HK := As.mk hlk
        clear hb hlk hsp
        go_wp2
        go_ret
        refine ⟨?_, HB.out⟩
        rw [E.out, HK.out]
        rfl
def IPost (n : Int) (w : World) (e : Ending) (w' : World) : Prop := e = .returned (.int .u8 n) ∧ Below w.heap.size w w'
theorem byte_any (v : Value) (l : List Pg) (a : Int) (w : World) (hm : RdM w v l) (hk : Ok l) (h0 : 0 ≤ a) (h1 : a < 4611686018427387904) : Calls Try.prog 65 #[v, .int .i64 a] w (IPost (byte l a) w) := by
  have hlen := hm.len
  obtain ⟨A, c, rfl, hr⟩ := hm
  have HM : As (RdM w (.slice A l.length c) l) := ⟨⟨A, c, rfl, hr⟩⟩
  have HS := As.mk hk
  clear hr hk
  go_enter Try.func65, Try.ntmps65
  go_wp2_with fail
  refine (find_any _ l a w HM.out HS.out.inc h0 h1).mono ?_
  rintro e w1 ⟨i, ok, hsp, rfl, hb⟩
  rcases hsp.look HS.out.inc with ⟨rfl, hi, hlk, he⟩ | ⟨rfl, hlk⟩
  · obtain ⟨b, off, hAe, hP⟩ := (HM.out.below hb).at i hi
    obtain ⟨g1, g2, g3, g4, D, cd, g5, g6, g7⟩ := hP
    subst hAe
    have hd := (HS.out.pg i hi).2.2.2.2.2
    obtain ⟨z1, z2, z3, z4⟩ := g7
    obtain ⟨b2, off2, rfl, hc2⟩ := z4 (by omega)
    have ez : a % 256 = ((a % 256).toNat : Int) := by omega
    have hc := hc2 (a % 256).toNat (by omega)
    have EB : As (byte l a = l[i].d.getD (a % 256).toNat 0) := ⟨by unfold byte; rw [hlk]⟩
    have HB := As.mk hb
    have em : ∀ [Inhabited Nat], a.tmod 256 = ((a % 256).toNat : Int) := by intro _; rw [Int.tmod_eq_emod_of_nonneg h0]; omega
    have hq : (a % 256).toNat < 256 := by omega
    generalize (a % 256).toNat = q at *
    rw [hd] at *
    clear hb hlk hsp he g4 g3 g1 g2 z1 z2 z3 z4 hc2 ez
    generalize hz : l[i].d.getD q 0 = z at hc EB
    clear hz
    go_wp2
    go_ret
    exact ⟨by rw [EB.out]; rfl, HB.out⟩
  · have HB := As.mk hb
    have EB : As (byte l a = 0) := ⟨by unfold byte; rw [hlk]⟩
    clear hb hlk hsp
    go_wp2
    go_ret
    exact ⟨by rw [EB.out]; rfl, HB.out⟩
end Go.Proofs.Ytbbhkjljiljadaa
