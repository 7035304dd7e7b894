/- Validate of package memory; blocks that hold a fault. Conditions: the memory reads as those pages. -/
import Derived.Test.YtbbhkjljiljadaaM2
namespace Go.Proofs.Ytbbhkjljiljadaa
open Go.RowKit
set_option linter.unusedVariables false
set_option linter.unusedSimpArgs false
/-- A fault. -/
def Flt (f : Int × Int) : Value := .agg #[.int .i64 f.1, .int .i64 f.2]
def pageBad (last : Int) (p : Pg) : Int :=
  if p.a.tmod 256 ≠ 0 ∨ p.a ≤ last ∨ 1048320 < p.a then 5 else if p.r < 0 ∨ 7 < p.r then 3 else if p.d.length ≠ 256 then 9 else 0
def vfFrom : List Pg → Nat → Int → Int × Int
  | [], _, _ => (0, 0)
  | p :: t, k, last => if pageBad last p ≠ 0 then (pageBad last p, (k : Int)) else vfFrom t (k + 1) p.a
/-- What Validate says of a memory. -/
def vf (l : List Pg) : Int × Int := if 200 < l.length then (2, -1) else vfFrom l 0 (-1)
def VPost (f : Int × Int) (w : World) (e : Ending) (w' : World) : Prop := e = .returned (Flt f) ∧ Below w.heap.size w w'
def VRel (l : List Pg) (w : World) (vi vl : Value) (wr : World) : Prop :=
  ∃ (i : Nat) (last : Int), vi = .int .i64 i ∧ vl = .int .i64 last ∧ i ≤ l.length ∧ As (I64 last) ∧ As (vf l = vfFrom (l.drop i) i last) ∧ As (Below w.heap.size w wr) ∧ As (Bk wr w.heap.size #[.int .i64 0, .int .i64 0] 33)
theorem vfFrom_step {l : List Pg} {i : Nat} (h : i < l.length) (last : Int) : vfFrom (l.drop i) i last = if pageBad last l[i] ≠ 0 then (pageBad last l[i], (i : Int)) else vfFrom (l.drop (i + 1)) (i + 1) l[i].a := by
  rw [List.drop_eq_getElem_cons h]; rfl
theorem vfFrom_end (l : List Pg) (i : Nat) (h : l.length ≤ i) (last : Int) : vfFrom (l.drop i) i last = (0, 0) := by
  rw [List.drop_eq_nil_of_le h]; rfl
theorem Bk.set0 {W : World} {g : Nat} {t : TypeId} {x y : Value} (h : Bk W g #[x, y] t) (v : Value) : Bk (W.setCell ⟨g, 0, none⟩ v) g #[v, y] t := h.set 0 v
theorem Bk.set1 {W : World} {g : Nat} {t : TypeId} {x y : Value} (h : Bk W g #[x, y] t) (v : Value) : Bk (W.setCell ⟨g, 1, none⟩ v) g #[x, v] t := h.set 1 v
theorem rowed {P : Program} {t : TypeId} (h : (P.underlying t).any (fun d => match d with | .struct _ | .array _ _ => true | _ => false) = true) : ∃ d, P.underlying t = some d ∧ (match d with | .struct _ | .array _ _ => true | _ => false) = true := by
  cases e : P.underlying t with
  | none => rw [e] at h; cases h
  | some d => rw [e] at h; exact ⟨d, rfl, h⟩
theorem ret_flt {fn : Func} {R : Ending → World → Prop} {a : Act} {W : World} {p g : Nat} {x y : Value} (h : fn.results = #[.cell p 33]) (hp : a.tmps.getD p undef = .pointer (some ⟨g, 0, none⟩)) (hd : a.defers = []) (hB : Bk W g #[x, y] 33) (hR : R (.returned (.agg #[x, y])) W) : bodyPost Try.prog fn R .ret a W := by
  obtain ⟨d, h1, h2⟩ := rowed (P := Try.prog) (t := 33) (by kernel_rfl)
  have hi : (Try.prog.info? 33).map (·.size) = some (#[x, y] : Array Value).size := by kernel_rfl
  cases d <;> first | exact bodyPost_ret (results_cell_row h a.tmps W g 33 #[x, y] (0, 0) _ hp hB h1 rfl hi) hd hR | cases h2
set_option maxHeartbeats 4000000 in
theorem validate_any (v : Value) (l : List Pg) (w : World) (hm : RdM w v l) : Calls Try.prog 32 #[v] w (VPost (vf l) w) := by
  have hlen := hm.len
  obtain ⟨A, c, rfl, hr⟩ := hm
  have HM : As (RdM w (.slice A l.length c) l) := ⟨⟨A, c, rfl, hr⟩⟩
  clear hr
  by_cases h200 : 200 < l.length
  · have e : vf l = (2, -1) := if_pos h200
    rw [e]
    clear e
    go_enter Try.func32, Try.ntmps32
    go_wp2
    refine ret_flt (p := 2) (g := w.heap.size) (x := .int .i64 2) (y := .int .i64 (-1)) rfl rfl rfl (by repeat (first | with_reducible exact (Bk.new _ _ _) | with_reducible refine Bk.drew ?_ | with_reducible refine Bk.drewN ?_ _ | with_reducible apply Bk.set1 | with_reducible apply Bk.set0 | with_reducible refine Bk.alloc ?_ _ | with_reducible exact Bk.new _ _ _ | with_reducible refine Bk.other ?_ (by first | omega | (simp; omega)) _)) ⟨rfl, ?_⟩
    repeat (first | exact Below.refl _ _ | assumption | refine bl_drew ?_ | refine bl_drewN ?_ _ | refine bl_alloc ?_ _ | refine Below.setCell ?_ (by first | exact Nat.le_refl _ | exact bl_size (by assumption) | omega | simp) _)
  · have e : vf l = vfFrom l 0 (-1) := if_neg h200
    have E := As.mk e
    clear e
    go_enter Try.func32, Try.ntmps32
    go_wp2
    go_loopw [13, 3] (fun vi vl wr => VRel l w vi vl wr) (fun vi _ _ => (l.length - intOf vi).toNat)
    case atStart => exact ⟨0, -1, rfl, rfl, by omega, ⟨by unfold I64; omega⟩, ⟨by simpa using E.out⟩, ⟨by repeat (first | exact Below.refl _ _ | assumption | refine bl_drew ?_ | refine bl_drewN ?_ _ | refine bl_alloc ?_ _ | refine Below.setCell ?_ (by first | exact Nat.le_refl _ | exact bl_size (by assumption) | omega | simp) _)⟩, ⟨Bk.new _ _ _⟩⟩
    case round =>
      obtain ⟨i, last, rfl, rfl, hil, hI, hE, hb, hR⟩ := hrel
      have hRc := hR.out.two
      have hRf := hR.out.frozen
      by_cases hlt : i < l.length
      · obtain ⟨b, off, hAe, hP⟩ := (HM.out.below hb.out).at i hlt
        obtain ⟨h1, h2, h3, h4, D, cd, h5, h6, h7⟩ := hP
        subst hAe
        have hS := As.mk (hE.out.trans (vfFrom_step hlt last))
        have hne : w.heap.size < wr.heap.size := hR.out.lt
        generalize hp : l[i] = p at h1 h2 h3 h4 h5 h6 h7 hS
        have HP := As.mk hp
        clear hp hlen
        have HI := As.mk (And.intro h1 h2)
        have h7 := As.mk h7
        clear h1 h2
        by_cases c1 : p.a.tmod 256 = 0
        · by_cases c2 : p.a ≤ last
          · have e : vf l = (5, (i : Int)) := by rw [hS.out, show pageBad last p = 5 from by unfold pageBad; rw [if_pos (Or.inr (Or.inl c2))]]; rfl
            rw [e]
            clear e hS HP hE E HM HI hI
            go_wp2
            refine ret_flt (p := 2) (g := w.heap.size) (x := .int .i64 5) (y := .int .i64 (i : Int)) rfl rfl rfl (by repeat (first | with_reducible exact hR.out | with_reducible refine Bk.drew ?_ | with_reducible refine Bk.drewN ?_ _ | with_reducible apply Bk.set1 | with_reducible apply Bk.set0 | with_reducible refine Bk.alloc ?_ _ | with_reducible exact Bk.new _ _ _ | with_reducible refine Bk.other ?_ (by first | omega | (simp; omega)) _)) ⟨rfl, ?_⟩
            have hb := hb.out
            repeat (first | exact Below.refl _ _ | assumption | refine bl_drew ?_ | refine bl_drewN ?_ _ | refine bl_alloc ?_ _ | refine Below.setCell ?_ (by first | exact Nat.le_refl _ | exact bl_size (by assumption) | omega | simp) _)
          · by_cases c3 : 1048320 < p.a
            · have e : vf l = (5, (i : Int)) := by rw [hS.out, show pageBad last p = 5 from by unfold pageBad; rw [if_pos (Or.inr (Or.inr c3))]]; rfl
              rw [e]
              clear e hS HP hE E HM HI hI
              go_wp2
              refine ret_flt (p := 2) (g := w.heap.size) (x := .int .i64 5) (y := .int .i64 (i : Int)) rfl rfl rfl (by repeat (first | with_reducible exact hR.out | with_reducible refine Bk.drew ?_ | with_reducible refine Bk.drewN ?_ _ | with_reducible apply Bk.set1 | with_reducible apply Bk.set0 | with_reducible refine Bk.alloc ?_ _ | with_reducible exact Bk.new _ _ _ | with_reducible refine Bk.other ?_ (by first | omega | (simp; omega)) _)) ⟨rfl, ?_⟩
              have hb := hb.out
              repeat (first | exact Below.refl _ _ | assumption | refine bl_drew ?_ | refine bl_drewN ?_ _ | refine bl_alloc ?_ _ | refine Below.setCell ?_ (by first | exact Nat.le_refl _ | exact bl_size (by assumption) | omega | simp) _)
            · have n5 : ¬ (p.a.tmod 256 ≠ 0 ∨ p.a ≤ last ∨ 1048320 < p.a) := by rintro (h | h | h) <;> contradiction
              by_cases d1 : p.r < 0
              · have e : vf l = (3, (i : Int)) := by rw [hS.out, show pageBad last p = 3 from by unfold pageBad; rw [if_neg n5, if_pos (Or.inl d1)]]; rfl
                rw [e]
                clear e hS HP hE E HM HI hI n5
                go_wp2
                refine ret_flt (p := 2) (g := w.heap.size) (x := .int .i64 3) (y := .int .i64 (i : Int)) rfl rfl rfl (by repeat (first | with_reducible exact hR.out | with_reducible refine Bk.drew ?_ | with_reducible refine Bk.drewN ?_ _ | with_reducible apply Bk.set1 | with_reducible apply Bk.set0 | with_reducible refine Bk.alloc ?_ _ | with_reducible exact Bk.new _ _ _ | with_reducible refine Bk.other ?_ (by first | omega | (simp; omega)) _)) ⟨rfl, ?_⟩
                have hb := hb.out
                repeat (first | exact Below.refl _ _ | assumption | refine bl_drew ?_ | refine bl_drewN ?_ _ | refine bl_alloc ?_ _ | refine Below.setCell ?_ (by first | exact Nat.le_refl _ | exact bl_size (by assumption) | omega | simp) _)
              · by_cases d2 : 7 < p.r
                · have e : vf l = (3, (i : Int)) := by rw [hS.out, show pageBad last p = 3 from by unfold pageBad; rw [if_neg n5, if_pos (Or.inr d2)]]; rfl
                  rw [e]
                  clear e hS HP hE E HM HI hI n5
                  go_wp2
                  refine ret_flt (p := 2) (g := w.heap.size) (x := .int .i64 3) (y := .int .i64 (i : Int)) rfl rfl rfl (by repeat (first | with_reducible exact hR.out | with_reducible refine Bk.drew ?_ | with_reducible refine Bk.drewN ?_ _ | with_reducible apply Bk.set1 | with_reducible apply Bk.set0 | with_reducible refine Bk.alloc ?_ _ | with_reducible exact Bk.new _ _ _ | with_reducible refine Bk.other ?_ (by first | omega | (simp; omega)) _)) ⟨rfl, ?_⟩
                  have hb := hb.out
                  repeat (first | exact Below.refl _ _ | assumption | refine bl_drew ?_ | refine bl_drewN ?_ _ | refine bl_alloc ?_ _ | refine Below.setCell ?_ (by first | exact Nat.le_refl _ | exact bl_size (by assumption) | omega | simp) _)
                · have n3 : ¬ (p.r < 0 ∨ 7 < p.r) := by omega
                  by_cases g : p.d.length = 256
                  · have e : vf l = vfFrom (l.drop (i + 1)) (i + 1) p.a := by rw [hS.out, show pageBad last p = 0 from by unfold pageBad; rw [if_neg n5, if_neg n3, if_neg (by omega)]]; rfl
                    have e := As.mk e
                    clear hS HP hE E n5 n3
                    go_wp2
                    go_roundw
                    case rel => exact ⟨i + 1, p.a, by go_num, rfl, by omega, ⟨HI.out.1⟩, e, ⟨by have hb := hb.out; repeat (first | exact Below.refl _ _ | assumption | refine bl_drew ?_ | refine bl_drewN ?_ _ | refine bl_alloc ?_ _ | refine Below.setCell ?_ (by first | exact Nat.le_refl _ | exact bl_size (by assumption) | omega | simp) _)⟩, ⟨by
                      repeat (first | exact hR.out | refine Bk.drew ?_ | refine Bk.drewN ?_ _ | refine Bk.alloc ?_ _ | refine Bk.other ?_ (by first | (simp; omega) | omega) _)⟩⟩
                    case measure => simp [intOf]; omega
                  · have e : vf l = (9, (i : Int)) := by rw [hS.out, show pageBad last p = 9 from by unfold pageBad; rw [if_neg n5, if_neg n3, if_pos g]]; rfl
                    rw [e]
                    clear e hS HP hE E HM HI hI n5 n3
                    go_wp2
                    refine ret_flt (p := 2) (g := w.heap.size) (x := .int .i64 9) (y := .int .i64 (i : Int)) rfl rfl rfl (by repeat (first | with_reducible exact hR.out | with_reducible refine Bk.drew ?_ | with_reducible refine Bk.drewN ?_ _ | with_reducible apply Bk.set1 | with_reducible apply Bk.set0 | with_reducible refine Bk.alloc ?_ _ | with_reducible exact Bk.new _ _ _ | with_reducible refine Bk.other ?_ (by first | omega | (simp; omega)) _)) ⟨rfl, ?_⟩
                    have hb := hb.out
                    repeat (first | exact Below.refl _ _ | assumption | refine bl_drew ?_ | refine bl_drewN ?_ _ | refine bl_alloc ?_ _ | refine Below.setCell ?_ (by first | exact Nat.le_refl _ | exact bl_size (by assumption) | omega | simp) _)
        · have e : vf l = (5, (i : Int)) := by rw [hS.out, show pageBad last p = 5 from by unfold pageBad; rw [if_pos (Or.inl c1)]]; rfl
          rw [e]
          clear e hS HP hE E HM HI hI
          go_wp2
          refine ret_flt (p := 2) (g := w.heap.size) (x := .int .i64 5) (y := .int .i64 (i : Int)) rfl rfl rfl (by repeat (first | with_reducible exact hR.out | with_reducible refine Bk.drew ?_ | with_reducible refine Bk.drewN ?_ _ | with_reducible apply Bk.set1 | with_reducible apply Bk.set0 | with_reducible refine Bk.alloc ?_ _ | with_reducible exact Bk.new _ _ _ | with_reducible refine Bk.other ?_ (by first | omega | (simp; omega)) _)) ⟨rfl, ?_⟩
          have hb := hb.out
          repeat (first | exact Below.refl _ _ | assumption | refine bl_drew ?_ | refine bl_drewN ?_ _ | refine bl_alloc ?_ _ | refine Below.setCell ?_ (by first | exact Nat.le_refl _ | exact bl_size (by assumption) | omega | simp) _)
      · have hS := hE.out.trans (vfFrom_end l i (by omega) last)
        have HS := As.mk hS
        clear hS
        go_wp2
        refine ret_flt (p := 2) (g := w.heap.size) (x := .int .i64 0) (y := .int .i64 0) rfl rfl rfl (by repeat (first | with_reducible exact hR.out | with_reducible refine Bk.drew ?_ | with_reducible refine Bk.drewN ?_ _ | with_reducible apply Bk.set1 | with_reducible apply Bk.set0 | with_reducible refine Bk.alloc ?_ _ | with_reducible exact Bk.new _ _ _ | with_reducible refine Bk.other ?_ (by first | omega | (simp; omega)) _)) ⟨by rw [HS.out]; rfl, ?_⟩
        have hb := hb.out
        repeat (first | exact Below.refl _ _ | assumption | refine bl_drew ?_ | refine bl_drewN ?_ _ | refine bl_alloc ?_ _ | refine Below.setCell ?_ (by first | exact Nat.le_refl _ | exact bl_size (by assumption) | omega | simp) _)
end Go.Proofs.Ytbbhkjljiljadaa
