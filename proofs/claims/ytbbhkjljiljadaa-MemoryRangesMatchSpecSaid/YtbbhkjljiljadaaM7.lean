/- span and missing of package memory. Conditions: the memory reads as those pages. -/
import Derived.Test.YtbbhkjljiljadaaM6
namespace Go.Proofs.Ytbbhkjljiljadaa
open Go.RowKit
set_option linter.unusedVariables false
set_option linter.unusedSimpArgs false
/-- What span says. -/
def sp (l : List Pg) (a p : Int) : Int × Int :=
  if vf l ≠ (0, 0) then vf l else if a.tmod 256 ≠ 0 then (5, -2) else if p < 1 ∨ 200 < p ∨ a < 0 ∨ 1048576 - p * 256 < a then (3, -2) else (0, 0)
/-- The first page of a range that is not there. -/
def ms (l : List Pg) (a : Int) (n : Nat) : Int × Int := match (List.range n).find? (fun k : Nat => (look l (a + (k : Int) * 256)).isNone) with | some k => (6, (k : Int)) | none => (0, 0)
theorem ms_bad {l : List Pg} {a : Int} {n i : Nat} (hi : i < n) (hp : look l (a + (i : Int) * 256) = none) (hb : ∀ j, j < i → look l (a + (j : Int) * 256) ≠ none) : ms l a n = (6, (i : Int)) := by
  unfold ms
  rw [find_range hi (by simp [hp]) (fun j hj => by simpa [Option.isSome_iff_ne_none] using hb j hj)]
theorem ms_ok {l : List Pg} {a : Int} {n : Nat} (hb : ∀ j, j < n → look l (a + (j : Int) * 256) ≠ none) : ms l a n = (0, 0) := by
  unfold ms
  rw [find_range_none (fun j hj => by simpa [Option.isSome_iff_ne_none] using hb j hj)]
set_option maxHeartbeats 4000000 in
theorem span_any (v : Value) (l : List Pg) (a n : Int) (w : World) (hm : RdM w v l) (ha : I64 a) (hn : I64 n) : Calls Try.prog 57 #[v, .int .i64 a, .int .i64 n] w (VPost (sp l a n) w) := by
  have hlen := hm.len
  have HM := As.mk hm
  clear hm
  have HN := hn
  have HA := ha
  unfold I64 at HN HA
  rcases vf_cases l with hv | ⟨c, i, hv, hc0, hc9, hi0, hi2⟩
  · have e0 : sp l a n = if a.tmod 256 ≠ 0 then (5, -2) else if n < 1 ∨ 200 < n ∨ a < 0 ∨ 1048576 - n * 256 < a then (3, -2) else (0, 0) := by unfold sp; rw [if_neg (by rw [hv]; simp)]
    have E0 := As.mk e0
    clear e0
    go_enter Try.func57, Try.ntmps57
    go_wp2_with fail
    refine (validate_any _ l _ (HM.out.below (by repeat (first | exact Below.refl _ _ | assumption | refine bl_drew ?_ | refine bl_drewN ?_ _ | refine bl_alloc ?_ _ | refine Below.setCell ?_ (by first | exact Nat.le_refl _ | exact bl_size (by assumption) | omega | simp) _)))).mono ?_
    rintro e w1 ⟨rfl, hb1⟩
    rw [hv]
    unfold Flt
    have hB := (Bk.new w #[.int .i64 0, .int .i64 0] 33).below hb1
    have hbw := bl_then (bl_alloc (Below.refl _ w) _) hb1
    have hlt := hB.lt
    have hBc := hB.two
    have hBf := hB.frozen
    have HB := As.mk hB
    clear hb1 hv hB
    by_cases c0 : a.tmod 256 = 0
    · have E1 : As (sp l a n = if n < 1 ∨ 200 < n ∨ a < 0 ∨ 1048576 - n * 256 < a then (3, -2) else (0, 0)) := ⟨by rw [E0.out, if_neg (by simpa using c0)]⟩
      have BAD : As ((n < 1 ∨ 200 < n ∨ a < 0 ∨ 1048576 - n * 256 < a) → sp l a n = (3, -2)) := ⟨fun h => by rw [E1.out, if_pos h]⟩
      clear E0
      by_cases c1 : n < 1
      · have E := As.mk (BAD.out (Or.inl c1))
        clear E1 BAD
        go_wp2
        refine ret_flt (p := 6) (g := w.heap.size) (x := .int .i64 3) (y := .int .i64 (-2)) rfl rfl rfl (by repeat (first | with_reducible exact HB.out | with_reducible refine Bk.drew ?_ | with_reducible refine Bk.drewN ?_ _ | with_reducible apply Bk.set1 | with_reducible apply Bk.set0 | with_reducible refine Bk.alloc ?_ _ | with_reducible exact Bk.new _ _ _ | with_reducible refine Bk.other ?_ (by first | omega | (simp; omega)) _)) ⟨by rw [E.out]; rfl, ?_⟩
        repeat (first | exact Below.refl _ _ | assumption | refine bl_drew ?_ | refine bl_drewN ?_ _ | refine bl_alloc ?_ _ | refine Below.setCell ?_ (by first | exact Nat.le_refl _ | exact bl_size (by assumption) | omega | simp) _)
      · by_cases c2 : 200 < n
        · have E := As.mk (BAD.out (Or.inr (Or.inl c2)))
          clear E1 BAD
          go_wp2
          refine ret_flt (p := 6) (g := w.heap.size) (x := .int .i64 3) (y := .int .i64 (-2)) rfl rfl rfl (by repeat (first | with_reducible exact HB.out | with_reducible refine Bk.drew ?_ | with_reducible refine Bk.drewN ?_ _ | with_reducible apply Bk.set1 | with_reducible apply Bk.set0 | with_reducible refine Bk.alloc ?_ _ | with_reducible exact Bk.new _ _ _ | with_reducible refine Bk.other ?_ (by first | omega | (simp; omega)) _)) ⟨by rw [E.out]; rfl, ?_⟩
          repeat (first | exact Below.refl _ _ | assumption | refine bl_drew ?_ | refine bl_drewN ?_ _ | refine bl_alloc ?_ _ | refine Below.setCell ?_ (by first | exact Nat.le_refl _ | exact bl_size (by assumption) | omega | simp) _)
        · by_cases c3 : a < 0
          · have E := As.mk (BAD.out (Or.inr (Or.inr (Or.inl c3))))
            clear E1 BAD
            go_wp2
            refine ret_flt (p := 6) (g := w.heap.size) (x := .int .i64 3) (y := .int .i64 (-2)) rfl rfl rfl (by repeat (first | with_reducible exact HB.out | with_reducible refine Bk.drew ?_ | with_reducible refine Bk.drewN ?_ _ | with_reducible apply Bk.set1 | with_reducible apply Bk.set0 | with_reducible refine Bk.alloc ?_ _ | with_reducible exact Bk.new _ _ _ | with_reducible refine Bk.other ?_ (by first | omega | (simp; omega)) _)) ⟨by rw [E.out]; rfl, ?_⟩
            repeat (first | exact Below.refl _ _ | assumption | refine bl_drew ?_ | refine bl_drewN ?_ _ | refine bl_alloc ?_ _ | refine Below.setCell ?_ (by first | exact Nat.le_refl _ | exact bl_size (by assumption) | omega | simp) _)
          · by_cases c4 : 1048576 - n * 256 < a
            · have E := As.mk (BAD.out (Or.inr (Or.inr (Or.inr c4))))
              clear E1 BAD
              go_wp2
              refine ret_flt (p := 6) (g := w.heap.size) (x := .int .i64 3) (y := .int .i64 (-2)) rfl rfl rfl (by repeat (first | with_reducible exact HB.out | with_reducible refine Bk.drew ?_ | with_reducible refine Bk.drewN ?_ _ | with_reducible apply Bk.set1 | with_reducible apply Bk.set0 | with_reducible refine Bk.alloc ?_ _ | with_reducible exact Bk.new _ _ _ | with_reducible refine Bk.other ?_ (by first | omega | (simp; omega)) _)) ⟨by rw [E.out]; rfl, ?_⟩
              repeat (first | exact Below.refl _ _ | assumption | refine bl_drew ?_ | refine bl_drewN ?_ _ | refine bl_alloc ?_ _ | refine Below.setCell ?_ (by first | exact Nat.le_refl _ | exact bl_size (by assumption) | omega | simp) _)
            · have E : As (sp l a n = (0, 0)) := ⟨by rw [E1.out, if_neg (by omega)]⟩
              clear E1 BAD
              go_wp2
              refine ret_flt (p := 6) (g := w.heap.size) (x := .int .i64 0) (y := .int .i64 0) rfl rfl rfl (by repeat (first | with_reducible exact HB.out | with_reducible refine Bk.drew ?_ | with_reducible refine Bk.drewN ?_ _ | with_reducible apply Bk.set1 | with_reducible apply Bk.set0 | with_reducible refine Bk.alloc ?_ _ | with_reducible exact Bk.new _ _ _ | with_reducible refine Bk.other ?_ (by first | omega | (simp; omega)) _)) ⟨by rw [E.out]; rfl, ?_⟩
              repeat (first | exact Below.refl _ _ | assumption | refine bl_drew ?_ | refine bl_drewN ?_ _ | refine bl_alloc ?_ _ | refine Below.setCell ?_ (by first | exact Nat.le_refl _ | exact bl_size (by assumption) | omega | simp) _)
    · have E : As (sp l a n = (5, -2)) := ⟨by rw [E0.out, if_pos c0]⟩
      clear E0
      go_wp2
      refine ret_flt (p := 6) (g := w.heap.size) (x := .int .i64 5) (y := .int .i64 (-2)) rfl rfl rfl (by repeat (first | with_reducible exact HB.out | with_reducible refine Bk.drew ?_ | with_reducible refine Bk.drewN ?_ _ | with_reducible apply Bk.set1 | with_reducible apply Bk.set0 | with_reducible refine Bk.alloc ?_ _ | with_reducible exact Bk.new _ _ _ | with_reducible refine Bk.other ?_ (by first | omega | (simp; omega)) _)) ⟨by rw [E.out]; rfl, ?_⟩
      repeat (first | exact Below.refl _ _ | assumption | refine bl_drew ?_ | refine bl_drewN ?_ _ | refine bl_alloc ?_ _ | refine Below.setCell ?_ (by first | exact Nat.le_refl _ | exact bl_size (by assumption) | omega | simp) _)
  · have E : As (sp l a n = (c, i)) := ⟨by unfold sp; rw [if_pos (by rw [hv]; intro h; injection h; omega), hv]⟩
    go_enter Try.func57, Try.ntmps57
    go_wp2_with fail
    refine (validate_any _ l _ (HM.out.below (by repeat (first | exact Below.refl _ _ | assumption | refine bl_drew ?_ | refine bl_drewN ?_ _ | refine bl_alloc ?_ _ | refine Below.setCell ?_ (by first | exact Nat.le_refl _ | exact bl_size (by assumption) | omega | simp) _)))).mono ?_
    rintro e w1 ⟨rfl, hb1⟩
    rw [hv]
    unfold Flt
    have hB := (Bk.new w #[.int .i64 0, .int .i64 0] 33).below hb1
    have hbw := bl_then (bl_alloc (Below.refl _ w) _) hb1
    have hlt := hB.lt
    have hBc := hB.two
    have hBf := hB.frozen
    have HB := As.mk hB
    have hc : ¬ c = 0 := by omega
    clear hb1 hv hB
    go_wp2
    refine ret_flt (p := 6) (g := w.heap.size) (x := .int .i64 c) (y := .int .i64 i) rfl rfl rfl (by repeat (first | with_reducible exact HB.out | with_reducible refine Bk.drew ?_ | with_reducible refine Bk.drewN ?_ _ | with_reducible apply Bk.set1 | with_reducible apply Bk.set0 | with_reducible refine Bk.alloc ?_ _ | with_reducible exact Bk.new _ _ _ | with_reducible refine Bk.other ?_ (by first | omega | (simp; omega)) _)) ⟨by rw [E.out]; rfl, ?_⟩
    repeat (first | exact Below.refl _ _ | assumption | refine bl_drew ?_ | refine bl_drewN ?_ _ | refine bl_alloc ?_ _ | refine Below.setCell ?_ (by first | exact Nat.le_refl _ | exact bl_size (by assumption) | omega | simp) _)
def MRel (l : List Pg) (w : World) (a n : Int) (vi : Value) (wr : World) : Prop :=
  ∃ i : Nat, vi = .int .i64 i ∧ (i : Int) ≤ n ∧ As (∀ j, j < i → look l (a + (j : Int) * 256) ≠ none) ∧ As (Below w.heap.size w wr) ∧ As (Bk wr w.heap.size #[.int .i64 0, .int .i64 0] 33)
set_option maxHeartbeats 4000000 in
theorem missing_any (v : Value) (l : List Pg) (a n : Int) (w : World) (hm : RdM w v l) (hs : Inc l) (h0 : 0 ≤ a) (hn0 : 1 ≤ n) (hn1 : n ≤ 200) (ha : a ≤ 1048576 - n * 256) : Calls Try.prog 61 #[v, .int .i64 a, .int .i64 n] w (VPost (ms l a n.toNat) w) := by
  have hlen := hm.len
  have HM := As.mk hm
  have HS := As.mk hs
  clear hm hs
  go_enter Try.func61, Try.ntmps61
  go_wp2
  go_loopw [11] (fun vi wr => MRel l w a n vi wr) (fun vi _ => (n - intOf vi).toNat)
  case atStart => exact ⟨0, rfl, by omega, ⟨fun j hj => by omega⟩, ⟨by repeat (first | exact Below.refl _ _ | assumption | refine bl_drew ?_ | refine bl_drewN ?_ _ | refine bl_alloc ?_ _ | refine Below.setCell ?_ (by first | exact Nat.le_refl _ | exact bl_size (by assumption) | omega | simp) _)⟩, ⟨by repeat (first | with_reducible exact (Bk.new _ _ _) | with_reducible refine Bk.drew ?_ | with_reducible refine Bk.drewN ?_ _ | with_reducible apply Bk.set1 | with_reducible apply Bk.set0 | with_reducible refine Bk.alloc ?_ _ | with_reducible exact Bk.new _ _ _ | with_reducible refine Bk.other ?_ (by first | omega | (simp; omega)) _)⟩⟩
  case round =>
    obtain ⟨i, rfl, hin, hA, hb, hR⟩ := hrel
    by_cases hlt : (i : Int) < n
    · go_wp2_with fail
      refine (find_any _ l (a + (i : Int) * 256) _ (HM.out.below hb.out) HS.out (by omega) (by omega)).mono ?_
      rintro e w3 ⟨k, ok, hsp, rfl, hb3⟩
      have hR3 := hR.out.below hb3
      have hb3 := bl_then hb.out hb3
      have hlt3 := hR3.lt
      have hBc3 := hR3.two
      have hBf3 := hR3.frozen
      have HR3 := As.mk hR3
      clear hR3 hR hb
      rcases hsp.look HS.out with ⟨rfl, hk, hlk, he⟩ | ⟨rfl, hlk⟩
      · have HC : As (look l (a + (i : Int) * 256) ≠ none) := ⟨by rw [hlk]; simp⟩
        clear hlk he hsp
        go_wp2
        go_roundw
        case rel => exact ⟨i + 1, by go_num, by omega, ⟨fun j hj => by
          rcases Nat.lt_or_ge j i with h | h
          · exact hA.out j h
          · obtain rfl : j = i := by omega
            exact HC.out⟩, ⟨hb3⟩, HR3⟩
        case measure => simp [intOf]; omega
      · have E : As (ms l a n.toNat = (6, (i : Int))) := ⟨ms_bad (by omega) hlk hA.out⟩
        clear hlk hsp hA
        go_wp2
        refine ret_flt (p := 6) (g := w.heap.size) (x := .int .i64 6) (y := .int .i64 (i : Int)) rfl rfl rfl (by repeat (first | with_reducible exact HR3.out | with_reducible refine Bk.drew ?_ | with_reducible refine Bk.drewN ?_ _ | with_reducible apply Bk.set1 | with_reducible apply Bk.set0 | with_reducible refine Bk.alloc ?_ _ | with_reducible exact Bk.new _ _ _ | with_reducible refine Bk.other ?_ (by first | omega | (simp; omega)) _)) ⟨by rw [E.out]; rfl, ?_⟩
        repeat (first | exact Below.refl _ _ | assumption | refine bl_drew ?_ | refine bl_drewN ?_ _ | refine bl_alloc ?_ _ | refine Below.setCell ?_ (by first | exact Nat.le_refl _ | exact bl_size (by assumption) | omega | simp) _)
    · have E : As (ms l a n.toNat = (0, 0)) := ⟨ms_ok (fun j hj => hA.out j (by omega))⟩
      have hlt3 := hR.out.lt
      have hBc3 := hR.out.two
      have hBf3 := hR.out.frozen
      have hb := hb.out
      go_wp2
      refine ret_flt (p := 6) (g := w.heap.size) (x := .int .i64 0) (y := .int .i64 0) rfl rfl rfl (by repeat (first | with_reducible exact hR.out | with_reducible refine Bk.drew ?_ | with_reducible refine Bk.drewN ?_ _ | with_reducible apply Bk.set1 | with_reducible apply Bk.set0 | with_reducible refine Bk.alloc ?_ _ | with_reducible exact Bk.new _ _ _ | with_reducible refine Bk.other ?_ (by first | omega | (simp; omega)) _)) ⟨by rw [E.out]; rfl, ?_⟩
      repeat (first | exact Below.refl _ _ | assumption | refine bl_drew ?_ | refine bl_drewN ?_ _ | refine bl_alloc ?_ _ | refine Below.setCell ?_ (by first | exact Nat.le_refl _ | exact bl_size (by assumption) | omega | simp) _)
end Go.Proofs.Ytbbhkjljiljadaa
