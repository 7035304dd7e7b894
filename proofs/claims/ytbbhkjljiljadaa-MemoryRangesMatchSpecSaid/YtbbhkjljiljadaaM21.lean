/- At, In, PageOf of the reference. Conditions: the memory reads as those pages, which are valid. -/
import Derived.Test.YtbbhkjljiljadaaM20
namespace Go.Proofs.Ytbbhkjljiljadaa
open Go.RowKit
set_option linter.unusedVariables false
set_option linter.unusedSimpArgs false
theorem at_any (c i : Int) (w : World) : Calls Try.prog 19 #[.int .i64 c, .int .i64 i] w (VPost (c, i) w) := by
  go_enter Try.func19, Try.ntmps19
  go_wp2
  refine ret_flt (p := 4) (g := w.heap.size) (x := .int .i64 c) (y := .int .i64 i) rfl rfl rfl (by repeat (first | with_reducible exact (Bk.new _ _ _) | with_reducible refine Bk.drew ?_ | with_reducible refine Bk.drewN ?_ _ | with_reducible apply Bk.set1 | with_reducible apply Bk.set0 | with_reducible refine Bk.alloc ?_ _ | with_reducible exact Bk.new _ _ _ | with_reducible refine Bk.other ?_ (by first | omega | (simp; omega)) _)) ⟨rfl, ?_⟩
  repeat (first | exact Below.refl _ _ | assumption | refine bl_drew ?_ | refine bl_drewN ?_ _ | refine bl_alloc ?_ _ | refine Below.setCell ?_ (by first | exact Nat.le_refl _ | exact bl_size (by assumption) | omega | simp) _)
def inB (n lo hi : Int) : Bool := decide (lo ≤ n ∧ n ≤ hi)
theorem in_any (n lo hi : Int) (w : World) : Calls Try.prog 29 #[.int .i64 n, .int .i64 lo, .int .i64 hi] w fun e w' => e = .returned (.bool (inB n lo hi)) ∧ w' = w := by
  by_cases h1 : lo ≤ n
  · by_cases h2 : n ≤ hi
    · rw [show inB n lo hi = true from decide_eq_true ⟨h1, h2⟩]
      go_enter Try.func29, Try.ntmps29
      go_wp2
      go_ret
      exact ⟨rfl, rfl⟩
    · rw [show inB n lo hi = false from decide_eq_false (fun h => h2 h.2)]
      go_enter Try.func29, Try.ntmps29
      go_wp2
      go_ret
      exact ⟨rfl, rfl⟩
  · rw [show inB n lo hi = false from decide_eq_false (fun h => h1 h.1)]
    go_enter Try.func29, Try.ntmps29
    go_wp2
    go_ret
    exact ⟨rfl, rfl⟩
def PoPost (l : List Pg) (a : Int) (w : World) (e : Ending) (w' : World) : Prop :=
  ∃ i : Int, e = .returned (.int .i64 i) ∧ Below w.heap.size w w' ∧ ((i = -1 ∧ look l a = none) ∨ ∃ k : Nat, ∃ h : k < l.length, i = (k : Int) ∧ look l a = some l[k] ∧ l[k].a = a - a % 256)
def PoRel (l : List Pg) (a : Int) (w : World) (vi : Value) (wr : World) : Prop :=
  ∃ i : Nat, vi = .int .i64 i ∧ i ≤ l.length ∧ As (∀ j (h : j < l.length), j < i → l[j].a ≠ a - a % 256) ∧ As (Below w.heap.size w wr)
set_option maxHeartbeats 4000000 in
theorem pageof_any (v : Value) (l : List Pg) (a : Int) (w : World) (hm : RdM w v l) (hk : Ok l) : Calls Try.prog 63 #[v, .int .i64 a] w (PoPost l a w) := by
  have hlen := hk.len
  obtain ⟨A, c, rfl, hr⟩ := id hm
  have HM := As.mk hm
  have HK := As.mk hk
  clear hr hm hk
  go_enter Try.func63, Try.ntmps63
  go_wp2
  go_loopw [5] (fun vi wr => PoRel l a w vi wr) (fun vi _ => (l.length - intOf vi).toNat)
  case atStart => exact ⟨0, rfl, by omega, ⟨fun j h hj => by omega⟩, ⟨Below.refl _ _⟩⟩
  case round =>
    obtain ⟨i, rfl, hil, hA, hb⟩ := hrel
    by_cases hlt : i < l.length
    · obtain ⟨b, off, hAe, hP⟩ := (HM.out.below hb.out).at i hlt
      obtain ⟨h1, h2, h3, h4, D, cd, h5, h6, h7⟩ := hP
      subst hAe
      have hpg := HK.out.pg i hlt
      have h0 := hpg.1
      have h00 := hpg.2.2.1
      have E : As (inB a l[i].a (l[i].a + 255) = true ↔ l[i].a = a - a % 256) := ⟨by unfold inB; rw [decide_eq_true_iff]; have := hpg.2.1; omega⟩
      clear h1 h2 h4 h5 h6 h7 hpg
      generalize hp : l[i].a = p at *
      have HPE := As.mk hp
      clear hp
      have hwr : IntKind.i64.wrap (p + 255) = p + 255 := by rw [IntKind.wrap_i64]; omega
      go_wp2
      go_quiet ((go_at_call 29; exact Calls.quiet_of_same (in_any _ _ _ _)))
      by_cases hin : p = a - a % 256
      · have hin2 := E.out.2 hin
        have HB := As.mk (bl_drewN hb.out nq)
        have HL : As (look l a = some l[i] ∧ l[i].a = a - a % 256) := ⟨look_some HK.out.inc hlt (HPE.out.trans hin), HPE.out.trans hin⟩
        rw [hin2]
        clear hin hin2 E
        go_wp2
        go_ret
        exact ⟨i, rfl, HB.out, Or.inr ⟨i, hlt, rfl, HL.out⟩⟩
      · have hin2 : inB a p (p + 255) = false := by
          cases h : inB a p (p + 255) with
          | false => rfl
          | true => exact absurd (E.out.1 h) hin
        have HB := As.mk (bl_drewN hb.out nq)
        have HIN := As.mk hin
        rw [hin2]
        clear hin hin2 E
        go_wp2
        go_roundw
        case rel => exact ⟨i + 1, by go_num, by omega, ⟨fun j h hj => by
          rcases Nat.lt_or_ge j i with h' | h'
          · exact hA.out j h h'
          · obtain rfl : j = i := by omega
            rw [HPE.out]; exact HIN.out⟩, HB⟩
        case measure => simp [intOf]; omega
    · go_wp2
      go_ret
      exact ⟨-1, rfl, hb.out, Or.inl ⟨rfl, look_none (by rintro ⟨j, hj, he⟩; exact hA.out j hj (by omega) he)⟩⟩
end Go.Proofs.Ytbbhkjljiljadaa
