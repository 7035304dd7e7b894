/- Present of the reference. Conditions: the memory reads as those pages, which are valid. -/
import Derived.Test.YtbbhkjljiljadaaM25
namespace Go.Proofs.Ytbbhkjljiljadaa
open Go.RowKit
set_option linter.unusedVariables false
set_option linter.unusedSimpArgs false
def PrPost (l : List Pg) (a : Int) (n : Nat) (t : Bool) (w : World) (e : Ending) (w' : World) : Prop :=
  ∃ i : Int, e = .returned (.int .i64 i) ∧ Below w.heap.size w w' ∧ ((i = -1 ∧ ∀ j : Nat, j < n → (look l (a + (j : Int) * 256)).isSome ≠ t) ∨ ∃ k : Nat, k < n ∧ i = (k : Int) ∧ (look l (a + (k : Int) * 256)).isSome = t ∧ ∀ j : Nat, j < k → (look l (a + (j : Int) * 256)).isSome ≠ t)
def PrRel (l : List Pg) (a : Int) (n : Nat) (t : Bool) (w : World) (vi : Value) (wr : World) : Prop :=
  ∃ i : Nat, vi = .int .i64 i ∧ i ≤ n ∧ As (∀ j : Nat, j < i → (look l (a + (j : Int) * 256)).isSome ≠ t) ∧ As (Below w.heap.size w wr)
set_option maxHeartbeats 4000000 in
theorem present_any (v : Value) (l : List Pg) (a : Int) (n : Nat) (t : Bool) (w : World) (hm : RdM w v l) (hk : Ok l) (ha0 : 0 ≤ a) (ha1 : a ≤ 1048576) (hn : n ≤ 200) : Calls Try.prog 38 #[v, .int .i64 a, .int .i64 n, .bool t] w (PrPost l a n t w) := by
  have HM := As.mk hm
  have HK := As.mk hk
  clear hm hk
  go_enter Try.func38, Try.ntmps38
  go_wp2
  go_loopw [9] (fun vi wr => PrRel l a n t w vi wr) (fun vi _ => (n - intOf vi).toNat)
  case atStart => exact ⟨0, rfl, by omega, ⟨fun j hj => by omega⟩, ⟨Below.refl _ _⟩⟩
  case round =>
    obtain ⟨i, rfl, hin, hA, hb⟩ := hrel
    by_cases hlt : i < n
    · have hwr : ∀ [Inhabited Nat], IntKind.i64.wrap (a + 256 * (i : Int)) = a + (i : Int) * 256 := by intro _; rw [IntKind.wrap_i64]; omega
      have hcm : (256 : Int) * (i : Int) = (i : Int) * 256 := by omega
      go_wp2_with fail
      refine (pageof_any _ l (a + (i : Int) * 256) _ (HM.out.below hb.out) HK.out).mono ?_
      rintro e w1 ⟨i1, rfl, hb1, ⟨rfl, hlk⟩ | ⟨k, hkl, rfl, hlk, he⟩⟩
      · have HB := As.mk (bl_then hb.out hb1)
        have HF : As ((look l (a + (i : Int) * 256)).isSome = false) := ⟨by rw [hlk]; rfl⟩
        clear hb1 hlk hwr hcm
        cases t with
        | true =>
          go_wp2
          go_roundw
          case rel => exact ⟨i + 1, by go_num, by omega, ⟨fun j hj => by
            rcases Nat.lt_or_ge j i with h | h
            · exact hA.out j h
            · obtain rfl : j = i := by omega
              rw [HF.out]; simp⟩, HB⟩
          case measure => simp [intOf]; omega
        | false =>
          go_wp2
          go_ret
          exact ⟨i, rfl, HB.out, Or.inr ⟨i, hlt, rfl, HF.out, hA.out⟩⟩
      · have HB := As.mk (bl_then hb.out hb1)
        have HF : As ((look l (a + (i : Int) * 256)).isSome = true) := ⟨by rw [hlk]; rfl⟩
        clear hb1 hlk he hwr hcm
        cases t with
        | false =>
          go_wp2
          go_roundw
          case rel => exact ⟨i + 1, by go_num, by omega, ⟨fun j hj => by
            rcases Nat.lt_or_ge j i with h | h
            · exact hA.out j h
            · obtain rfl : j = i := by omega
              rw [HF.out]; simp⟩, HB⟩
          case measure => simp [intOf]; omega
        | true =>
          go_wp2
          go_ret
          exact ⟨i, rfl, HB.out, Or.inr ⟨i, hlt, rfl, HF.out, hA.out⟩⟩
    · obtain rfl : i = n := by omega
      go_wp2
      go_ret
      exact ⟨-1, rfl, hb.out, Or.inl ⟨rfl, hA.out⟩⟩
end Go.Proofs.Ytbbhkjljiljadaa
