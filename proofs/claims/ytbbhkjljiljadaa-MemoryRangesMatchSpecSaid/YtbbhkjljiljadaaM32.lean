/- MemoryUnmapIsInverseOfMap returns true. Conditions: the memory reads as those pages. -/
import Derived.Test.YtbbhkjljiljadaaM31
namespace Go.Proofs.Ytbbhkjljiljadaa
open Go.RowKit
set_option linter.unusedVariables false
set_option linter.unusedSimpArgs false
theorem sp_vf {l : List Pg} {a n : Int} (h : sp l a n = (0, 0)) : vf l = (0, 0) := by
  rcases sp_cases l a n with ⟨_, h0, _⟩ | ⟨c, i, h0, h1, _⟩
  · exact h0
  · rw [h] at h0; injection h0; omega
theorem ex_cases (l : List Pg) (a : Int) (n : Nat) : ex l a n = (0, 0) ∨ ∃ k : Nat, k < n ∧ ex l a n = (7, (k : Int)) := by
  unfold ex
  cases h : (List.range n).find? (fun k : Nat => (look l (a + (k : Int) * 256)).isSome) with
  | none => exact Or.inl rfl
  | some k => exact Or.inr ⟨k, List.mem_range.1 (List.mem_of_find?_eq_some h), rfl⟩
theorem mf_cases (l : List Pg) (a n r : Int) : mf l a n r = (0, 0) ∨ ∃ c i, mf l a n r = (c, i) ∧ 0 < c ∧ c ≤ 18 := by
  unfold mf
  split
  · rename_i h
    rcases sp_cases l a n with ⟨h0, _⟩ | ⟨c, i, h0, h1, h2, _⟩
    · exact absurd h0 h
    · exact Or.inr ⟨c, i, h0, h1, h2⟩
  · split
    · rename_i h
      rcases rf_cases r with h0 | h0
      · exact absurd h0 h
      · exact Or.inr ⟨3, -3, h0, by omega, by omega⟩
    · split
      · rename_i h
        rcases ex_cases l a n.toNat with h0 | ⟨k, _, h0⟩
        · exact absurd h0 h
        · exact Or.inr ⟨7, k, h0, by omega, by omega⟩
      · split
        · exact Or.inr ⟨10, -1, rfl, by omega, by omega⟩
        · exact Or.inl rfl
set_option maxHeartbeats 4000000 in
theorem unmapinv_any (v : Value) (l : List Pg) (a n r : Int) (w : World) (hm : RdM w v l) (ha : I64 a) (hn : I64 n) (hr : I64 r) : Calls Try.prog 11 #[v, .int .i64 a, .int .i64 n, .int .i64 r] w (BPost true w) := by
  have HM := As.mk hm
  clear hm
  go_enter Try.func11, Try.ntmps11
  go_wp2_with fail
  refine (example_any _).mono ?_
  rintro e w1 ⟨rfl, hb1⟩
  have B1 := As.mk hb1
  clear hb1
  go_wp2_with fail
  refine (map_any v l a n r _ (HM.out.below B1.out) ha hn hr).mono ?_
  rintro e w2 ⟨v2, rfl, hb2, hno, hok⟩
  rcases mf_cases l a n r with hz | ⟨c, i, hz, hc0, hc1⟩
  · obtain ⟨i, ok, hs, hm2⟩ := hok hz
    obtain ⟨p1, p2, p3⟩ := map_unmap hz hs
    have HK : As (Ok l) := ⟨Ok.of (sp_vf (mf_ok hz).1)⟩
    have M2 : As (RdM w2 v2 (ins l i a r n.toNat)) := ⟨hm2⟩
    have P1 := As.mk p1
    have P2 := As.mk p2
    have P3 := As.mk p3
    have B2 := As.mk (bl_then B1.out hb2)
    rw [hz]
    unfold Flt
    have hF := Bk.new w2 #[.int .i64 0, .int .i64 0] 33
    have hF1 := hF.two
    have HF := As.mk hF
    clear hok hno hm2 hs p1 p2 p3 hb2 hz B1 hF
    go_wp2_with fail
    refine (unmap_any v2 (ins l i a r n.toNat) a n _ (M2.out.below (by repeat (first | exact Below.refl _ _ | assumption | refine bl_drew ?_ | refine bl_drewN ?_ _ | refine bl_alloc ?_ _ | refine Below.setCell ?_ (by first | exact Nat.le_refl _ | exact bl_size (by assumption) | omega | simp) _))) ha hn).mono ?_
    rintro e w3 ⟨v3, rfl, hb3, -, ho3⟩
    obtain ⟨i3, hs3, hi3, ho3⟩ := ho3 P2.out
    rw [P3.out i3 hs3] at ho3
    rw [P2.out]
    unfold Flt
    have hx : Below w2.heap.size w2 w3 := bl_then (show Below w2.heap.size w2 _ from by repeat (first | exact Below.refl _ _ | assumption | refine bl_drew ?_ | refine bl_drewN ?_ _ | refine bl_alloc ?_ _ | refine Below.setCell ?_ (by first | exact Nat.le_refl _ | exact bl_size (by assumption) | omega | simp) _)) hb3
    have B3 := As.mk (bl_then B2.out hx)
    have M3 := As.mk (M2.out.below hx)
    have O3 := As.mk ho3
    clear hF1 HF hb3 hx hs3 hi3 ho3 M2 B2
    go_wp2_with fail
    refine (validate_any v2 _ _ (M3.out.below (by repeat (first | exact Below.refl _ _ | assumption | refine bl_drew ?_ | refine bl_drewN ?_ _ | refine bl_alloc ?_ _ | refine Below.setCell ?_ (by first | exact Nat.le_refl _ | exact bl_size (by assumption) | omega | simp) _)))).mono ?_
    rintro e w4 ⟨rfl, hb4⟩
    rw [P1.out]
    unfold Flt
    have hfld : ∀ w, (Instr.field 33 (.agg #[.int .i64 0, .int .i64 0]) 0).run Try.prog w = .ok (.int .i64 0) w := fun _ => by kernel_rfl
    have hF := (Bk.new w3 #[.int .i64 0, .int .i64 0] 33).below hb4
    have hF1 := hF.two
    have hx : Below w3.heap.size w3 w4 := bl_then (show Below w3.heap.size w3 _ from by repeat (first | exact Below.refl _ _ | assumption | refine bl_drew ?_ | refine bl_drewN ?_ _ | refine bl_alloc ?_ _ | refine Below.setCell ?_ (by first | exact Nat.le_refl _ | exact bl_size (by assumption) | omega | simp) _)) hb4
    have B4 := As.mk (bl_then B3.out hx)
    have O4 : As (RdM w4 v3 l) := ⟨by
      exact (own_rd HK.out HM.out.byt O3.out).below hx⟩
    clear hb4 hF hx B3 O3
    go_wp2_with fail
    refine (same_any v3 v l l _ O4.out (HM.out.below B4.out)).mono ?_
    rintro e w5 ⟨b, rfl, hbt, hb5⟩
    obtain rfl : b = true := hbt.2 rfl
    go_wp2
    go_ret
    exact ⟨rfl, bl_then B4.out hb5⟩
  · have h2 := hno (by rw [hz]; intro h; injection h; omega)
    subst h2
    rw [hz]
    unfold Flt
    have hc : ¬ c = 0 := by omega
    have B2 := As.mk (bl_then B1.out hb2)
    have hF1 := (Bk.new w2 #[.int .i64 c, .int .i64 i] 33).two
    clear hok hno hz hb2 B1
    go_wp2
    go_ret
    exact ⟨rfl, by have := B2.out; repeat (first | exact Below.refl _ _ | assumption | refine bl_drew ?_ | refine bl_drewN ?_ _ | refine bl_alloc ?_ _ | refine Below.setCell ?_ (by first | exact Nat.le_refl _ | exact bl_size (by assumption) | omega | simp) _)⟩
end Go.Proofs.Ytbbhkjljiljadaa
