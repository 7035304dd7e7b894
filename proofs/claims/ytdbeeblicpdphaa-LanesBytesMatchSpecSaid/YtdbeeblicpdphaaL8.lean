/- LanesBytesMatchSpec: Bytes returns the bytes of the lanes in order, and Of is its inverse or reports the specified fault. Condition: the words are words, the slice reads as bytes. -/
import Derived.Test.YtdbeeblicpdphaaL7
namespace Go.Proofs.Ytdbeeblicpdphaa
open Go.RowKit
set_option linter.unusedVariables false
structure Lib16 (p : Prop) : Prop where mk :: (out : p)
theorem at_any (c i : Int) (w : World) : Calls Try.prog 18 #[.int .i64 c, .int .i64 i] w fun e w' => e = .returned (.agg #[.int .i64 c, .int .i64 i]) ∧ Below w.heap.size w w' := by
  go_enter Try.func18, Try.ntmps18
  go_wp2
  refine bodyPost_ret (v := .agg #[.int .i64 c, .int .i64 i]) (by simp [results, Try.results18, go_sem]) rfl ⟨rfl, ?_⟩
  repeat (first | exact Below.refl _ _ | refine bl_drew ?_ | refine bl_alloc ?_ _)
theorem rd16 {zs : List Int} {n : Nat} (hl : zs.length = n) (h : ∀ x ∈ zs, 0 ≤ x ∧ x ≤ 255) (k : Nat) (hk : k < n) : 0 ≤ zs.getD k 0 ∧ zs.getD k 0 ≤ 255 := by
  rw [List.getD_eq_getElem?_getD, List.getElem?_eq_getElem (by omega)]
  exact h _ (List.getElem_mem _)
set_option maxHeartbeats 8000000 in
theorem lanesBytes_head (w : World) (a b c d : Int) (hw : W4 a b c d) (A : Option Addr) (n cap : Nat) (zs : List Int) (hz : RdB w A n zs) : Calls Try.prog 4 #[.agg #[.int .u32 a, .int .u32 b, .int .u32 c, .int .u32 d], .slice A n cap] w fun e w' => e = .returned (.bool true) ∧ Below w.heap.size w w' := by
  go_enter Try.func4, Try.ntmps4
  go_wp2_with fail
  refine (lanesExample_any _).mono ?_
  rintro e w1 ⟨rfl, hb1⟩
  have B1 := (Bk.new w #[.int .u32 a, .int .u32 b, .int .u32 c, .int .u32 d] 23).below hb1
  replace hb1 : Below w.heap.size w w1 := bl_then (bl_alloc (Below.refl _ _) _) hb1
  obtain ⟨k0, k1, k2, k3⟩ := B1.four
  go_wp2_with fail
  refine (bytes_any a b c d _).mono ?_
  rintro e w2 ⟨v, rfl, ho, hb2⟩
  clear k0 k1 k2 k3
  replace B1 := B1.below hb2
  replace hb1 := bl_then hb1 hb2
  clear hb2
  obtain ⟨g, gc, rfl, hg, hg2, c0, c1, c2, c3, c4, c5, c6, c7, c8, c9, c10, c11, c12, c13, c14, c15⟩ := row16 ho
  clear ho
  replace c0 : w2.cell? ⟨g, 0, none⟩ = _ := c0
  replace c1 : w2.cell? ⟨g, 1, none⟩ = _ := c1
  replace c2 : w2.cell? ⟨g, 2, none⟩ = _ := c2
  replace c3 : w2.cell? ⟨g, 3, none⟩ = _ := c3
  replace c4 : w2.cell? ⟨g, 4, none⟩ = _ := c4
  replace c5 : w2.cell? ⟨g, 5, none⟩ = _ := c5
  replace c6 : w2.cell? ⟨g, 6, none⟩ = _ := c6
  replace c7 : w2.cell? ⟨g, 7, none⟩ = _ := c7
  replace c8 : w2.cell? ⟨g, 8, none⟩ = _ := c8
  replace c9 : w2.cell? ⟨g, 9, none⟩ = _ := c9
  replace c10 : w2.cell? ⟨g, 10, none⟩ = _ := c10
  replace c11 : w2.cell? ⟨g, 11, none⟩ = _ := c11
  replace c12 : w2.cell? ⟨g, 12, none⟩ = _ := c12
  replace c13 : w2.cell? ⟨g, 13, none⟩ = _ := c13
  replace c14 : w2.cell? ⟨g, 14, none⟩ = _ := c14
  replace c15 : w2.cell? ⟨g, 15, none⟩ = _ := c15
  obtain ⟨k0, k1, k2, k3⟩ := B1.four
  have z0 : IntKind.i64.wrap 0 = 0 := by decide
  have y0 : IntKind.u64.wrap 0 = 0 := by decide
  have z1 : IntKind.i64.wrap 1 = 1 := by decide
  have y1 : IntKind.u64.wrap 1 = 1 := by decide
  have z2 : IntKind.i64.wrap 2 = 2 := by decide
  have y2 : IntKind.u64.wrap 2 = 2 := by decide
  have z3 : IntKind.i64.wrap 3 = 3 := by decide
  have y3 : IntKind.u64.wrap 3 = 3 := by decide
  have z8 : IntKind.i64.wrap 8 = 8 := by decide
  have y8 : IntKind.u64.wrap 8 = 8 := by decide
  have z16 : IntKind.i64.wrap 16 = 16 := by decide
  have y16 : IntKind.u64.wrap 16 = 16 := by decide
  have z24 : IntKind.i64.wrap 24 = 24 := by decide
  have y24 : IntKind.u64.wrap 24 = 24 := by decide
  go_wp2_with fail
  refine wp_loop_rounds 17 ?_
  iterate 16
   (go_wp2_with (rw [rounds_succ])
    go_quiet (fail))
  go_wp2_with (first | fail | rw [rounds_succ])
  refine (of_16 g 0 gc _ _ _ _ _ _ _ _ _ _ _ _ _ _ _ _ (w2.drewN _) hg2 c0 c1 c2 c3 c4 c5 c6 c7 c8 c9 c10 c11 c12 c13 c14 c15).mono ?_
  rintro e w3 ⟨rfl, hb2⟩
  obtain ⟨⟨ha, hb, hc, hd⟩, hz1, hz2, hz3⟩ : W4 a b c d ∧ RdB w A n zs := ⟨hw, hz⟩
  clear k0 k1 k2 k3 c0 c1 c2 c3 c4 c5 c6 c7 c8 c9 c10 c11 c12 c13 c14 c15 z0 y0 z1 y1 z2 y2 z3 y3 z8 y8 z16 y16 z24 y24
  simp only [Lit.wf, Bool.and_eq_true, decide_eq_true_eq] at ha hb hc hd
  have m32 : IntKind.u32.max = 4294967295 := rfl
  have n32 : IntKind.u32.min = 0 := rfl
  rw [m32, n32] at ha hb hc hd
  rw [wd_of a ha.1 (by omega), wd_of b hb.1 (by omega), wd_of c hc.1 (by omega), wd_of d hd.1 (by omega)]
  clear m32 n32 ha hb hc hd
  replace B1 := B1.below (bl_then (bl_drewN (Below.refl _ _) _) hb2)
  replace hb1 := bl_then (bl_drewN hb1 _) hb2
  clear hb2 hg hg2
  have B7 := (Bk.new w3 #[.int .u32 a, .int .u32 b, .int .u32 c, .int .u32 d] 23).alloc (.cells #[.int .i64 0, .int .i64 0] 33)
  have B8 : Bk _ (w3.heap.size + 1) _ _ := Bk.new' (W := w3.alloc (.cells #[.int .u32 a, .int .u32 b, .int .u32 c, .int .u32 d] 23)) #[.int .i64 0, .int .i64 0] 33 (by simp)
  replace B1 := (B1.alloc (.cells #[.int .u32 a, .int .u32 b, .int .u32 c, .int .u32 d] 23)).alloc (.cells #[.int .i64 0, .int .i64 0] 33)
  replace hb1 := bl_alloc (bl_alloc hb1 (.cells #[.int .u32 a, .int .u32 b, .int .u32 c, .int .u32 d] 23)) (.cells #[.int .i64 0, .int .i64 0] 33)
  have qe := arr_eq
  have qn := arr_neq
  by_cases hn : n = 16
  · subst hn
    obtain ⟨b', off, rfl, hbw, hcell⟩ := hz2 (by omega)
    obtain ⟨f, hf⟩ : ∃ f : Nat → Int, Lib16 (∀ j, f j = zs.getD j 0) := ⟨fun j => zs.getD j 0, ⟨fun _ => rfl⟩⟩
    have hc2 : ∀ j, j < 16 → ((w3.alloc (.cells #[.int .u32 a, .int .u32 b, .int .u32 c, .int .u32 d] 23)).alloc (.cells #[.int .i64 0, .int .i64 0] 33)).cell? ⟨b', off + j, none⟩ = some (.int .u8 (f j)) := fun j hj => (hb1.cell hbw).trans (by rw [hf.out]; exact hcell j hj)
    have hR := Lib16.mk hc2
    have hcell0 := Lib16.mk hcell
    have hS := hz3
    clear hz2 hz3 hcell hc2
    go_wp2_with fail
    have hc2 := hR.out
    refine (of_16 b' off cap _ _ _ _ _ _ _ _ _ _ _ _ _ _ _ _ _ (Nat.lt_of_lt_of_le hbw hb1.size) (hc2 0 (by omega)) (hc2 1 (by omega)) (hc2 2 (by omega)) (hc2 3 (by omega)) (hc2 4 (by omega)) (hc2 5 (by omega)) (hc2 6 (by omega)) (hc2 7 (by omega)) (hc2 8 (by omega)) (hc2 9 (by omega)) (hc2 10 (by omega)) (hc2 11 (by omega)) (hc2 12 (by omega)) (hc2 13 (by omega)) (hc2 14 (by omega)) (hc2 15 (by omega))).mono ?_
    clear hc2
    rintro e w4 ⟨rfl, hb2⟩
    have hb3 := bl_then hb1 hb2
    replace B1 := ((B1.below hb2).alloc (.cells #[.int .u32 (wd (f 0) (f 1) (f 2) (f 3)), .int .u32 (wd (f 4) (f 5) (f 6) (f 7)), .int .u32 (wd (f 8) (f 9) (f 10) (f 11)), .int .u32 (wd (f 12) (f 13) (f 14) (f 15))] 23)).alloc (.cells #[.int .i64 0, .int .i64 0] 33)
    replace B7 := ((B7.below hb2).alloc (.cells #[.int .u32 (wd (f 0) (f 1) (f 2) (f 3)), .int .u32 (wd (f 4) (f 5) (f 6) (f 7)), .int .u32 (wd (f 8) (f 9) (f 10) (f 11)), .int .u32 (wd (f 12) (f 13) (f 14) (f 15))] 23)).alloc (.cells #[.int .i64 0, .int .i64 0] 33)
    replace B8 := ((B8.below hb2).alloc (.cells #[.int .u32 (wd (f 0) (f 1) (f 2) (f 3)), .int .u32 (wd (f 4) (f 5) (f 6) (f 7)), .int .u32 (wd (f 8) (f 9) (f 10) (f 11)), .int .u32 (wd (f 12) (f 13) (f 14) (f 15))] 23)).alloc (.cells #[.int .i64 0, .int .i64 0] 33)
    have B9 := (Bk.new w4 #[.int .u32 (wd (f 0) (f 1) (f 2) (f 3)), .int .u32 (wd (f 4) (f 5) (f 6) (f 7)), .int .u32 (wd (f 8) (f 9) (f 10) (f 11)), .int .u32 (wd (f 12) (f 13) (f 14) (f 15))] 23).alloc (.cells #[.int .i64 0, .int .i64 0] 33)
    have B10 : Bk _ (w4.heap.size + 1) _ _ := Bk.new' (W := w4.alloc (.cells #[.int .u32 (wd (f 0) (f 1) (f 2) (f 3)), .int .u32 (wd (f 4) (f 5) (f 6) (f 7)), .int .u32 (wd (f 8) (f 9) (f 10) (f 11)), .int .u32 (wd (f 12) (f 13) (f 14) (f 15))] 23)) #[.int .i64 0, .int .i64 0] 33 (by simp)
    replace hb3 := bl_alloc (bl_alloc hb3 (.cells #[.int .u32 (wd (f 0) (f 1) (f 2) (f 3)), .int .u32 (wd (f 4) (f 5) (f 6) (f 7)), .int .u32 (wd (f 8) (f 9) (f 10) (f 11)), .int .u32 (wd (f 12) (f 13) (f 14) (f 15))] 23)) (.cells #[.int .i64 0, .int .i64 0] 33)
    clear hb2 hb1 hR
    obtain ⟨k0, k1, k2, k3⟩ := B1.four
    obtain ⟨l0, l1, l2, l3⟩ := B7.four
    obtain ⟨m0, m1⟩ := B8.two
    obtain ⟨n0, n1, n2, n3⟩ := B9.four
    obtain ⟨o0, o1⟩ := B10.two
    go_wp2_with fail
    refine (bytes_any (wd (f 0) (f 1) (f 2) (f 3)) (wd (f 4) (f 5) (f 6) (f 7)) (wd (f 8) (f 9) (f 10) (f 11)) (wd (f 12) (f 13) (f 14) (f 15)) _).mono ?_
    rintro e w5 ⟨v, rfl, ho, hb4⟩
    have r0 : 0 ≤ f 0 ∧ f 0 ≤ 255 := by rw [hf.out]; exact rd16 hz1 hS 0 (by omega)
    have r1 : 0 ≤ f 1 ∧ f 1 ≤ 255 := by rw [hf.out]; exact rd16 hz1 hS 1 (by omega)
    have r2 : 0 ≤ f 2 ∧ f 2 ≤ 255 := by rw [hf.out]; exact rd16 hz1 hS 2 (by omega)
    have r3 : 0 ≤ f 3 ∧ f 3 ≤ 255 := by rw [hf.out]; exact rd16 hz1 hS 3 (by omega)
    have r4 : 0 ≤ f 4 ∧ f 4 ≤ 255 := by rw [hf.out]; exact rd16 hz1 hS 4 (by omega)
    have r5 : 0 ≤ f 5 ∧ f 5 ≤ 255 := by rw [hf.out]; exact rd16 hz1 hS 5 (by omega)
    have r6 : 0 ≤ f 6 ∧ f 6 ≤ 255 := by rw [hf.out]; exact rd16 hz1 hS 6 (by omega)
    have r7 : 0 ≤ f 7 ∧ f 7 ≤ 255 := by rw [hf.out]; exact rd16 hz1 hS 7 (by omega)
    have r8 : 0 ≤ f 8 ∧ f 8 ≤ 255 := by rw [hf.out]; exact rd16 hz1 hS 8 (by omega)
    have r9 : 0 ≤ f 9 ∧ f 9 ≤ 255 := by rw [hf.out]; exact rd16 hz1 hS 9 (by omega)
    have r10 : 0 ≤ f 10 ∧ f 10 ≤ 255 := by rw [hf.out]; exact rd16 hz1 hS 10 (by omega)
    have r11 : 0 ≤ f 11 ∧ f 11 ≤ 255 := by rw [hf.out]; exact rd16 hz1 hS 11 (by omega)
    have r12 : 0 ≤ f 12 ∧ f 12 ≤ 255 := by rw [hf.out]; exact rd16 hz1 hS 12 (by omega)
    have r13 : 0 ≤ f 13 ∧ f 13 ≤ 255 := by rw [hf.out]; exact rd16 hz1 hS 13 (by omega)
    have r14 : 0 ≤ f 14 ∧ f 14 ≤ 255 := by rw [hf.out]; exact rd16 hz1 hS 14 (by omega)
    have r15 : 0 ≤ f 15 ∧ f 15 ≤ 255 := by rw [hf.out]; exact rd16 hz1 hS 15 (by omega)
    rw [by4_wd _ _ _ _ r0 r1 r2 r3, by4_wd _ _ _ _ r4 r5 r6 r7, by4_wd _ _ _ _ r8 r9 r10 r11, by4_wd _ _ _ _ r12 r13 r14 r15] at ho
    obtain ⟨g2, gc2, rfl, hg, hg2, x0, x1, x2, x3, x4, x5, x6, x7, x8, x9, x10, x11, x12, x13, x14, x15⟩ := row16 ho
    clear k0 k1 k2 k3 l0 l1 l2 l3 m0 m1 n0 n1 n2 n3 o0 o1 ho qe qn B1 B7 B8 B9 B10
    have q2 : ∀ j, j < 16 → w5.cell? ⟨b', off + j, none⟩ = some (.int .u8 (zs.getD j 0)) := fun j hj => ((bl_then hb3 hb4).cell hbw).trans (hcell0.out j hj)
    have q1 : ∀ j, j < 16 → w5.cell? ⟨g2, 0 + j, none⟩ = some (.int .u8 (zs.getD j 0)) := by
      intro j hj
      have : j = 0 ∨ j = 1 ∨ j = 2 ∨ j = 3 ∨ j = 4 ∨ j = 5 ∨ j = 6 ∨ j = 7 ∨ j = 8 ∨ j = 9 ∨ j = 10 ∨ j = 11 ∨ j = 12 ∨ j = 13 ∨ j = 14 ∨ j = 15 := by omega
      rw [← hf.out]
      rcases this with rfl | rfl | rfl | rfl | rfl | rfl | rfl | rfl | rfl | rfl | rfl | rfl | rfl | rfl | rfl | rfl <;> assumption
    clear x0 x1 x2 x3 x4 x5 x6 x7 x8 x9 x10 x11 x12 x13 x14 x15 r0 r1 r2 r3 r4 r5 r6 r7 r8 r9 r10 r11 r12 r13 r14 r15
    have Q1 := Lib16.mk q1
    have Q2 := Lib16.mk q2
    clear q1 q2
    go_wp2_with fail
    refine (same_any g2 0 b' off 16 gc2 cap zs _ hz1 Q1.out Q2.out).mono ?_
    rintro e w6 ⟨rfl, rfl⟩
    go_wp2
    go_ret
    exact ⟨rfl, bl_then hb3 hb4⟩
  · have hne : ((n : Int) != 16) = true := by rw [bne_iff_ne]; omega
    go_wp2_with fail
    refine (of_no A n cap _ hne).mono ?_
    rintro e w4 ⟨rfl, hb2⟩
    have hb3 := bl_then hb1 hb2
    replace B1 := ((B1.below hb2).alloc (.cells #[.int .u32 0, .int .u32 0, .int .u32 0, .int .u32 0] 23)).alloc (.cells #[.int .i64 9, .int .i64 (-1)] 33)
    replace B7 := ((B7.below hb2).alloc (.cells #[.int .u32 0, .int .u32 0, .int .u32 0, .int .u32 0] 23)).alloc (.cells #[.int .i64 9, .int .i64 (-1)] 33)
    replace B8 := ((B8.below hb2).alloc (.cells #[.int .u32 0, .int .u32 0, .int .u32 0, .int .u32 0] 23)).alloc (.cells #[.int .i64 9, .int .i64 (-1)] 33)
    have B9 := (Bk.new w4 #[.int .u32 0, .int .u32 0, .int .u32 0, .int .u32 0] 23).alloc (.cells #[.int .i64 9, .int .i64 (-1)] 33)
    have B10 : Bk _ (w4.heap.size + 1) _ _ := Bk.new' (W := w4.alloc (.cells #[.int .u32 0, .int .u32 0, .int .u32 0, .int .u32 0] 23)) #[.int .i64 9, .int .i64 (-1)] 33 (by simp)
    replace hb3 := bl_alloc (bl_alloc hb3 (.cells #[.int .u32 0, .int .u32 0, .int .u32 0, .int .u32 0] 23)) (.cells #[.int .i64 9, .int .i64 (-1)] 33)
    clear hb2 hb1
    obtain ⟨k0, k1, k2, k3⟩ := B1.four
    obtain ⟨l0, l1, l2, l3⟩ := B7.four
    obtain ⟨m0, m1⟩ := B8.two
    go_wp2_with fail
    clear k0 k1 k2 k3 l0 l1 l2 l3 m0 m1
    refine quiet_in (by kernel_rfl) (by kernel_rfl) ?_
    refine q_val rfl (fun W hW => by obtain ⟨k0, k1⟩ := (B10.below hW).two; go_simp; rfl) ?_
    simp only [Act.put, List.setIfInBounds_toArray, List.set_cons_zero, List.set_cons_succ]
    refine q_call rfl (fun W hW => by go_simp) (fun W hW => Cb.of hW (at_any 9 (-1) _)) ?_
    simp only [Act.put, List.setIfInBounds_toArray, List.set_cons_zero, List.set_cons_succ]
    refine q_val (v := .bool true) rfl (fun W hW => by go_simp) ?_
    simp only [Act.put, List.setIfInBounds_toArray, List.set_cons_zero, List.set_cons_succ]
    refine q_val rfl (fun W hW => by go_simp; rfl) ?_
    simp only [Act.put, List.setIfInBounds_toArray, List.set_cons_zero, List.set_cons_succ]
    refine q_val rfl (fun W hW => by obtain ⟨k0, k1, k2, k3⟩ := (B9.below hW).four; go_simp; rfl) ?_
    simp only [Act.put, List.setIfInBounds_toArray, List.set_cons_zero, List.set_cons_succ]
    refine q_val (v := .agg #[.int .u32 0, .int .u32 0, .int .u32 0, .int .u32 0]) rfl (fun W hW => by go_simp) ?_
    simp only [Act.put, List.setIfInBounds_toArray, List.set_cons_zero, List.set_cons_succ]
    refine q_val (v := .bool true) rfl (fun W hW => by go_simp) ?_
    simp only [Act.put, List.setIfInBounds_toArray, List.set_cons_zero, List.set_cons_succ]
    refine q_val rfl (fun W hW => by go_simp; rfl) ?_
    simp only [Act.put, List.setIfInBounds_toArray, List.set_cons_zero, List.set_cons_succ]
    refine q_val rfl (fun W hW => by go_simp; rfl) ?_
    simp only [Act.put, List.setIfInBounds_toArray, List.set_cons_zero, List.set_cons_succ]
    refine wpQuiet_nil ?_
    intro w5 hw5
    go_wp2
    go_ret
    exact ⟨rfl, bl_then hb3 hw5⟩
end Go.Proofs.Ytdbeeblicpdphaa
