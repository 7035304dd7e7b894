/- MemoryProtectDecidesAccess returns true. Conditions: the memory reads as those pages. -/
import Derived.Test.YtbbhkjljiljadaaM34
namespace Go.Proofs.Ytbbhkjljiljadaa
open Go.RowKit
set_option linter.unusedVariables false
set_option linter.unusedSimpArgs false
theorem pf_cases (l : List Pg) (a n r : Int) : pf l a n r = (0, 0) ∨ ∃ c i, pf l a n r = (c, i) ∧ 0 < c ∧ c ≤ 18 := by
  unfold pf
  split
  · rename_i h
    rcases sp_cases l a n with ⟨h0, _⟩ | ⟨c, i, h0, h1, h2, _⟩
    · exact absurd h0 h
    · exact Or.inr ⟨c, i, h0, h1, h2⟩
  · split
    · rename_i h
      rcases rf_cases r with h0 | h0
      · exact absurd h0 h
      · exact Or.inr ⟨3, -3, h0, by omega, by omega⟩
    · rcases ms_cases l a n.toNat with ⟨h0, _⟩ | ⟨k, _, h0⟩
      · exact Or.inl h0
      · exact Or.inr ⟨6, k, h0, by omega, by omega⟩
set_option maxHeartbeats 4000000 in
theorem protlaw_any (v : Value) (l : List Pg) (a n r k want : Int) (w : World) (hm : RdM w v l) (ha : I64 a) (hn : I64 n) (hr : I64 r) (hk : I64 k) (hw : I64 want) : Calls Try.prog 12 #[v, .int .i64 a, .int .i64 n, .int .i64 r, .int .i64 k, .int .i64 want] w (BPost true w) := by
  have HM := As.mk hm
  clear hm
  go_enter Try.func12, Try.ntmps12
  go_wp2_with fail
  refine (example_any _).mono ?_
  rintro e w1 ⟨rfl, hb1⟩
  have B1 := As.mk hb1
  clear hb1
  go_wp2_with fail
  refine (protect_any v l a n r _ (HM.out.below B1.out) ha hn hr).mono ?_
  rintro e w2 ⟨v2, rfl, hb2, hno, hok⟩
  rcases pf_cases l a n r with hz | ⟨c, i, hz, hc0, hc1⟩
  · have hO := hok hz
    have HZ := As.mk hz
    have B2 := As.mk (bl_then B1.out hb2)
    have hsp := (pf_ok hz).1
    have HK : As (Ok l) := ⟨Ok.of (sp_vf hsp)⟩
    have hnn : 1 ≤ n ∧ n ≤ 200 ∧ 0 ≤ a ∧ a ≤ 1048576 - n * 256 := by
      rcases sp_cases l a n with ⟨_, _, _, h⟩ | ⟨c, i, hc, hc0, _⟩
      · exact h
      · rw [hsp] at hc; injection hc; omega
    obtain ⟨hn1, hn2, ha0, ha1⟩ := hnn
    have M2 : As (RdM w2 v2 (prot l a n r)) := ⟨own_rd (prot_ok HK.out (rf_ok (pf_ok hz).2.1)) (prot_byt HM.out.byt) hO⟩
    rw [hz]
    unfold Flt
    have hF := Bk.new w2 #[.int .i64 0, .int .i64 0] 33
    have hF1 := hF.two
    have HF := As.mk hF
    have hwr : ∀ [Inhabited Nat], IntKind.i64.wrap (256 * n - 1) = 256 * n - 1 := by intro _; rw [IntKind.wrap_i64]; omega
    clear hok hno hO hb2 hz B1 hF hsp
    by_cases c1 : 0 ≤ k ∧ k ≤ 256 * n - 1
    · by_cases c2 : 0 ≤ want ∧ want ≤ 7
      · have hin1 : inB k 0 (256 * n - 1) = true := decide_eq_true c1
        have hin2 : inB want 0 7 = true := decide_eq_true c2
        obtain ⟨p1, p2, p3⟩ := protect_read HZ.out c1.1 c1.2 c2.1 c2.2
        have P1 := As.mk p1
        have P2 := As.mk p2
        have P3 := As.mk p3
        obtain ⟨c11, c12⟩ := c1
        obtain ⟨c21, c22⟩ := c2
        clear p1 p2 p3
        go_wp2_with (first | (go_at_call 29; refine (in_any _ _ _ _).mono ?_; rintro e2 w3 ⟨rfl, rfl⟩; first | rw [hin1] | rw [hin2]))
        refine (read_any v2 (prot l a n r) (a + k) 1 want _ (M2.out.below (by repeat (first | exact Below.refl _ _ | assumption | refine bl_drew ?_ | refine bl_drewN ?_ _ | refine bl_alloc ?_ _ | refine Below.setCell ?_ (by first | exact Nat.le_refl _ | exact bl_size (by assumption) | omega | simp) _))) (by unfold I64; omega) (by unfold I64; omega)).mono ?_
        rintro e w3 ⟨v3, rfl, hb3, hno3, ho3⟩
        have hx : Below w2.heap.size w2 w3 := bl_then (show Below w2.heap.size w2 _ from by repeat (first | exact Below.refl _ _ | assumption | refine bl_drew ?_ | refine bl_drewN ?_ _ | refine bl_alloc ?_ _ | refine Below.setCell ?_ (by first | exact Nat.le_refl _ | exact bl_size (by assumption) | omega | simp) _)) hb3
        have B3 := As.mk (bl_then B2.out hx)
        have HFx := As.mk (HF.out.below hb3)
        clear hb3 HF hF1 hx
        by_cases hbw : bits BinOp.and .i64 r want = want
        · have haf : af (prot l a n r) (a + k) 1 want = (0, 0) := by rw [P3.out, if_pos hbw]
          replace ho3 := ho3 haf
          obtain ⟨A3, c3, rfl, hr3⟩ := bs_rd (n := 1) ho3 (prot_byt HM.out.byt) (by omega)
          have R3 := As.mk hr3
          rw [haf]
          clear haf hno3 ho3 hr3
          unfold Flt
          have hbw1 : ∀ [Inhabited Nat], bits BinOp.and .i64 r want = want := by intro _; exact hbw
          clear hbw
          go_wp2_with fail
          refine (read_any v l (a + k) 1 0 _ ((HM.out.below B3.out).below (by repeat (first | exact Below.refl _ _ | assumption | refine bl_drew ?_ | refine bl_drewN ?_ _ | refine bl_alloc ?_ _ | refine Below.setCell ?_ (by first | exact Nat.le_refl _ | exact bl_size (by assumption) | omega | simp) _))) (by unfold I64; omega) (by unfold I64; omega)).mono ?_
          rintro e w4 ⟨v4, rfl, hb4, -, ho4⟩
          replace ho4 := ho4 P2.out
          rw [P2.out]
          unfold Flt
          have hx4 : Below w3.heap.size w3 w4 := bl_then (show Below w3.heap.size w3 _ from by repeat (first | exact Below.refl _ _ | assumption | refine bl_drew ?_ | refine bl_drewN ?_ _ | refine bl_alloc ?_ _ | refine Below.setCell ?_ (by first | exact Nat.le_refl _ | exact bl_size (by assumption) | omega | simp) _)) hb4
          have B4 := As.mk (bl_then B3.out hx4)
          have hF3 := ((Bk.new w3 #[.int .i64 0, .int .i64 0] 33).below hb4).two
          have hl3 := ((Bk.new w3 #[.int .i64 0, .int .i64 0] 33).below hb4).lt
          obtain ⟨A4, c4, rfl, hr4⟩ := bs_rd (n := 1) ho4 HM.out.byt (by omega)
          have R4 := As.mk hr4
          have R5 := As.mk (R3.out.below hx4)
          clear hb4 ho4 hr4 hx4 R3
          go_wp2_with fail
          refine (sameb_any A3 A4 1 1 c3 c4 (bs (prot l a n r) (a + k) 1) (bs l (a + k) 1) _ (R5.out.below (by repeat (first | exact Below.refl _ _ | assumption | refine bl_drew ?_ | refine bl_drewN ?_ _ | refine bl_alloc ?_ _ | refine Below.setCell ?_ (by first | exact Nat.le_refl _ | exact bl_size (by assumption) | omega | simp) _))) (R4.out.below (by repeat (first | exact Below.refl _ _ | assumption | refine bl_drew ?_ | refine bl_drewN ?_ _ | refine bl_alloc ?_ _ | refine Below.setCell ?_ (by first | exact Nat.le_refl _ | exact bl_size (by assumption) | omega | simp) _)))).mono ?_
          rintro e w5 ⟨b, rfl, hbt, hb5⟩
          obtain rfl : b = true := hbt.2 (by unfold bs; simp only [byte_prot])
          have hb5' := bl_then (show Below w.heap.size w _ from by have := B4.out; repeat (first | exact Below.refl _ _ | assumption | refine bl_drew ?_ | refine bl_drewN ?_ _ | refine bl_alloc ?_ _ | refine Below.setCell ?_ (by first | exact Nat.le_refl _ | exact bl_size (by assumption) | omega | simp) _)) hb5
          have HB5 := As.mk hb5'
          clear hb5 hb5' hbt
          go_wp2
          go_ret
          exact ⟨rfl, HB5.out⟩
        · have haf : af (prot l a n r) (a + k) 1 want = (18, 0) := by rw [P3.out, if_neg hbw]
          have hnil := hno3 (by rw [haf]; simp)
          subst hnil
          rw [haf]
          clear haf hno3 ho3
          unfold Flt
          have hbw1 : (bits BinOp.and .i64 r want == want) = false := by simpa using hbw
          clear hbw
          go_wp2_with fail
          refine (read_any v l (a + k) 1 0 _ ((HM.out.below B3.out).below (by repeat (first | exact Below.refl _ _ | assumption | refine bl_drew ?_ | refine bl_drewN ?_ _ | refine bl_alloc ?_ _ | refine Below.setCell ?_ (by first | exact Nat.le_refl _ | exact bl_size (by assumption) | omega | simp) _))) (by unfold I64; omega) (by unfold I64; omega)).mono ?_
          rintro e w4 ⟨v4, rfl, hb4, -, ho4⟩
          replace ho4 := ho4 P2.out
          rw [P2.out]
          unfold Flt
          have hx4 : Below w3.heap.size w3 w4 := bl_then (show Below w3.heap.size w3 _ from by repeat (first | exact Below.refl _ _ | assumption | refine bl_drew ?_ | refine bl_drewN ?_ _ | refine bl_alloc ?_ _ | refine Below.setCell ?_ (by first | exact Nat.le_refl _ | exact bl_size (by assumption) | omega | simp) _)) hb4
          have B4 := As.mk (bl_then B3.out hx4)
          have hF3 := ((Bk.new w3 #[.int .i64 18, .int .i64 0] 33).below hb4).two
          have hl3 := ((Bk.new w3 #[.int .i64 18, .int .i64 0] 33).below hb4).lt
          clear hb4 ho4 hx4
          go_wp2
          go_ret
          exact ⟨by first | rfl | simp [hbw1], by have := B4.out; repeat (first | exact Below.refl _ _ | assumption | refine bl_drew ?_ | refine bl_drewN ?_ _ | refine bl_alloc ?_ _ | refine Below.setCell ?_ (by first | exact Nat.le_refl _ | exact bl_size (by assumption) | omega | simp) _)⟩
      · have hin1 : inB k 0 (256 * n - 1) = true := decide_eq_true c1
        have hin2 : inB want 0 7 = false := decide_eq_false c2
        go_wp2_with (first | (go_at_call 29; refine (in_any _ _ _ _).mono ?_; rintro e2 w3 ⟨rfl, rfl⟩; first | rw [hin1] | rw [hin2]))
        go_ret
        exact ⟨rfl, by have := B2.out; repeat (first | exact Below.refl _ _ | assumption | refine bl_drew ?_ | refine bl_drewN ?_ _ | refine bl_alloc ?_ _ | refine Below.setCell ?_ (by first | exact Nat.le_refl _ | exact bl_size (by assumption) | omega | simp) _)⟩
    · have hin1 : inB k 0 (256 * n - 1) = false := decide_eq_false c1
      go_wp2_with (first | (go_at_call 29; refine (in_any _ _ _ _).mono ?_; rintro e2 w3 ⟨rfl, rfl⟩; rw [hin1]))
      go_ret
      exact ⟨rfl, by have := B2.out; repeat (first | exact Below.refl _ _ | assumption | refine bl_drew ?_ | refine bl_drewN ?_ _ | refine bl_alloc ?_ _ | refine Below.setCell ?_ (by first | exact Nat.le_refl _ | exact bl_size (by assumption) | omega | simp) _)⟩
  · have h2 := hno (by rw [hz]; intro h; injection h; omega)
    subst h2
    rw [hz]
    unfold Flt
    have hc : ¬ c = 0 := by omega
    have B2 := As.mk (bl_then B1.out hb2)
    have hF1 := (Bk.new w2 #[.int .i64 c, .int .i64 i] 33).two
    clear hok hno hz hb2 B1
    go_wp2
    go_ret
    exact ⟨rfl, by have := B2.out; repeat (first | exact Below.refl _ _ | assumption | refine bl_drew ?_ | refine bl_drewN ?_ _ | refine bl_alloc ?_ _ | refine Below.setCell ?_ (by first | exact Nat.le_refl _ | exact bl_size (by assumption) | omega | simp) _)⟩
end Go.Proofs.Ytbbhkjljiljadaa
