/- MemoryReadReturnsWhatIsWritten returns true. Conditions: the memory and the data read so. -/
import Derived.Test.YtbbhkjljiljadaaM35
namespace Go.Proofs.Ytbbhkjljiljadaa
open Go.RowKit
set_option linter.unusedVariables false
set_option linter.unusedSimpArgs false
theorem af_z (l : List Pg) (a n r : Int) : af l a n r = (0, 0) ∨ ∃ c i, af l a n r = (c, i) ∧ ¬ c = 0 := by
  rcases af_cases l a n r with ⟨h, _⟩ | ⟨c, i, h, h0, _⟩
  · exact Or.inl h
  · exact Or.inr ⟨c, i, h, by omega⟩
set_option maxHeartbeats 8000000 in
theorem readlaw_any (v : Value) (l : List Pg) (a : Int) (A : Option Addr) (cd : Nat) (ds : List Int) (o : Int) (w : World) (hm : RdM w v l) (ha : I64 a) (hd : RdB w A ds.length ds) (ho : I64 o) : Calls Try.prog 10 #[v, .int .i64 a, .slice A ds.length cd, .int .i64 o] w (BPost true w) := by
  have HM := As.mk hm
  have HD := As.mk hd
  have hdl := hd.2.1
  clear hm hd
  go_enter Try.func10, Try.ntmps10
  go_wp2_with fail
  refine (example_any _).mono ?_
  rintro e w1 ⟨rfl, hb1⟩
  have B1 := As.mk hb1
  clear hb1
  go_wp2_with fail
  refine (write_any v l a A cd ds 2 _ (HM.out.below B1.out) (HD.out.below B1.out) ha).mono ?_
  rintro e w2 ⟨v2, rfl, hb2, hno, hok⟩
  rcases af_z l a ds.length 2 with hz | ⟨c, i, hz, hc⟩
  · have hO := hok hz
    have HZ := As.mk hz
    have B2 := As.mk (bl_then B1.out hb2)
    obtain ⟨p1, p2, p3, p4, p5⟩ := write_read hz
    obtain ⟨hv, hn0, hn1, ha0, ha1, _, _⟩ := af_ok hz
    have HK : As (Ok l) := ⟨Ok.of hv⟩
    have BY : As (Byt (putn l a ds ds.length)) := ⟨HM.out.byt.putn a HD.out.2.2.1 _⟩
    have M2 : As (RdM w2 v2 (putn l a ds ds.length)) := ⟨own_rd p1 BY.out hO⟩
    have P2 := As.mk p2
    have P3 := As.mk p3
    have P4 := As.mk (p4 o)
    have P5 := As.mk (p5 o)
    rw [hz]
    unfold Flt
    generalize putn l a ds ds.length = L at *
    clear hok hno hO hb2 hz B1 p1 p2 p3 p4 p5 hv
    have hF := Bk.new w2 #[.int .i64 0, .int .i64 0] 33
    have hF1 := hF.two
    have HF := As.mk hF
    clear hF
    -- what was written
    go_wp2_with fail
    refine (read_any v2 L a ds.length 0 _ (M2.out.below (by repeat (first | exact Below.refl _ _ | assumption | refine bl_drew ?_ | refine bl_drewN ?_ _ | refine bl_alloc ?_ _ | refine Below.setCell ?_ (by first | exact Nat.le_refl _ | exact bl_size (by assumption) | omega | simp) _))) ha (by unfold I64; omega)).mono ?_
    rintro e w3 ⟨v3, rfl, hb3, -, ho3⟩
    replace ho3 := ho3 P2.out
    rw [P2.out]
    unfold Flt
    have hx : Below w2.heap.size w2 w3 := bl_then (show Below w2.heap.size w2 _ from by repeat (first | exact Below.refl _ _ | assumption | refine bl_drew ?_ | refine bl_drewN ?_ _ | refine bl_alloc ?_ _ | refine Below.setCell ?_ (by first | exact Nat.le_refl _ | exact bl_size (by assumption) | omega | simp) _)) hb3
    have B3 := As.mk (bl_then B2.out hx)
    have hnn : ((ds.length : Nat) : Int).toNat = ds.length := by omega
    rw [hnn] at ho3
    obtain ⟨A3, c3, rfl, hr3⟩ := bs_rd ho3 BY.out (by omega)
    have R3 := As.mk hr3
    have M3 := As.mk (M2.out.below hx)
    clear hb3 ho3 hr3 hx hF1 HF M2 hnn
    -- another byte, before
    go_wp2_with fail
    refine (read_any v l o 1 0 _ ((HM.out.below B3.out).below (by repeat (first | exact Below.refl _ _ | assumption | refine bl_drew ?_ | refine bl_drewN ?_ _ | refine bl_alloc ?_ _ | refine Below.setCell ?_ (by first | exact Nat.le_refl _ | exact bl_size (by assumption) | omega | simp) _))) ho (by unfold I64; omega)).mono ?_
    rintro e w4 ⟨v4, rfl, hb4, hno4, ho4⟩
    have hx : Below w3.heap.size w3 w4 := bl_then (show Below w3.heap.size w3 _ from by repeat (first | exact Below.refl _ _ | assumption | refine bl_drew ?_ | refine bl_drewN ?_ _ | refine bl_alloc ?_ _ | refine Below.setCell ?_ (by first | exact Nat.le_refl _ | exact bl_size (by assumption) | omega | simp) _)) hb4
    have B4 := As.mk (bl_then B3.out hx)
    have G1 := As.mk ((Bk.new w3 #[.int .i64 0, .int .i64 0] 33).below hb4)
    have R4 := As.mk (R3.out.below hx)
    have M4 := As.mk (M3.out.below hx)
    clear hb4 hx R3 M3
    have P4' := P4.out
    rcases af_z l o 1 0 with hy | ⟨c, i, hy, hc⟩
    · replace ho4 := ho4 hy
      rw [hy] at P4'
      have Q4 := As.mk P4'.symm
      rw [hy]
      clear hno4 hy P4' P4
      obtain ⟨A4, c4, rfl, hr4⟩ := bs_rd (n := 1) ho4 HM.out.byt (by omega)
      have S4 := As.mk hr4
      clear ho4 hr4
      unfold Flt
      go_wp2_with fail
      refine (read_any v2 L o 1 0 _ (M4.out.below (by repeat (first | exact Below.refl _ _ | assumption | refine bl_drew ?_ | refine bl_drewN ?_ _ | refine bl_alloc ?_ _ | refine Below.setCell ?_ (by first | exact Nat.le_refl _ | exact bl_size (by assumption) | omega | simp) _))) ho (by unfold I64; omega)).mono ?_
      rintro e w5 ⟨v5, rfl, hb5, -, ho5⟩
      replace ho5 := ho5 Q4.out
      rw [Q4.out]
      unfold Flt
      have hx : Below w4.heap.size w4 w5 := bl_then (show Below w4.heap.size w4 _ from by repeat (first | exact Below.refl _ _ | assumption | refine bl_drew ?_ | refine bl_drewN ?_ _ | refine bl_alloc ?_ _ | refine Below.setCell ?_ (by first | exact Nat.le_refl _ | exact bl_size (by assumption) | omega | simp) _)) hb5
      have B5 := As.mk (bl_then B4.out hx)
      have G2 := G1.out.below hx
      have G3 := (Bk.new w4 #[.int .i64 0, .int .i64 0] 33).below hb5
      have g2 := G2.two
      have g3 := G3.two
      have l2 := G2.lt
      have l3 := G3.lt
      have R5 := As.mk (R4.out.below hx)
      have S5 := As.mk (S4.out.below hx)
      obtain ⟨A5, c5, rfl, hr5⟩ := bs_rd (n := 1) ho5 BY.out (by omega)
      have T5 := As.mk hr5
      have hG2 := As.mk G2
      have hG3 := As.mk G3
      clear hb5 ho5 hr5 hx R4 S4 M4 G1 G2 G3
      go_wp2_with fail
      refine (sameb_any A3 A ds.length ds.length c3 cd (bs L a ds.length) ds _ (R5.out.below (by repeat (first | exact Below.refl _ _ | assumption | refine bl_drew ?_ | refine bl_drewN ?_ _ | refine bl_alloc ?_ _ | refine Below.setCell ?_ (by first | exact Nat.le_refl _ | exact bl_size (by assumption) | omega | simp) _))) (HD.out.below (by have := B5.out; repeat (first | exact Below.refl _ _ | assumption | refine bl_drew ?_ | refine bl_drewN ?_ _ | refine bl_alloc ?_ _ | refine Below.setCell ?_ (by first | exact Nat.le_refl _ | exact bl_size (by assumption) | omega | simp) _)))).mono ?_
      rintro e w6 ⟨b, rfl, hbt, hb6⟩
      obtain rfl : b = true := hbt.2 (by
        apply List.ext_getElem (bs_len _ _ _)
        intro j h1 h2
        rw [bs_len] at h1
        have := P3.out j h1
        rw [List.getD_eq_getElem?_getD, List.getElem?_eq_getElem h1] at this
        simpa [bs] using this)
      have hx : Below w5.heap.size w5 w6 := bl_then (bl_alloc (Below.refl _ _) _) hb6
      have B6 := As.mk (bl_then B5.out hx)
      have K3 := (hG3.out.alloc (.cells #[.int .i64 (0), .int .i64 (0)] 33)).below hb6
      have K5 := (Bk.new w5 #[.int .i64 (0), .int .i64 (0)] 33).below hb6
      have k3 := K3.two
      have k5 := K5.two
      have kl3 := K3.lt
      have kl5 := K5.lt
      clear hb6 hbt hG2 hG3 g2 g3 l2 l3 K3 K5
      have hwr : ∀ [Inhabited Nat], IntKind.i64.wrap (a + (ds.length : Int) - 1) = a + (ds.length : Int) - 1 := by intro _; rw [IntKind.wrap_i64]; omega
      by_cases hin : a ≤ o ∧ o ≤ a + (ds.length : Int) - 1
      · have hinb : inB o a (a + (ds.length : Int) - 1) = true := decide_eq_true hin
        clear hin
        go_wp2_with fail
        refine (in_any _ _ _ _).mono ?_
        rintro e w7 ⟨rfl, rfl⟩
        rw [hinb]
        go_wp2
        go_ret
        exact ⟨rfl, B6.out⟩
      · have hinb : inB o a (a + (ds.length : Int) - 1) = false := decide_eq_false hin
        have HIN := As.mk hin
        clear hin
        go_wp2_with fail
        refine (in_any _ _ _ _).mono ?_
        rintro e w7 ⟨rfl, rfl⟩
        rw [hinb]
        go_wp2_with fail
        refine (sameb_any A4 A5 1 1 c4 c5 (bs l o 1) (bs L o 1) _ (S5.out.below hx) (T5.out.below hx)).mono ?_
        rintro e w8 ⟨b, rfl, hbt, hb8⟩
        obtain rfl : b = true := hbt.2 (by first | rfl | (unfold bs; simp [P5.out HIN.out]))
        have B8 := As.mk (bl_then B6.out hb8)
        clear hb8 hbt
        go_wp2
        go_ret
        exact ⟨rfl, B8.out⟩
    · have hnil := hno4 (by rw [hy]; intro h; injection h; contradiction)
      subst hnil
      rw [hy] at P4'
      have Q4 := As.mk P4'.symm
      rw [hy]
      clear hno4 ho4 hy P4' P4
      unfold Flt
      go_wp2_with fail
      refine (read_any v2 L o 1 0 _ (M4.out.below (by repeat (first | exact Below.refl _ _ | assumption | refine bl_drew ?_ | refine bl_drewN ?_ _ | refine bl_alloc ?_ _ | refine Below.setCell ?_ (by first | exact Nat.le_refl _ | exact bl_size (by assumption) | omega | simp) _))) ho (by unfold I64; omega)).mono ?_
      rintro e w5 ⟨v5, rfl, hb5, hno5, -⟩
      have hnil := hno5 (by rw [Q4.out]; intro h; injection h; contradiction)
      subst hnil
      rw [Q4.out]
      unfold Flt
      have hx : Below w4.heap.size w4 w5 := bl_then (show Below w4.heap.size w4 _ from by repeat (first | exact Below.refl _ _ | assumption | refine bl_drew ?_ | refine bl_drewN ?_ _ | refine bl_alloc ?_ _ | refine Below.setCell ?_ (by first | exact Nat.le_refl _ | exact bl_size (by assumption) | omega | simp) _)) hb5
      have B5 := As.mk (bl_then B4.out hx)
      have G2 := G1.out.below hx
      have G3 := (Bk.new w4 #[.int .i64 c, .int .i64 i] 33).below hb5
      have g2 := G2.two
      have g3 := G3.two
      have l2 := G2.lt
      have l3 := G3.lt
      have R5 := As.mk (R4.out.below hx)
      have hG2 := As.mk G2
      have hG3 := As.mk G3
      clear hb5 hno5 hx R4 M4 G1 G2 G3
      go_wp2_with fail
      refine (sameb_any A3 A ds.length ds.length c3 cd (bs L a ds.length) ds _ (R5.out.below (by repeat (first | exact Below.refl _ _ | assumption | refine bl_drew ?_ | refine bl_drewN ?_ _ | refine bl_alloc ?_ _ | refine Below.setCell ?_ (by first | exact Nat.le_refl _ | exact bl_size (by assumption) | omega | simp) _))) (HD.out.below (by have := B5.out; repeat (first | exact Below.refl _ _ | assumption | refine bl_drew ?_ | refine bl_drewN ?_ _ | refine bl_alloc ?_ _ | refine Below.setCell ?_ (by first | exact Nat.le_refl _ | exact bl_size (by assumption) | omega | simp) _)))).mono ?_
      rintro e w6 ⟨b, rfl, hbt, hb6⟩
      obtain rfl : b = true := hbt.2 (by
        apply List.ext_getElem (bs_len _ _ _)
        intro j h1 h2
        rw [bs_len] at h1
        have := P3.out j h1
        rw [List.getD_eq_getElem?_getD, List.getElem?_eq_getElem h1] at this
        simpa [bs] using this)
      have hx : Below w5.heap.size w5 w6 := bl_then (bl_alloc (Below.refl _ _) _) hb6
      have B6 := As.mk (bl_then B5.out hx)
      have K3 := (hG3.out.alloc (.cells #[.int .i64 (c), .int .i64 (i)] 33)).below hb6
      have K5 := (Bk.new w5 #[.int .i64 (c), .int .i64 (i)] 33).below hb6
      have k3 := K3.two
      have k5 := K5.two
      have kl3 := K3.lt
      have kl5 := K5.lt
      clear hb6 hbt hG2 hG3 g2 g3 l2 l3 K3 K5
      have hwr : ∀ [Inhabited Nat], IntKind.i64.wrap (a + (ds.length : Int) - 1) = a + (ds.length : Int) - 1 := by intro _; rw [IntKind.wrap_i64]; omega
      by_cases hin : a ≤ o ∧ o ≤ a + (ds.length : Int) - 1
      · have hinb : inB o a (a + (ds.length : Int) - 1) = true := decide_eq_true hin
        clear hin
        go_wp2_with fail
        refine (in_any _ _ _ _).mono ?_
        rintro e w7 ⟨rfl, rfl⟩
        rw [hinb]
        go_wp2
        go_ret
        exact ⟨rfl, B6.out⟩
      · have hinb : inB o a (a + (ds.length : Int) - 1) = false := decide_eq_false hin
        have HIN := As.mk hin
        clear hin
        go_wp2_with fail
        refine (in_any _ _ _ _).mono ?_
        rintro e w7 ⟨rfl, rfl⟩
        rw [hinb]
        go_wp2_with fail
        refine (sameb_any none none 0 0 0 0 [] [] _ ⟨rfl, by omega, by simp, fun h => absurd h (by omega)⟩ ⟨rfl, by omega, by simp, fun h => absurd h (by omega)⟩).mono ?_
        rintro e w8 ⟨b, rfl, hbt, hb8⟩
        obtain rfl : b = true := hbt.2 (by first | rfl | (unfold bs; simp [P5.out HIN.out]))
        have B8 := As.mk (bl_then B6.out hb8)
        clear hb8 hbt
        go_wp2
        go_ret
        exact ⟨rfl, B8.out⟩
  · have h2 := hno (by rw [hz]; intro h; injection h; contradiction)
    subst h2
    rw [hz]
    unfold Flt
    have B2 := As.mk (bl_then B1.out hb2)
    have hF1 := (Bk.new w2 #[.int .i64 c, .int .i64 i] 33).two
    clear hok hno hz hb2 B1
    go_wp2
    go_ret
    exact ⟨rfl, by have := B2.out; repeat (first | exact Below.refl _ _ | assumption | refine bl_drew ?_ | refine bl_drewN ?_ _ | refine bl_alloc ?_ _ | refine Below.setCell ?_ (by first | exact Nat.le_refl _ | exact bl_size (by assumption) | omega | simp) _)⟩
end Go.Proofs.Ytbbhkjljiljadaa
