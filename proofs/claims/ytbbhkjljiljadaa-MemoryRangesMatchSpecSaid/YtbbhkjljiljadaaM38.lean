/- MemoryAccessesMatchSpec returns true. Conditions: the memory and the data read so. -/
import Derived.Test.YtbbhkjljiljadaaM36
import Derived.Deep.RegionHeld3
import Derived.Deep.DrawnRows
namespace Go.Proofs.Ytbbhkjljiljadaa
open Go.RowKit
set_option linter.unusedVariables false
set_option linter.unusedSimpArgs false
attribute [local go_sem ↓] Go.wp_at_zero Go.wp_at_succ
theorem bs_get (l : List Pg) (a : Int) (n k : Nat) (h : k < n) : (bs l a n).getD k 0 = byte l (a + (k : Int)) := by
  rw [List.getD_eq_getElem?_getD, List.getElem?_eq_getElem (by rw [bs_len]; exact h)]
  simp [bs]
def A1Rel (n : Int) (w0 : World) (vi : Value) (wr : World) : Prop := ∃ k : Nat, vi = .int .i64 k ∧ (k : Int) ≤ n ∧ As (Below w0.heap.size w0 wr)
def A2Rel (l : List Pg) (a : Int) (ds : List Int) (w0 : World) (vm vi : Value) (wr : World) : Prop := ∃ k : Nat, vi = .int .i64 k ∧ k ≤ ds.length ∧ As (RdM wr vm (putn l a ds k)) ∧ As (Below w0.heap.size w0 wr)
set_option maxHeartbeats 16000000 in
theorem acclaw_any (v : Value) (l : List Pg) (a n : Int) (A : Option Addr) (cd : Nat) (ds : List Int) (r : Int) (w : World) (hm : RdM w v l) (ha : I64 a) (hn : I64 n) (hd : RdB w A ds.length ds) : Calls Try.prog 9 #[v, .int .i64 a, .int .i64 n, .slice A ds.length cd, .int .i64 r] w (BPost true w) := by
  have HM := As.mk hm
  have HD := As.mk hd
  have hdl := hd.2.1
  clear hm hd
  have hdI : I64 (ds.length : Int) := by unfold I64; omega
  go_enter Try.func9, Try.ntmps9
  go_wp2_with fail
  refine (read_any v l a n r _ HM.out ha hn).mono ?_
  rintro e w1 ⟨v1, rfl, hb1, hno1, hok1⟩
  have B1 := As.mk hb1
  have NO1 := As.mk hno1
  have OK1 := As.mk hok1
  obtain ⟨c1, i1, h1⟩ : ∃ c i, af l a n r = (c, i) := ⟨_, _, rfl⟩
  rw [h1]
  have H1 := As.mk h1
  clear hb1 hno1 hok1 h1
  unfold Flt
  go_wp2_with fail
  refine (write_any v l a A cd ds r _ ((HM.out.below B1.out).below (by repeat (first | exact Below.refl _ _ | assumption | refine bl_drew ?_ | refine bl_drewN ?_ _ | refine bl_alloc ?_ _ | refine Below.setCell ?_ (by first | exact Nat.le_refl _ | exact bl_size (by assumption) | omega | simp) _))) ((HD.out.below B1.out).below (by repeat (first | exact Below.refl _ _ | assumption | refine bl_drew ?_ | refine bl_drewN ?_ _ | refine bl_alloc ?_ _ | refine Below.setCell ?_ (by first | exact Nat.le_refl _ | exact bl_size (by assumption) | omega | simp) _))) ha).mono ?_
  rintro e w2 ⟨v2, rfl, hb2, hno2, hok2⟩
  have hx : Below w1.heap.size w1 w2 := bl_then (show Below w1.heap.size w1 _ from by repeat (first | exact Below.refl _ _ | assumption | refine bl_drew ?_ | refine bl_drewN ?_ _ | refine bl_alloc ?_ _ | refine Below.setCell ?_ (by first | exact Nat.le_refl _ | exact bl_size (by assumption) | omega | simp) _)) hb2
  have B2 := As.mk (bl_then B1.out hx)
  have X2 := As.mk hx
  have NO2 := As.mk hno2
  have OK2 := As.mk hok2
  have F1 := As.mk ((Bk.new w1 #[.int .i64 c1, .int .i64 i1] 33).below hb2)
  obtain ⟨c2, i2, h2⟩ : ∃ c i, af l a ds.length r = (c, i) := ⟨_, _, rfl⟩
  rw [h2]
  have H2 := As.mk h2
  clear hb2 hno2 hok2 h2 hx B1
  unfold Flt
  go_wp2_with fail
  refine (accessf_any v l a n r _ ((HM.out.below B2.out).below (by repeat (first | exact Below.refl _ _ | assumption | refine bl_drew ?_ | refine bl_drewN ?_ _ | refine bl_alloc ?_ _ | refine Below.setCell ?_ (by first | exact Nat.le_refl _ | exact bl_size (by assumption) | omega | simp) _))) ha hn).mono ?_
  rintro e w3 ⟨rfl, hb3⟩
  rw [H1.out]
  unfold Flt
  have hx : Below w2.heap.size w2 w3 := bl_then (show Below w2.heap.size w2 _ from by repeat (first | exact Below.refl _ _ | assumption | refine bl_drew ?_ | refine bl_drewN ?_ _ | refine bl_alloc ?_ _ | refine Below.setCell ?_ (by first | exact Nat.le_refl _ | exact bl_size (by assumption) | omega | simp) _)) hb3
  have B3 := As.mk (bl_then B2.out hx)
  have X3 := As.mk (bl_then X2.out hx)
  have Y3 := As.mk hx
  have G1 := As.mk (F1.out.below hx)
  have F2 := As.mk ((Bk.new w2 #[.int .i64 c2, .int .i64 i2] 33).below hb3)
  clear hb3 hx B2 X2 F1
  go_wp2_with fail
  refine (accessf_any v l a ds.length r _ ((HM.out.below B3.out).below (by repeat (first | exact Below.refl _ _ | assumption | refine bl_drew ?_ | refine bl_drewN ?_ _ | refine bl_alloc ?_ _ | refine Below.setCell ?_ (by first | exact Nat.le_refl _ | exact bl_size (by assumption) | omega | simp) _))) ha hdI).mono ?_
  rintro e w4 ⟨rfl, hb4⟩
  rw [H2.out]
  unfold Flt
  have hx : Below w3.heap.size w3 w4 := bl_then (show Below w3.heap.size w3 _ from by repeat (first | exact Below.refl _ _ | assumption | refine bl_drew ?_ | refine bl_drewN ?_ _ | refine bl_alloc ?_ _ | refine Below.setCell ?_ (by first | exact Nat.le_refl _ | exact bl_size (by assumption) | omega | simp) _)) hb4
  have B4 := As.mk (bl_then B3.out hx)
  have X4 := As.mk (bl_then X3.out hx)
  have Y4 := As.mk (bl_then Y3.out hx)
  have F1 := As.mk (G1.out.below hx)
  have G2 := As.mk (F2.out.below hx)
  have F3 := As.mk ((Bk.new w3 #[.int .i64 c1, .int .i64 i1] 33).below hb4)
  clear hb4 hx B3 X3 Y3 G1 F2
  go_wp2_with fail
  refine (example_any _).mono ?_
  rintro e w5 ⟨rfl, hb5⟩
  have hx : Below w4.heap.size w4 w5 := bl_then (show Below w4.heap.size w4 _ from by repeat (first | exact Below.refl _ _ | assumption | refine bl_drew ?_ | refine bl_drewN ?_ _ | refine bl_alloc ?_ _ | refine Below.setCell ?_ (by first | exact Nat.le_refl _ | exact bl_size (by assumption) | omega | simp) _)) hb5
  have B5 := As.mk (bl_then B4.out hx)
  have X5 := As.mk (bl_then X4.out hx)
  have Y5 := As.mk (bl_then Y4.out hx)
  have G1 := As.mk (F1.out.below hx)
  have F2 := As.mk (G2.out.below hx)
  have G3 := As.mk (F3.out.below hx)
  have F4 := As.mk ((Bk.new w4 #[.int .i64 c2, .int .i64 i2] 33).below hb5)
  clear hb5 hx B4 X4 Y4 F1 G2 F3
  have g1 := G1.out.two
  have g2 := F2.out.two
  have g3 := G3.out.two
  have g4 := F4.out.two
  have MX : As (RdM w5 v l) := ⟨HM.out.below B5.out⟩
  have DX : As (RdB w5 A ds.length ds) := ⟨HD.out.below B5.out⟩
  have C1 : (c1 = 0 ∧ i1 = 0 ∧ As (Ok l ∧ 0 ≤ n ∧ n ≤ 1500 ∧ 0 ≤ a ∧ a ≤ 1048576 - n ∧ ∃ A1 c, v1 = .slice A1 n.toNat c ∧ RdB w5 A1 n.toNat (bs l a n.toNat))) ∨ (¬ c1 = 0 ∧ v1 = .slice none 0 0) := by
    rcases af_cases l a n r with ⟨h0, hv, q1, q2, q3, q4⟩ | ⟨c, i, h0, h1, _⟩
    · have e := H1.out
      rw [h0] at e
      injection e with e1 e2
      refine Or.inl ⟨e1.symm, e2.symm, ⟨Ok.of hv, q1, q2, q3, q4, ?_⟩⟩
      obtain ⟨A1, c, e3, hr⟩ := bs_rd (OK1.out h0) HM.out.byt (by omega)
      exact ⟨A1, c, e3, hr.below X5.out⟩
    · have e := H1.out
      rw [h0] at e
      injection e with e1 e2
      exact Or.inr ⟨by omega, NO1.out (by rw [h0]; intro h; injection h; omega)⟩
  have C2 : (c2 = 0 ∧ i2 = 0 ∧ As (Ok l ∧ ds.length ≤ 1500 ∧ 0 ≤ a ∧ a ≤ 1048576 - ds.length ∧ RdM w5 v2 (putn l a ds ds.length))) ∨ (¬ c2 = 0 ∧ v2 = .slice none 0 0) := by
    rcases af_cases l a ds.length r with ⟨h0, hv, q1, q2, q3, q4⟩ | ⟨c, i, h0, h1, _⟩
    · have e := H2.out
      rw [h0] at e
      injection e with e1 e2
      have hk := Ok.of hv
      exact Or.inl ⟨e1.symm, e2.symm, ⟨hk, by omega, q3, q4, (own_rd (hk.putn a ds _) (HM.out.byt.putn a HD.out.2.2.1 _) (OK2.out h0)).below Y5.out⟩⟩
    · have e := H2.out
      rw [h0] at e
      injection e with e1 e2
      exact Or.inr ⟨by omega, NO2.out (by rw [h0]; intro h; injection h; omega)⟩
  clear NO1 OK1 NO2 OK2 H1 H2 X5 Y5
  have hl3 := G3.out.lt
  have hl4 := F4.out.lt
  rcases C1 with ⟨rfl, rfl, K1⟩ | ⟨hc1, rfl⟩
  · obtain ⟨hk, hn0, hn5, ha0, ha1, A1, cc, rfl, hr1⟩ := K1.out
    have HR1 := As.mk hr1
    have HK := As.mk hk
    clear K1 hr1 hk
    rcases C2 with ⟨rfl, rfl, K2⟩ | ⟨hc2, rfl⟩
    · obtain ⟨_, hd5, _, ha2, hv2⟩ := K2.out
      have HV2 := As.mk hv2
      clear K2 hv2
      go_wp2
      go_loopw [17] (fun vi wr => A1Rel n w5 vi wr) (fun vi _ => (n - intOf vi).toNat)
      case atStart => exact ⟨0, rfl, by omega, ⟨Below.refl _ _⟩⟩
      case round =>
        obtain ⟨k, rfl, hkn, hb⟩ := hrel
        clear g1 g2 g3 g4
        have k3 := (G3.out.below hb.out).two
        have k4 := (F4.out.below hb.out).two
        have kl3 := (G3.out.below hb.out).lt
        have kl4 := (F4.out.below hb.out).lt
        have hnn : ((n.toNat : Nat) : Int) = n := by omega
        by_cases hlt : (k : Int) < n
        · obtain ⟨z1, z2, z3, z4⟩ := HR1.out
          obtain ⟨bd, od, rfl, hz⟩ := z4 (by omega)
          have hcell := bl_cell hb.out (hz k (by omega))
          have hxb : As (byte l (a + (k : Int)) = (bs l a n.toNat).getD k 0) := ⟨(bs_get l a n.toNat k (by omega)).symm⟩
          generalize (bs l a n.toNat).getD k 0 = x at *
          clear hz z4 z3 z1 z2
          have hcd : wr.drew.cell? ⟨bd, od + k, none⟩ = some (.int .u8 x) := hcell
          have MW : As (RdM wr.drew v l) := ⟨(MX.out.below hb.out).drew⟩
          have hwr : ∀ [Inhabited Nat], IntKind.i64.wrap (a + (k : Int)) = a + (k : Int) := by intro _; rw [IntKind.wrap_i64]; omega
          have hkn2 : k < n.toNat := by omega
          go_wp2
          go_region_held3 (fun w' => w'.cell? ⟨bd, od + k, none⟩ = some (.int .u8 x)) (first | exact hcd | exact bl_cell HB6.out hcd) (first | (go_at_call 43; ((with_reducible refine (byteat_any v l (a + (k : Int)) _ MW.out HK.out).mono ?_); rintro e w6 ⟨rfl, hb6⟩; rw [hxb.out]; have HB6 := As.mk hb6; clear hb6)))
          have HX6 := As.mk (bl_then (bl_drew hb.out) HB6.out)
          clear HB6 hcd MW hcell k3 k4
          go_wp2
          go_roundw
          case rel => exact ⟨k + 1, by go_num, by omega, HX6⟩
          case measure => simp [intOf]; omega
        · have HX := hb
          go_wp2
          go_loopw [18, 19] (fun vm vi wr => A2Rel l a ds w5 vm vi wr) (fun _ vi _ => (ds.length - intOf vi).toNat)
          case atStart => exact ⟨0, rfl, by omega, ⟨MX.out.below HX.out⟩, HX⟩
          case round =>
            obtain ⟨k, rfl, hkl, hMk, hb⟩ := hrel
            clear k3 k4 kl3 kl4
            have k3 := (G3.out.below hb.out).two
            have k4 := (F4.out.below hb.out).two
            by_cases hlt : k < ds.length
            · obtain ⟨z1, z2, z3, z4⟩ := DX.out
              obtain ⟨bd, od, rfl, hz⟩ := z4 (by omega)
              have hcell := bl_cell hb.out (hz k hlt)
              have hbyte : 0 ≤ ds.getD k 0 ∧ ds.getD k 0 ≤ 255 := by
                rw [List.getD_eq_getElem?_getD, List.getElem?_eq_getElem hlt]; exact z3 _ (List.getElem_mem hlt)
              have hpn : As (putn l a ds (k + 1) = put (putn l a ds k) (a + (k : Int)) (ds.getD k 0)) := ⟨rfl⟩
              have BY := As.mk hbyte
              generalize ds.getD k 0 = x at *
              clear hz z4 z3 z1 z2 hbyte
              go_wp2_with fail
              refine (with_any _ (putn l a ds k) (a + (k : Int)) x wr hMk.out (HK.out.putn a ds k) BY.out).mono ?_
              rintro e w6 ⟨v6, rfl, hm6, hb6⟩
              rw [← hpn.out] at hm6
              have M6 := As.mk hm6
              have B6 := As.mk (bl_then hb.out hb6)
              clear hm6 hb6 hcell k3 k4
              go_wp2
              go_roundw
              case rel => exact ⟨k + 1, by go_num, by omega, M6, B6⟩
              case measure => simp [intOf]; omega
            · obtain rfl : k = ds.length := by omega
              go_wp2_with fail
              refine (same_any v2 _ (putn l a ds ds.length) (putn l a ds ds.length) wr (HV2.out.below hb.out) hMk.out).mono ?_
              rintro e w6 ⟨b, rfl, hbt, hb6⟩
              obtain rfl : b = true := hbt.2 rfl
              have B6 := As.mk (bl_then (bl_then B5.out hb.out) hb6)
              clear hb6 hbt k3 k4
              go_wp2
              go_ret
              exact ⟨rfl, B6.out⟩
    · go_wp2
      go_loopw [17] (fun vi wr => A1Rel n w5 vi wr) (fun vi _ => (n - intOf vi).toNat)
      case atStart => exact ⟨0, rfl, by omega, ⟨Below.refl _ _⟩⟩
      case round =>
        obtain ⟨k, rfl, hkn, hb⟩ := hrel
        clear g1 g2 g3 g4
        have k3 := (G3.out.below hb.out).two
        have k4 := (F4.out.below hb.out).two
        have kl3 := (G3.out.below hb.out).lt
        have kl4 := (F4.out.below hb.out).lt
        have hnn : ((n.toNat : Nat) : Int) = n := by omega
        by_cases hlt : (k : Int) < n
        · obtain ⟨z1, z2, z3, z4⟩ := HR1.out
          obtain ⟨bd, od, rfl, hz⟩ := z4 (by omega)
          have hcell := bl_cell hb.out (hz k (by omega))
          have hxb : As (byte l (a + (k : Int)) = (bs l a n.toNat).getD k 0) := ⟨(bs_get l a n.toNat k (by omega)).symm⟩
          generalize (bs l a n.toNat).getD k 0 = x at *
          clear hz z4 z3 z1 z2
          have hcd : wr.drew.cell? ⟨bd, od + k, none⟩ = some (.int .u8 x) := hcell
          have MW : As (RdM wr.drew v l) := ⟨(MX.out.below hb.out).drew⟩
          have hwr : ∀ [Inhabited Nat], IntKind.i64.wrap (a + (k : Int)) = a + (k : Int) := by intro _; rw [IntKind.wrap_i64]; omega
          have hkn2 : k < n.toNat := by omega
          go_wp2
          go_region_held3 (fun w' => w'.cell? ⟨bd, od + k, none⟩ = some (.int .u8 x)) (first | exact hcd | exact bl_cell HB6.out hcd) (first | (go_at_call 43; ((with_reducible refine (byteat_any v l (a + (k : Int)) _ MW.out HK.out).mono ?_); rintro e w6 ⟨rfl, hb6⟩; rw [hxb.out]; have HB6 := As.mk hb6; clear hb6)))
          have HX6 := As.mk (bl_then (bl_drew hb.out) HB6.out)
          clear HB6 hcd MW hcell k3 k4
          go_wp2
          go_roundw
          case rel => exact ⟨k + 1, by go_num, by omega, HX6⟩
          case measure => simp [intOf]; omega
        · have HX := hb
          go_wp2
          by_cases hn2 : 0 < ds.length
          · refine wp_loop_rounds 1 ?_
            go_wp2_with (rw [rounds_succ])
            go_ret
            exact ⟨rfl, bl_then B5.out HX.out⟩
          · refine wp_loop_rounds 1 ?_
            go_wp2_with (rw [rounds_succ])
            go_ret
            exact ⟨rfl, bl_then B5.out HX.out⟩
  · have hc1a : (c1 == 0) = false := by simpa using hc1
    have hc1b : (c1 != 0) = true := by simpa using hc1
    rcases C2 with ⟨rfl, rfl, K2⟩ | ⟨hc2, rfl⟩
    · obtain ⟨hk, hd5, ha0, ha2, hv2⟩ := K2.out
      have HK := As.mk hk
      have HV2 := As.mk hv2
      clear K2 hv2 hk
      go_wp2
      have HX : As (Below w5.heap.size w5 w5) := ⟨Below.refl _ _⟩
      have k3 := G3.out.two
      have k4 := F4.out.two
      have kl3 := hl3
      have kl4 := hl4
      by_cases hn1 : 0 < n
      · refine wp_loop_rounds 1 ?_
        go_wp2_with (rw [rounds_succ])
        have HN1 := As.mk hn1
        clear hn1
        go_loopw [18, 19] (fun vm vi wr => A2Rel l a ds w5 vm vi wr) (fun _ vi _ => (ds.length - intOf vi).toNat)
        case atStart => exact ⟨0, rfl, by omega, ⟨MX.out.below HX.out⟩, HX⟩
        case round =>
          obtain ⟨k, rfl, hkl, hMk, hb⟩ := hrel
          clear k3 k4 kl3 kl4
          have k3 := (G3.out.below hb.out).two
          have k4 := (F4.out.below hb.out).two
          by_cases hlt : k < ds.length
          · obtain ⟨z1, z2, z3, z4⟩ := DX.out
            obtain ⟨bd, od, rfl, hz⟩ := z4 (by omega)
            have hcell := bl_cell hb.out (hz k hlt)
            have hbyte : 0 ≤ ds.getD k 0 ∧ ds.getD k 0 ≤ 255 := by
              rw [List.getD_eq_getElem?_getD, List.getElem?_eq_getElem hlt]; exact z3 _ (List.getElem_mem hlt)
            have hpn : As (putn l a ds (k + 1) = put (putn l a ds k) (a + (k : Int)) (ds.getD k 0)) := ⟨rfl⟩
            have BY := As.mk hbyte
            generalize ds.getD k 0 = x at *
            clear hz z4 z3 z1 z2 hbyte
            go_wp2_with fail
            refine (with_any _ (putn l a ds k) (a + (k : Int)) x wr hMk.out (HK.out.putn a ds k) BY.out).mono ?_
            rintro e w6 ⟨v6, rfl, hm6, hb6⟩
            rw [← hpn.out] at hm6
            have M6 := As.mk hm6
            have B6 := As.mk (bl_then hb.out hb6)
            clear hm6 hb6 hcell k3 k4
            go_wp2
            go_roundw
            case rel => exact ⟨k + 1, by go_num, by omega, M6, B6⟩
            case measure => simp [intOf]; omega
          · obtain rfl : k = ds.length := by omega
            go_wp2_with fail
            refine (same_any v2 _ (putn l a ds ds.length) (putn l a ds ds.length) wr (HV2.out.below hb.out) hMk.out).mono ?_
            rintro e w6 ⟨b, rfl, hbt, hb6⟩
            obtain rfl : b = true := hbt.2 rfl
            have B6 := As.mk (bl_then (bl_then B5.out hb.out) hb6)
            clear hb6 hbt k3 k4
            go_wp2
            go_ret
            exact ⟨rfl, B6.out⟩
      · refine wp_loop_rounds 1 ?_
        go_wp2_with (rw [rounds_succ])
        have HN1 := As.mk hn1
        clear hn1
        go_loopw [18, 19] (fun vm vi wr => A2Rel l a ds w5 vm vi wr) (fun _ vi _ => (ds.length - intOf vi).toNat)
        case atStart => exact ⟨0, rfl, by omega, ⟨MX.out.below HX.out⟩, HX⟩
        case round =>
          obtain ⟨k, rfl, hkl, hMk, hb⟩ := hrel
          clear k3 k4 kl3 kl4
          have k3 := (G3.out.below hb.out).two
          have k4 := (F4.out.below hb.out).two
          by_cases hlt : k < ds.length
          · obtain ⟨z1, z2, z3, z4⟩ := DX.out
            obtain ⟨bd, od, rfl, hz⟩ := z4 (by omega)
            have hcell := bl_cell hb.out (hz k hlt)
            have hbyte : 0 ≤ ds.getD k 0 ∧ ds.getD k 0 ≤ 255 := by
              rw [List.getD_eq_getElem?_getD, List.getElem?_eq_getElem hlt]; exact z3 _ (List.getElem_mem hlt)
            have hpn : As (putn l a ds (k + 1) = put (putn l a ds k) (a + (k : Int)) (ds.getD k 0)) := ⟨rfl⟩
            have BY := As.mk hbyte
            generalize ds.getD k 0 = x at *
            clear hz z4 z3 z1 z2 hbyte
            go_wp2_with fail
            refine (with_any _ (putn l a ds k) (a + (k : Int)) x wr hMk.out (HK.out.putn a ds k) BY.out).mono ?_
            rintro e w6 ⟨v6, rfl, hm6, hb6⟩
            rw [← hpn.out] at hm6
            have M6 := As.mk hm6
            have B6 := As.mk (bl_then hb.out hb6)
            clear hm6 hb6 hcell k3 k4
            go_wp2
            go_roundw
            case rel => exact ⟨k + 1, by go_num, by omega, M6, B6⟩
            case measure => simp [intOf]; omega
          · obtain rfl : k = ds.length := by omega
            go_wp2_with fail
            refine (same_any v2 _ (putn l a ds ds.length) (putn l a ds ds.length) wr (HV2.out.below hb.out) hMk.out).mono ?_
            rintro e w6 ⟨b, rfl, hbt, hb6⟩
            obtain rfl : b = true := hbt.2 rfl
            have B6 := As.mk (bl_then (bl_then B5.out hb.out) hb6)
            clear hb6 hbt k3 k4
            go_wp2
            go_ret
            exact ⟨rfl, B6.out⟩
    · go_wp2
      have HX : As (Below w5.heap.size w5 w5) := ⟨Below.refl _ _⟩
      have k3 := G3.out.two
      have k4 := F4.out.two
      have kl3 := hl3
      have kl4 := hl4
      by_cases hn1 : 0 < n
      · refine wp_loop_rounds 1 ?_
        go_wp2_with (rw [rounds_succ])
        have HN1 := As.mk hn1
        clear hn1
        by_cases hn2 : 0 < ds.length
        · refine wp_loop_rounds 1 ?_
          go_wp2_with (rw [rounds_succ])
          go_ret
          exact ⟨rfl, bl_then B5.out HX.out⟩
        · refine wp_loop_rounds 1 ?_
          go_wp2_with (rw [rounds_succ])
          go_ret
          exact ⟨rfl, bl_then B5.out HX.out⟩
      · refine wp_loop_rounds 1 ?_
        go_wp2_with (rw [rounds_succ])
        have HN1 := As.mk hn1
        clear hn1
        by_cases hn2 : 0 < ds.length
        · refine wp_loop_rounds 1 ?_
          go_wp2_with (rw [rounds_succ])
          go_ret
          exact ⟨rfl, bl_then B5.out HX.out⟩
        · refine wp_loop_rounds 1 ?_
          go_wp2_with (rw [rounds_succ])
          go_ret
          exact ⟨rfl, bl_then B5.out HX.out⟩
end Go.Proofs.Ytbbhkjljiljadaa
