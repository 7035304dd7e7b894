/- MemoryRangesMatchSpec returns true. Conditions: the memory reads as those pages. -/
import Derived.Test.YtbbhkjljiljadaaM45
import Derived.Deep.RegionHeld3
import Derived.Deep.DrawnRows
namespace Go.Proofs.Ytbbhkjljiljadaa
open Go.RowKit
set_option linter.unusedVariables false
set_option linter.unusedSimpArgs false
attribute [local go_sem ↓] Go.wp_at_zero Go.wp_at_succ
theorem rff_sp (l : List Pg) (a n r : Int) : rff (sp l a n) r = if sp l a n = (0, 0) then rf r else sp l a n := rfl
set_option maxHeartbeats 16000000 in
set_option maxRecDepth 100000 in
theorem rnglaw_any (v : Value) (l : List Pg) (a n r : Int) (w : World) (hm : RdM w v l) (ha : I64 a) (hn : I64 n) (hr : I64 r) : Calls Try.prog 8 #[v, .int .i64 a, .int .i64 n, .int .i64 r] w (BPost true w) := by
  have HM := As.mk hm
  have hlen := hm.len
  clear hm
  go_enter Try.func8, Try.ntmps8
  go_wp2_with fail
  refine (memfault_any v l _ HM.out).mono ?_
  rintro e w1 ⟨rfl, hb1⟩
  obtain ⟨c0, i0, hv⟩ : ∃ c i, vf l = (c, i) := ⟨_, _, rfl⟩
  rw [hv]
  unfold Flt
  have HV := As.mk hv
  have B1 := As.mk hb1
  clear hb1 hv
  go_wp2
  have hW : As (Below w.heap.size w (w1.alloc (.cells #[.int .i64 c0, .int .i64 i0] 33)).drew) := ⟨bl_drew (bl_alloc B1.out _)⟩
  have F0 := As.mk (Bk.new w1 #[.int .i64 c0, .int .i64 i0] 33)
  have f0 := F0.out.drew.two
  go_region_held3 (fun w' => w'.cell? ⟨w1.heap.size, 0, none⟩ = some (.int .i64 c0) ∧ w'.cell? ⟨w1.heap.size, 1, none⟩ = some (.int .i64 i0)) (first | exact f0 | exact two_below H2.out (two_below H1.out f0) | exact two_below H1.out f0) (first | (go_at_call 31; ((with_reducible refine (example_any _).mono ?_); rintro e w2 ⟨rfl, hb2⟩; have H1 := As.mk hb2; clear hb2)) | (go_at_call 32; ((with_reducible refine (validate_any v l _ (HM.out.below (bl_then hW.out H1.out))).mono ?_); rintro e w3 ⟨rfl, hb3⟩; rw [HV.out]; unfold Flt; have H2 := As.mk hb3; clear hb3)))
  have B3 := As.mk (bl_then (bl_then hW.out H1.out) H2.out)
  clear H1 H2 hW F0 f0 B1
  go_wp2_with fail
  refine (map_any v l a n r _ (HM.out.below B3.out) ha hn hr).mono ?_
  rintro e w4 ⟨v4, rfl, hb4, hno4, hok4⟩
  obtain ⟨m1, m2, h4⟩ : ∃ c i, mf l a n r = (c, i) := ⟨_, _, rfl⟩
  rw [h4]
  unfold Flt
  have E4 := As.mk h4
  have NO4 := As.mk hno4
  have OK4 := As.mk hok4
  have B4 := As.mk (bl_then B3.out hb4)
  clear h4 hno4 hok4 hb4 B3
  go_wp2_with fail
  refine (unmap_any v l a n _ ((HM.out.below B4.out).below (by repeat (first | exact Below.refl _ _ | assumption | refine bl_drew ?_ | refine bl_drewN ?_ _ | refine bl_alloc ?_ _ | refine Below.setCell ?_ (by first | exact Nat.le_refl _ | exact bl_size (by assumption) | omega | simp) _))) ha hn).mono ?_
  rintro e w5 ⟨v5, rfl, hb5, hno5, hok5⟩
  obtain ⟨u1, u2, h5⟩ : ∃ c i, uf l a n = (c, i) := ⟨_, _, rfl⟩
  rw [h5]
  unfold Flt
  have E5 := As.mk h5
  have NO5 := As.mk hno5
  have OK5 := As.mk hok5
  have hx : Below w4.heap.size w4 w5 := bl_then (show Below w4.heap.size w4 _ from by repeat (first | exact Below.refl _ _ | assumption | refine bl_drew ?_ | refine bl_drewN ?_ _ | refine bl_alloc ?_ _ | refine Below.setCell ?_ (by first | exact Nat.le_refl _ | exact bl_size (by assumption) | omega | simp) _)) hb5
  have B5 := As.mk (bl_then B4.out hx)
  have X5 := As.mk hx
  have A5 := As.mk ((Bk.new w4 #[.int .i64 m1, .int .i64 m2] 33).below hb5)
  clear h5 hno5 hok5 hb5 hx B4
  go_wp2_with fail
  refine (protect_any v l a n r _ ((HM.out.below B5.out).below (by repeat (first | exact Below.refl _ _ | assumption | refine bl_drew ?_ | refine bl_drewN ?_ _ | refine bl_alloc ?_ _ | refine Below.setCell ?_ (by first | exact Nat.le_refl _ | exact bl_size (by assumption) | omega | simp) _))) ha hn hr).mono ?_
  rintro e w6 ⟨v6, rfl, hb6, hno6, hok6⟩
  obtain ⟨p1, p2, h6⟩ : ∃ c i, pf l a n r = (c, i) := ⟨_, _, rfl⟩
  rw [h6]
  unfold Flt
  have E6 := As.mk h6
  have NO6 := As.mk hno6
  have OK6 := As.mk hok6
  have hx : Below w5.heap.size w5 w6 := bl_then (show Below w5.heap.size w5 _ from by repeat (first | exact Below.refl _ _ | assumption | refine bl_drew ?_ | refine bl_drewN ?_ _ | refine bl_alloc ?_ _ | refine Below.setCell ?_ (by first | exact Nat.le_refl _ | exact bl_size (by assumption) | omega | simp) _)) hb6
  have B6 := As.mk (bl_then B5.out hx)
  have X6 := As.mk (bl_then X5.out hx)
  have Y6 := As.mk hx
  have A6 := As.mk (A5.out.below hx)
  have C6 := As.mk ((Bk.new w5 #[.int .i64 u1, .int .i64 u2] 33).below hb6)
  clear h6 hno6 hok6 hb6 hx B5 X5 A5
  go_wp2_with fail
  refine (spanf_any v l a n _ ((HM.out.below B6.out).below (by repeat (first | exact Below.refl _ _ | assumption | refine bl_drew ?_ | refine bl_drewN ?_ _ | refine bl_alloc ?_ _ | refine Below.setCell ?_ (by first | exact Nat.le_refl _ | exact bl_size (by assumption) | omega | simp) _))) ha hn).mono ?_
  rintro e w7 ⟨rfl, hb7⟩
  obtain ⟨s1, s2, h7⟩ : ∃ c i, sp l a n = (c, i) := ⟨_, _, rfl⟩
  rw [h7]
  unfold Flt
  have E7 := As.mk h7
  have hx : Below w6.heap.size w6 w7 := bl_then (show Below w6.heap.size w6 _ from by repeat (first | exact Below.refl _ _ | assumption | refine bl_drew ?_ | refine bl_drewN ?_ _ | refine bl_alloc ?_ _ | refine Below.setCell ?_ (by first | exact Nat.le_refl _ | exact bl_size (by assumption) | omega | simp) _)) hb7
  have B7 := As.mk (bl_then B6.out hx)
  have X7 := As.mk (bl_then X6.out hx)
  have Y7 := As.mk (bl_then Y6.out hx)
  have Z7 := As.mk hx
  have A7 := As.mk (A6.out.below hx)
  have C7 := As.mk (C6.out.below hx)
  have D7 := As.mk ((Bk.new w6 #[.int .i64 p1, .int .i64 p2] 33).below hb7)
  clear h7 hb7 hx B6 X6 Y6 A6 C6
  have hs12 : s1 ≠ 0 ∨ (s1 = 0 ∧ s2 = 0) := by
    rcases sp_cases l a n with ⟨h, _⟩ | ⟨c, i, h, h0, _⟩
    · have := E7.out; rw [h] at this; injection this with e1 e2; exact Or.inr ⟨e1.symm, e2.symm⟩
    · have := E7.out; rw [h] at this; injection this with e1 e2; exact Or.inl (by omega)
  go_wp2_with fail
  refine (rightsF_any s1 s2 r _ hs12).mono ?_
  rintro e w8 ⟨rfl, hb8⟩
  obtain ⟨b1, b2, h8⟩ : ∃ c i, rff (s1, s2) r = (c, i) := ⟨_, _, rfl⟩
  rw [h8]
  unfold Flt
  have E8 := As.mk h8
  have hx : Below w7.heap.size w7 w8 := bl_then (show Below w7.heap.size w7 _ from by repeat (first | exact Below.refl _ _ | assumption | refine bl_drew ?_ | refine bl_drewN ?_ _ | refine bl_alloc ?_ _ | refine Below.setCell ?_ (by first | exact Nat.le_refl _ | exact bl_size (by assumption) | omega | simp) _)) hb8
  have B8 := As.mk (bl_then B7.out hx)
  have X8 := As.mk (bl_then X7.out hx)
  have Y8 := As.mk (bl_then Y7.out hx)
  have Z8 := As.mk (bl_then Z7.out hx)
  have A8 := As.mk (A7.out.below hx)
  have C8 := As.mk (C7.out.below hx)
  have D8 := As.mk (D7.out.below hx)
  have S8 := As.mk ((Bk.new w7 #[.int .i64 s1, .int .i64 s2] 33).below hb8)
  clear h8 hb8 hx B7 X7 Y7 Z7 A7 C7 D7
  have hs8 := S8.out.two
  have hs8l := S8.out.lt
  have hs9 : ∀ o1 o2 o3 o4, ((((w8.alloc o1).alloc o2).alloc o3).alloc o4).cell? ⟨w7.heap.size, 0, none⟩ = some (.int .i64 s1) := fun o1 o2 o3 o4 => ((((S8.out.alloc o1).alloc o2).alloc o3).alloc o4).cell 0
  go_upto_if 74 with fail
  generalize hW9 : (((w8.alloc _).alloc _).alloc _).alloc _ = W9
  have X9 : As (Below w8.heap.size w8 W9) := ⟨by rw [← hW9]; exact (((((Below.refl w8.heap.size w8).alloc (Nat.le_refl _) _).alloc (by simp) _).alloc (by simp; omega) _).alloc (by simp; omega) _)⟩
  have T18 : As (Bk W9 (w8.heap.size + 1) #[.int .i64 b1, .int .i64 b2] 33) := ⟨by rw [← hW9]; exact ((Bk.new' _ _ (by simp)).alloc _).alloc _⟩
  have T19 : As (Bk W9 (w8.heap.size + 1 + 1) #[.int .i64 s1, .int .i64 s2] 33) := ⟨by rw [← hW9]; exact (Bk.new' _ _ (by simp)).alloc _⟩
  have T20 : As (Bk W9 (w8.heap.size + 1 + 1 + 1) #[.int .i64 b1, .int .i64 b2] 33) := ⟨by rw [← hW9]; exact Bk.new' _ _ (by simp)⟩
  clear hW9 hs8 hs8l hs9
  go_cut [] (fun wc => As (Below w8.heap.size w8 wc) ∧ As (Bk wc (w8.heap.size + 1) #[.int .i64 m1, .int .i64 m2] 33) ∧ As (Bk wc (w8.heap.size + 1 + 1) #[.int .i64 u1, .int .i64 u2] 33) ∧ As (Bk wc (w8.heap.size + 1 + 1 + 1) #[.int .i64 p1, .int .i64 p2] 33))
  case first =>
    by_cases hs : s1 = 0
    · obtain ⟨_, rfl⟩ : s1 = 0 ∧ s2 = 0 := by rcases hs12 with h | h; exact absurd hs h; exact h
      subst hs
      clear hs12
      have hspp : As (Ok l ∧ a % 256 = 0) ∧ 1 ≤ n ∧ n ≤ 200 ∧ 0 ≤ a ∧ a ≤ 1048576 - n * 256 := by
        rcases sp_cases l a n with ⟨_, hv, hq, h⟩ | ⟨c, i, hc, hc0, _⟩
        · exact ⟨⟨Ok.of hv, hq⟩, h⟩
        · rw [E7.out] at hc; injection hc; omega
      obtain ⟨KM, hn1, hn2, ha0, ha1⟩ := hspp
      obtain ⟨N, rfl⟩ : ∃ N : Nat, n = N := ⟨n.toNat, by omega⟩
      have hx9 := T18.out.lt
      go_wp2_with fail
      refine (present_any v l a N true _ ((HM.out.below B8.out).below X9.out) KM.out.1 ha0 (by omega) (by omega)).mono ?_
      rintro e wa ⟨it, rfl, hba, hit⟩
      have XA := As.mk (bl_then X9.out hba)
      have U18 := As.mk (T18.out.below hba)
      have U19 := As.mk (T19.out.below hba)
      have U20 := As.mk (T20.out.below hba)
      have IT : As ((it = -1 ∧ ex l a N = (0, 0)) ∨ ∃ k : Nat, it = (k : Int) ∧ ex l a N = (7, (k : Int))) := ⟨by
        rcases hit with ⟨h1, h2⟩ | ⟨k, hk, h1, h2, h3⟩
        · exact Or.inl ⟨h1, ex_ok (fun j hj => by have := h2 j hj; simpa using this)⟩
        · exact Or.inr ⟨k, h1, ex_bad hk (by intro e; rw [e] at h2; cases h2) (fun j hj => by have := h3 j hj; simpa using this)⟩⟩
      clear hba hit hx9 T18 T19 T20 X9
      go_wp2_with fail
      refine (present_any v l a N false _ ((HM.out.below B8.out).below XA.out) KM.out.1 ha0 (by omega) (by omega)).mono ?_
      rintro e wb ⟨jf, rfl, hbb, hjf⟩
      have XB := As.mk (bl_then XA.out hbb)
      have V18 := As.mk (U18.out.below hbb)
      have V19 := As.mk (U19.out.below hbb)
      have V20 := As.mk (U20.out.below hbb)
      have JF : As ((jf = -1 ∧ ms l a N = (0, 0)) ∨ ∃ k : Nat, jf = (k : Int) ∧ ms l a N = (6, (k : Int))) := ⟨by
        rcases hjf with ⟨h1, h2⟩ | ⟨k, hk, h1, h2, h3⟩
        · refine Or.inl ⟨h1, ?_⟩
          rcases ms_cases l a N with ⟨h, _⟩ | ⟨q, hq, he⟩
          · exact h
          · exfalso
            have := h2 q hq
            unfold ms at he
            cases hf : (List.range N).find? (fun k : Nat => (look l (a + (k : Int) * 256)).isNone) with
            | none => rw [hf] at he; cases he
            | some z =>
              rw [hf] at he
              injection he with _ he
              obtain rfl : z = q := by omega
              have h9 := List.find?_some hf
              cases hz : look l (a + (z : Int) * 256) with
              | none => rw [hz] at this; exact this rfl
              | some y => rw [hz] at h9; cases h9
        · refine Or.inr ⟨k, h1, ms_bad hk ?_ (fun j hj => ?_)⟩
          · cases hz : look l (a + (k : Int) * 256) with
            | none => rfl
            | some y => rw [hz] at h2; cases h2
          · have := h3 j hj
            intro e
            rw [e] at this
            exact this rfl⟩
      clear hbb hjf U18 U19 U20 XA
      have hNN : (N : Int).toNat = N := by omega
      have EM : As ((m1, m2) = if rf r ≠ (0, 0) then rf r else if ex l a N ≠ (0, 0) then ex l a N else if 200 < (l.length : Int) + (N : Int) then (10, -1) else (0, 0)) := ⟨by rw [← E4.out]; unfold mf; rw [if_neg (by rw [E7.out]; simp), hNN]⟩
      have EU : As ((u1, u2) = ms l a N) := ⟨by rw [← E5.out]; unfold uf; rw [if_neg (by rw [E7.out]; simp), hNN]⟩
      have EP : As ((p1, p2) = if rf r ≠ (0, 0) then rf r else ms l a N) := ⟨by rw [← E6.out]; unfold pf; rw [if_neg (by rw [E7.out]; simp), hNN]⟩
      have EB : As ((b1, b2) = rf r) := ⟨by rw [← E8.out]; rfl⟩
      clear hNN
      
      rcases rf_cases r with er | er
      · have z0 := EB.out
        rw [er] at z0
        cases z0
        clear EB
        rcases IT.out with ⟨rfl, ex0⟩ | ⟨k, rfl, exk⟩
        · obtain ⟨A, c, rfl, hlc⟩ := id HM.out
          have hl2 := KM.out.1.len
          clear hlc
          by_cases htl : 200 < (l.length : Int) + (N : Int)
          · rcases JF.out with ⟨rfl, ms0⟩ | ⟨q, rfl, msk⟩
            · as_aux_lemma =>
              have z1 : (m1, m2) = (((10 : Int)), ((-1 : Int))) := by rw [EM.out, er, ex0]; rw [if_neg (by simp), if_neg (by simp), if_pos htl]
              have z2 : (u1, u2) = (((0 : Int)), ((0 : Int))) := by rw [EU.out, ms0]
              have z3 : (p1, p2) = (((0 : Int)), ((0 : Int))) := by rw [EP.out, er, ms0]; rw [if_neg (by simp)]
              cases z1; cases z2; cases z3
              clear EM EU EP er ex0 ms0
              have c18 := V18.out.two
              have f18 := V18.out.frozen
              have l18 := V18.out.lt
              have c19 := V19.out.two
              have f19 := V19.out.frozen
              have l19 := V19.out.lt
              have c20 := V20.out.two
              have f20 := V20.out.frozen
              have l20 := V20.out.lt
              go_wp2_with fail
              refine (at_any _ _ _).mono ?_
              rintro e wc ⟨rfl, hbc⟩
              have hv18 := (show Bk _ (w8.heap.size + 1) #[.int .i64 (0), .int .i64 (0)] 33 from by repeat (first | with_reducible exact V18.out | with_reducible refine Bk.drew ?_ | with_reducible refine Bk.drewN ?_ _ | with_reducible apply Bk.set1 | with_reducible apply Bk.set0 | with_reducible refine Bk.alloc ?_ _ | with_reducible exact Bk.new _ _ _ | with_reducible refine Bk.other ?_ (by first | omega | (simp; done) | (simp; omega)) _)).below hbc
              have hv19 := (show Bk _ (w8.heap.size + 1 + 1) #[.int .i64 (0), .int .i64 (0)] 33 from by repeat (first | with_reducible exact V19.out | with_reducible refine Bk.drew ?_ | with_reducible refine Bk.drewN ?_ _ | with_reducible apply Bk.set1 | with_reducible apply Bk.set0 | with_reducible refine Bk.alloc ?_ _ | with_reducible exact Bk.new _ _ _ | with_reducible refine Bk.other ?_ (by first | omega | (simp; done) | (simp; omega)) _)).below hbc
              have hv20 := (show Bk _ (w8.heap.size + 1 + 1 + 1) #[.int .i64 (0), .int .i64 (0)] 33 from by repeat (first | with_reducible exact V20.out | with_reducible refine Bk.drew ?_ | with_reducible refine Bk.drewN ?_ _ | with_reducible apply Bk.set1 | with_reducible apply Bk.set0 | with_reducible refine Bk.alloc ?_ _ | with_reducible exact Bk.new _ _ _ | with_reducible refine Bk.other ?_ (by first | omega | (simp; done) | (simp; omega)) _)).below hbc
              have hxx := bl_then (show Below w8.heap.size w8 _ from by have := XB.out; repeat (first | exact Below.refl _ _ | assumption | refine bl_drew ?_ | refine bl_drewN ?_ _ | refine bl_alloc ?_ _ | refine Below.setCell ?_ (by first | exact Nat.le_refl _ | exact bl_size (by assumption) | omega | (simp; done) | (simp; omega)) _)) hbc
              clear c18 f18 l18 c19 f19 l19 c20 f20 l20 V18 V19 V20 XB
              have V18 := As.mk hv18
              have V19 := As.mk hv19
              have V20 := As.mk hv20
              have XB := As.mk hxx
              clear hv18 hv19 hv20 hxx hbc
              unfold Flt
              have c18 := V18.out.two
              have f18 := V18.out.frozen
              have l18 := V18.out.lt
              have c19 := V19.out.two
              have f19 := V19.out.frozen
              have l19 := V19.out.lt
              have c20 := V20.out.two
              have f20 := V20.out.frozen
              have l20 := V20.out.lt
              go_wp2_with fail
              go_meet
              case rel => exact ⟨⟨by have := XB.out; repeat (first | exact Below.refl _ _ | assumption | refine bl_drew ?_ | refine bl_drewN ?_ _ | refine bl_alloc ?_ _ | refine Below.setCell ?_ (by first | exact Nat.le_refl _ | exact bl_size (by assumption) | omega | (simp; done) | (simp; omega)) _)⟩, ⟨by repeat (first | with_reducible exact V18.out | with_reducible refine Bk.drew ?_ | with_reducible refine Bk.drewN ?_ _ | with_reducible apply Bk.set1 | with_reducible apply Bk.set0 | with_reducible refine Bk.alloc ?_ _ | with_reducible exact Bk.new _ _ _ | with_reducible refine Bk.other ?_ (by first | omega | (simp; done) | (simp; omega)) _)⟩, ⟨by repeat (first | with_reducible exact V19.out | with_reducible refine Bk.drew ?_ | with_reducible refine Bk.drewN ?_ _ | with_reducible apply Bk.set1 | with_reducible apply Bk.set0 | with_reducible refine Bk.alloc ?_ _ | with_reducible exact Bk.new _ _ _ | with_reducible refine Bk.other ?_ (by first | omega | (simp; done) | (simp; omega)) _)⟩, ⟨by repeat (first | with_reducible exact V20.out | with_reducible refine Bk.drew ?_ | with_reducible refine Bk.drewN ?_ _ | with_reducible apply Bk.set1 | with_reducible apply Bk.set0 | with_reducible refine Bk.alloc ?_ _ | with_reducible exact Bk.new _ _ _ | with_reducible refine Bk.other ?_ (by first | omega | (simp; done) | (simp; omega)) _)⟩⟩
            · as_aux_lemma =>
              have z1 : (m1, m2) = (((10 : Int)), ((-1 : Int))) := by rw [EM.out, er, ex0]; rw [if_neg (by simp), if_neg (by simp), if_pos htl]
              have z2 : (u1, u2) = (((6 : Int)), ((q : Int))) := by rw [EU.out, msk]
              have z3 : (p1, p2) = (((6 : Int)), ((q : Int))) := by rw [EP.out, er, msk]; rw [if_neg (by simp)]
              cases z1; cases z2; cases z3
              clear EM EU EP er ex0 msk
              have c18 := V18.out.two
              have f18 := V18.out.frozen
              have l18 := V18.out.lt
              have c19 := V19.out.two
              have f19 := V19.out.frozen
              have l19 := V19.out.lt
              have c20 := V20.out.two
              have f20 := V20.out.frozen
              have l20 := V20.out.lt
              go_wp2_with fail
              refine (at_any _ _ _).mono ?_
              rintro e wc ⟨rfl, hbc⟩
              have hv18 := (show Bk _ (w8.heap.size + 1) #[.int .i64 (0), .int .i64 (0)] 33 from by repeat (first | with_reducible exact V18.out | with_reducible refine Bk.drew ?_ | with_reducible refine Bk.drewN ?_ _ | with_reducible apply Bk.set1 | with_reducible apply Bk.set0 | with_reducible refine Bk.alloc ?_ _ | with_reducible exact Bk.new _ _ _ | with_reducible refine Bk.other ?_ (by first | omega | (simp; done) | (simp; omega)) _)).below hbc
              have hv19 := (show Bk _ (w8.heap.size + 1 + 1) #[.int .i64 (0), .int .i64 (0)] 33 from by repeat (first | with_reducible exact V19.out | with_reducible refine Bk.drew ?_ | with_reducible refine Bk.drewN ?_ _ | with_reducible apply Bk.set1 | with_reducible apply Bk.set0 | with_reducible refine Bk.alloc ?_ _ | with_reducible exact Bk.new _ _ _ | with_reducible refine Bk.other ?_ (by first | omega | (simp; done) | (simp; omega)) _)).below hbc
              have hv20 := (show Bk _ (w8.heap.size + 1 + 1 + 1) #[.int .i64 (0), .int .i64 (0)] 33 from by repeat (first | with_reducible exact V20.out | with_reducible refine Bk.drew ?_ | with_reducible refine Bk.drewN ?_ _ | with_reducible apply Bk.set1 | with_reducible apply Bk.set0 | with_reducible refine Bk.alloc ?_ _ | with_reducible exact Bk.new _ _ _ | with_reducible refine Bk.other ?_ (by first | omega | (simp; done) | (simp; omega)) _)).below hbc
              have hxx := bl_then (show Below w8.heap.size w8 _ from by have := XB.out; repeat (first | exact Below.refl _ _ | assumption | refine bl_drew ?_ | refine bl_drewN ?_ _ | refine bl_alloc ?_ _ | refine Below.setCell ?_ (by first | exact Nat.le_refl _ | exact bl_size (by assumption) | omega | (simp; done) | (simp; omega)) _)) hbc
              clear c18 f18 l18 c19 f19 l19 c20 f20 l20 V18 V19 V20 XB
              have V18 := As.mk hv18
              have V19 := As.mk hv19
              have V20 := As.mk hv20
              have XB := As.mk hxx
              clear hv18 hv19 hv20 hxx hbc
              unfold Flt
              have c18 := V18.out.two
              have f18 := V18.out.frozen
              have l18 := V18.out.lt
              have c19 := V19.out.two
              have f19 := V19.out.frozen
              have l19 := V19.out.lt
              have c20 := V20.out.two
              have f20 := V20.out.frozen
              have l20 := V20.out.lt
              go_wp2_with fail
              refine (at_any _ _ _).mono ?_
              rintro e wd ⟨rfl, hbd⟩
              have hv18 := (show Bk _ (w8.heap.size + 1) #[.int .i64 (10), .int .i64 (-1)] 33 from by repeat (first | with_reducible exact V18.out | with_reducible refine Bk.drew ?_ | with_reducible refine Bk.drewN ?_ _ | with_reducible apply Bk.set1 | with_reducible apply Bk.set0 | with_reducible refine Bk.alloc ?_ _ | with_reducible exact Bk.new _ _ _ | with_reducible refine Bk.other ?_ (by first | omega | (simp; done) | (simp; omega)) _)).below hbd
              have hv19 := (show Bk _ (w8.heap.size + 1 + 1) #[.int .i64 (0), .int .i64 (0)] 33 from by repeat (first | with_reducible exact V19.out | with_reducible refine Bk.drew ?_ | with_reducible refine Bk.drewN ?_ _ | with_reducible apply Bk.set1 | with_reducible apply Bk.set0 | with_reducible refine Bk.alloc ?_ _ | with_reducible exact Bk.new _ _ _ | with_reducible refine Bk.other ?_ (by first | omega | (simp; done) | (simp; omega)) _)).below hbd
              have hv20 := (show Bk _ (w8.heap.size + 1 + 1 + 1) #[.int .i64 (0), .int .i64 (0)] 33 from by repeat (first | with_reducible exact V20.out | with_reducible refine Bk.drew ?_ | with_reducible refine Bk.drewN ?_ _ | with_reducible apply Bk.set1 | with_reducible apply Bk.set0 | with_reducible refine Bk.alloc ?_ _ | with_reducible exact Bk.new _ _ _ | with_reducible refine Bk.other ?_ (by first | omega | (simp; done) | (simp; omega)) _)).below hbd
              have hxx := bl_then (show Below w8.heap.size w8 _ from by have := XB.out; repeat (first | exact Below.refl _ _ | assumption | refine bl_drew ?_ | refine bl_drewN ?_ _ | refine bl_alloc ?_ _ | refine Below.setCell ?_ (by first | exact Nat.le_refl _ | exact bl_size (by assumption) | omega | (simp; done) | (simp; omega)) _)) hbd
              clear c18 f18 l18 c19 f19 l19 c20 f20 l20 V18 V19 V20 XB
              have V18 := As.mk hv18
              have V19 := As.mk hv19
              have V20 := As.mk hv20
              have XB := As.mk hxx
              clear hv18 hv19 hv20 hxx hbd
              unfold Flt
              have c18 := V18.out.two
              have f18 := V18.out.frozen
              have l18 := V18.out.lt
              have c19 := V19.out.two
              have f19 := V19.out.frozen
              have l19 := V19.out.lt
              have c20 := V20.out.two
              have f20 := V20.out.frozen
              have l20 := V20.out.lt
              go_wp2_with fail
              go_meet
              case rel => exact ⟨⟨by have := XB.out; repeat (first | exact Below.refl _ _ | assumption | refine bl_drew ?_ | refine bl_drewN ?_ _ | refine bl_alloc ?_ _ | refine Below.setCell ?_ (by first | exact Nat.le_refl _ | exact bl_size (by assumption) | omega | (simp; done) | (simp; omega)) _)⟩, ⟨by repeat (first | with_reducible exact V18.out | with_reducible refine Bk.drew ?_ | with_reducible refine Bk.drewN ?_ _ | with_reducible apply Bk.set1 | with_reducible apply Bk.set0 | with_reducible refine Bk.alloc ?_ _ | with_reducible exact Bk.new _ _ _ | with_reducible refine Bk.other ?_ (by first | omega | (simp; done) | (simp; omega)) _)⟩, ⟨by repeat (first | with_reducible exact V19.out | with_reducible refine Bk.drew ?_ | with_reducible refine Bk.drewN ?_ _ | with_reducible apply Bk.set1 | with_reducible apply Bk.set0 | with_reducible refine Bk.alloc ?_ _ | with_reducible exact Bk.new _ _ _ | with_reducible refine Bk.other ?_ (by first | omega | (simp; done) | (simp; omega)) _)⟩, ⟨by repeat (first | with_reducible exact V20.out | with_reducible refine Bk.drew ?_ | with_reducible refine Bk.drewN ?_ _ | with_reducible apply Bk.set1 | with_reducible apply Bk.set0 | with_reducible refine Bk.alloc ?_ _ | with_reducible exact Bk.new _ _ _ | with_reducible refine Bk.other ?_ (by first | omega | (simp; done) | (simp; omega)) _)⟩⟩
          · rcases JF.out with ⟨rfl, ms0⟩ | ⟨q, rfl, msk⟩
            · as_aux_lemma =>
              have z1 : (m1, m2) = (((0 : Int)), ((0 : Int))) := by rw [EM.out, er, ex0]; rw [if_neg (by simp), if_neg (by simp), if_neg htl]
              have z2 : (u1, u2) = (((0 : Int)), ((0 : Int))) := by rw [EU.out, ms0]
              have z3 : (p1, p2) = (((0 : Int)), ((0 : Int))) := by rw [EP.out, er, ms0]; rw [if_neg (by simp)]
              cases z1; cases z2; cases z3
              clear EM EU EP er ex0 ms0
              have c18 := V18.out.two
              have f18 := V18.out.frozen
              have l18 := V18.out.lt
              have c19 := V19.out.two
              have f19 := V19.out.frozen
              have l19 := V19.out.lt
              have c20 := V20.out.two
              have f20 := V20.out.frozen
              have l20 := V20.out.lt
              go_wp2_with fail
              go_meet
              case rel => exact ⟨⟨by have := XB.out; repeat (first | exact Below.refl _ _ | assumption | refine bl_drew ?_ | refine bl_drewN ?_ _ | refine bl_alloc ?_ _ | refine Below.setCell ?_ (by first | exact Nat.le_refl _ | exact bl_size (by assumption) | omega | (simp; done) | (simp; omega)) _)⟩, ⟨by repeat (first | with_reducible exact V18.out | with_reducible refine Bk.drew ?_ | with_reducible refine Bk.drewN ?_ _ | with_reducible apply Bk.set1 | with_reducible apply Bk.set0 | with_reducible refine Bk.alloc ?_ _ | with_reducible exact Bk.new _ _ _ | with_reducible refine Bk.other ?_ (by first | omega | (simp; done) | (simp; omega)) _)⟩, ⟨by repeat (first | with_reducible exact V19.out | with_reducible refine Bk.drew ?_ | with_reducible refine Bk.drewN ?_ _ | with_reducible apply Bk.set1 | with_reducible apply Bk.set0 | with_reducible refine Bk.alloc ?_ _ | with_reducible exact Bk.new _ _ _ | with_reducible refine Bk.other ?_ (by first | omega | (simp; done) | (simp; omega)) _)⟩, ⟨by repeat (first | with_reducible exact V20.out | with_reducible refine Bk.drew ?_ | with_reducible refine Bk.drewN ?_ _ | with_reducible apply Bk.set1 | with_reducible apply Bk.set0 | with_reducible refine Bk.alloc ?_ _ | with_reducible exact Bk.new _ _ _ | with_reducible refine Bk.other ?_ (by first | omega | (simp; done) | (simp; omega)) _)⟩⟩
            · as_aux_lemma =>
              have z1 : (m1, m2) = (((0 : Int)), ((0 : Int))) := by rw [EM.out, er, ex0]; rw [if_neg (by simp), if_neg (by simp), if_neg htl]
              have z2 : (u1, u2) = (((6 : Int)), ((q : Int))) := by rw [EU.out, msk]
              have z3 : (p1, p2) = (((6 : Int)), ((q : Int))) := by rw [EP.out, er, msk]; rw [if_neg (by simp)]
              cases z1; cases z2; cases z3
              clear EM EU EP er ex0 msk
              have c18 := V18.out.two
              have f18 := V18.out.frozen
              have l18 := V18.out.lt
              have c19 := V19.out.two
              have f19 := V19.out.frozen
              have l19 := V19.out.lt
              have c20 := V20.out.two
              have f20 := V20.out.frozen
              have l20 := V20.out.lt
              go_wp2_with fail
              refine (at_any _ _ _).mono ?_
              rintro e wd ⟨rfl, hbd⟩
              have hv18 := (show Bk _ (w8.heap.size + 1) #[.int .i64 (0), .int .i64 (0)] 33 from by repeat (first | with_reducible exact V18.out | with_reducible refine Bk.drew ?_ | with_reducible refine Bk.drewN ?_ _ | with_reducible apply Bk.set1 | with_reducible apply Bk.set0 | with_reducible refine Bk.alloc ?_ _ | with_reducible exact Bk.new _ _ _ | with_reducible refine Bk.other ?_ (by first | omega | (simp; done) | (simp; omega)) _)).below hbd
              have hv19 := (show Bk _ (w8.heap.size + 1 + 1) #[.int .i64 (0), .int .i64 (0)] 33 from by repeat (first | with_reducible exact V19.out | with_reducible refine Bk.drew ?_ | with_reducible refine Bk.drewN ?_ _ | with_reducible apply Bk.set1 | with_reducible apply Bk.set0 | with_reducible refine Bk.alloc ?_ _ | with_reducible exact Bk.new _ _ _ | with_reducible refine Bk.other ?_ (by first | omega | (simp; done) | (simp; omega)) _)).below hbd
              have hv20 := (show Bk _ (w8.heap.size + 1 + 1 + 1) #[.int .i64 (0), .int .i64 (0)] 33 from by repeat (first | with_reducible exact V20.out | with_reducible refine Bk.drew ?_ | with_reducible refine Bk.drewN ?_ _ | with_reducible apply Bk.set1 | with_reducible apply Bk.set0 | with_reducible refine Bk.alloc ?_ _ | with_reducible exact Bk.new _ _ _ | with_reducible refine Bk.other ?_ (by first | omega | (simp; done) | (simp; omega)) _)).below hbd
              have hxx := bl_then (show Below w8.heap.size w8 _ from by have := XB.out; repeat (first | exact Below.refl _ _ | assumption | refine bl_drew ?_ | refine bl_drewN ?_ _ | refine bl_alloc ?_ _ | refine Below.setCell ?_ (by first | exact Nat.le_refl _ | exact bl_size (by assumption) | omega | (simp; done) | (simp; omega)) _)) hbd
              clear c18 f18 l18 c19 f19 l19 c20 f20 l20 V18 V19 V20 XB
              have V18 := As.mk hv18
              have V19 := As.mk hv19
              have V20 := As.mk hv20
              have XB := As.mk hxx
              clear hv18 hv19 hv20 hxx hbd
              unfold Flt
              have c18 := V18.out.two
              have f18 := V18.out.frozen
              have l18 := V18.out.lt
              have c19 := V19.out.two
              have f19 := V19.out.frozen
              have l19 := V19.out.lt
              have c20 := V20.out.two
              have f20 := V20.out.frozen
              have l20 := V20.out.lt
              go_wp2_with fail
              go_meet
              case rel => exact ⟨⟨by have := XB.out; repeat (first | exact Below.refl _ _ | assumption | refine bl_drew ?_ | refine bl_drewN ?_ _ | refine bl_alloc ?_ _ | refine Below.setCell ?_ (by first | exact Nat.le_refl _ | exact bl_size (by assumption) | omega | (simp; done) | (simp; omega)) _)⟩, ⟨by repeat (first | with_reducible exact V18.out | with_reducible refine Bk.drew ?_ | with_reducible refine Bk.drewN ?_ _ | with_reducible apply Bk.set1 | with_reducible apply Bk.set0 | with_reducible refine Bk.alloc ?_ _ | with_reducible exact Bk.new _ _ _ | with_reducible refine Bk.other ?_ (by first | omega | (simp; done) | (simp; omega)) _)⟩, ⟨by repeat (first | with_reducible exact V19.out | with_reducible refine Bk.drew ?_ | with_reducible refine Bk.drewN ?_ _ | with_reducible apply Bk.set1 | with_reducible apply Bk.set0 | with_reducible refine Bk.alloc ?_ _ | with_reducible exact Bk.new _ _ _ | with_reducible refine Bk.other ?_ (by first | omega | (simp; done) | (simp; omega)) _)⟩, ⟨by repeat (first | with_reducible exact V20.out | with_reducible refine Bk.drew ?_ | with_reducible refine Bk.drewN ?_ _ | with_reducible apply Bk.set1 | with_reducible apply Bk.set0 | with_reducible refine Bk.alloc ?_ _ | with_reducible exact Bk.new _ _ _ | with_reducible refine Bk.other ?_ (by first | omega | (simp; done) | (simp; omega)) _)⟩⟩
        · rcases JF.out with ⟨rfl, ms0⟩ | ⟨q, rfl, msk⟩
          · as_aux_lemma =>
            have z1 : (m1, m2) = (((7 : Int)), ((k : Int))) := by rw [EM.out, er, exk]; rw [if_neg (by simp), if_pos (by intro h; injection h; omega)]
            have z2 : (u1, u2) = (((0 : Int)), ((0 : Int))) := by rw [EU.out, ms0]
            have z3 : (p1, p2) = (((0 : Int)), ((0 : Int))) := by rw [EP.out, er, ms0]; rw [if_neg (by simp)]
            cases z1; cases z2; cases z3
            clear EM EU EP er exk ms0
            have c18 := V18.out.two
            have f18 := V18.out.frozen
            have l18 := V18.out.lt
            have c19 := V19.out.two
            have f19 := V19.out.frozen
            have l19 := V19.out.lt
            have c20 := V20.out.two
            have f20 := V20.out.frozen
            have l20 := V20.out.lt
            go_wp2_with fail
            refine (at_any _ _ _).mono ?_
            rintro e wc ⟨rfl, hbc⟩
            have hv18 := (show Bk _ (w8.heap.size + 1) #[.int .i64 (0), .int .i64 (0)] 33 from by repeat (first | with_reducible exact V18.out | with_reducible refine Bk.drew ?_ | with_reducible refine Bk.drewN ?_ _ | with_reducible apply Bk.set1 | with_reducible apply Bk.set0 | with_reducible refine Bk.alloc ?_ _ | with_reducible exact Bk.new _ _ _ | with_reducible refine Bk.other ?_ (by first | omega | (simp; done) | (simp; omega)) _)).below hbc
            have hv19 := (show Bk _ (w8.heap.size + 1 + 1) #[.int .i64 (0), .int .i64 (0)] 33 from by repeat (first | with_reducible exact V19.out | with_reducible refine Bk.drew ?_ | with_reducible refine Bk.drewN ?_ _ | with_reducible apply Bk.set1 | with_reducible apply Bk.set0 | with_reducible refine Bk.alloc ?_ _ | with_reducible exact Bk.new _ _ _ | with_reducible refine Bk.other ?_ (by first | omega | (simp; done) | (simp; omega)) _)).below hbc
            have hv20 := (show Bk _ (w8.heap.size + 1 + 1 + 1) #[.int .i64 (0), .int .i64 (0)] 33 from by repeat (first | with_reducible exact V20.out | with_reducible refine Bk.drew ?_ | with_reducible refine Bk.drewN ?_ _ | with_reducible apply Bk.set1 | with_reducible apply Bk.set0 | with_reducible refine Bk.alloc ?_ _ | with_reducible exact Bk.new _ _ _ | with_reducible refine Bk.other ?_ (by first | omega | (simp; done) | (simp; omega)) _)).below hbc
            have hxx := bl_then (show Below w8.heap.size w8 _ from by have := XB.out; repeat (first | exact Below.refl _ _ | assumption | refine bl_drew ?_ | refine bl_drewN ?_ _ | refine bl_alloc ?_ _ | refine Below.setCell ?_ (by first | exact Nat.le_refl _ | exact bl_size (by assumption) | omega | (simp; done) | (simp; omega)) _)) hbc
            clear c18 f18 l18 c19 f19 l19 c20 f20 l20 V18 V19 V20 XB
            have V18 := As.mk hv18
            have V19 := As.mk hv19
            have V20 := As.mk hv20
            have XB := As.mk hxx
            clear hv18 hv19 hv20 hxx hbc
            unfold Flt
            have c18 := V18.out.two
            have f18 := V18.out.frozen
            have l18 := V18.out.lt
            have c19 := V19.out.two
            have f19 := V19.out.frozen
            have l19 := V19.out.lt
            have c20 := V20.out.two
            have f20 := V20.out.frozen
            have l20 := V20.out.lt
            go_wp2_with fail
            go_meet
            case rel => exact ⟨⟨by have := XB.out; repeat (first | exact Below.refl _ _ | assumption | refine bl_drew ?_ | refine bl_drewN ?_ _ | refine bl_alloc ?_ _ | refine Below.setCell ?_ (by first | exact Nat.le_refl _ | exact bl_size (by assumption) | omega | (simp; done) | (simp; omega)) _)⟩, ⟨by repeat (first | with_reducible exact V18.out | with_reducible refine Bk.drew ?_ | with_reducible refine Bk.drewN ?_ _ | with_reducible apply Bk.set1 | with_reducible apply Bk.set0 | with_reducible refine Bk.alloc ?_ _ | with_reducible exact Bk.new _ _ _ | with_reducible refine Bk.other ?_ (by first | omega | (simp; done) | (simp; omega)) _)⟩, ⟨by repeat (first | with_reducible exact V19.out | with_reducible refine Bk.drew ?_ | with_reducible refine Bk.drewN ?_ _ | with_reducible apply Bk.set1 | with_reducible apply Bk.set0 | with_reducible refine Bk.alloc ?_ _ | with_reducible exact Bk.new _ _ _ | with_reducible refine Bk.other ?_ (by first | omega | (simp; done) | (simp; omega)) _)⟩, ⟨by repeat (first | with_reducible exact V20.out | with_reducible refine Bk.drew ?_ | with_reducible refine Bk.drewN ?_ _ | with_reducible apply Bk.set1 | with_reducible apply Bk.set0 | with_reducible refine Bk.alloc ?_ _ | with_reducible exact Bk.new _ _ _ | with_reducible refine Bk.other ?_ (by first | omega | (simp; done) | (simp; omega)) _)⟩⟩
          · as_aux_lemma =>
            have z1 : (m1, m2) = (((7 : Int)), ((k : Int))) := by rw [EM.out, er, exk]; rw [if_neg (by simp), if_pos (by intro h; injection h; omega)]
            have z2 : (u1, u2) = (((6 : Int)), ((q : Int))) := by rw [EU.out, msk]
            have z3 : (p1, p2) = (((6 : Int)), ((q : Int))) := by rw [EP.out, er, msk]; rw [if_neg (by simp)]
            cases z1; cases z2; cases z3
            clear EM EU EP er exk msk
            have c18 := V18.out.two
            have f18 := V18.out.frozen
            have l18 := V18.out.lt
            have c19 := V19.out.two
            have f19 := V19.out.frozen
            have l19 := V19.out.lt
            have c20 := V20.out.two
            have f20 := V20.out.frozen
            have l20 := V20.out.lt
            go_wp2_with fail
            refine (at_any _ _ _).mono ?_
            rintro e wc ⟨rfl, hbc⟩
            have hv18 := (show Bk _ (w8.heap.size + 1) #[.int .i64 (0), .int .i64 (0)] 33 from by repeat (first | with_reducible exact V18.out | with_reducible refine Bk.drew ?_ | with_reducible refine Bk.drewN ?_ _ | with_reducible apply Bk.set1 | with_reducible apply Bk.set0 | with_reducible refine Bk.alloc ?_ _ | with_reducible exact Bk.new _ _ _ | with_reducible refine Bk.other ?_ (by first | omega | (simp; done) | (simp; omega)) _)).below hbc
            have hv19 := (show Bk _ (w8.heap.size + 1 + 1) #[.int .i64 (0), .int .i64 (0)] 33 from by repeat (first | with_reducible exact V19.out | with_reducible refine Bk.drew ?_ | with_reducible refine Bk.drewN ?_ _ | with_reducible apply Bk.set1 | with_reducible apply Bk.set0 | with_reducible refine Bk.alloc ?_ _ | with_reducible exact Bk.new _ _ _ | with_reducible refine Bk.other ?_ (by first | omega | (simp; done) | (simp; omega)) _)).below hbc
            have hv20 := (show Bk _ (w8.heap.size + 1 + 1 + 1) #[.int .i64 (0), .int .i64 (0)] 33 from by repeat (first | with_reducible exact V20.out | with_reducible refine Bk.drew ?_ | with_reducible refine Bk.drewN ?_ _ | with_reducible apply Bk.set1 | with_reducible apply Bk.set0 | with_reducible refine Bk.alloc ?_ _ | with_reducible exact Bk.new _ _ _ | with_reducible refine Bk.other ?_ (by first | omega | (simp; done) | (simp; omega)) _)).below hbc
            have hxx := bl_then (show Below w8.heap.size w8 _ from by have := XB.out; repeat (first | exact Below.refl _ _ | assumption | refine bl_drew ?_ | refine bl_drewN ?_ _ | refine bl_alloc ?_ _ | refine Below.setCell ?_ (by first | exact Nat.le_refl _ | exact bl_size (by assumption) | omega | (simp; done) | (simp; omega)) _)) hbc
            clear c18 f18 l18 c19 f19 l19 c20 f20 l20 V18 V19 V20 XB
            have V18 := As.mk hv18
            have V19 := As.mk hv19
            have V20 := As.mk hv20
            have XB := As.mk hxx
            clear hv18 hv19 hv20 hxx hbc
            unfold Flt
            have c18 := V18.out.two
            have f18 := V18.out.frozen
            have l18 := V18.out.lt
            have c19 := V19.out.two
            have f19 := V19.out.frozen
            have l19 := V19.out.lt
            have c20 := V20.out.two
            have f20 := V20.out.frozen
            have l20 := V20.out.lt
            go_wp2_with fail
            refine (at_any _ _ _).mono ?_
            rintro e wd ⟨rfl, hbd⟩
            have hv18 := (show Bk _ (w8.heap.size + 1) #[.int .i64 (7), .int .i64 (k)] 33 from by repeat (first | with_reducible exact V18.out | with_reducible refine Bk.drew ?_ | with_reducible refine Bk.drewN ?_ _ | with_reducible apply Bk.set1 | with_reducible apply Bk.set0 | with_reducible refine Bk.alloc ?_ _ | with_reducible exact Bk.new _ _ _ | with_reducible refine Bk.other ?_ (by first | omega | (simp; done) | (simp; omega)) _)).below hbd
            have hv19 := (show Bk _ (w8.heap.size + 1 + 1) #[.int .i64 (0), .int .i64 (0)] 33 from by repeat (first | with_reducible exact V19.out | with_reducible refine Bk.drew ?_ | with_reducible refine Bk.drewN ?_ _ | with_reducible apply Bk.set1 | with_reducible apply Bk.set0 | with_reducible refine Bk.alloc ?_ _ | with_reducible exact Bk.new _ _ _ | with_reducible refine Bk.other ?_ (by first | omega | (simp; done) | (simp; omega)) _)).below hbd
            have hv20 := (show Bk _ (w8.heap.size + 1 + 1 + 1) #[.int .i64 (0), .int .i64 (0)] 33 from by repeat (first | with_reducible exact V20.out | with_reducible refine Bk.drew ?_ | with_reducible refine Bk.drewN ?_ _ | with_reducible apply Bk.set1 | with_reducible apply Bk.set0 | with_reducible refine Bk.alloc ?_ _ | with_reducible exact Bk.new _ _ _ | with_reducible refine Bk.other ?_ (by first | omega | (simp; done) | (simp; omega)) _)).below hbd
            have hxx := bl_then (show Below w8.heap.size w8 _ from by have := XB.out; repeat (first | exact Below.refl _ _ | assumption | refine bl_drew ?_ | refine bl_drewN ?_ _ | refine bl_alloc ?_ _ | refine Below.setCell ?_ (by first | exact Nat.le_refl _ | exact bl_size (by assumption) | omega | (simp; done) | (simp; omega)) _)) hbd
            clear c18 f18 l18 c19 f19 l19 c20 f20 l20 V18 V19 V20 XB
            have V18 := As.mk hv18
            have V19 := As.mk hv19
            have V20 := As.mk hv20
            have XB := As.mk hxx
            clear hv18 hv19 hv20 hxx hbd
            unfold Flt
            have c18 := V18.out.two
            have f18 := V18.out.frozen
            have l18 := V18.out.lt
            have c19 := V19.out.two
            have f19 := V19.out.frozen
            have l19 := V19.out.lt
            have c20 := V20.out.two
            have f20 := V20.out.frozen
            have l20 := V20.out.lt
            go_wp2_with fail
            go_meet
            case rel => exact ⟨⟨by have := XB.out; repeat (first | exact Below.refl _ _ | assumption | refine bl_drew ?_ | refine bl_drewN ?_ _ | refine bl_alloc ?_ _ | refine Below.setCell ?_ (by first | exact Nat.le_refl _ | exact bl_size (by assumption) | omega | (simp; done) | (simp; omega)) _)⟩, ⟨by repeat (first | with_reducible exact V18.out | with_reducible refine Bk.drew ?_ | with_reducible refine Bk.drewN ?_ _ | with_reducible apply Bk.set1 | with_reducible apply Bk.set0 | with_reducible refine Bk.alloc ?_ _ | with_reducible exact Bk.new _ _ _ | with_reducible refine Bk.other ?_ (by first | omega | (simp; done) | (simp; omega)) _)⟩, ⟨by repeat (first | with_reducible exact V19.out | with_reducible refine Bk.drew ?_ | with_reducible refine Bk.drewN ?_ _ | with_reducible apply Bk.set1 | with_reducible apply Bk.set0 | with_reducible refine Bk.alloc ?_ _ | with_reducible exact Bk.new _ _ _ | with_reducible refine Bk.other ?_ (by first | omega | (simp; done) | (simp; omega)) _)⟩, ⟨by repeat (first | with_reducible exact V20.out | with_reducible refine Bk.drew ?_ | with_reducible refine Bk.drewN ?_ _ | with_reducible apply Bk.set1 | with_reducible apply Bk.set0 | with_reducible refine Bk.alloc ?_ _ | with_reducible exact Bk.new _ _ _ | with_reducible refine Bk.other ?_ (by first | omega | (simp; done) | (simp; omega)) _)⟩⟩
      · have z0 := EB.out
        rw [er] at z0
        cases z0
        clear EB
        rcases JF.out with ⟨rfl, ms0⟩ | ⟨q, rfl, msk⟩
        · rcases IT.out with ⟨rfl, ex0⟩ | ⟨k, rfl, exk⟩
          · as_aux_lemma =>
            have z1 : (m1, m2) = (((3 : Int)), ((-3 : Int))) := by rw [EM.out, er]; rfl
            have z2 : (u1, u2) = (((0 : Int)), ((0 : Int))) := by rw [EU.out, ms0]
            have z3 : (p1, p2) = (((3 : Int)), ((-3 : Int))) := by rw [EP.out, er]; rfl
            cases z1; cases z2; cases z3
            clear EM EU EP er ex0 ms0
            have c18 := V18.out.two
            have f18 := V18.out.frozen
            have l18 := V18.out.lt
            have c19 := V19.out.two
            have f19 := V19.out.frozen
            have l19 := V19.out.lt
            have c20 := V20.out.two
            have f20 := V20.out.frozen
            have l20 := V20.out.lt
            go_wp2_with fail
            go_meet
            case rel => exact ⟨⟨by have := XB.out; repeat (first | exact Below.refl _ _ | assumption | refine bl_drew ?_ | refine bl_drewN ?_ _ | refine bl_alloc ?_ _ | refine Below.setCell ?_ (by first | exact Nat.le_refl _ | exact bl_size (by assumption) | omega | (simp; done) | (simp; omega)) _)⟩, ⟨by repeat (first | with_reducible exact V18.out | with_reducible refine Bk.drew ?_ | with_reducible refine Bk.drewN ?_ _ | with_reducible apply Bk.set1 | with_reducible apply Bk.set0 | with_reducible refine Bk.alloc ?_ _ | with_reducible exact Bk.new _ _ _ | with_reducible refine Bk.other ?_ (by first | omega | (simp; done) | (simp; omega)) _)⟩, ⟨by repeat (first | with_reducible exact V19.out | with_reducible refine Bk.drew ?_ | with_reducible refine Bk.drewN ?_ _ | with_reducible apply Bk.set1 | with_reducible apply Bk.set0 | with_reducible refine Bk.alloc ?_ _ | with_reducible exact Bk.new _ _ _ | with_reducible refine Bk.other ?_ (by first | omega | (simp; done) | (simp; omega)) _)⟩, ⟨by repeat (first | with_reducible exact V20.out | with_reducible refine Bk.drew ?_ | with_reducible refine Bk.drewN ?_ _ | with_reducible apply Bk.set1 | with_reducible apply Bk.set0 | with_reducible refine Bk.alloc ?_ _ | with_reducible exact Bk.new _ _ _ | with_reducible refine Bk.other ?_ (by first | omega | (simp; done) | (simp; omega)) _)⟩⟩
          · as_aux_lemma =>
            have z1 : (m1, m2) = (((3 : Int)), ((-3 : Int))) := by rw [EM.out, er]; rfl
            have z2 : (u1, u2) = (((0 : Int)), ((0 : Int))) := by rw [EU.out, ms0]
            have z3 : (p1, p2) = (((3 : Int)), ((-3 : Int))) := by rw [EP.out, er]; rfl
            cases z1; cases z2; cases z3
            clear EM EU EP er exk ms0
            have c18 := V18.out.two
            have f18 := V18.out.frozen
            have l18 := V18.out.lt
            have c19 := V19.out.two
            have f19 := V19.out.frozen
            have l19 := V19.out.lt
            have c20 := V20.out.two
            have f20 := V20.out.frozen
            have l20 := V20.out.lt
            go_wp2_with fail
            go_meet
            case rel => exact ⟨⟨by have := XB.out; repeat (first | exact Below.refl _ _ | assumption | refine bl_drew ?_ | refine bl_drewN ?_ _ | refine bl_alloc ?_ _ | refine Below.setCell ?_ (by first | exact Nat.le_refl _ | exact bl_size (by assumption) | omega | (simp; done) | (simp; omega)) _)⟩, ⟨by repeat (first | with_reducible exact V18.out | with_reducible refine Bk.drew ?_ | with_reducible refine Bk.drewN ?_ _ | with_reducible apply Bk.set1 | with_reducible apply Bk.set0 | with_reducible refine Bk.alloc ?_ _ | with_reducible exact Bk.new _ _ _ | with_reducible refine Bk.other ?_ (by first | omega | (simp; done) | (simp; omega)) _)⟩, ⟨by repeat (first | with_reducible exact V19.out | with_reducible refine Bk.drew ?_ | with_reducible refine Bk.drewN ?_ _ | with_reducible apply Bk.set1 | with_reducible apply Bk.set0 | with_reducible refine Bk.alloc ?_ _ | with_reducible exact Bk.new _ _ _ | with_reducible refine Bk.other ?_ (by first | omega | (simp; done) | (simp; omega)) _)⟩, ⟨by repeat (first | with_reducible exact V20.out | with_reducible refine Bk.drew ?_ | with_reducible refine Bk.drewN ?_ _ | with_reducible apply Bk.set1 | with_reducible apply Bk.set0 | with_reducible refine Bk.alloc ?_ _ | with_reducible exact Bk.new _ _ _ | with_reducible refine Bk.other ?_ (by first | omega | (simp; done) | (simp; omega)) _)⟩⟩
        · rcases IT.out with ⟨rfl, ex0⟩ | ⟨k, rfl, exk⟩
          · as_aux_lemma =>
            have z1 : (m1, m2) = (((3 : Int)), ((-3 : Int))) := by rw [EM.out, er]; rfl
            have z2 : (u1, u2) = (((6 : Int)), ((q : Int))) := by rw [EU.out, msk]
            have z3 : (p1, p2) = (((3 : Int)), ((-3 : Int))) := by rw [EP.out, er]; rfl
            cases z1; cases z2; cases z3
            clear EM EU EP er ex0 msk
            have c18 := V18.out.two
            have f18 := V18.out.frozen
            have l18 := V18.out.lt
            have c19 := V19.out.two
            have f19 := V19.out.frozen
            have l19 := V19.out.lt
            have c20 := V20.out.two
            have f20 := V20.out.frozen
            have l20 := V20.out.lt
            go_wp2_with fail
            refine (at_any _ _ _).mono ?_
            rintro e wd ⟨rfl, hbd⟩
            have hv18 := (show Bk _ (w8.heap.size + 1) #[.int .i64 (3), .int .i64 (-3)] 33 from by repeat (first | with_reducible exact V18.out | with_reducible refine Bk.drew ?_ | with_reducible refine Bk.drewN ?_ _ | with_reducible apply Bk.set1 | with_reducible apply Bk.set0 | with_reducible refine Bk.alloc ?_ _ | with_reducible exact Bk.new _ _ _ | with_reducible refine Bk.other ?_ (by first | omega | (simp; done) | (simp; omega)) _)).below hbd
            have hv19 := (show Bk _ (w8.heap.size + 1 + 1) #[.int .i64 (0), .int .i64 (0)] 33 from by repeat (first | with_reducible exact V19.out | with_reducible refine Bk.drew ?_ | with_reducible refine Bk.drewN ?_ _ | with_reducible apply Bk.set1 | with_reducible apply Bk.set0 | with_reducible refine Bk.alloc ?_ _ | with_reducible exact Bk.new _ _ _ | with_reducible refine Bk.other ?_ (by first | omega | (simp; done) | (simp; omega)) _)).below hbd
            have hv20 := (show Bk _ (w8.heap.size + 1 + 1 + 1) #[.int .i64 (3), .int .i64 (-3)] 33 from by repeat (first | with_reducible exact V20.out | with_reducible refine Bk.drew ?_ | with_reducible refine Bk.drewN ?_ _ | with_reducible apply Bk.set1 | with_reducible apply Bk.set0 | with_reducible refine Bk.alloc ?_ _ | with_reducible exact Bk.new _ _ _ | with_reducible refine Bk.other ?_ (by first | omega | (simp; done) | (simp; omega)) _)).below hbd
            have hxx := bl_then (show Below w8.heap.size w8 _ from by have := XB.out; repeat (first | exact Below.refl _ _ | assumption | refine bl_drew ?_ | refine bl_drewN ?_ _ | refine bl_alloc ?_ _ | refine Below.setCell ?_ (by first | exact Nat.le_refl _ | exact bl_size (by assumption) | omega | (simp; done) | (simp; omega)) _)) hbd
            clear c18 f18 l18 c19 f19 l19 c20 f20 l20 V18 V19 V20 XB
            have V18 := As.mk hv18
            have V19 := As.mk hv19
            have V20 := As.mk hv20
            have XB := As.mk hxx
            clear hv18 hv19 hv20 hxx hbd
            unfold Flt
            have c18 := V18.out.two
            have f18 := V18.out.frozen
            have l18 := V18.out.lt
            have c19 := V19.out.two
            have f19 := V19.out.frozen
            have l19 := V19.out.lt
            have c20 := V20.out.two
            have f20 := V20.out.frozen
            have l20 := V20.out.lt
            go_wp2_with fail
            go_meet
            case rel => exact ⟨⟨by have := XB.out; repeat (first | exact Below.refl _ _ | assumption | refine bl_drew ?_ | refine bl_drewN ?_ _ | refine bl_alloc ?_ _ | refine Below.setCell ?_ (by first | exact Nat.le_refl _ | exact bl_size (by assumption) | omega | (simp; done) | (simp; omega)) _)⟩, ⟨by repeat (first | with_reducible exact V18.out | with_reducible refine Bk.drew ?_ | with_reducible refine Bk.drewN ?_ _ | with_reducible apply Bk.set1 | with_reducible apply Bk.set0 | with_reducible refine Bk.alloc ?_ _ | with_reducible exact Bk.new _ _ _ | with_reducible refine Bk.other ?_ (by first | omega | (simp; done) | (simp; omega)) _)⟩, ⟨by repeat (first | with_reducible exact V19.out | with_reducible refine Bk.drew ?_ | with_reducible refine Bk.drewN ?_ _ | with_reducible apply Bk.set1 | with_reducible apply Bk.set0 | with_reducible refine Bk.alloc ?_ _ | with_reducible exact Bk.new _ _ _ | with_reducible refine Bk.other ?_ (by first | omega | (simp; done) | (simp; omega)) _)⟩, ⟨by repeat (first | with_reducible exact V20.out | with_reducible refine Bk.drew ?_ | with_reducible refine Bk.drewN ?_ _ | with_reducible apply Bk.set1 | with_reducible apply Bk.set0 | with_reducible refine Bk.alloc ?_ _ | with_reducible exact Bk.new _ _ _ | with_reducible refine Bk.other ?_ (by first | omega | (simp; done) | (simp; omega)) _)⟩⟩
          · as_aux_lemma =>
            have z1 : (m1, m2) = (((3 : Int)), ((-3 : Int))) := by rw [EM.out, er]; rfl
            have z2 : (u1, u2) = (((6 : Int)), ((q : Int))) := by rw [EU.out, msk]
            have z3 : (p1, p2) = (((3 : Int)), ((-3 : Int))) := by rw [EP.out, er]; rfl
            cases z1; cases z2; cases z3
            clear EM EU EP er exk msk
            have c18 := V18.out.two
            have f18 := V18.out.frozen
            have l18 := V18.out.lt
            have c19 := V19.out.two
            have f19 := V19.out.frozen
            have l19 := V19.out.lt
            have c20 := V20.out.two
            have f20 := V20.out.frozen
            have l20 := V20.out.lt
            go_wp2_with fail
            refine (at_any _ _ _).mono ?_
            rintro e wd ⟨rfl, hbd⟩
            have hv18 := (show Bk _ (w8.heap.size + 1) #[.int .i64 (3), .int .i64 (-3)] 33 from by repeat (first | with_reducible exact V18.out | with_reducible refine Bk.drew ?_ | with_reducible refine Bk.drewN ?_ _ | with_reducible apply Bk.set1 | with_reducible apply Bk.set0 | with_reducible refine Bk.alloc ?_ _ | with_reducible exact Bk.new _ _ _ | with_reducible refine Bk.other ?_ (by first | omega | (simp; done) | (simp; omega)) _)).below hbd
            have hv19 := (show Bk _ (w8.heap.size + 1 + 1) #[.int .i64 (0), .int .i64 (0)] 33 from by repeat (first | with_reducible exact V19.out | with_reducible refine Bk.drew ?_ | with_reducible refine Bk.drewN ?_ _ | with_reducible apply Bk.set1 | with_reducible apply Bk.set0 | with_reducible refine Bk.alloc ?_ _ | with_reducible exact Bk.new _ _ _ | with_reducible refine Bk.other ?_ (by first | omega | (simp; done) | (simp; omega)) _)).below hbd
            have hv20 := (show Bk _ (w8.heap.size + 1 + 1 + 1) #[.int .i64 (3), .int .i64 (-3)] 33 from by repeat (first | with_reducible exact V20.out | with_reducible refine Bk.drew ?_ | with_reducible refine Bk.drewN ?_ _ | with_reducible apply Bk.set1 | with_reducible apply Bk.set0 | with_reducible refine Bk.alloc ?_ _ | with_reducible exact Bk.new _ _ _ | with_reducible refine Bk.other ?_ (by first | omega | (simp; done) | (simp; omega)) _)).below hbd
            have hxx := bl_then (show Below w8.heap.size w8 _ from by have := XB.out; repeat (first | exact Below.refl _ _ | assumption | refine bl_drew ?_ | refine bl_drewN ?_ _ | refine bl_alloc ?_ _ | refine Below.setCell ?_ (by first | exact Nat.le_refl _ | exact bl_size (by assumption) | omega | (simp; done) | (simp; omega)) _)) hbd
            clear c18 f18 l18 c19 f19 l19 c20 f20 l20 V18 V19 V20 XB
            have V18 := As.mk hv18
            have V19 := As.mk hv19
            have V20 := As.mk hv20
            have XB := As.mk hxx
            clear hv18 hv19 hv20 hxx hbd
            unfold Flt
            have c18 := V18.out.two
            have f18 := V18.out.frozen
            have l18 := V18.out.lt
            have c19 := V19.out.two
            have f19 := V19.out.frozen
            have l19 := V19.out.lt
            have c20 := V20.out.two
            have f20 := V20.out.frozen
            have l20 := V20.out.lt
            go_wp2_with fail
            go_meet
            case rel => exact ⟨⟨by have := XB.out; repeat (first | exact Below.refl _ _ | assumption | refine bl_drew ?_ | refine bl_drewN ?_ _ | refine bl_alloc ?_ _ | refine Below.setCell ?_ (by first | exact Nat.le_refl _ | exact bl_size (by assumption) | omega | (simp; done) | (simp; omega)) _)⟩, ⟨by repeat (first | with_reducible exact V18.out | with_reducible refine Bk.drew ?_ | with_reducible refine Bk.drewN ?_ _ | with_reducible apply Bk.set1 | with_reducible apply Bk.set0 | with_reducible refine Bk.alloc ?_ _ | with_reducible exact Bk.new _ _ _ | with_reducible refine Bk.other ?_ (by first | omega | (simp; done) | (simp; omega)) _)⟩, ⟨by repeat (first | with_reducible exact V19.out | with_reducible refine Bk.drew ?_ | with_reducible refine Bk.drewN ?_ _ | with_reducible apply Bk.set1 | with_reducible apply Bk.set0 | with_reducible refine Bk.alloc ?_ _ | with_reducible exact Bk.new _ _ _ | with_reducible refine Bk.other ?_ (by first | omega | (simp; done) | (simp; omega)) _)⟩, ⟨by repeat (first | with_reducible exact V20.out | with_reducible refine Bk.drew ?_ | with_reducible refine Bk.drewN ?_ _ | with_reducible apply Bk.set1 | with_reducible apply Bk.set0 | with_reducible refine Bk.alloc ?_ _ | with_reducible exact Bk.new _ _ _ | with_reducible refine Bk.other ?_ (by first | omega | (simp; done) | (simp; omega)) _)⟩⟩
    · have hne : sp l a n ≠ (0, 0) := by rw [E7.out]; intro h; injection h; contradiction
      have q1 : (m1, m2) = (s1, s2) := by rw [← E4.out, ← E7.out]; unfold mf; rw [if_pos hne]
      have q2 : (u1, u2) = (s1, s2) := by rw [← E5.out, ← E7.out]; unfold uf; rw [if_pos hne]
      have q3 : (p1, p2) = (s1, s2) := by rw [← E6.out, ← E7.out]; unfold pf; rw [if_pos hne]
      have q4 : (b1, b2) = (s1, s2) := by rw [← E8.out]; unfold rff; rw [if_neg (by rw [← E7.out]; exact hne)]
      cases q1; cases q2; cases q3; cases q4
      go_wp2_with fail
      go_meet
      case rel => exact ⟨X9, T18, T19, T20⟩
  case rest =>
    obtain ⟨XC, R18, R19, R20⟩ := hcut
    have LM : ∀ (x : Value) (z : Int × Int), (z ≠ (0, 0) → x = .slice none 0 0) → z.1 ≠ 0 → x = .slice none 0 0 := fun x z h h2 => h (fun e => h2 (by rw [e]))
    have N4 : m1 ≠ 0 → v4 = .slice none 0 0 := fun h => NO4.out (by rw [E4.out]; intro e; injection e; contradiction)
    have N5 : u1 ≠ 0 → v5 = .slice none 0 0 := fun h => NO5.out (by rw [E5.out]; intro e; injection e; contradiction)
    have N6 : p1 ≠ 0 → v6 = .slice none 0 0 := fun h => NO6.out (by rw [E6.out]; intro e; injection e; contradiction)
    have HN := As.mk (And.intro N4 (And.intro N5 N6))
    clear LM N4 N5 N6
    have r11 := (A8.out.below XC.out).two
    have r13 := (C8.out.below XC.out).two
    have r15 := (D8.out.below XC.out).two
    have r18 := R18.out.two
    have r19 := R19.out.two
    have r20 := R20.out.two
    go_upto_region 23 with fail
    go_cut [157] (fun x wx => x = .bool false ∧ wx = wc)
    case first =>
      by_cases y1 : m1 = 0
      · by_cases y2 : u1 = 0
        · by_cases y3 : p1 = 0
          · as_aux_lemma =>
            subst y1
            subst y2
            subst y3
            go_wp2_with fail
            go_meet
            case rel => exact ⟨rfl, rfl⟩
          · as_aux_lemma =>
            subst y1
            subst y2
            have w3 := HN.out.2.2 y3
            subst w3
            have ya3 : (p1 == 0) = false := by simpa using y3
            have yb3 : (p1 != 0) = true := by simpa using y3
            go_wp2_with fail
            go_meet
            case rel => exact ⟨rfl, rfl⟩
        · by_cases y3 : p1 = 0
          · as_aux_lemma =>
            subst y1
            have w2 := HN.out.2.1 y2
            subst w2
            have ya2 : (u1 == 0) = false := by simpa using y2
            have yb2 : (u1 != 0) = true := by simpa using y2
            subst y3
            go_wp2_with fail
            go_meet
            case rel => exact ⟨rfl, rfl⟩
          · as_aux_lemma =>
            subst y1
            have w2 := HN.out.2.1 y2
            subst w2
            have ya2 : (u1 == 0) = false := by simpa using y2
            have yb2 : (u1 != 0) = true := by simpa using y2
            have w3 := HN.out.2.2 y3
            subst w3
            have ya3 : (p1 == 0) = false := by simpa using y3
            have yb3 : (p1 != 0) = true := by simpa using y3
            go_wp2_with fail
            go_meet
            case rel => exact ⟨rfl, rfl⟩
      · by_cases y2 : u1 = 0
        · by_cases y3 : p1 = 0
          · as_aux_lemma =>
            have w1 := HN.out.1 y1
            subst w1
            have ya1 : (m1 == 0) = false := by simpa using y1
            have yb1 : (m1 != 0) = true := by simpa using y1
            subst y2
            subst y3
            go_wp2_with fail
            go_meet
            case rel => exact ⟨rfl, rfl⟩
          · as_aux_lemma =>
            have w1 := HN.out.1 y1
            subst w1
            have ya1 : (m1 == 0) = false := by simpa using y1
            have yb1 : (m1 != 0) = true := by simpa using y1
            subst y2
            have w3 := HN.out.2.2 y3
            subst w3
            have ya3 : (p1 == 0) = false := by simpa using y3
            have yb3 : (p1 != 0) = true := by simpa using y3
            go_wp2_with fail
            go_meet
            case rel => exact ⟨rfl, rfl⟩
        · by_cases y3 : p1 = 0
          · as_aux_lemma =>
            have w1 := HN.out.1 y1
            subst w1
            have ya1 : (m1 == 0) = false := by simpa using y1
            have yb1 : (m1 != 0) = true := by simpa using y1
            have w2 := HN.out.2.1 y2
            subst w2
            have ya2 : (u1 == 0) = false := by simpa using y2
            have yb2 : (u1 != 0) = true := by simpa using y2
            subst y3
            go_wp2_with fail
            go_meet
            case rel => exact ⟨rfl, rfl⟩
          · as_aux_lemma =>
            have w1 := HN.out.1 y1
            subst w1
            have ya1 : (m1 == 0) = false := by simpa using y1
            have yb1 : (m1 != 0) = true := by simpa using y1
            have w2 := HN.out.2.1 y2
            subst w2
            have ya2 : (u1 == 0) = false := by simpa using y2
            have yb2 : (u1 != 0) = true := by simpa using y2
            have w3 := HN.out.2.2 y3
            subst w3
            have ya3 : (p1 == 0) = false := by simpa using y3
            have yb3 : (p1 != 0) = true := by simpa using y3
            go_wp2_with fail
            go_meet
            case rel => exact ⟨rfl, rfl⟩
    case rest =>
      obtain ⟨rfl, rfl⟩ := hcut
      clear r11 r13 r15 r18 r19 r20
      obtain ⟨A, c, rfl, hlc⟩ := id HM.out
      have hl2 := HM.out.len
      clear hlc
      have S9 := As.mk (S8.out.below XC.out)
      have BW : As (Below w.heap.size w wc) := ⟨bl_then B8.out XC.out⟩
      have s9 := S9.out.two
      have L7 : As (w7.heap.size < wc.heap.size) := ⟨S9.out.lt⟩
      by_cases hs : s1 = 0
      · obtain ⟨_, rfl⟩ : s1 = 0 ∧ s2 = 0 := by rcases hs12 with h | h; exact absurd hs h; exact h
        subst hs
        clear hs12
        have hspp : As (Ok l ∧ a % 256 = 0) ∧ 1 ≤ n ∧ n ≤ 200 ∧ 0 ≤ a ∧ a ≤ 1048576 - n * 256 := by
          rcases sp_cases l a n with ⟨_, hv, hq, h⟩ | ⟨c, i, hc, hc0, _⟩
          · exact ⟨⟨Ok.of hv, hq⟩, h⟩
          · rw [E7.out] at hc; injection hc; omega
        obtain ⟨KM, hn1, hn2, ha0, ha1⟩ := hspp
        go_wp2_with fail
        go_loopw [23, 24, 25, 26] (fun vx vy vz vi wr => R3Rel l (fun p => !inr a n p) (fun p => if inr a n p then ⟨p.a, r, p.d⟩ else p) w wc vx vy vz vi wr) (fun _ _ _ vi _ => (l.length - intOf vi).toNat)
        case atStart => exact ⟨0, rfl, by omega, ⟨R3.nil _ _ _⟩, ⟨Below.refl _ _⟩⟩
        case round =>
          obtain ⟨i, rfl, hil, HR, HB⟩ := hrel
          clear s9
          have s9 := (S9.out.below HB.out).two
          have l9 := (S9.out.below HB.out).lt
          by_cases hlt : i < l.length
          · as_aux_lemma =>
            have KX := As.mk (take_step hlt)
            have KY := As.mk (filt_step hlt (fun p => !inr a n p))
            have KZ := As.mk (map_step hlt (fun p => if inr a n p then ⟨p.a, r, p.d⟩ else p))
            obtain ⟨b, off, rfl, hP⟩ := HM.out.at i hlt
            obtain ⟨h1, h2, h3, h4, D, cd, h5, h6, h7⟩ := hP
            generalize hp : l[i] = p at *
            have HP1 : As (RowP w (fun _ => True) [.int .i64 p.a, .int .i64 p.r, .slice D p.d.length cd] [p]) := ⟨RowP.one h1 h2 h6 h7 (fun _ _ _ _ => trivial)⟩
            have HPI := As.mk (And.intro h1 (And.intro h2 (And.intro h6 h7)))
            have BWR : As (Below w.heap.size w wr) := ⟨bl_then BW.out HB.out⟩
            have k3 := bl_cell BWR.out h3
            have k4 := bl_cell BWR.out h4
            have k5 := bl_cell BWR.out h5
            clear h1 h2 h3 h4 h5 h6 h7 hp
            by_cases hin : inr a n p = true
            · as_aux_lemma =>
              have hi2 : inB p.a a (a + 256 * n - 1) = true := hin
              have RS1 := As.mk (fun o => (RS.start HR.out HB.out #[.int .i64 p.a, .int .i64 p.r, .slice D p.d.length cd]).below (bl_alloc (Below.refl _ _) o))
              have KY2 := As.mk (KY.out.trans (by rw [if_neg (by simp [hin]), List.append_nil]))
              have KZ2 := As.mk (KZ.out.trans (by rw [if_pos hin]))
              have HP2 : As (RowP w (fun _ => True) [.int .i64 p.a, .int .i64 r, .slice D p.d.length cd] [⟨p.a, r, p.d⟩]) := ⟨RowP.one (p := ⟨p.a, r, p.d⟩) HPI.out.1 hr HPI.out.2.2.1 HPI.out.2.2.2 (fun _ _ _ _ => trivial)⟩
              clear KY KZ hin
              go_wp2_with (first | (at_builtin; refine ap_rw (w := w) (W0 := wc) rfl (.tmp 168) (.tmp 170) rfl u23 (l.take i) p D cd _ 1 rfl rfl (Bk.new' _ _ (by simp)) (RS1.out _).r.x HP1.out (RS1.out _).b.size (by have := List.length_take_le i l; omega) ?_; intro va wa h1 hg hb; have RA := As.mk (RS.ap (RS1.out _) h1 hg hb).rot; have kkRA := RA.out.k.three; have kfRA := RA.out.k.frozen; have saRA := (S9.out.below RA.out.b).two; have laRA := RA.out.k.lt; clear h1 hg hb; have RS2 := As.mk (fun o => RA.out.below (bl_alloc (Below.refl _ _) o)); have RS3 := As.mk (fun o => ((RA.out.set HB.out.size (.int .i64 r)).below (bl_alloc (Below.refl _ _) o)).rot); have kk3 := (RA.out.set HB.out.size (.int .i64 r)).k.three) | (go_at_call 29; ((with_reducible refine (in_any _ _ _ _).mono ?_); rintro e w2 ⟨rfl, rfl⟩)) | (at_builtin; refine ap_rw (w := w) (W0 := wc) rfl (.tmp 193) (.tmp 195) rfl u25 ((l.take i).map (fun p => if inr a n p then ⟨p.a, r, p.d⟩ else p)) (⟨p.a, r, p.d⟩ : Pg) D cd _ 1 rfl rfl (Bk.new' _ _ (by simp)) (RS3.out _).r.x HP2.out (RS3.out _).b.size (by rw [List.length_map]; have := List.length_take_le i l; omega) ?_; intro vc wd h1 hg hb; have RC := As.mk (RS.ap (RS3.out _) h1 hg hb).rot; have kkRC := RC.out.k.three; have kfRC := RC.out.k.frozen; have saRC := (S9.out.below RC.out.b).two; have laRC := RC.out.k.lt; clear h1 hg hb))
              go_roundw
              case rel => exact ⟨i + 1, by go_num, by omega, ⟨by rw [KY2.out, KZ2.out, KX.out]; exact RC.out.r⟩, ⟨RC.out.b⟩⟩
              case measure => simp [intOf]; omega
            · as_aux_lemma =>
              have hi2 : inB p.a a (a + 256 * n - 1) = false := by have : ¬ inB p.a a (a + 256 * n - 1) = true := hin; simpa using this
              have RS1 := As.mk (fun o => (RS.start HR.out HB.out #[.int .i64 p.a, .int .i64 p.r, .slice D p.d.length cd]).below (bl_alloc (Below.refl _ _) o))
              have KY2 := As.mk (KY.out.trans (by rw [if_pos (by simp [hin])]))
              have KZ2 := As.mk (KZ.out.trans (by rw [if_neg hin]))
              clear KY KZ hin
              go_wp2_with (first | (at_builtin; refine ap_rw (w := w) (W0 := wc) rfl (.tmp 168) (.tmp 170) rfl u23 (l.take i) p D cd _ 1 rfl rfl (Bk.new' _ _ (by simp)) (RS1.out _).r.x HP1.out (RS1.out _).b.size (by have := List.length_take_le i l; omega) ?_; intro va wa h1 hg hb; have RA := As.mk (RS.ap (RS1.out _) h1 hg hb).rot; have kkRA := RA.out.k.three; have kfRA := RA.out.k.frozen; have saRA := (S9.out.below RA.out.b).two; have laRA := RA.out.k.lt; clear h1 hg hb; have RS2 := As.mk (fun o => RA.out.below (bl_alloc (Below.refl _ _) o))) | (go_at_call 29; ((with_reducible refine (in_any _ _ _ _).mono ?_); rintro e w2 ⟨rfl, rfl⟩)) | (at_builtin; refine ap_rw (w := w) (W0 := wc) rfl (.tmp 187) (.tmp 189) rfl u24 ((l.take i).filter (fun p => !inr a n p)) p D cd _ 1 rfl rfl (Bk.new' _ _ (by simp)) (RS2.out _).r.x HP1.out (RS2.out _).b.size (by have := filt_len l i (fun p => !inr a n p); omega) ?_; intro vb wb h1 hg hb; have RB := As.mk (RS.ap (RS2.out _) h1 hg hb).rot; have kkRB := RB.out.k.three; have kfRB := RB.out.k.frozen; have saRB := (S9.out.below RB.out.b).two; have laRB := RB.out.k.lt; clear h1 hg hb; have RS3 := As.mk (fun o => RB.out.below (bl_alloc (Below.refl _ _) o))) | (at_builtin; refine ap_rw (w := w) (W0 := wc) rfl (.tmp 193) (.tmp 195) rfl u25 ((l.take i).map (fun p => if inr a n p then ⟨p.a, r, p.d⟩ else p)) p D cd _ 1 rfl rfl (Bk.new' _ _ (by simp)) (RS3.out _).r.x HP1.out (RS3.out _).b.size (by rw [List.length_map]; have := List.length_take_le i l; omega) ?_; intro vc wd h1 hg hb; have RC := As.mk (RS.ap (RS3.out _) h1 hg hb).rot; have kkRC := RC.out.k.three; have kfRC := RC.out.k.frozen; have saRC := (S9.out.below RC.out.b).two; have laRC := RC.out.k.lt; clear h1 hg hb))
              go_roundw
              case rel => exact ⟨i + 1, by go_num, by omega, ⟨by rw [KY2.out, KZ2.out, KX.out]; exact RC.out.r⟩, ⟨RC.out.b⟩⟩
              case measure => simp [intOf]; omega
          · obtain rfl : i = l.length := by omega
            have HR2 : As (R3 w wc wr u23 u24 u25 l (l.filter (fun p => !inr a n p)) (l.map (fun p => if inr a n p then ⟨p.a, r, p.d⟩ else p))) := ⟨by have := HR.out; rwa [List.take_length] at this⟩
            have BWR : As (Below w.heap.size w wr) := ⟨bl_then BW.out HB.out⟩
            have hl200 := KM.out.1.len
            have VX : As (RdM wr u23 l) := ⟨HR2.out.x.rd BWR.out (by omega)⟩
            have VB2 : As (RdM wr u24 (l.filter (fun p => !inr a n p))) := ⟨HR2.out.y.rd BWR.out (by have := List.length_filter_le (fun p => !inr a n p) l; omega)⟩
            have VC2 : As (RdM wr u25 (l.map (fun p => if inr a n p then ⟨p.a, r, p.d⟩ else p))) := ⟨HR2.out.z.rd BWR.out (by rw [List.length_map]; omega)⟩
            have V18 := As.mk (R18.out.below HB.out)
            have V19 := As.mk (R19.out.below HB.out)
            have V20 := As.mk (R20.out.below HB.out)
            clear HR HR2 s9 l9 hlt hil
            by_cases y1 : m1 = 0
            · as_aux_lemma =>
              subst y1
              have hmz : mf l a n r = (0, 0) := code_zero E4.out (mf_c _ _ _ _) rfl
              obtain ⟨jj, ok, hsp, hr4⟩ := OK4.out hmz
              have HMZ := As.mk hmz
              have HSP := As.mk hsp
              have VA : As (RdM wr v4 (ins l jj a r n.toNat)) := ⟨((hr4.below X8.out).below XC.out).below HB.out⟩
              have hjl := hsp.1
              clear hsp hr4 hmz
              have c18 := V18.out.two
              go_wp2_with fail
              go_loopw [23, 28] (fun vx vi wx => NwRel l a r n jj wr vx vi wx) (fun _ vi _ => (n - intOf vi).toNat)
              case atStart => exact ⟨0, rfl, by omega, ⟨by rw [ins_zero]; exact VX.out⟩, ⟨Below.refl _ _⟩⟩
              case round =>
                obtain ⟨k, rfl, hkn, HX, HBX⟩ := hrel
                clear c18
                have c18 := (V18.out.below HBX.out).two
                have l18 := (V18.out.below HBX.out).lt
                by_cases hk : (k : Int) < n
                · as_aux_lemma =>
                  have hm256 := mk256
                  have hcm : (256 : Int) * (k : Int) = (k : Int) * 256 := by omega
                  have HI : As (I64 (a + (k : Int) * 256)) := ⟨mod256 ha0 (by omega) (by omega)⟩
                  have HL : As ((ins l jj a r k).length ≤ 1000000) := ⟨ins_len2 KM.out.1 hjl (by omega)⟩
                  go_wp2_with fail
                  refine (inserted_new _ _ _ _ _ _ (HX.out.alloc _) (Bk.new _ _ _) HI.out hr HL.out).mono ?_
                  rintro e w9 ⟨v9, q, rfl, hq, hq1, hq2, hr9, hb9⟩
                  have H9 : As (RdM w9 v9 (ins l jj a r (k + 1))) := ⟨by rw [← nw_step HMZ.out KM.out.1 KM.out.2 HSP.out hk hq hq1 hq2]; exact hr9⟩
                  have B9 := As.mk (bl_then HBX.out (bl_then (bl_alloc (Below.refl _ _) _) hb9))
                  clear hq hq1 hq2 hr9 hb9 hm256 hcm c18 l18
                  go_wp2
                  go_roundw
                  case rel => exact ⟨k + 1, by go_num, by omega, H9, B9⟩
                  case measure => simp [intOf]; omega
                · have VX2 := As.mk (show RdM _ _ (ins l jj a r n.toNat) from by rw [show n.toNat = k by omega]; exact HX.out)
                  clear c18 l18
                  by_cases y2 : u1 = 0
                  · subst y2
                    by_cases y3 : p1 = 0
                    · as_aux_lemma =>
                      subst y3
                      have hz5 := code_zero E5.out (uf_cases _ _ _) rfl
                      have VB1 := As.mk ((((unm_rd hz5 KM.out.1 HM.out.byt (OK5.out hz5)).below Y8.out).below XC.out).below HB.out)
                      clear hz5
                      have hz6 := code_zero E6.out (pf_c _ _ _ _) rfl
                      have VC1 := As.mk ((((pro_rd hz6 KM.out.1 HM.out.byt (OK6.out hz6)).below Z8.out).below XC.out).below HB.out)
                      clear hz6
                      have D0 := As.mk (HBX.out)
                      have d18 := (V18.out.below D0.out).two
                      have d19 := (V19.out.below D0.out).two
                      have d20 := (V20.out.below D0.out).two
                      have e18 := (V18.out.below D0.out).lt
                      have e19 := (V19.out.below D0.out).lt
                      have e20 := (V20.out.below D0.out).lt
                      go_wp2_with fail
                      refine (same_true _ _ _ _ (VA.out.below D0.out) VX2.out).mono ?_
                      rintro e wq0 ⟨rfl, hbq⟩
                      have D1 := As.mk (bl_then D0.out hbq)
                      clear hbq d18 d19 d20 e18 e19 e20
                      have d18 := (V18.out.below D1.out).two
                      have d19 := (V19.out.below D1.out).two
                      have d20 := (V20.out.below D1.out).two
                      have e18 := (V18.out.below D1.out).lt
                      have e19 := (V19.out.below D1.out).lt
                      have e20 := (V20.out.below D1.out).lt
                      go_wp2_with fail
                      refine (same_true _ _ _ _ (VB1.out.below D1.out) (VB2.out.below D1.out)).mono ?_
                      rintro e wq1 ⟨rfl, hbq⟩
                      have D2 := As.mk (bl_then D1.out hbq)
                      clear hbq d18 d19 d20 e18 e19 e20
                      have d18 := (V18.out.below D2.out).two
                      have d19 := (V19.out.below D2.out).two
                      have d20 := (V20.out.below D2.out).two
                      have e18 := (V18.out.below D2.out).lt
                      have e19 := (V19.out.below D2.out).lt
                      have e20 := (V20.out.below D2.out).lt
                      go_wp2_with fail
                      refine (same_true _ _ _ _ (VC1.out.below D2.out) (VC2.out.below D2.out)).mono ?_
                      rintro e wq2 ⟨rfl, hbq⟩
                      have D3 := As.mk (bl_then D2.out hbq)
                      clear hbq d18 d19 d20 e18 e19 e20
                      have d18 := (V18.out.below D3.out).two
                      have d19 := (V19.out.below D3.out).two
                      have d20 := (V20.out.below D3.out).two
                      have e18 := (V18.out.below D3.out).lt
                      have e19 := (V19.out.below D3.out).lt
                      have e20 := (V20.out.below D3.out).lt
                      go_wp2
                      go_ret
                      exact ⟨rfl, bl_then BWR.out D3.out⟩
                    · as_aux_lemma =>
                      have ya3 : (p1 == 0) = false := by simpa using y3
                      have yb3 : (p1 != 0) = true := by simpa using y3
                      have hz5 := code_zero E5.out (uf_cases _ _ _) rfl
                      have VB1 := As.mk ((((unm_rd hz5 KM.out.1 HM.out.byt (OK5.out hz5)).below Y8.out).below XC.out).below HB.out)
                      clear hz5
                      have D0 := As.mk (HBX.out)
                      have d18 := (V18.out.below D0.out).two
                      have d19 := (V19.out.below D0.out).two
                      have d20 := (V20.out.below D0.out).two
                      have e18 := (V18.out.below D0.out).lt
                      have e19 := (V19.out.below D0.out).lt
                      have e20 := (V20.out.below D0.out).lt
                      go_wp2_with fail
                      refine (same_true _ _ _ _ (VA.out.below D0.out) VX2.out).mono ?_
                      rintro e wq0 ⟨rfl, hbq⟩
                      have D1 := As.mk (bl_then D0.out hbq)
                      clear hbq d18 d19 d20 e18 e19 e20
                      have d18 := (V18.out.below D1.out).two
                      have d19 := (V19.out.below D1.out).two
                      have d20 := (V20.out.below D1.out).two
                      have e18 := (V18.out.below D1.out).lt
                      have e19 := (V19.out.below D1.out).lt
                      have e20 := (V20.out.below D1.out).lt
                      go_wp2_with fail
                      refine (same_true _ _ _ _ (VB1.out.below D1.out) (VB2.out.below D1.out)).mono ?_
                      rintro e wq1 ⟨rfl, hbq⟩
                      have D2 := As.mk (bl_then D1.out hbq)
                      clear hbq d18 d19 d20 e18 e19 e20
                      have d18 := (V18.out.below D2.out).two
                      have d19 := (V19.out.below D2.out).two
                      have d20 := (V20.out.below D2.out).two
                      have e18 := (V18.out.below D2.out).lt
                      have e19 := (V19.out.below D2.out).lt
                      have e20 := (V20.out.below D2.out).lt
                      go_wp2
                      go_ret
                      exact ⟨rfl, bl_then BWR.out D2.out⟩
                  · have ya2 : (u1 == 0) = false := by simpa using y2
                    have yb2 : (u1 != 0) = true := by simpa using y2
                    by_cases y3 : p1 = 0
                    · as_aux_lemma =>
                      subst y3
                      have hz6 := code_zero E6.out (pf_c _ _ _ _) rfl
                      have VC1 := As.mk ((((pro_rd hz6 KM.out.1 HM.out.byt (OK6.out hz6)).below Z8.out).below XC.out).below HB.out)
                      clear hz6
                      have D0 := As.mk (HBX.out)
                      have d18 := (V18.out.below D0.out).two
                      have d19 := (V19.out.below D0.out).two
                      have d20 := (V20.out.below D0.out).two
                      have e18 := (V18.out.below D0.out).lt
                      have e19 := (V19.out.below D0.out).lt
                      have e20 := (V20.out.below D0.out).lt
                      go_wp2_with fail
                      refine (same_true _ _ _ _ (VA.out.below D0.out) VX2.out).mono ?_
                      rintro e wq0 ⟨rfl, hbq⟩
                      have D1 := As.mk (bl_then D0.out hbq)
                      clear hbq d18 d19 d20 e18 e19 e20
                      have d18 := (V18.out.below D1.out).two
                      have d19 := (V19.out.below D1.out).two
                      have d20 := (V20.out.below D1.out).two
                      have e18 := (V18.out.below D1.out).lt
                      have e19 := (V19.out.below D1.out).lt
                      have e20 := (V20.out.below D1.out).lt
                      go_wp2_with fail
                      refine (same_true _ _ _ _ (VC1.out.below D1.out) (VC2.out.below D1.out)).mono ?_
                      rintro e wq1 ⟨rfl, hbq⟩
                      have D2 := As.mk (bl_then D1.out hbq)
                      clear hbq d18 d19 d20 e18 e19 e20
                      have d18 := (V18.out.below D2.out).two
                      have d19 := (V19.out.below D2.out).two
                      have d20 := (V20.out.below D2.out).two
                      have e18 := (V18.out.below D2.out).lt
                      have e19 := (V19.out.below D2.out).lt
                      have e20 := (V20.out.below D2.out).lt
                      go_wp2
                      go_ret
                      exact ⟨rfl, bl_then BWR.out D2.out⟩
                    · as_aux_lemma =>
                      have ya3 : (p1 == 0) = false := by simpa using y3
                      have yb3 : (p1 != 0) = true := by simpa using y3
                      have D0 := As.mk (HBX.out)
                      have d18 := (V18.out.below D0.out).two
                      have d19 := (V19.out.below D0.out).two
                      have d20 := (V20.out.below D0.out).two
                      have e18 := (V18.out.below D0.out).lt
                      have e19 := (V19.out.below D0.out).lt
                      have e20 := (V20.out.below D0.out).lt
                      go_wp2_with fail
                      refine (same_true _ _ _ _ (VA.out.below D0.out) VX2.out).mono ?_
                      rintro e wq0 ⟨rfl, hbq⟩
                      have D1 := As.mk (bl_then D0.out hbq)
                      clear hbq d18 d19 d20 e18 e19 e20
                      have d18 := (V18.out.below D1.out).two
                      have d19 := (V19.out.below D1.out).two
                      have d20 := (V20.out.below D1.out).two
                      have e18 := (V18.out.below D1.out).lt
                      have e19 := (V19.out.below D1.out).lt
                      have e20 := (V20.out.below D1.out).lt
                      go_wp2
                      go_ret
                      exact ⟨rfl, bl_then BWR.out D1.out⟩
            · have ya1 : (m1 == 0) = false := by simpa using y1
              have yb1 : (m1 != 0) = true := by simpa using y1
              by_cases y2 : u1 = 0
              · subst y2
                by_cases y3 : p1 = 0
                · as_aux_lemma =>
                  subst y3
                  have hz5 := code_zero E5.out (uf_cases _ _ _) rfl
                  have VB1 := As.mk ((((unm_rd hz5 KM.out.1 HM.out.byt (OK5.out hz5)).below Y8.out).below XC.out).below HB.out)
                  clear hz5
                  have hz6 := code_zero E6.out (pf_c _ _ _ _) rfl
                  have VC1 := As.mk ((((pro_rd hz6 KM.out.1 HM.out.byt (OK6.out hz6)).below Z8.out).below XC.out).below HB.out)
                  clear hz6
                  have D0 := As.mk (Below.refl wr.heap.size wr)
                  have d18 := (V18.out.below D0.out).two
                  have d19 := (V19.out.below D0.out).two
                  have d20 := (V20.out.below D0.out).two
                  have e18 := (V18.out.below D0.out).lt
                  have e19 := (V19.out.below D0.out).lt
                  have e20 := (V20.out.below D0.out).lt
                  go_wp2_with fail
                  refine wp_loop_rounds 1 ?_
                  go_wp2_with (rw [rounds_succ])
                  refine (same_true _ _ _ _ (VB1.out.below D0.out) (VB2.out.below D0.out)).mono ?_
                  rintro e wq0 ⟨rfl, hbq⟩
                  have D1 := As.mk (bl_then D0.out hbq)
                  clear hbq d18 d19 d20 e18 e19 e20
                  have d18 := (V18.out.below D1.out).two
                  have d19 := (V19.out.below D1.out).two
                  have d20 := (V20.out.below D1.out).two
                  have e18 := (V18.out.below D1.out).lt
                  have e19 := (V19.out.below D1.out).lt
                  have e20 := (V20.out.below D1.out).lt
                  go_wp2_with fail
                  refine (same_true _ _ _ _ (VC1.out.below D1.out) (VC2.out.below D1.out)).mono ?_
                  rintro e wq1 ⟨rfl, hbq⟩
                  have D2 := As.mk (bl_then D1.out hbq)
                  clear hbq d18 d19 d20 e18 e19 e20
                  have d18 := (V18.out.below D2.out).two
                  have d19 := (V19.out.below D2.out).two
                  have d20 := (V20.out.below D2.out).two
                  have e18 := (V18.out.below D2.out).lt
                  have e19 := (V19.out.below D2.out).lt
                  have e20 := (V20.out.below D2.out).lt
                  go_wp2
                  go_ret
                  exact ⟨rfl, bl_then BWR.out D2.out⟩
                · as_aux_lemma =>
                  have ya3 : (p1 == 0) = false := by simpa using y3
                  have yb3 : (p1 != 0) = true := by simpa using y3
                  have hz5 := code_zero E5.out (uf_cases _ _ _) rfl
                  have VB1 := As.mk ((((unm_rd hz5 KM.out.1 HM.out.byt (OK5.out hz5)).below Y8.out).below XC.out).below HB.out)
                  clear hz5
                  have D0 := As.mk (Below.refl wr.heap.size wr)
                  have d18 := (V18.out.below D0.out).two
                  have d19 := (V19.out.below D0.out).two
                  have d20 := (V20.out.below D0.out).two
                  have e18 := (V18.out.below D0.out).lt
                  have e19 := (V19.out.below D0.out).lt
                  have e20 := (V20.out.below D0.out).lt
                  go_wp2_with fail
                  refine wp_loop_rounds 1 ?_
                  go_wp2_with (rw [rounds_succ])
                  refine (same_true _ _ _ _ (VB1.out.below D0.out) (VB2.out.below D0.out)).mono ?_
                  rintro e wq0 ⟨rfl, hbq⟩
                  have D1 := As.mk (bl_then D0.out hbq)
                  clear hbq d18 d19 d20 e18 e19 e20
                  have d18 := (V18.out.below D1.out).two
                  have d19 := (V19.out.below D1.out).two
                  have d20 := (V20.out.below D1.out).two
                  have e18 := (V18.out.below D1.out).lt
                  have e19 := (V19.out.below D1.out).lt
                  have e20 := (V20.out.below D1.out).lt
                  go_wp2
                  go_ret
                  exact ⟨rfl, bl_then BWR.out D1.out⟩
              · have ya2 : (u1 == 0) = false := by simpa using y2
                have yb2 : (u1 != 0) = true := by simpa using y2
                by_cases y3 : p1 = 0
                · as_aux_lemma =>
                  subst y3
                  have hz6 := code_zero E6.out (pf_c _ _ _ _) rfl
                  have VC1 := As.mk ((((pro_rd hz6 KM.out.1 HM.out.byt (OK6.out hz6)).below Z8.out).below XC.out).below HB.out)
                  clear hz6
                  have D0 := As.mk (Below.refl wr.heap.size wr)
                  have d18 := (V18.out.below D0.out).two
                  have d19 := (V19.out.below D0.out).two
                  have d20 := (V20.out.below D0.out).two
                  have e18 := (V18.out.below D0.out).lt
                  have e19 := (V19.out.below D0.out).lt
                  have e20 := (V20.out.below D0.out).lt
                  go_wp2_with fail
                  refine wp_loop_rounds 1 ?_
                  go_wp2_with (rw [rounds_succ])
                  refine (same_true _ _ _ _ (VC1.out.below D0.out) (VC2.out.below D0.out)).mono ?_
                  rintro e wq0 ⟨rfl, hbq⟩
                  have D1 := As.mk (bl_then D0.out hbq)
                  clear hbq d18 d19 d20 e18 e19 e20
                  have d18 := (V18.out.below D1.out).two
                  have d19 := (V19.out.below D1.out).two
                  have d20 := (V20.out.below D1.out).two
                  have e18 := (V18.out.below D1.out).lt
                  have e19 := (V19.out.below D1.out).lt
                  have e20 := (V20.out.below D1.out).lt
                  go_wp2
                  go_ret
                  exact ⟨rfl, bl_then BWR.out D1.out⟩
                · as_aux_lemma =>
                  have ya3 : (p1 == 0) = false := by simpa using y3
                  have yb3 : (p1 != 0) = true := by simpa using y3
                  have D0 := As.mk (Below.refl wr.heap.size wr)
                  have d18 := (V18.out.below D0.out).two
                  have d19 := (V19.out.below D0.out).two
                  have d20 := (V20.out.below D0.out).two
                  have e18 := (V18.out.below D0.out).lt
                  have e19 := (V19.out.below D0.out).lt
                  have e20 := (V20.out.below D0.out).lt
                  go_wp2_with fail
                  refine wp_loop_rounds 1 ?_
                  go_wp2_with (rw [rounds_succ])
                  go_ret
                  exact ⟨rfl, bl_then BWR.out D0.out⟩
      · have hsb : (s1 != 0) = true := by simpa using hs
        have hsa : (s1 == 0) = false := by simpa using hs
        go_wp2_with fail
        go_loopw [23, 24, 25, 26] (fun vx vy vz vi wr => R3Rel l (fun _ => true) (fun p => p) w wc vx vy vz vi wr) (fun _ _ _ vi _ => (l.length - intOf vi).toNat)
        case atStart => exact ⟨0, rfl, by omega, ⟨R3.nil _ _ _⟩, ⟨Below.refl _ _⟩⟩
        case round =>
          obtain ⟨i, rfl, hil, HR, HB⟩ := hrel
          clear s9
          have s9 := (S9.out.below HB.out).two
          have l9 := (S9.out.below HB.out).lt
          by_cases hlt : i < l.length
          · as_aux_lemma =>
            have KX := As.mk (take_step hlt)
            have KY := As.mk (filt_step hlt (fun _ => true))
            have KZ := As.mk (map_step hlt (fun p => p))
            obtain ⟨b, off, rfl, hP⟩ := HM.out.at i hlt
            obtain ⟨h1, h2, h3, h4, D, cd, h5, h6, h7⟩ := hP
            generalize hp : l[i] = p at *
            have HP1 : As (RowP w (fun _ => True) [.int .i64 p.a, .int .i64 p.r, .slice D p.d.length cd] [p]) := ⟨RowP.one h1 h2 h6 h7 (fun _ _ _ _ => trivial)⟩
            have HPI := As.mk (And.intro h1 (And.intro h2 (And.intro h6 h7)))
            have BWR : As (Below w.heap.size w wr) := ⟨bl_then BW.out HB.out⟩
            have k3 := bl_cell BWR.out h3
            have k4 := bl_cell BWR.out h4
            have k5 := bl_cell BWR.out h5
            clear h1 h2 h3 h4 h5 h6 h7 hp
            have RS1 := As.mk (fun o => (RS.start HR.out HB.out #[.int .i64 p.a, .int .i64 p.r, .slice D p.d.length cd]).below (bl_alloc (Below.refl _ _) o))
            have KY2 := As.mk (KY.out.trans (by rw [if_pos (by rfl)]))
            have KZ2 := KZ
            clear KY KZ
            go_wp2_with (first | (at_builtin; refine ap_rw (w := w) (W0 := wc) rfl (.tmp 168) (.tmp 170) rfl u23 (l.take i) p D cd _ 1 rfl rfl (Bk.new' _ _ (by simp)) (RS1.out _).r.x HP1.out (RS1.out _).b.size (by have := List.length_take_le i l; omega) ?_; intro va wa h1 hg hb; have RA := As.mk (RS.ap (RS1.out _) h1 hg hb).rot; have kkRA := RA.out.k.three; have kfRA := RA.out.k.frozen; have saRA := (S9.out.below RA.out.b).two; have laRA := RA.out.k.lt; clear h1 hg hb; have RS2 := As.mk (fun o => RA.out.below (bl_alloc (Below.refl _ _) o))) | (go_at_call 29; ((with_reducible refine (in_any _ _ _ _).mono ?_); rintro e w2 ⟨rfl, rfl⟩)) | (at_builtin; refine ap_rw (w := w) (W0 := wc) rfl (.tmp 187) (.tmp 189) rfl u24 ((l.take i).filter (fun _ => true)) p D cd _ 1 rfl rfl (Bk.new' _ _ (by simp)) (RS2.out _).r.x HP1.out (RS2.out _).b.size (by have := filt_len l i (fun _ => true); omega) ?_; intro vb wb h1 hg hb; have RB := As.mk (RS.ap (RS2.out _) h1 hg hb).rot; have kkRB := RB.out.k.three; have kfRB := RB.out.k.frozen; have saRB := (S9.out.below RB.out.b).two; have laRB := RB.out.k.lt; clear h1 hg hb; have RS3 := As.mk (fun o => RB.out.below (bl_alloc (Below.refl _ _) o))) | (at_builtin; refine ap_rw (w := w) (W0 := wc) rfl (.tmp 193) (.tmp 195) rfl u25 ((l.take i).map (fun p => p)) p D cd _ 1 rfl rfl (Bk.new' _ _ (by simp)) (RS3.out _).r.x HP1.out (RS3.out _).b.size (by rw [List.length_map]; have := List.length_take_le i l; omega) ?_; intro vc wd h1 hg hb; have RC := As.mk (RS.ap (RS3.out _) h1 hg hb).rot; have kkRC := RC.out.k.three; have kfRC := RC.out.k.frozen; have saRC := (S9.out.below RC.out.b).two; have laRC := RC.out.k.lt; clear h1 hg hb))
            go_roundw
            case rel => exact ⟨i + 1, by go_num, by omega, ⟨by rw [KY2.out, KZ2.out, KX.out]; exact RC.out.r⟩, ⟨RC.out.b⟩⟩
            case measure => simp [intOf]; omega
          · have BWR : As (Below w.heap.size w wr) := ⟨bl_then BW.out HB.out⟩
            have V18 := As.mk (R18.out.below HB.out)
            have V19 := As.mk (R19.out.below HB.out)
            have V20 := As.mk (R20.out.below HB.out)
            clear HR s9 l9
            have hne : sp l a n ≠ (0, 0) := by rw [E7.out]; intro h; injection h; contradiction
            have q1 : (m1, m2) = (s1, s2) := by rw [← E4.out, ← E7.out]; unfold mf; rw [if_pos hne]
            have q2 : (u1, u2) = (s1, s2) := by rw [← E5.out, ← E7.out]; unfold uf; rw [if_pos hne]
            have q3 : (p1, p2) = (s1, s2) := by rw [← E6.out, ← E7.out]; unfold pf; rw [if_pos hne]
            have q4 : (b1, b2) = (s1, s2) := by rw [← E8.out]; unfold rff; rw [if_neg (by rw [← E7.out]; exact hne)]
            cases q1; cases q2; cases q3; cases q4
            clear hne
            by_cases hnp : 0 < n
            · as_aux_lemma =>
              have D0 := As.mk (Below.refl wr.heap.size wr)
              have d18 := (V18.out.below D0.out).two
              have d19 := (V19.out.below D0.out).two
              have d20 := (V20.out.below D0.out).two
              have e18 := (V18.out.below D0.out).lt
              have e19 := (V19.out.below D0.out).lt
              have e20 := (V20.out.below D0.out).lt
              go_wp2_with fail
              refine wp_loop_rounds 1 ?_
              go_wp2_with (rw [rounds_succ])
              go_ret
              exact ⟨rfl, bl_then BWR.out D0.out⟩
            · as_aux_lemma =>
              have D0 := As.mk (Below.refl wr.heap.size wr)
              have d18 := (V18.out.below D0.out).two
              have d19 := (V19.out.below D0.out).two
              have d20 := (V20.out.below D0.out).two
              have e18 := (V18.out.below D0.out).lt
              have e19 := (V19.out.below D0.out).lt
              have e20 := (V20.out.below D0.out).lt
              go_wp2_with fail
              refine wp_loop_rounds 1 ?_
              go_wp2_with (rw [rounds_succ])
              go_ret
              exact ⟨rfl, bl_then BWR.out D0.out⟩
end Go.Proofs.Ytbbhkjljiljadaa
