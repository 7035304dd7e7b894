/- memoryExample of the laws. No condition. -/
import Derived.Test.YtbbhkjljiljadaaM29
namespace Go.Proofs.Ytbbhkjljiljadaa
open Go.RowKit
set_option linter.unusedVariables false
set_option linter.unusedSimpArgs false
attribute [local go_sem ↓] Go.wp_at_zero Go.wp_at_succ
set_option maxHeartbeats 16000000 in
set_option maxRecDepth 100000 in
theorem example_any (w : World) : Calls Try.prog 31 #[] w (BPost true w) := by
  go_enter Try.func31, Try.ntmps31
  go_wp2_with fail
  refine (map_any (.slice none 0 0) [] 512 1 3 w ⟨none, 0, rfl, by simp, by simp, by simp⟩ (by unfold I64; omega) (by unfold I64; omega) (by unfold I64; omega)).mono ?_
  rintro e w1 ⟨v1, rfl, hb1, _, hr1⟩
  obtain ⟨i1, ok1, hs1, hm1⟩ := hr1 e1
  have hm1 : RdM w1 v1 P1 := by
    have e : ([] : List Pg).take i1 ++ newP 512 3 (1 : Int).toNat ++ ([] : List Pg).drop i1 = P1 := by rw [List.take_nil, List.drop_nil, List.nil_append, List.append_nil]; rfl
    rw [e] at hm1
    exact hm1
  rw [e1]
  unfold Flt
  have M1 := As.mk hm1
  have B1 := As.mk hb1
  clear hr1 hs1 hm1 hb1
  -- write
  go_wp2_with fail
  refine (write_any v1 P1 515 (some ⟨w1.heap.size + 1, 0, none⟩) 2 [7, 8] 2 _ (M1.out.below (by repeat (first | exact Below.refl _ _ | assumption | refine bl_drew ?_ | refine bl_drewN ?_ _ | refine bl_alloc ?_ _ | refine Below.setCell ?_ (by first | exact Nat.le_refl _ | exact bl_size (by assumption) | omega | simp) _))) (RdB.of2 (by omega) (by omega) (by repeat (first | with_reducible exact (Bk.new' _ _ (by simp)) | with_reducible refine Bk.drew ?_ | with_reducible refine Bk.drewN ?_ _ | with_reducible apply Bk.set1 | with_reducible apply Bk.set0 | with_reducible refine Bk.alloc ?_ _ | with_reducible exact Bk.new _ _ _ | with_reducible refine Bk.other ?_ (by first | omega | (simp; omega)) _))) (by unfold I64; omega)).mono ?_
  rintro e w2 ⟨v2, rfl, hb2, -, ho2⟩
  replace ho2 := ho2 e2
  rw [e2]
  unfold Flt
  have hx2 : Below w1.heap.size w1 w2 := bl_then (show Below w1.heap.size w1 _ from by repeat (first | exact Below.refl _ _ | assumption | refine bl_drew ?_ | refine bl_drewN ?_ _ | refine bl_alloc ?_ _ | refine Below.setCell ?_ (by first | exact Nat.le_refl _ | exact bl_size (by assumption) | omega | simp) _)) hb2
  have F1 := As.mk ((show Bk _ w1.heap.size #[.int .i64 0, .int .i64 0] 33 from by repeat (first | with_reducible exact (Bk.new _ _ _) | with_reducible refine Bk.drew ?_ | with_reducible refine Bk.drewN ?_ _ | with_reducible apply Bk.set1 | with_reducible apply Bk.set0 | with_reducible refine Bk.alloc ?_ _ | with_reducible exact Bk.new _ _ _ | with_reducible refine Bk.other ?_ (by first | omega | (simp; omega)) _)).below hb2)
  have B2 := As.mk (bl_then B1.out hx2)
  have N1 := As.mk (M1.out.below hx2)
  have M2 : As (RdM w2 v2 P2) := ⟨own_rd P2_ok P2_byt ho2⟩
  have hlt12 := F1.out.lt
  clear hx2 hb2 ho2 M1 B1
  -- read
  go_wp2_with fail
  refine (read_any v2 P2 514 3 1 _ (M2.out.below (by repeat (first | exact Below.refl _ _ | assumption | refine bl_drew ?_ | refine bl_drewN ?_ _ | refine bl_alloc ?_ _ | refine Below.setCell ?_ (by first | exact Nat.le_refl _ | exact bl_size (by assumption) | omega | simp) _))) (by unfold I64; omega) (by unfold I64; omega)).mono ?_
  rintro e w3 ⟨v3, rfl, hb3, -, ho3⟩
  replace ho3 := ho3 e3
  rw [e3]
  unfold Flt
  have hx3 : Below w2.heap.size w2 w3 := bl_then (show Below w2.heap.size w2 _ from by repeat (first | exact Below.refl _ _ | assumption | refine bl_drew ?_ | refine bl_drewN ?_ _ | refine bl_alloc ?_ _ | refine Below.setCell ?_ (by first | exact Nat.le_refl _ | exact bl_size (by assumption) | omega | simp) _)) hb3
  have G1 := As.mk (F1.out.below hx3)
  have F2 := As.mk ((Bk.new w2 #[.int .i64 0, .int .i64 0] 33).below hb3)
  have B3 := As.mk (bl_then B2.out hx3)
  have M1 := As.mk (N1.out.below hx3)
  have R3 : As (∃ A c, v3 = .slice A 3 c ∧ RdB w3 A 3 [0, 7, 8]) := ⟨by
    have hq : ((List.range (3 : Int).toNat).map fun k : Nat => Value.int .u8 (byte P2 (514 + (k : Int)))) = ([0, 7, 8] : List Int).map (Value.int .u8) := by
      have h1 := e3b.1
      have h2 := e3b.2.1
      have h3 := e3b.2.2
      rw [← h1, ← h2, ← h3]
      rfl
    rw [hq] at ho3
    exact RdB.own (n := 3) ho3 (by intro x hx; simp at hx; omega) (by omega)⟩
  clear hx3 hb3 ho3 M2 B2 N1 F1
  -- protect
  go_wp2_with fail
  refine (protect_any v1 P1 512 1 1 _ (M1.out.below (by repeat (first | exact Below.refl _ _ | assumption | refine bl_drew ?_ | refine bl_drewN ?_ _ | refine bl_alloc ?_ _ | refine Below.setCell ?_ (by first | exact Nat.le_refl _ | exact bl_size (by assumption) | omega | simp) _))) (by unfold I64; omega) (by unfold I64; omega) (by unfold I64; omega)).mono ?_
  rintro e w4 ⟨v4, rfl, hb4, -, ho4⟩
  replace ho4 := ho4 e4
  rw [e4]
  unfold Flt
  have hx4 : Below w3.heap.size w3 w4 := bl_then (show Below w3.heap.size w3 _ from by repeat (first | exact Below.refl _ _ | assumption | refine bl_drew ?_ | refine bl_drewN ?_ _ | refine bl_alloc ?_ _ | refine Below.setCell ?_ (by first | exact Nat.le_refl _ | exact bl_size (by assumption) | omega | simp) _)) hb4
  have F1 := As.mk (G1.out.below hx4)
  have G2 := As.mk (F2.out.below hx4)
  have F3 := As.mk ((Bk.new w3 #[.int .i64 0, .int .i64 0] 33).below hb4)
  have B4 := As.mk (bl_then B3.out hx4)
  have N1 := As.mk (M1.out.below hx4)
  have R4 : As (∃ A c, v3 = .slice A 3 c ∧ RdB w4 A 3 [0, 7, 8]) := ⟨by obtain ⟨A, c, h1, h2⟩ := R3.out; exact ⟨A, c, h1, h2.below hx4⟩⟩
  have M4 : As (RdM w4 v4 P4) := ⟨own_rd (Ok.of P4_vf) P4_byt ho4⟩
  clear hx4 hb4 ho4 B3 M1 G1 F2 R3
  -- write, refused
  go_wp2_with fail
  refine (write_any v4 P4 512 (some ⟨w4.heap.size + 1, 0, none⟩) 1 [1] 2 _ (M4.out.below (by repeat (first | exact Below.refl _ _ | assumption | refine bl_drew ?_ | refine bl_drewN ?_ _ | refine bl_alloc ?_ _ | refine Below.setCell ?_ (by first | exact Nat.le_refl _ | exact bl_size (by assumption) | omega | simp) _))) (RdB.of1 (by omega) (by repeat (first | with_reducible exact (Bk.new' _ _ (by simp)) | with_reducible refine Bk.drew ?_ | with_reducible refine Bk.drewN ?_ _ | with_reducible apply Bk.set1 | with_reducible apply Bk.set0 | with_reducible refine Bk.alloc ?_ _ | with_reducible exact Bk.new _ _ _ | with_reducible refine Bk.other ?_ (by first | omega | (simp; omega)) _))) (by unfold I64; omega)).mono ?_
  rintro e w5 ⟨v5, rfl, hb5, -, -⟩
  rw [e5]
  unfold Flt
  have hx5 : Below w4.heap.size w4 w5 := bl_then (show Below w4.heap.size w4 _ from by repeat (first | exact Below.refl _ _ | assumption | refine bl_drew ?_ | refine bl_drewN ?_ _ | refine bl_alloc ?_ _ | refine Below.setCell ?_ (by first | exact Nat.le_refl _ | exact bl_size (by assumption) | omega | simp) _)) hb5
  have G1 := As.mk (F1.out.below hx5)
  have F2 := As.mk (G2.out.below hx5)
  have G3 := As.mk (F3.out.below hx5)
  have F4 := As.mk ((show Bk _ w4.heap.size #[.int .i64 0, .int .i64 0] 33 from by repeat (first | with_reducible exact (Bk.new _ _ _) | with_reducible refine Bk.drew ?_ | with_reducible refine Bk.drewN ?_ _ | with_reducible apply Bk.set1 | with_reducible apply Bk.set0 | with_reducible refine Bk.alloc ?_ _ | with_reducible exact Bk.new _ _ _ | with_reducible refine Bk.other ?_ (by first | omega | (simp; omega)) _)).below hb5)
  have B5 := As.mk (bl_then B4.out hx5)
  have M1 := As.mk (N1.out.below hx5)
  have R5 : As (∃ A c, v3 = .slice A 3 c ∧ RdB w5 A 3 [0, 7, 8]) := ⟨by obtain ⟨A, c, h1, h2⟩ := R4.out; exact ⟨A, c, h1, h2.below hx5⟩⟩
  clear hx5 hb5 B4 N1 F1 G2 F3 M4 R4
  -- unmap
  go_wp2_with fail
  refine (unmap_any v1 P1 512 1 _ (M1.out.below (by repeat (first | exact Below.refl _ _ | assumption | refine bl_drew ?_ | refine bl_drewN ?_ _ | refine bl_alloc ?_ _ | refine Below.setCell ?_ (by first | exact Nat.le_refl _ | exact bl_size (by assumption) | omega | simp) _))) (by unfold I64; omega) (by unfold I64; omega)).mono ?_
  rintro e w6 ⟨v6, rfl, hb6, -, ho6⟩
  replace ho6 := ho6 e6
  rw [e6]
  unfold Flt
  have hx6 : Below w5.heap.size w5 w6 := bl_then (show Below w5.heap.size w5 _ from by repeat (first | exact Below.refl _ _ | assumption | refine bl_drew ?_ | refine bl_drewN ?_ _ | refine bl_alloc ?_ _ | refine Below.setCell ?_ (by first | exact Nat.le_refl _ | exact bl_size (by assumption) | omega | simp) _)) hb6
  have F1 := As.mk (G1.out.below hx6)
  have G2 := As.mk (F2.out.below hx6)
  have F3 := As.mk (G3.out.below hx6)
  have G4 := As.mk (F4.out.below hx6)
  have F5 := As.mk ((Bk.new w5 #[.int .i64 18, .int .i64 0] 33).below hb6)
  have B6 := As.mk (bl_then B5.out hx6)
  have N1 := As.mk (M1.out.below hx6)
  have R6 : As (∃ A c, v3 = .slice A 3 c ∧ RdB w6 A 3 [0, 7, 8]) := ⟨by obtain ⟨A, c, h1, h2⟩ := R5.out; exact ⟨A, c, h1, h2.below hx6⟩⟩
  have U6 : ∃ A c, v6 = .slice A 0 c := by
    obtain ⟨i, _, hi, ho⟩ := ho6
    have hi0 : i = 0 := by have := P1_len; have e : (1 : Int).toNat = 1 := rfl; omega
    subst hi0
    have hd : P1.take 0 ++ P1.drop (0 + (1 : Int).toNat) = [] := by
      rw [List.take_zero, List.nil_append]
      exact List.drop_of_length_le (by rw [P1_len]; decide)
    rw [hd] at ho
    rcases ho with ⟨_, A, c, h, _⟩ | ⟨w0, g, cap, cur, D, C, dc, e0, hp⟩
    · exact ⟨A, c, h⟩
    · exact ⟨_, _, e0⟩
  obtain ⟨A6, c6, rfl⟩ := U6
  obtain ⟨A3, c3, rfl, hr3⟩ := R6.out
  have HR3 := As.mk hr3
  clear hx6 hb6 ho6 B5 M1 G1 F2 G3 F4 R5 R6 hr3
  go_wp2
  have hW : As (Below w6.heap.size w6 (w6.alloc (.cells #[.int .i64 0, .int .i64 0] 33)).drew) := ⟨bl_drew (bl_alloc (Below.refl _ _) _)⟩
  have hS0 : ((w6.alloc (.cells #[.int .i64 0, .int .i64 0] 33)).drew.cell? ⟨w1.heap.size, 0, none⟩ = some (.int .i64 0) ∧ (w6.alloc (.cells #[.int .i64 0, .int .i64 0] 33)).drew.cell? ⟨w2.heap.size, 0, none⟩ = some (.int .i64 0) ∧ (w6.alloc (.cells #[.int .i64 0, .int .i64 0] 33)).drew.cell? ⟨w3.heap.size, 0, none⟩ = some (.int .i64 0) ∧ (w6.alloc (.cells #[.int .i64 0, .int .i64 0] 33)).drew.cell? ⟨w4.heap.size, 0, none⟩ = some (.int .i64 0) ∧ ((w6.alloc (.cells #[.int .i64 0, .int .i64 0] 33)).drew.cell? ⟨w5.heap.size, 0, none⟩ = some (.int .i64 18) ∧ (w6.alloc (.cells #[.int .i64 0, .int .i64 0] 33)).drew.cell? ⟨w5.heap.size, 1, none⟩ = some (.int .i64 0)) ∧ (w6.alloc (.cells #[.int .i64 0, .int .i64 0] 33)).drew.cell? ⟨w6.heap.size, 0, none⟩ = some (.int .i64 0)) :=
    ⟨((F1.out.alloc _).drew).cell 0, ((G2.out.alloc _).drew).cell 0, ((F3.out.alloc _).drew).cell 0, ((G4.out.alloc _).drew).cell 0, ⟨((F5.out.alloc _).drew).cell 0, ((F5.out.alloc _).drew).cell 1⟩, ((Bk.new w6 #[.int .i64 0, .int .i64 0] 33).drew).cell 0⟩
  clear F1 G2 F3 G4 F5
  have hfld : ∀ w, (Instr.field 33 (.agg #[.int .i64 0, .int .i64 0]) 0).run Try.prog w = .ok (.int .i64 0) w := fun _ => by kernel_rfl
  go_region_held3 (fun w' => w'.cell? ⟨w1.heap.size, 0, none⟩ = some (.int .i64 0) ∧ w'.cell? ⟨w2.heap.size, 0, none⟩ = some (.int .i64 0) ∧ w'.cell? ⟨w3.heap.size, 0, none⟩ = some (.int .i64 0) ∧ w'.cell? ⟨w4.heap.size, 0, none⟩ = some (.int .i64 0) ∧ (w'.cell? ⟨w5.heap.size, 0, none⟩ = some (.int .i64 18) ∧ w'.cell? ⟨w5.heap.size, 1, none⟩ = some (.int .i64 0)) ∧ w'.cell? ⟨w6.heap.size, 0, none⟩ = some (.int .i64 0))
    (first | exact hS0 | (refine keep7 HA.out ?_; assumption) | (refine keep7 HB.out ?_; assumption) | (refine keep7 HC.out ?_; assumption) | (refine keep7 HD.out ?_; assumption) | (refine keep7 HE.out ?_; assumption) | (refine keep7 (bl_alloc (Below.refl _ _) _) ?_; assumption))
    (first | (go_at_call 46; ((with_reducible refine (page_any _).mono ?_); rintro e wA ⟨vA, rfl, hmA, hbA⟩; have MA := As.mk hmA; have HA := As.mk hbA; have CA := As.mk (bl_then hW.out hbA); clear hmA hbA)) | (go_at_call 23; ((with_reducible refine (same_any v1 vA P1 P1 _ (N1.out.below CA.out) MA.out).mono ?_); rintro e wB ⟨b, rfl, hbt, hbB⟩; obtain rfl : b = true := hbt.2 rfl; have HB := As.mk hbB; have CB := As.mk (bl_then CA.out hbB); clear hbB hbt)) | (go_at_call 45; ((with_reducible refine (sameb_any A3 _ 3 3 c3 3 [0, 7, 8] [0, 7, 8] _ ((HR3.out.below CB.out).below (bl_alloc (Below.refl _ _) _)) (RdB.of3 (by omega) (by omega) (by omega) (Bk.new _ _ _))).mono ?_); rintro e wC ⟨b, rfl, hbt, hbC⟩; obtain rfl : b = true := hbt.2 rfl; have HC := As.mk hbC; have CC := As.mk (bl_then (bl_alloc CB.out _) hbC); clear hbC hbt)) | (go_at_call 19; ((with_reducible refine (at_any _ _ _).mono ?_); rintro e wD ⟨rfl, hbD⟩; unfold Flt; have HD := As.mk hbD; have CD := As.mk (bl_then CC.out hbD); clear hbD)) | (go_at_call 32; ((with_reducible refine (validate_any v1 P1 _ (N1.out.below CD.out)).mono ?_); rintro e wE ⟨rfl, hbE⟩; rw [P1_vf]; unfold Flt; have HE := As.mk hbE; have CE := As.mk (bl_then CD.out hbE); clear hbE)))
  go_wp2
  go_ret
  exact ⟨rfl, bl_then B6.out CE.out⟩
end Go.Proofs.Ytbbhkjljiljadaa
