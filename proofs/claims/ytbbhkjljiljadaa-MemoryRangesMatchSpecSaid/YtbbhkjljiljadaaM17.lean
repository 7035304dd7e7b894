/- Unmap of package memory. Conditions: the memory reads as those pages. -/
import Derived.Test.YtbbhkjljiljadaaM16
import Derived.Deep.RegionHeld3
import Derived.Deep.DrawnRows
namespace Go.Proofs.Ytbbhkjljiljadaa
open Go.RowKit
set_option linter.unusedVariables false
set_option linter.unusedSimpArgs false
attribute [local go_sem ↓] Go.wp_at_zero Go.wp_at_succ
/-- What Unmap says. -/
def uf (l : List Pg) (a n : Int) : Int × Int := if sp l a n ≠ (0, 0) then sp l a n else ms l a n.toNat
/-- The pages without those of a range. -/
def cutp (l : List Pg) (a n : Int) : List Pg := l.filter fun p => !decide (a ≤ p.a ∧ p.a < a + n * 256)
def UPost (l : List Pg) (a n : Int) (w : World) (e : Ending) (w' : World) : Prop :=
  ∃ v, e = .returned (.tuple #[v, Flt (uf l a n)]) ∧ Below w.heap.size w w' ∧ (uf l a n ≠ (0, 0) → v = .slice none 0 0) ∧ (uf l a n = (0, 0) → ∃ i : Nat, Spot l a i true ∧ i + n.toNat ≤ l.length ∧ OwnM w' w.heap.size v (l.take i ++ l.drop (i + n.toNat)))
theorem two_below {w w1 : World} {g : Nat} {x y : Value} (hb : Below w.heap.size w w1) (h : w.cell? ⟨g, 0, none⟩ = some x ∧ w.cell? ⟨g, 1, none⟩ = some y) : w1.cell? ⟨g, 0, none⟩ = some x ∧ w1.cell? ⟨g, 1, none⟩ = some y := ⟨bl_cell hb h.1, bl_cell hb h.2⟩
theorem cells_other {b : Nat} {p : Addr} (hne : p.block ≠ b) : ∀ (vs : List Value) (o : Nat) (W : World), (W.setCells b o vs).cell? p = W.cell? p
  | [], _, _ => rfl
  | v :: r, o, W => (cells_other hne r (o + 1) (W.setCell ⟨b, o, none⟩ v)).trans (World.cell?_setCell_other _ _ _ _ (fun e => hne (by rw [← e])))
theorem two_setCells {W : World} {g b : Nat} {x y : Value} (hne : g ≠ b) (vs : List Value) (o : Nat) (h : W.cell? ⟨g, 0, none⟩ = some x ∧ W.cell? ⟨g, 1, none⟩ = some y) : (W.setCells b o vs).cell? ⟨g, 0, none⟩ = some x ∧ (W.setCells b o vs).cell? ⟨g, 1, none⟩ = some y :=
  ⟨(cells_other hne vs o W).trans h.1, (cells_other hne vs o W).trans h.2⟩
theorem bl_cells {B g : Nat} {w : World} (hg : B ≤ g) : ∀ (vs : List Value) (o : Nat) {W : World}, Below B w W → Below B w (W.setCells g o vs)
  | [], _, _, h => h
  | v :: r, o, W, h => bl_cells hg r (o + 1) (h.setCell hg v)
theorem cells_size {g : Nat} : ∀ (vs : List Value) (o : Nat) (W : World), (W.setCells g o vs).heap.size = W.heap.size
  | [], _, _ => rfl
  | v :: r, o, W => (cells_size r (o + 1) _).trans (by simp)
theorem S6 {w' : World} {g0 g1 : Nat} {x y z u : Value} (h0 : Bk w' g0 #[x, y] 33) (h1 : Bk w' g1 #[z, u] 33) : (w'.cell? ⟨g0, 0, none⟩ = some x ∧ w'.cell? ⟨g0, 1, none⟩ = some y) ∧ (w'.frozen? ⟨g0, 0, none⟩ = false ∧ w'.frozen? ⟨g0, 1, none⟩ = false) ∧ w'.cell? ⟨g1, 0, none⟩ = some z ∧ w'.cell? ⟨g1, 1, none⟩ = some u := ⟨h0.two, ⟨h0.frozen 0, h0.frozen 1⟩, h1.two⟩
theorem delete_int (g cap n i j : Nat) (jj : Int) (hjj : jj = (j : Int)) (cur : Array Value) (news : List Value) (W : World) (hB : Bk W g cur 68) (hsz : cur.size = cap * 3) (hfit : n ≤ cap) (hmost : cap ≤ 9223372036854775807) (hij : i < j) (hj : j ≤ n)
    (hn : news.length = (n - j) * 3) (hg : ∀ t, t < (n - j) * 3 → news[t]? = cur[j * 3 + t]?) (h1 : ∀ u ∈ news, u.oneCell' = true) :
    Calls Try.prog 62 #[.slice (some ⟨g, 0, none⟩) n cap, .int .i64 i, .int .i64 jj] W (DPost g n i j cap news W) := by
  subst hjj
  exact delete_any g cap n i j cur news W hB hsz hfit hmost hij hj hn hg h1
theorem Part.news {w0 W : World} {base g cap : Nat} {l : List Pg} {j : Nat} {cur : Array Value} {D C : Nat → Nat} {dc : Nat → Array Value} (hp : Part w0 W base g cap l l.length cur D C dc) (hj : j ≤ l.length) :
    ∃ news : List Value, news.length = (l.length - j) * 3 ∧ (∀ t, t < (l.length - j) * 3 → news[t]? = cur[j * 3 + t]?) ∧ ∀ u ∈ news, u.oneCell' = true := by
  have hs := hp.size
  have hf := hp.fits
  refine ⟨(cur.toList.drop (j * 3)).take ((l.length - j) * 3), ?_, ?_, ?_⟩
  · have hq : cur.toList.length = cur.size := Array.length_toList
    rw [List.length_take, List.length_drop, hq]; omega
  · intro t ht
    rw [List.getElem?_take_of_lt ht, List.getElem?_drop, Array.getElem?_toList]
  · intro u hu
    obtain ⟨t, ht, rfl⟩ := List.mem_iff_getElem.1 hu
    have ht' : t < (l.length - j) * 3 := by rw [List.length_take] at ht; omega
    have h0 : ((cur.toList.drop (j * 3)).take ((l.length - j) * 3))[t]? = cur[j * 3 + t]? := by rw [List.getElem?_take_of_lt ht', List.getElem?_drop, Array.getElem?_toList]
    rw [List.getElem?_eq_getElem ht] at h0
    have hk : (j * 3 + t) / 3 < l.length := by omega
    have : j * 3 + t = (j * 3 + t) / 3 * 3 + 0 ∨ j * 3 + t = (j * 3 + t) / 3 * 3 + 1 ∨ j * 3 + t = (j * 3 + t) / 3 * 3 + 2 := by omega
    rcases this with h | h | h
    · rw [h, Nat.add_zero, hp.adr _ hk] at h0; injection h0 with h0; rw [h0]; rfl
    · rw [h, hp.rts _ hk] at h0; injection h0 with h0; rw [h0]; rfl
    · rw [h, (hp.own _ hk hk).1] at h0; injection h0 with h0; rw [h0]; rfl
theorem Part.cap {w0 W : World} {base g cap : Nat} {l : List Pg} {i : Nat} {cur : Array Value} {D C : Nat → Nat} {dc : Nat → Array Value} (hp : Part w0 W base g cap l i cur D C dc) : cap ≤ 9223372036854775807 := by have := hp.most; simp only [maxLen] at this; omega
theorem OwnM.ne {W : World} {base : Nat} {v : Value} {l : List Pg} (h : OwnM W base v l) (hl : 0 < l.length) : ∃ w0 g cap cur D C dc, v = .slice (some ⟨g, 0, none⟩) l.length cap ∧ As (Part w0 W base g cap l l.length cur D C dc) := by
  rcases h with ⟨e, h⟩ | ⟨w0, g, cap, cur, D, C, dc, e, hp⟩
  · subst e; exact absurd hl (by simp)
  · exact ⟨w0, g, cap, cur, D, C, dc, e, ⟨hp⟩⟩
set_option maxHeartbeats 4000000 in
theorem unmap_any (v : Value) (l : List Pg) (a n : Int) (w : World) (hm : RdM w v l) (ha : I64 a) (hn : I64 n) : Calls Try.prog 34 #[v, .int .i64 a, .int .i64 n] w (UPost l a n w) := by
  have HM := As.mk hm
  clear hm
  go_enter Try.func34, Try.ntmps34
  go_wp2_with fail
  refine (span_any _ l a n _ (HM.out.below (by repeat (first | exact Below.refl _ _ | assumption | refine bl_drew ?_ | refine bl_drewN ?_ _ | refine bl_alloc ?_ _ | refine Below.setCell ?_ (by first | exact Nat.le_refl _ | exact bl_size (by assumption) | omega | simp) _))) ha hn).mono ?_
  rintro e w1 ⟨rfl, hb1⟩
  have hB := (Bk.new w #[.int .i64 0, .int .i64 0] 33).below hb1
  have hbw := bl_then (bl_alloc (Below.refl _ w) _) hb1
  have hlt := hB.lt
  have hBc := hB.two
  have hBf := hB.frozen
  have HB := As.mk hB
  clear hb1 hB
  rcases sp_cases l a n with ⟨hv, hvf, hmod, hn0, hn1, ha0, ha1⟩ | ⟨c, i, hv, hc0, hc1, hi0, hi1⟩
  · have HK : As (Ok l) := ⟨Ok.of hvf⟩
    have E2 : As (uf l a n = ms l a n.toNat) := ⟨by unfold uf; rw [if_neg (by rw [hv]; simp)]⟩
    have HLE := As.mk (Nat.le_of_lt hlt)
    rw [hv]
    clear hv hvf
    have HMOD := As.mk hmod
    clear hmod
    unfold Flt
    go_wp2_with fail
    refine (missing_any v l a n _ (HM.out.below (by have hle := HLE.out; repeat (first | exact Below.refl _ _ | assumption | refine bl_drew ?_ | refine bl_drewN ?_ _ | refine bl_alloc ?_ _ | refine Below.setCell ?_ (by first | exact Nat.le_refl _ | exact bl_size (by assumption) | omega | simp) _))) HK.out.inc ha0 hn0 hn1 ha1).mono ?_
    rintro e w3 ⟨rfl, hb3⟩
    have hQ := (Bk.new w1 #[.int .i64 0, .int .i64 0] 33).below hb3
    have hB2 := (show Bk _ w.heap.size #[.int .i64 0, .int .i64 0] 33 from by repeat (first | with_reducible exact HB.out | with_reducible refine Bk.drew ?_ | with_reducible refine Bk.drewN ?_ _ | with_reducible apply Bk.set1 | with_reducible apply Bk.set0 | with_reducible refine Bk.alloc ?_ _ | with_reducible exact Bk.new _ _ _ | with_reducible refine Bk.other ?_ (by first | omega | (simp; omega)) _)).below hb3
    have hbw3 := bl_then (show Below w.heap.size w _ from by have hle := HLE.out; repeat (first | exact Below.refl _ _ | assumption | refine bl_drew ?_ | refine bl_drewN ?_ _ | refine bl_alloc ?_ _ | refine Below.setCell ?_ (by first | exact Nat.le_refl _ | exact bl_size (by assumption) | omega | simp) _)) hb3
    clear hBc hBf HB hbw
    have hQ1 := hQ.two
    have hQ2 := hQ.frozen
    have hQ3 := hQ.lt
    have hB1 := hB2.two
    have hB3 := hB2.frozen
    have hne : w.heap.size ≠ w1.heap.size := by omega
    have HQ := As.mk hQ
    have HB2 := As.mk hB2
    clear hQ hB2 hb3
    rcases ms_cases l a n.toNat with ⟨em, hall⟩ | ⟨k, hk, em⟩
    · have E := As.mk (E2.out.trans em)
      rw [em]
      clear E2 em
      unfold Flt
      go_wp2_with fail
      generalize hW : (w3.setCell _ _).setCell _ _ = W1
      have hk0 : As (Bk W1 w.heap.size #[.int .i64 0, .int .i64 0] 33) := ⟨by rw [← hW]; have hle := HLE.out; repeat (first | with_reducible exact HB2.out | with_reducible refine Bk.drew ?_ | with_reducible refine Bk.drewN ?_ _ | with_reducible apply Bk.set1 | with_reducible apply Bk.set0 | with_reducible refine Bk.alloc ?_ _ | with_reducible exact Bk.new _ _ _ | with_reducible refine Bk.other ?_ (by first | omega | (simp; omega)) _)⟩
      have hk1 : As (Bk W1 w1.heap.size #[.int .i64 0, .int .i64 0] 33) := ⟨by rw [← hW]; have hle := HLE.out; repeat (first | with_reducible exact HQ.out | with_reducible refine Bk.drew ?_ | with_reducible refine Bk.drewN ?_ _ | with_reducible apply Bk.set1 | with_reducible apply Bk.set0 | with_reducible refine Bk.alloc ?_ _ | with_reducible exact Bk.new _ _ _ | with_reducible refine Bk.other ?_ (by first | omega | (simp; omega)) _)⟩
      have hbw1 : As (Below w.heap.size w W1) := ⟨by rw [← hW]; have hle := HLE.out; repeat (first | exact Below.refl _ _ | assumption | refine bl_drew ?_ | refine bl_drewN ?_ _ | refine bl_alloc ?_ _ | refine Below.setCell ?_ (by first | exact Nat.le_refl _ | exact bl_size (by assumption) | omega | simp) _)⟩
      have HALL := As.mk hall
      generalize w1.heap.size = g1 at *
      clear hW hQ1 hQ2 hQ3 hB1 hB3 HQ HB2 hbw3 hall
      refine (find_any v l a _ (HM.out.below hbw1.out) HK.out.inc ha0 (by omega)).mono ?_
      rintro e W3 ⟨i, ok, hsp, rfl, hb3⟩
      have HB3 := As.mk hb3
      have HSP := As.mk hsp
      have hz := hsp.look HK.out.inc
      clear hb3 hsp
      rcases hz with ⟨rfl, hi, hlk, he⟩ | ⟨rfl, hlk⟩
      · have he : l[i].a = a := by have := HMOD.out; omega
        have RUN : As (∀ k : Nat, k < n.toNat → ∃ h : i + k < l.length, l[i + k].a = a + (k : Int) * 256) := ⟨runs HK.out HMOD.out hi he HALL.out⟩
        have HLK := As.mk hlk
        clear hlk
        go_wp2_with fail
        have hk0' := hk0.out.below HB3.out
        have hk1' := hk1.out.below HB3.out
        have HM3 : As (RdM W3 v l) := ⟨(HM.out.below hbw1.out).below HB3.out⟩
        have hd := (hk1'.drew).two
        have hl200 := HK.out.len
        obtain ⟨hend, -⟩ := RUN.out (n.toNat - 1) (by omega)
        have hend2 : i + n.toNat ≤ l.length := by omega
        have hwr : ∀ [Inhabited Nat], IntKind.i64.wrap ((i : Int) + n) = (i : Int) + n := by intro _; rw [IntKind.wrap_i64]; omega
        clear hend
        have hls := As.mk hk1'.lt
        have HB3' := HB3.out.size
        have HK1 := As.mk hk1'
        have HK0 := As.mk hk0'
        clear hk1' hk0'
        go_region_held3 (fun w' => (w'.cell? ⟨w.heap.size, 0, none⟩ = some (.int .i64 0) ∧ w'.cell? ⟨w.heap.size, 1, none⟩ = some (.int .i64 0)) ∧ (w'.frozen? ⟨w.heap.size, 0, none⟩ = false ∧ w'.frozen? ⟨w.heap.size, 1, none⟩ = false) ∧ w'.cell? ⟨g1, 0, none⟩ = some (.int .i64 0) ∧ w'.cell? ⟨g1, 1, none⟩ = some (.int .i64 0)) (first | exact S6 HK0.out.drew HK1.out.drew | exact S6 (HK0.out.drew.below hb4) (HK1.out.drew.below hb4) | exact S6 HK5.out.1 HK5.out.2 | exact S6 (by repeat (first | with_reducible exact HK5.out.1 | with_reducible refine Bk.drew ?_ | with_reducible refine Bk.drewN ?_ _ | with_reducible apply Bk.set1 | with_reducible apply Bk.set0 | with_reducible refine Bk.alloc ?_ _ | with_reducible exact Bk.new _ _ _ | with_reducible refine Bk.other ?_ (by first | omega | (simp; omega)) _)) (by repeat (first | with_reducible exact HK5.out.2 | with_reducible refine Bk.drew ?_ | with_reducible refine Bk.drewN ?_ _ | with_reducible apply Bk.set1 | with_reducible apply Bk.set0 | with_reducible refine Bk.alloc ?_ _ | with_reducible exact Bk.new _ _ _ | with_reducible refine Bk.other ?_ (by first | omega | (simp; omega)) _))) (first | (go_at_call 50; ((with_reducible refine (clone_any v l _ HM3.out.drew HK.out).mono ?_); rintro e W4 ⟨v2, rfl, hown, hb4⟩; obtain ⟨w0, g, cap, cur, D, C, dc, rfl, hP⟩ := hown.ne (by omega); obtain ⟨news, hn1, hn2, hn3⟩ := (hP.out.news hend2); have HN := As.mk hn2; clear hn2; have hgne : g1 < g := (Nat.lt_of_lt_of_le hls.out hP.out.low))) | (go_at_call 62; ((with_reducible refine (delete_int g cap l.length i (i + n.toNat) _ (by omega) cur news _ hP.out.blk hP.out.size hP.out.fits hP.out.cap (by omega) hend2 hn1 HN.out hn3).mono ?_); rintro e W5 ⟨rfl, hW5⟩; have HK5 : As (Bk W5 w.heap.size #[.int .i64 0, .int .i64 0] 33 ∧ Bk W5 g1 #[.int .i64 0, .int .i64 0] 33) := (by rw [hW5]; exact ⟨⟨Bk.setCells_other (by omega) _ _ (Bk.setCells_other (by omega) _ _ (HK0.out.drew.below hb4).drew), Bk.setCells_other (by omega) _ _ (Bk.setCells_other (by omega) _ _ (HK1.out.drew.below hb4).drew)⟩⟩); have HW5 := As.mk hW5; clear hW5)))
        have hWs : W5 = (W4.drew.setCells g (i * 3) news).setCells g ((i + (l.length - (i + n.toNat))) * 3) (zpg n.toNat) := by rw [HW5.out, show i + n.toNat - i = n.toNat from by omega]
        have hbW : As (Below w.heap.size w W5) := ⟨by rw [hWs]; exact bl_cells (by omega) _ _ (bl_cells (by omega) _ _ (bl_drew (bl_then hbw1.out (bl_then HB3.out (bl_then (bl_drew (Below.refl _ _)) hb4)))))⟩
        have hOW : As (OwnM W5 W3.drew.heap.size (.slice (some ⟨g, 0, none⟩) (i + (l.length - (i + n.toNat))) cap) (l.take i ++ l.drop (i + n.toNat))) := ⟨by
          rw [hWs]
          have hq : (l.take i ++ l.drop (i + n.toNat)).length = i + (l.length - (i + n.toNat)) := by simp; omega
          rw [← hq]
          exact Or.inr ⟨w0, g, cap, _, _, _, _, rfl, by rw [hq]; have := (hP.out.below (bl_drew (Below.refl _ _))).delete (i := i) (j := i + n.toNat) (zs := zpg n.toNat) (by omega) hend2 hn1 HN.out; rw [hq] at this; exact this⟩⟩
        have hW35 : As (W3.heap.size ≤ W5.heap.size) := ⟨by
          have := hb4.size
          rw [hWs, cells_size, cells_size]
          exact this⟩
        clear hWs
        go_wp2
        refine ret_sf (p := 7) (q := 6) (g := w.heap.size) (x := .int .i64 0) (y := .int .i64 0) rfl rfl rfl rfl (by repeat (first | with_reducible exact HK5.out.1 | with_reducible refine Bk.drew ?_ | with_reducible refine Bk.drewN ?_ _ | with_reducible apply Bk.set1 | with_reducible apply Bk.set0 | with_reducible refine Bk.alloc ?_ _ | with_reducible exact Bk.new _ _ _ | with_reducible refine Bk.other ?_ (by first | omega | (simp; omega)) _)) ⟨_, by rw [E.out]; rfl, ?_, ?_, ?_⟩
        · have := hbW.out
          repeat (first | exact Below.refl _ _ | assumption | refine bl_drew ?_ | refine bl_drewN ?_ _ | refine bl_alloc ?_ _ | refine Below.setCell ?_ (by first | exact Nat.le_refl _ | exact bl_size (by assumption) | omega | simp) _)
        · exact fun h => absurd E.out h
        · intro _
          refine ⟨i, by have := HSP.out; rw [HMOD.out] at this; simpa using this, hend2, OwnM.base (base := W3.drew.heap.size) ?_ ?_⟩
          · have hl1 := HK0.out.lt
            refine OwnM.set (OwnM.set hOW.out hl1 hW35.out _) hl1 ?_ _
            have := hW35.out
            first | exact this | (simp; exact this)
          · exact Nat.le_of_lt HK0.out.lt
      · exfalso
        have h0 := HALL.out 0 (by omega)
        apply h0
        simpa using hlk
    · have E : As (uf l a n = (6, (k : Int))) := ⟨by rw [E2.out, em]⟩
      rw [em]
      clear E2 em
      unfold Flt
      go_wp2
      go_region
      go_wp2
      refine ret_sf (p := 7) (q := 6) (g := w.heap.size) (x := .int .i64 6) (y := .int .i64 (k : Int)) rfl rfl rfl rfl (by repeat (first | with_reducible exact HB2.out | with_reducible refine Bk.drew ?_ | with_reducible refine Bk.drewN ?_ _ | with_reducible apply Bk.set1 | with_reducible apply Bk.set0 | with_reducible refine Bk.alloc ?_ _ | with_reducible exact Bk.new _ _ _ | with_reducible refine Bk.other ?_ (by first | omega | (simp; omega)) _)) ⟨_, by rw [E.out]; rfl, ?_, ?_, ?_⟩
      · have hle := HLE.out
        repeat (first | exact Below.refl _ _ | assumption | refine bl_drew ?_ | refine bl_drewN ?_ _ | refine bl_alloc ?_ _ | refine Below.setCell ?_ (by first | exact Nat.le_refl _ | exact bl_size (by assumption) | omega | simp) _)
      · exact fun _ => rfl
      · intro h
        rw [E.out] at h
        injection h
        omega
  · have E : As (uf l a n = (c, i)) := ⟨by unfold uf; rw [if_pos (by rw [hv]; intro h; injection h; omega), hv]⟩
    have hc : ¬ c = 0 := by omega
    rw [hv]
    clear hv
    unfold Flt
    go_wp2
    have hb2 := (Bk.new w1 #[.int .i64 c, .int .i64 i] 33).two
    go_region
    go_wp2
    refine ret_sf (p := 7) (q := 6) (g := w.heap.size) (x := .int .i64 c) (y := .int .i64 i) rfl rfl rfl rfl (by repeat (first | with_reducible exact HB.out | with_reducible refine Bk.drew ?_ | with_reducible refine Bk.drewN ?_ _ | with_reducible apply Bk.set1 | with_reducible apply Bk.set0 | with_reducible refine Bk.alloc ?_ _ | with_reducible exact Bk.new _ _ _ | with_reducible refine Bk.other ?_ (by first | omega | (simp; omega)) _)) ⟨_, by rw [E.out]; rfl, ?_, ?_, ?_⟩
    · repeat (first | exact Below.refl _ _ | assumption | refine bl_drew ?_ | refine bl_drewN ?_ _ | refine bl_alloc ?_ _ | refine Below.setCell ?_ (by first | exact Nat.le_refl _ | exact bl_size (by assumption) | omega | simp) _)
    · exact fun _ => rfl
    · intro h
      rw [E.out] at h
      injection h
      omega
end Go.Proofs.Ytbbhkjljiljadaa
