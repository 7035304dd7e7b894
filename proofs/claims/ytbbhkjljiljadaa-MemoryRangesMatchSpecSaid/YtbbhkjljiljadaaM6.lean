/- Read of package memory. Conditions: the memory reads as those pages. -/
import Derived.Test.YtbbhkjljiljadaaM5
namespace Go.Proofs.Ytbbhkjljiljadaa
open Go.RowKit
set_option linter.unusedVariables false
set_option linter.unusedSimpArgs false
theorem inf5 : (Try.prog.info? 5).map (fun i => (i.zero, i.size, i.bytes)) = some (some (.int .u8 0), 1, 1) := by kernel_rfl
/-- append of one byte to a slice of the call's own. -/
theorem ap_u8 {ops : Array Oper} {rest : List Oper} {o : Oper} {a : Act} {Q : Exit → Act → World → Prop} {w0 W : World} {base : Nat} (hgd : o.guard = none) (s x : Operand)
    (ho : o.op = .call { callee := .builtin .append, args := #[s, x], argTypes := #[66, 66] })
    (v : Value) (xs : List Value) (y : Value) (g : Nat) (hs : a.eval s = v) (hx : a.eval x = .slice (some ⟨g, 0, none⟩) 1 1) (hgg : g = W.heap.size) (h1 : y.oneCell' = true)
    (HO : W.ownsRow base 5 1 v xs.length xs) (HB : Below base w0 W) (hbase : base ≤ W.heap.size) (hl : xs.length ≤ 1000000)
    (h : ∀ v1 w1, w1.ownsRow base 5 1 v1 (xs ++ [y]).length (xs ++ [y]) → Below base w0 w1 → base ≤ w1.heap.size → wpList Try.prog ops Q rest (a.put o.dst v1) w1) :
    wpList Try.prog ops Q (o :: rest) a (W.alloc (.cells #[y] 5)) := by
  subst hgg
  obtain ⟨i0, hi, hzz⟩ := Option.map_eq_some_iff.1 inf5
  simp only [Prod.mk.injEq] at hzz
  obtain ⟨hz0, hz1, hz2⟩ := hzz
  refine wpList_append_own (W.alloc (.cells #[y] 5)) hgd s x 66 ho base 5 i0 (.int .u8 0) 1 1 Try.underlying66 hi hz0 hz1 hz2 rfl (by omega) v xs.length xs hs (HO.alloc _) ⟨W.heap.size, 0, none⟩ 1 1 [y] hx rfl
    (World.news_of_block (cs := #[y]) (t := 5) (fr := (0, 0)) (heap_alloc_new W _)) (by simpa using h1) (by simp only [maxLen]; omega) (by omega) (by simp; omega) ?_
  intro v1 w1 hown hg _
  refine h v1 w1 (by simpa using hown) ((HB.alloc hbase _).grown hg (by simp; omega) (fun k hk => (HO.lt k hk).1)) ?_
  have h1 := hg.size
  simp at h1
  omega
theorem ret_sf {fn : Func} {R : Ending → World → Prop} {a : Act} {W : World} {p q g : Nat} {v x y : Value} (h : fn.results = #[.tmp q, .cell p 33]) (hv : a.tmps.getD q undef = v) (hp : a.tmps.getD p undef = .pointer (some ⟨g, 0, none⟩)) (hd : a.defers = []) (hB : Bk W g #[x, y] 33) (hR : R (.returned (.tuple #[v, .agg #[x, y]])) W) : bodyPost Try.prog fn R .ret a W := by
  obtain ⟨d, h1, h2⟩ := rowed (P := Try.prog) (t := 33) (by kernel_rfl)
  have hi : (Try.prog.info? 33).map (·.size) = some (#[x, y] : Array Value).size := by kernel_rfl
  have hp' : a.tmps[p]?.getD undef = .pointer (some ⟨g, 0, none⟩) := by simpa using hp
  have hv' : a.tmps[q]?.getD undef = v := by simpa using hv
  have hl : (loadVar 33 ⟨g, 0, none⟩).run Try.prog W = .ok (.agg #[x, y]) W := by
    cases d <;> first | exact run_loadVar_row W g 33 33 #[x, y] (0, 0) _ hB h1 rfl hi | cases h2
  exact bodyPost_ret (by simp [results, h, hp', hv', asAddr, hl]) hd hR
theorem own_below {w w1 : World} {base : Nat} {e : TypeId} {size : Nat} {v : Value} {n : Nat} {xs : List Value} (h : w.ownsRow base e size v n xs) (hb : Below w.heap.size w w1) : w1.ownsRow base e size v n xs := by
  obtain ⟨hl, h | ⟨g, cap, cur, e1, e2, e3, rest⟩⟩ := h
  · exact ⟨hl, Or.inl h⟩
  · exact ⟨hl, Or.inr ⟨g, cap, cur, e1, e2, (hb.block g (Array.getElem?_eq_some_iff.1 e3).1).trans e3, rest⟩⟩
theorem own_base {w : World} {base base' : Nat} {e : TypeId} {size : Nat} {v : Value} {n : Nat} {xs : List Value} (h : w.ownsRow base e size v n xs) (hb : base' ≤ base) : w.ownsRow base' e size v n xs := by
  obtain ⟨hl, h | ⟨g, cap, cur, e1, e2, rest⟩⟩ := h
  · exact ⟨hl, Or.inl h⟩
  · exact ⟨hl, Or.inr ⟨g, cap, cur, e1, Nat.le_trans hb e2, rest⟩⟩
theorem own_set {w : World} {base : Nat} {e : TypeId} {size : Nat} {v : Value} {n : Nat} {xs : List Value} (h : w.ownsRow base e size v n xs) {a : Addr} (ha : a.block < base) (u : Value) : (w.setCell a u).ownsRow base e size v n xs := ownsRow_setCell_below h ha u
/-- What Read hands out. -/
def RPost (l : List Pg) (a n r : Int) (w : World) (e : Ending) (w' : World) : Prop :=
  ∃ v, e = .returned (.tuple #[v, Flt (af l a n r)]) ∧ Below w.heap.size w w' ∧ (af l a n r ≠ (0, 0) → v = .slice none 0 0) ∧
    (af l a n r = (0, 0) → w'.ownsRow w.heap.size 5 1 v n.toNat ((List.range n.toNat).map fun k : Nat => Value.int .u8 (byte l (a + (k : Int)))))
theorem cf_cases (l : List Pg) (a r : Int) (n : Nat) : cf l a r n = (0, 0) ∨ ∃ k : Nat, k < n ∧ cf l a r n = (18, (k : Int)) := by
  unfold cf
  cases h : (List.range n).find? (fun k : Nat => !can l (a + (k : Int)) r) with
  | none => exact Or.inl rfl
  | some k => exact Or.inr ⟨k, List.mem_range.1 (List.mem_of_find?_eq_some h), rfl⟩
theorem rf_cases (r : Int) : rf r = (0, 0) ∨ rf r = (3, -3) := by
  unfold rf; split
  · exact Or.inr rfl
  · exact Or.inl rfl
theorem af_cases (l : List Pg) (a n r : Int) : (af l a n r = (0, 0) ∧ vf l = (0, 0) ∧ 0 ≤ n ∧ n ≤ 1500 ∧ 0 ≤ a ∧ a ≤ 1048576 - n) ∨ ∃ c i, af l a n r = (c, i) ∧ 0 < c ∧ c ≤ 18 ∧ -3 ≤ i ∧ i ≤ 1500 := by
  unfold af
  split
  · rename_i h
    rcases vf_cases l with h0 | ⟨c, i, h0, h1, h2, h3, h4⟩
    · exact absurd h0 h
    · exact Or.inr ⟨c, i, h0, h1, by omega, by omega, by omega⟩
  · split
    · exact Or.inr ⟨3, -2, rfl, by omega, by omega, by omega, by omega⟩
    · rename_i hv hn
      split
      · rename_i hr
        rcases rf_cases r with h0 | h0
        · exact absurd h0 hr
        · exact Or.inr ⟨3, -3, h0, by omega, by omega, by omega, by omega⟩
      · rcases cf_cases l a r n.toNat with h0 | ⟨k, hk, h0⟩
        · exact Or.inl ⟨h0, Decidable.not_not.1 hv, by omega, by omega, by omega, by omega⟩
        · exact Or.inr ⟨18, k, h0, by omega, by omega, by omega, by omega⟩
def bys (l : List Pg) (a : Int) (i : Nat) : List Value := (List.range i).map fun k : Nat => Value.int .u8 (byte l (a + (k : Int)))
theorem bys_len (l : List Pg) (a : Int) (i : Nat) : (bys l a i).length = i := by simp [bys]
theorem bys_succ (l : List Pg) (a : Int) (i : Nat) : bys l a (i + 1) = bys l a i ++ [.int .u8 (byte l (a + (i : Int)))] := by simp [bys, List.range_succ]
def LRel (l : List Pg) (a n : Int) (W0 : World) (vi vs : Value) (wr : World) : Prop :=
  ∃ i : Nat, vi = .int .i64 i ∧ (i : Int) ≤ n ∧ As (wr.ownsRow W0.heap.size 5 1 vs i (bys l a i)) ∧ As (Below W0.heap.size W0 wr)
set_option maxHeartbeats 4000000 in
theorem read_any (v : Value) (l : List Pg) (a n r : Int) (w : World) (hm : RdM w v l) (ha : I64 a) (hn : I64 n) : Calls Try.prog 40 #[v, .int .i64 a, .int .i64 n, .int .i64 r] w (RPost l a n r w) := by
  have HM := As.mk hm
  clear hm
  go_enter Try.func40, Try.ntmps40
  go_wp2_with fail
  refine (access_any _ l a n r _ (HM.out.below (by repeat (first | exact Below.refl _ _ | assumption | refine bl_drew ?_ | refine bl_drewN ?_ _ | refine bl_alloc ?_ _ | refine Below.setCell ?_ (by first | exact Nat.le_refl _ | exact bl_size (by assumption) | omega | simp) _))) ha hn).mono ?_
  rintro e w1 ⟨rfl, hb1⟩
  have hB := (Bk.new w #[.int .i64 0, .int .i64 0] 33).below hb1
  have hbw := bl_then (bl_alloc (Below.refl _ w) _) hb1
  have hlt := hB.lt
  have hBc := hB.two
  have hBf := hB.frozen
  have HB := As.mk hB
  clear hb1 hB
  rcases af_cases l a n r with ⟨hv, hvf, hn0, hn1, ha0, ha1⟩ | ⟨c, i, hv, hc0, hc1, hi0, hi1⟩
  · have E := As.mk hv
    have HK : As (Ok l) := ⟨Ok.of hvf⟩
    rw [hv]
    clear hv hvf
    unfold Flt
    go_wp2
    generalize hW : w1.alloc _ = W0
    have hk0 : As (Bk W0 w.heap.size #[.int .i64 0, .int .i64 0] 33) := ⟨by rw [← hW]; repeat (first | with_reducible exact HB.out | with_reducible refine Bk.drew ?_ | with_reducible refine Bk.drewN ?_ _ | with_reducible apply Bk.set1 | with_reducible apply Bk.set0 | with_reducible refine Bk.alloc ?_ _ | with_reducible exact Bk.new _ _ _ | with_reducible refine Bk.other ?_ (by first | omega | (simp; omega)) _)⟩
    have hk1 : As (Bk W0 w1.heap.size #[.int .i64 0, .int .i64 0] 33) := ⟨by rw [← hW]; exact Bk.new _ _ _⟩
    have hbw0 : As (Below w.heap.size w W0) := ⟨by rw [← hW]; repeat (first | exact Below.refl _ _ | assumption | refine bl_drew ?_ | refine bl_drewN ?_ _ | refine bl_alloc ?_ _ | refine Below.setCell ?_ (by first | exact Nat.le_refl _ | exact bl_size (by assumption) | omega | simp) _)⟩
    have hm0 : As (RdM W0 v l) := ⟨HM.out.below hbw0.out⟩
    generalize w1.heap.size = g1 at *
    clear hW hbw HB hBc hBf hlt
    go_loopw [23, 11] (fun vi vs wr => LRel l a n W0 vi vs wr) (fun vi _ _ => (n - intOf vi).toNat)
    case atStart => exact ⟨0, rfl, by omega, ⟨World.ownsRow_nil _ _ _ _⟩, ⟨Below.refl _ _⟩⟩
    case round =>
      obtain ⟨i, rfl, hin, hO, hb⟩ := hrel
      by_cases hlt : (i : Int) < n
      · have hoi := hO.out
        go_wp2_with fail
        refine (byte_any v l (a + (i : Int)) _ (hm0.out.below hb.out) HK.out (by omega) (by omega)).mono ?_
        rintro e w3 ⟨rfl, hb3⟩
        have HO : w3.ownsRow W0.heap.size 5 1 u11 (bys l a i).length (bys l a i) := by rw [bys_len]; exact own_below hO.out hb3
        have HB := hb.out.trans (hb3.mono hb.out.size)
        have HS := HB.size
        have HL : (bys l a i).length ≤ 1000000 := by rw [bys_len]; omega
        have HL := As.mk HL
        have HO := As.mk HO
        have HB := As.mk HB
        have HS := As.mk HS
        clear hO hb hb3
        go_wp2_with (first | (at_builtin; refine ap_u8 rfl (.tmp 26) (.tmp 32) rfl _ _ _ _ rfl rfl (by simp) rfl HO.out HB.out HS.out HL.out ?_; clear HO HB HS; intro v1 w4 HO HB HS))
        rw [← bys_succ, bys_len] at HO
        have HO := As.mk HO
        have HB := As.mk HB
        go_roundw
        case rel => exact ⟨i + 1, by go_num, by omega, HO, HB⟩
        case measure => simp [intOf]; omega
      · obtain rfl : n = (i : Int) := by omega
        have hB0 := hk0.out.below hb.out
        have hB1 := hk1.out.below hb.out
        have hc1 := hB1.two
        have hc0 := hB0.two
        have hf0 := hB0.frozen
        have hO := hO.out
        have hlt0 := hB0.lt
        have H0 := As.mk hB0
        have H1 := As.mk hb.out
        have hg0 := As.mk hk0.out.lt
        clear hB0 hB1 hb hk0 hk1
        go_wp2
        go_region
        go_wp2
        refine ret_sf (p := 9) (q := 8) (g := w.heap.size) (x := .int .i64 0) (y := .int .i64 0) rfl rfl rfl rfl (by repeat (first | with_reducible exact H0.out | with_reducible refine Bk.drew ?_ | with_reducible refine Bk.drewN ?_ _ | with_reducible apply Bk.set1 | with_reducible apply Bk.set0 | with_reducible refine Bk.alloc ?_ _ | with_reducible exact Bk.new _ _ _ | with_reducible refine Bk.other ?_ (by first | omega | (simp; omega)) _)) ⟨u11, by rw [E.out]; rfl, ?_, ?_, ?_⟩
        · have hbq := hbw0.out.trans (H1.out.mono hbw0.out.size)
          repeat (first | exact Below.refl _ _ | assumption | refine bl_drew ?_ | refine bl_drewN ?_ _ | refine bl_alloc ?_ _ | refine Below.setCell ?_ (by first | exact Nat.le_refl _ | exact bl_size (by assumption) | omega | simp) _)
        · exact fun h => absurd E.out h
        · intro _
          have hq : ((i : Int)).toNat = i := by omega
          rw [hq]
          refine own_base (base := W0.heap.size) ?_ hbw0.out.size
          repeat (first | exact hO | with_reducible refine own_set ?_ hg0.out _ | with_reducible refine World.ownsRow.drew ?_)
  · have E := As.mk hv
    have hc : ¬ c = 0 := by omega
    rw [hv]
    clear hv
    unfold Flt
    go_wp2
    have hb2 := (Bk.new w1 #[.int .i64 c, .int .i64 i] 33).two
    go_region
    go_wp2
    refine ret_sf (p := 9) (q := 8) (g := w.heap.size) (x := .int .i64 c) (y := .int .i64 i) rfl rfl rfl rfl (by repeat (first | with_reducible exact HB.out | with_reducible refine Bk.drew ?_ | with_reducible refine Bk.drewN ?_ _ | with_reducible apply Bk.set1 | with_reducible apply Bk.set0 | with_reducible refine Bk.alloc ?_ _ | with_reducible exact Bk.new _ _ _ | with_reducible refine Bk.other ?_ (by first | omega | (simp; omega)) _)) ⟨_, by rw [E.out]; rfl, ?_, ?_, ?_⟩
    · repeat (first | exact Below.refl _ _ | assumption | refine bl_drew ?_ | refine bl_drewN ?_ _ | refine bl_alloc ?_ _ | refine Below.setCell ?_ (by first | exact Nat.le_refl _ | exact bl_size (by assumption) | omega | simp) _)
    · exact fun _ => rfl
    · intro h
      rw [E.out] at h
      injection h
      omega
end Go.Proofs.Ytbbhkjljiljadaa
