/- How the arguments of this seat's rows are opened: a memory; a slice of bytes. Conditions: the argument is read as the row reads it. -/
import Derived.Test.YtbbhkjljiljadaaM1
import Derived.ProofKit
import Derived.OpenShut
import Derived.Lib.SmallJoins
import Derived.ShutString
import Derived.ChangeOld
import Derived.SizedLaws
import Derived.Deep.Slices
import Derived.Deep.Fields
import Derived.ChangeSame
namespace Go.Proofs.Ytbbhkjljiljadaa
open Go.ChangeShapes Go.WideShapes Go.ChangeAt Go.RowKit Go.Joins Go.Deep
theorem laidOut : laidOutB Try.prog = true := by kernel_rfl
theorem own : ownKnob Try.prog.godebug = none := by kernel_rfl
theorem cells5 : Try.prog.cellsOf 5 = 1 := by kernel_rfl
theorem cells68 : Try.prog.cellsOf 68 = 3 := by kernel_rfl
theorem bytes5 : Try.prog.bytesOf 5 = 1 := by kernel_rfl
theorem bytes68 : Try.prog.bytesOf 68 = 40 := by kernel_rfl
theorem list_of {α : Type} : ∀ (n : Nat) {q : Nat → α → Prop}, (∀ i, i < n → ∃ p, q i p) → ∃ l : List α, l.length = n ∧ ∀ i (h : i < l.length), q i l[i]
  | 0, _, _ => ⟨[], rfl, fun i h => absurd h (by simp)⟩
  | n + 1, q, h => by
    obtain ⟨p, hp⟩ := h 0 (by omega)
    obtain ⟨l, hl, hq⟩ := list_of n (q := fun i => q (i + 1)) (fun i hi => h (i + 1) (by omega))
    refine ⟨p :: l, by simp [hl], fun i hi => ?_⟩
    cases i with
    | zero => exact hp
    | succ i => exact hq i (by simpa using hi)
theorem w_all {H : Type} {P : Program} {e : TypeId} : ∀ {ds : List (DataW H)} {d : DataW H} {n : Nat}, d ∈ ds → n ∈ d.weights P e → n ∈ DataW.weightsAll P e ds
  | x :: r, d, n, hd, hn => by
    rw [DataW.weightsAll, List.mem_append]
    rcases List.mem_cons.1 hd with rfl | hd
    · exact Or.inl hn
    · exact Or.inr (w_all hd hn)
section
variable {H : Type} {enc : TypeId × Value → H} {W : World} {base : Nat}
/-- A slice of bytes, inside or not. -/
theorem trod_bytes {fuel : Nat} {v : Value} {y : DataW H × List MemPlace} (h : DataW.trod enc Try.prog W 0 (fun _ => true) true fuel 66 [v] = some y) (hw : ∀ n ∈ y.1.weights Try.prog 66, n ≤ reachBytes) :
    ∃ A n c zs, v = .slice A n c ∧ n ≤ c ∧ RdB W A n zs := by
  rcases open_ints Try.underlying66 Try.underlying5 cells5 h with ⟨hcs, _⟩ | ⟨x, l, c', zs, hcs, _, hl, hm, hz, hy, hcell, hwz⟩
  · simp at hcs
    subst hcs
    exact ⟨none, 0, 0, [], rfl, by omega, rfl, by omega, by simp, fun h => absurd h (by omega)⟩
  · simp at hcs
    subst hcs
    have hz' : zs.length = c' := by simpa using hz
    have hb : c' ≤ reachBytes := by
      refine hw c' ?_
      rw [hy]
      simp only [DataW.weights, Try.underlying66]
      refine List.mem_cons.2 (Or.inl ?_)
      simp only [lits, List.length_map, List.length_take, List.length_drop, bytes5]
      omega
    unfold reachBytes at hb
    refine ⟨some x, l, c', zs.take l, rfl, hl, by rw [List.length_take]; omega, by omega, fun x hx => ?_, fun hn => ?_⟩
    · have h1 := hwz x (List.mem_of_mem_take hx)
      simp only [Lit.wf, Bool.and_eq_true, decide_eq_true_eq] at h1
      exact h1
    · obtain ⟨b, off, rfl, hc⟩ := ints_at hcell (by omega)
      refine ⟨b, off, rfl, fun j hj => ?_⟩
      rw [hc j (by omega)]
      simp [List.getD_eq_getElem?_getD, hj]
theorem wf64 {n : Int} (h : (Lit.int .i64 n).wf = true) : I64 n := by
  simp only [Lit.wf, Bool.and_eq_true, decide_eq_true_eq] at h
  exact h
set_option maxRecDepth 20000 in
/-- Three cells that the row reads as a page. -/
theorem trod_page {fuel : Nat} {a : Addr} {cs : List Value} {y : DataW H × List MemPlace} (hc : W.cells? 0 a 3 = some cs) (h : DataW.trod enc Try.prog W 0 (fun _ => true) true fuel 68 cs = some y) (hw : ∀ n ∈ y.1.weights Try.prog 68, n ≤ reachBytes) :
    ∃ b off, a = ⟨b, off, none⟩ ∧ ∃ p, RdP W b off p := by
  obtain ⟨_, hcl, hat⟩ := World.cells?_some hc
  obtain ⟨ys, n', hn', hy, hlen, hyl, hf⟩ := DataW.trod_struct Try.underlying68 h
  match cs, hcl with
  | [c0, c1, c2], _ =>
    match ys, hyl with
    | [y0, y1, y2], _ =>
      have hy1 : y.1 = .agg [y0.1, y1.1, y2.1] := by rw [hy]; rfl
      have z3 : Try.prog.cellsOf 3 = 1 := by kernel_rfl
      have z66 : Try.prog.cellsOf 66 = 1 := by kernel_rfl
      have k0 : DataW.trod enc Try.prog W 0 (fun _ => true) true n' 3 (List.take (Try.prog.cellsOf 3) (List.drop 0 [c0, c1, c2])) = some y0 := hf 0 _ rfl
      have k1 : DataW.trod enc Try.prog W 0 (fun _ => true) true n' 3 (List.take (Try.prog.cellsOf 3) (List.drop 1 [c0, c1, c2])) = some y1 := hf 1 _ rfl
      have k2 : DataW.trod enc Try.prog W 0 (fun _ => true) true n' 66 (List.take (Try.prog.cellsOf 66) (List.drop 2 [c0, c1, c2])) = some y2 := hf 2 _ rfl
      rw [z3] at k0 k1
      rw [z66] at k2
      have hcell := fun i (hi : i < 3) => hat i hi
      have q0 := hcell 0 (by omega)
      have q1 := hcell 1 (by omega)
      have q2 := hcell 2 (by omega)
      obtain ⟨m0, e0, _, w0⟩ := DataW.trod_int Try.underlying3 k0
      obtain ⟨m1, e1, _, w1⟩ := DataW.trod_int Try.underlying3 k1
      simp at e0 e1
      subst e0 e1
      obtain ⟨A, n, c, zs, rfl, hnc, hr⟩ := trod_bytes k2 (fun n hn => hw n (by
        rw [hy1]
        simp only [DataW.weights, Try.underlying68]
        exact DataW.weights_mem_each (j := 2) rfl rfl n hn))
      obtain ⟨b, off, spot⟩ := a
      have hspot : spot = none := by simpa [Addr.add] using World.cell?_spot q0
      subst hspot
      simp only [Addr.add_lit] at q0 q1 q2
      have hzl := hr.1
      exact ⟨b, off, rfl, ⟨m0, m1, zs⟩, wf64 w0, wf64 w1, by simpa using q0, by simpa using q1, A, c, by rw [hzl]; simpa using q2, by rw [hzl]; exact hnc, by rw [hzl]; exact hr⟩
set_option maxRecDepth 20000 in
theorem open_mem {v : Value} {d : DataW H} {p : List MemPlace} (hv : Value.okWide Try.prog W .any base 30 v) (h : DataW.Trod enc Try.prog W 0 (fun _ => true) true 30 v d p) (hw : ∀ n ∈ d.weights Try.prog 30, n ≤ reachBytes) :
    ∃ l, RdM W v l ∧ (∀ x ∈ p, x.block < W.heap.size) := by
  have hlt : ∀ x ∈ p, x.block < W.heap.size := by obtain ⟨m, hm⟩ := h; exact DataW.trod_lt m _ _ _ hm
  obtain ⟨A, n, c, rfl⟩ := okWide_slice Try.underlying30 hv
  obtain ⟨fuel, hf⟩ := h
  rcases open_slice Try.underlying30 hf with ⟨hcs, _⟩ | ⟨a, len, cap, m, n', D, Pl, hcs, _, hl, hm, hmm, hx, hi⟩
  · simp [Value.cells] at hcs
    obtain ⟨rfl, rfl, rfl⟩ := hcs
    exact ⟨[], ⟨none, 0, rfl, by simp, by simp, fun h => absurd h (by simp)⟩, hlt⟩
  · simp [Value.cells] at hcs
    obtain ⟨rfl, rfl, rfl⟩ := hcs
    simp only [if_true] at hmm
    subst hmm
    simp only [Prod.mk.injEq] at hx
    have hwl : n * 40 ≤ reachBytes := by
      have : (n + (m - n)) * 40 ≤ reachBytes := hw _ (by
        rw [hx.1]
        simp only [DataW.weights, Try.underlying30]
        refine List.mem_cons.2 (Or.inl ?_)
        simp [bytes68])
      omega
    have hpg : ∀ i, i < n → ∃ b off, a.add (i * 3) = ⟨b, off, none⟩ ∧ ∃ p, RdP W b off p := by
      intro i hin
      obtain ⟨cs', h1, h2⟩ := hi i (by omega)
      rw [cells68] at h1
      exact trod_page h1 h2 (fun k hk => hw k (by
        rw [hx.1]
        simp only [DataW.weights, Try.underlying30]
        refine List.mem_cons.2 (Or.inr (List.mem_append.2 (Or.inl ?_)))
        exact w_all (d := D i) (List.mem_map.2 ⟨i, List.mem_range.2 hin, rfl⟩) hk))
    have hpage : ∀ i, i < n → ∃ p : Pg, ∃ b off, a = ⟨b, off, none⟩ ∧ RdP W b (off + i * 3) p := by
      intro i hin
      obtain ⟨b0, off0, e0, _⟩ := hpg 0 (by omega)
      have e0 : a = ⟨b0, off0, none⟩ := by simpa [Addr.add] using e0
      obtain ⟨b, off, e, p, hp⟩ := hpg i hin
      rw [e0, Addr.add_lit] at e
      injection e with e1 e2 _
      exact ⟨p, b0, off0, e0, by rw [e1, e2]; exact hp⟩
    obtain ⟨l, hll, hq⟩ := list_of n hpage
    refine ⟨l, ⟨some a, m, by rw [hll], by omega, by rw [hll]; unfold reachBytes at hwl; omega, fun h0 => ?_⟩, hlt⟩
    obtain ⟨b, off, rfl, _⟩ := hq 0 h0
    refine ⟨b, off, rfl, fun i hil => ?_⟩
    obtain ⟨b', off', e, hp⟩ := hq i hil
    injection e with e1 e2 _
    rw [e1, e2]
    exact hp
set_option maxRecDepth 20000 in
theorem open_bytes {v : Value} {d : DataW H} {p : List MemPlace} (hv : Value.okWide Try.prog W .any base 66 v) (h : DataW.Trod enc Try.prog W 0 (fun _ => true) true 66 v d p) (hw : ∀ n ∈ d.weights Try.prog 66, n ≤ reachBytes) :
    ∃ A n c zs, v = .slice A n c ∧ RdB W A n zs ∧ (∀ x ∈ p, x.block < W.heap.size) := by
  have hlt : ∀ x ∈ p, x.block < W.heap.size := by obtain ⟨m, hm⟩ := h; exact DataW.trod_lt m _ _ _ hm
  obtain ⟨A, n, c, rfl⟩ := okWide_slice Try.underlying66 hv
  obtain ⟨fuel, hf⟩ := h
  obtain ⟨A', n', c', zs, e, _, hr⟩ := trod_bytes hf hw
  exact ⟨A', n', c', zs, e, hr, hlt⟩
end
end Go.Proofs.Ytbbhkjljiljadaa
