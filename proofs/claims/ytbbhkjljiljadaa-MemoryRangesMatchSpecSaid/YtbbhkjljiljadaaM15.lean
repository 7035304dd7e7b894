/- What slices.Delete leaves of a memory of the call own: the plain part. No condition. -/
import Derived.Test.YtbbhkjljiljadaaM14
import Derived.Laws.IdiomCopy
namespace Go.Proofs.Ytbbhkjljiljadaa
open Go.RowKit
set_option linter.unusedVariables false
set_option linter.unusedSimpArgs false
/-- Cells written one behind the other. -/
def writes (cs : Array Value) : Nat → List Value → Array Value
  | _, [] => cs
  | o, v :: r => writes (cs.setIfInBounds o v) (o + 1) r
theorem writes_size : ∀ (vs : List Value) (cs : Array Value) (o : Nat), (writes cs o vs).size = cs.size
  | [], _, _ => rfl
  | v :: r, cs, o => by unfold writes; rw [writes_size r]; simp
theorem writes_out : ∀ (vs : List Value) (cs : Array Value) (o j : Nat), (j < o ∨ o + vs.length ≤ j) → (writes cs o vs)[j]? = cs[j]?
  | [], _, _, _, _ => rfl
  | v :: r, cs, o, j, h => by
    unfold writes
    simp only [List.length_cons] at h
    rw [writes_out r _ _ _ (by omega), Array.getElem?_setIfInBounds_ne (by omega)]
theorem writes_in : ∀ (vs : List Value) (cs : Array Value) (o j : Nat), o + vs.length ≤ cs.size → j < vs.length → (writes cs o vs)[o + j]? = vs[j]?
  | [], _, _, _, _, h => by simp at h
  | v :: r, cs, o, 0, hs, _ => by
    unfold writes
    simp only [List.length_cons] at hs
    rw [writes_out r _ _ _ (by omega)]
    have : o < cs.size := by omega
    simp [this]
  | v :: r, cs, o, j + 1, hs, h => by
    unfold writes
    simp only [List.length_cons] at hs h
    rw [show o + (j + 1) = o + 1 + j from by omega, writes_in r _ _ _ (by simpa using (by omega : o + 1 + r.length ≤ cs.size)) (by omega)]
    simp
theorem Bk.setCells {g : Nat} {t : TypeId} : ∀ (vs : List Value) (o : Nat) {W : World} {cs : Array Value}, Bk W g cs t → Bk (W.setCells g o vs) g (writes cs o vs) t
  | [], _, _, _, h => h
  | v :: r, o, W, cs, h => Bk.setCells r (o + 1) (h.set' o v)
theorem Bk.setCells_other {g b : Nat} {t : TypeId} (hne : b ≠ g) : ∀ (vs : List Value) (o : Nat) {W : World} {cs : Array Value}, Bk W g cs t → Bk (W.setCells b o vs) g cs t
  | [], _, _, _, h => h
  | v :: r, o, W, cs, h => Bk.setCells_other hne r (o + 1) (h.other hne v)
/-- What slices.Delete leaves of a row of pages of its own. -/
theorem Part.delete {w0 W : World} {base g cap : Nat} {l : List Pg} {i j : Nat} {cur : Array Value} {D C : Nat → Nat} {dc : Nat → Array Value} (hp : Part w0 W base g cap l l.length cur D C dc) (hij : i < j) (hj : j ≤ l.length) {news zs : List Value}
    (hn : news.length = (l.length - j) * 3) (hg : ∀ t, t < (l.length - j) * 3 → news[t]? = cur[j * 3 + t]?) :
    Part w0 ((W.setCells g (i * 3) news).setCells g ((i + (l.length - j)) * 3) zs) base g cap (l.take i ++ l.drop j) (l.take i ++ l.drop j).length (writes (writes cur (i * 3) news) ((i + (l.length - j)) * 3) zs)
      (fun k => if k < i then D k else D (k + (j - i))) (fun k => if k < i then C k else C (k + (j - i))) (fun k => if k < i then dc k else dc (k + (j - i))) := by
  have hfit := hp.fits
  have hlen : (l.take i ++ l.drop j).length = i + (l.length - j) := by simp; omega
  have hget : ∀ k (h : k < (l.take i ++ l.drop j).length), ∃ h2 : (if k < i then k else k + (j - i)) < l.length, (l.take i ++ l.drop j)[k] = l[if k < i then k else k + (j - i)] := by
    intro k h
    rw [hlen] at h
    by_cases c : k < i
    · refine ⟨by rw [if_pos c]; omega, ?_⟩
      rw [List.getElem_append_left (by simp; omega)]
      simp [c]
    · refine ⟨by rw [if_neg c]; omega, ?_⟩
      rw [List.getElem_append_right (by simp; omega)]
      simp only [List.length_take, if_neg c, List.getElem_drop]
      congr 1
      omega
  have hcell : ∀ k q, k < i + (l.length - j) → q < 3 → (writes (writes cur (i * 3) news) ((i + (l.length - j)) * 3) zs)[k * 3 + q]? = cur[(if k < i then k else k + (j - i)) * 3 + q]? := by
    intro k q hk hq
    rw [writes_out zs _ _ _ (by omega)]
    by_cases c : k < i
    · rw [if_pos c, writes_out _ _ _ _ (by omega)]
    · rw [if_neg c, show k * 3 + q = i * 3 + ((k - i) * 3 + q) from by omega, writes_in _ _ _ _ (by rw [hn, hp.size]; omega) (by omega), hg _ (by omega)]
      congr 1
      omega
  refine ⟨((hp.blk.setCells news (i * 3)).setCells zs _), by rw [writes_size, writes_size]; exact hp.size, by omega, hp.most, hp.low, ?_, ?_, ?_, ?_, fun k h hk => absurd h (by omega), ?_⟩
  · intro k h
    obtain ⟨h2, e⟩ := hget k h
    have := hcell k 0 (by omega) (by omega)
    rw [Nat.add_zero, Nat.add_zero] at this
    rw [this, e]; exact hp.adr _ h2
  · intro k h
    obtain ⟨h2, e⟩ := hget k h
    rw [hcell k 1 (by omega) (by omega), e]; exact hp.rts _ h2
  · intro k h _
    obtain ⟨h2, e⟩ := hget k h
    rw [hcell k 2 (by omega) (by omega)]
    obtain ⟨o1, o2, o3, o4, o5⟩ := hp.own _ h2 h2
    by_cases c : k < i
    · simp only [if_pos c] at *
      exact ⟨o1, o2, o3, o4, Bk.setCells_other (Ne.symm o4) _ _ (Bk.setCells_other (Ne.symm o4) _ _ o5)⟩
    · simp only [if_neg c] at *
      exact ⟨o1, o2, o3, o4, Bk.setCells_other (Ne.symm o4) _ _ (Bk.setCells_other (Ne.symm o4) _ _ o5)⟩
  · intro k h _ q hq
    obtain ⟨h2, e⟩ := hget k h
    rw [e]
    have := hp.byt _ h2 h2 q hq
    by_cases c : k < i
    · simp only [if_pos c] at *
      exact this
    · simp only [if_neg c] at *
      exact this
  · intro a b ha hb hne
    rw [hlen] at ha hb
    have h1 : (if a < i then D a else D (a + (j - i))) = D (if a < i then a else a + (j - i)) := by split <;> rfl
    have h2 : (if b < i then D b else D (b + (j - i))) = D (if b < i then b else b + (j - i)) := by split <;> rfl
    show (if a < i then D a else D (a + (j - i))) ≠ (if b < i then D b else D (b + (j - i)))
    rw [h1, h2]
    apply hp.dif
    · split <;> omega
    · split <;> omega
    · split <;> split <;> omega
end Go.Proofs.Ytbbhkjljiljadaa
