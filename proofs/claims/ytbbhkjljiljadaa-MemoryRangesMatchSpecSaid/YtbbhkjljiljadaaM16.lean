/- slices.Delete at pages. Conditions: the block is there. -/
import Derived.Test.YtbbhkjljiljadaaM15
import Derived.Deep.RegionLaw
import Derived.Shelf.RegionOpenPlain
namespace Go.Proofs.Ytbbhkjljiljadaa
open Go.RowKit Go.Lib
set_option linter.unusedVariables false
set_option linter.unusedSimpArgs false
/-- The cells of n zero pages. -/
def zpg (n : Nat) : List Value := (Builtin.zeroCells #[.int .i64 0, .int .i64 0, .slice none 0 0] n).toList
theorem zpg_len (n : Nat) : (zpg n).length = n * 3 := by simp [zpg, Builtin.zeroCells]
theorem zpg_one (n : Nat) : ∀ v ∈ zpg n, v.oneCell' = true := by
  intro v hv
  simp only [zpg, Builtin.zeroCells, Array.toList_map, List.mem_map] at hv
  obtain ⟨i, _, rfl⟩ := hv
  have : i % 3 = 0 ∨ i % 3 = 1 ∨ i % 3 = 2 := by omega
  rcases this with h | h | h <;> simp [h] <;> rfl
theorem clear_pages (W : World) (ty : TypeId) (b o n c : Nat) (hn : 0 < n) (hc : ∀ j, j < n * 3 → (W.cell? ⟨b, o + j, none⟩).isSome = true) (hf : ∀ j, j < n * 3 → W.frozen? ⟨b, o + j, none⟩ = false) :
    (Builtin.clear_ #[30] ty #[.slice (some ⟨b, o, none⟩) n c]).run Try.prog W = .ok (.tuple #[]) (W.setCells b o (zpg n)) := by
  have hv : ∀ w, (zeroValue 68).run Try.prog w = .ok (.agg #[.int .i64 0, .int .i64 0, .slice none 0 0]) w := fun _ => by kernel_rfl
  have hst := run_storeCells_cells (P := Try.prog) b o (zpg n) 0 W (by rw [zpg_len]; simpa using hc) (by rw [zpg_len]; simpa using hf) (zpg_one n)
  simp only [Nat.add_zero] at hst
  obtain ⟨m, rfl⟩ : ∃ m, n = m + 1 := ⟨n - 1, by omega⟩
  have hz : (Value.agg #[.int .i64 0, .int .i64 0, .slice none 0 0]).cells = #[.int .i64 0, .int .i64 0, .slice none 0 0] := by rfl
  simp only [zpg] at hst
  simp [Builtin.clear_, run_underlying Try.underlying30, hv, hz, hst, zpg]
theorem inf68s : (Try.prog.info? 68).map (·.size) = some 3 := by kernel_rfl
def DPost (g n i j cap : Nat) (news : List Value) (W : World) (e : Ending) (w' : World) : Prop :=
  e = .returned (.slice (some ⟨g, 0, none⟩) (i + (n - j)) cap) ∧ w' = (W.drew.setCells g (i * 3) news).setCells g ((i + (n - j)) * 3) (zpg (j - i))
set_option maxHeartbeats 4000000 in
set_option maxRecDepth 100000 in
theorem delete_any (g cap n i j : Nat) (cur : Array Value) (news : List Value) (W : World) (hB : Bk W g cur 68) (hsz : cur.size = cap * 3) (hfit : n ≤ cap) (hmost : cap ≤ 9223372036854775807) (hij : i < j) (hj : j ≤ n)
    (hn : news.length = (n - j) * 3) (hg : ∀ t, t < (n - j) * 3 → news[t]? = cur[j * 3 + t]?) (h1 : ∀ u ∈ news, u.oneCell' = true) :
    Calls Try.prog 62 #[.slice (some ⟨g, 0, none⟩) n cap, .int .i64 i, .int .i64 j] W (DPost g n i j cap news W) := by
  obtain ⟨i0, hi0, hz1⟩ := Option.map_eq_some_iff.1 inf68s
  obtain ⟨A, hA, hsrc⟩ : ∃ A : Addr, (if cap = j then some (⟨g, 0, none⟩ : Addr) else some ⟨g, j * 3, none⟩) = some A ∧ As (∀ t u, news[t]? = some u → W.drew.cell? (A.add t) = some u) := by
    by_cases h : cap = j
    · refine ⟨⟨g, 0, none⟩, by simp [h], ⟨fun t u hu => ?_⟩⟩
      have h0 : news.length = 0 := by rw [hn]; omega
      rw [List.length_eq_zero_iff.1 h0] at hu
      simp at hu
    · refine ⟨⟨g, j * 3, none⟩, by simp [h], ⟨fun t u hu => ?_⟩⟩
      have ht : t < (n - j) * 3 := by
        have := (List.getElem?_eq_some_iff.1 hu).1
        rwa [hn] at this
      rw [hg t ht] at hu
      rw [Addr.add_lit]
      exact (hB.drew.cell (j * 3 + t)).trans hu
  have s1 := As.mk hn
  have s2 := As.mk h1
  have s3 : As (∀ t, t < news.length → (W.drew.cell? ⟨g, 0 + i * 3 + t, none⟩).isSome = true ∧ W.drew.frozen? ⟨g, 0 + i * 3 + t, none⟩ = false) := ⟨by
    intro t ht
    rw [hn] at ht
    refine ⟨?_, hB.drew.frozen _⟩
    rw [hB.drew.cell, Array.getElem?_eq_getElem (by omega)]; rfl⟩
  obtain ⟨W1, hW1⟩ : ∃ W1, W1 = W.drew.setCells g (0 + i * 3) news := ⟨_, rfl⟩
  have hB1 : Bk W1 g (writes cur (0 + i * 3) news) 68 := by rw [hW1]; exact hB.drew.setCells news _
  have hcl : ∀ ty, (Builtin.clear_ #[30] ty #[.slice (some ⟨g, (i + (n - j)) * 3, none⟩) (n - (i + (n - j))) (cap - (i + (n - j)))]).run Try.prog W1 = .ok (.tuple #[]) (W1.setCells g ((i + (n - j)) * 3) (zpg (n - (i + (n - j))))) :=
    fun ty => clear_pages W1 ty g _ _ _ (by omega) (fun t ht => by rw [hB1.cell, Array.getElem?_eq_getElem (by rw [writes_size]; omega)]; rfl) (fun t ht => hB1.frozen _)
  have hW := As.mk hW1
  have hic : i ≤ cap := by omega
  have hjc : j ≤ cap := by omega
  clear hW1 hB1 hB hg hn h1
  go_enter Try.func62, Try.ntmps62
  go_wp2_with fail
  go_region_law (refine step_append_room rfl (.tmp 22) (.tmp 25) 30 rfl 68 i0 3 Try.underlying30 hi0 hz1 g 0 i cap (by simp [Act.eval, Act.put]) A (n - j) (cap - j) news (by simp [Act.eval, Act.put]) s1.out hsrc.out s2.out (by omega) s3.out ?_; rw [← hW.out])
  go_wp2
  go_ret
  refine ⟨rfl, ?_⟩
  rw [hW.out, Nat.zero_add, show n - (i + (n - j)) = j - i from by omega]
end Go.Proofs.Ytbbhkjljiljadaa
