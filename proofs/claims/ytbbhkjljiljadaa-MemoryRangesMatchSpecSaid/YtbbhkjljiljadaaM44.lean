/- Three rows of pages of the law own, side by side. No condition. -/
import Derived.Test.YtbbhkjljiljadaaM42
namespace Go.Proofs.Ytbbhkjljiljadaa
open Go.RowKit
set_option linter.unusedVariables false
set_option linter.unusedSimpArgs false
/-- Nothing of v's own lies at block g. -/
def Nb (v : Value) (g : Nat) : Prop := ∀ b, v.ownBlock = some b → b ≠ g
def Dj (u v : Value) : Prop := ∀ b, u.ownBlock = some b → v.ownBlock ≠ some b
theorem Dj.symm {u v : Value} (h : Dj u v) : Dj v u := fun b hv hu => h b hu hv
theorem Nb.nil (g : Nat) : Nb (.slice none 0 0) g := fun b h => by simp [Value.ownBlock] at h
theorem Dj.nil (v : Value) : Dj (.slice none 0 0) v := fun b h => by simp [Value.ownBlock] at h
/-- Three rows, a page's box at g, and the world. -/
structure R3 (w W0 wr : World) (vx vy vz : Value) (mx my mz : List Pg) : Prop where
  x : Rw w W0 wr vx mx
  y : Rw w W0 wr vy my
  z : Rw w W0 wr vz mz
  xy : Dj vx vy
  yz : Dj vy vz
  zx : Dj vz vx
section
variable {w W0 wr wr' : World} {vx vy vz v1 : Value} {mx my mz m1 : List Pg} {g : Nat}
theorem R3.rot (h : R3 w W0 wr vx vy vz mx my mz) : R3 w W0 wr vy vz vx my mz mx := ⟨h.y, h.z, h.x, h.yz, h.zx, h.xy⟩
theorem R3.nil (w W0 wr : World) : R3 w W0 wr (.slice none 0 0) (.slice none 0 0) (.slice none 0 0) [] [] [] := ⟨Rw.nil _ _ _, Rw.nil _ _ _, Rw.nil _ _ _, Dj.nil _, Dj.nil _, Dj.nil _⟩
theorem R3.below (h : R3 w W0 wr vx vy vz mx my mz) (hb : Below wr.heap.size wr wr') : R3 w W0 wr' vx vy vz mx my mz := ⟨h.x.below hb, h.y.below hb, h.z.below hb, h.xy, h.yz, h.zx⟩
theorem R3.set (h : R3 w W0 wr vx vy vz mx my mz) {p : Addr} (hx : Nb vx p.block) (hy : Nb vy p.block) (hz : Nb vz p.block) (u : Value) : R3 w W0 (wr.setCell p u) vx vy vz mx my mz := ⟨h.x.setb hx u, h.y.setb hy u, h.z.setb hz u, h.xy, h.yz, h.zx⟩
theorem R3.ap (h : R3 w W0 wr vx vy vz mx my mz) (h1 : Rw w W0 wr' v1 m1) (hg : wr.grownBy wr' vx.ownBlock) (hb : v1.ownBlock = vx.ownBlock ∨ v1.ownBlock = some wr.heap.size) : R3 w W0 wr' v1 vy vz m1 my mz := by
  have ny : ∀ b, vy.ownBlock = some b → some b ≠ vx.ownBlock := fun b e1 e2 => h.xy b e2.symm e1
  have nz : ∀ b, vz.ownBlock = some b → some b ≠ vx.ownBlock := fun b e1 e2 => h.zx b e1 e2.symm
  refine ⟨h1, h.y.grown hg ny, h.z.grown hg nz, ?_, h.yz, ?_⟩
  · intro b e1 e2
    rcases hb with hb | hb
    · exact h.xy b (hb ▸ e1) e2
    · rw [e1] at hb; injection hb with hb
      have := (h.y.lt e2).1; omega
  · intro b e1 e2
    rcases hb with hb | hb
    · exact h.zx b e1 (hb ▸ e2)
    · rw [e2] at hb; injection hb with hb
      have := (h.z.lt e1).1; omega
theorem Nb.ap (h : Nb vx g) (hg : g < wr.heap.size) (hb : v1.ownBlock = vx.ownBlock ∨ v1.ownBlock = some wr.heap.size) : Nb v1 g := by
  intro b e1
  rcases hb with hb | hb
  · exact h b (hb ▸ e1)
  · rw [e1] at hb; injection hb with hb; omega
theorem Rw.nb (h : Rw w W0 wr vx mx) (hg : wr.heap.size ≤ g) : Nb vx g := fun b e => by have := (h.lt e).1; omega
theorem Rw.gb (h : Rw w W0 wr vx mx) (hg : g < W0.heap.size) : Nb vx g := fun b e => by have := (h.lt e).2; omega
theorem bl_grown {w0 : World} (h : Below w0.heap.size w0 wr) (hg : wr.grownBy wr' vx.ownBlock) (hv : ∀ b, vx.ownBlock = some b → w0.heap.size ≤ b) : Below w0.heap.size w0 wr' := h.grown hg h.size (fun k hk => hv k hk)
theorem Bk.grown {cs : Array Value} {t : TypeId} {g1 : Option Nat} (h : Bk wr g cs t) (hg : wr.grownBy wr' g1) (hn : some g ≠ g1) : Bk wr' g cs t := (hg.block g h.lt hn).trans h
end
/-- The world of a round: three rows, the page's box. -/
structure RS (w W0 wr : World) (g : Nat) (cs : Array Value) (vx vy vz : Value) (mx my mz : List Pg) : Prop where
  r : R3 w W0 wr vx vy vz mx my mz
  k : Bk wr g cs 68
  nx : Nb vx g
  ny : Nb vy g
  nz : Nb vz g
  b : Below W0.heap.size W0 wr
section
variable {w W0 wr wr' : World} {vx vy vz v1 : Value} {mx my mz m1 : List Pg} {g : Nat} {cs : Array Value}
theorem RS.rot (h : RS w W0 wr g cs vx vy vz mx my mz) : RS w W0 wr g cs vy vz vx my mz mx := ⟨h.r.rot, h.k, h.ny, h.nz, h.nx, h.b⟩
theorem RS.below (h : RS w W0 wr g cs vx vy vz mx my mz) (hb : Below wr.heap.size wr wr') : RS w W0 wr' g cs vx vy vz mx my mz := ⟨h.r.below hb, h.k.below hb, h.nx, h.ny, h.nz, bl_then h.b hb⟩
theorem RS.start (h : R3 w W0 wr vx vy vz mx my mz) (hb : Below W0.heap.size W0 wr) (cs : Array Value) : RS w W0 (wr.alloc (.cells cs 68)) wr.heap.size cs vx vy vz mx my mz :=
  ⟨h.below (bl_alloc (Below.refl _ _) _), Bk.new _ _ _, h.x.nb (Nat.le_refl _), h.y.nb (Nat.le_refl _), h.z.nb (Nat.le_refl _), bl_alloc hb _⟩
theorem RS.ap (h : RS w W0 wr g cs vx vy vz mx my mz) (h1 : Rw w W0 wr' v1 m1) (hg : wr.grownBy wr' vx.ownBlock) (hb : v1.ownBlock = vx.ownBlock ∨ v1.ownBlock = some wr.heap.size) : RS w W0 wr' g cs v1 vy vz m1 my mz :=
  ⟨h.r.ap h1 hg hb, h.k.grown hg (fun e => h.nx g e.symm rfl), h.nx.ap h.k.lt hb, h.ny, h.nz, bl_grown h.b hg (fun b e => (h.r.x.lt e).2)⟩
theorem RS.set {c0 c1 c2 : Value} (h : RS w W0 wr g #[c0, c1, c2] vx vy vz mx my mz) (hg : W0.heap.size ≤ g) (u : Value) : RS w W0 (wr.setCell ⟨g, 1, none⟩ u) g #[c0, u, c2] vx vy vz mx my mz :=
  ⟨h.r.set h.nx h.ny h.nz u, h.k.set 1 u, h.nx, h.ny, h.nz, h.b.setCell hg u⟩
end
/-- The relation of the law's first loop. -/
def R3Rel (l : List Pg) (fy : Pg → Bool) (fz : Pg → Pg) (w W0 : World) (vx vy vz vi : Value) (wr : World) : Prop :=
  ∃ i : Nat, vi = .int .i64 i ∧ i ≤ l.length ∧ As (R3 w W0 wr vx vy vz (l.take i) ((l.take i).filter fy) ((l.take i).map fz)) ∧ As (Below W0.heap.size W0 wr)
theorem take_step {l : List Pg} {i : Nat} (h : i < l.length) : l.take (i + 1) = l.take i ++ [l[i]] := by rw [List.take_succ_eq_append_getElem h]
theorem filt_step {l : List Pg} {i : Nat} (h : i < l.length) (f : Pg → Bool) : (l.take (i + 1)).filter f = (l.take i).filter f ++ (if f l[i] then [l[i]] else []) := by
  rw [take_step h, List.filter_append]; simp [List.filter_cons]
theorem map_step {l : List Pg} {i : Nat} (h : i < l.length) (f : Pg → Pg) : (l.take (i + 1)).map f = (l.take i).map f ++ [f l[i]] := by
  rw [take_step h, List.map_append]; rfl
theorem filt_len (l : List Pg) (i : Nat) (f : Pg → Bool) : ((l.take i).filter f).length ≤ i := Nat.le_trans (List.length_filter_le _ _) (List.length_take_le _ _)
end Go.Proofs.Ytbbhkjljiljadaa
