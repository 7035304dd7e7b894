/- The walk of MemoryAccessesMatchSpec for its row. Conditions: the arguments read so. -/
import Derived.Test.YtbbhkjljiljadaaM38
import Derived.Test.YtbbhkjljiljadaaMO
namespace Go.Proofs.Ytbbhkjljiljadaa
open Go.RowKit
theorem law9 (W : World) (v : Value) (l : List Pg) (hm : RdM W v l) (a : Int) (wa : (Lit.int .i64 a).wf = true) (m : Int) (wm : (Lit.int .i64 m).wf = true) (A : Option Addr) (n c : Nat) (zs : List Int) (hd : RdB W A n zs) (r : Int) (wr : (Lit.int .i64 r).wf = true) :
    Calls Try.prog 9 #[v, .int .i64 a, .int .i64 m, .slice A n c, .int .i64 r] W fun e w' => e = .returned (.bool true) ∧ Below W.heap.size W w' := by
  obtain rfl : zs.length = n := hd.1
  exact acclaw_any v l a m A c zs r W hm (wf64 wa) (wf64 wm) hd
end Go.Proofs.Ytbbhkjljiljadaa
