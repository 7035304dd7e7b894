/- The walk of MemoryRangesMatchSpec for its row. Conditions: the arguments read so. -/
import Derived.Test.YtbbhkjljiljadaaM46
import Derived.Test.YtbbhkjljiljadaaMO
namespace Go.Proofs.Ytbbhkjljiljadaa
open Go.RowKit
theorem law8 (W : World) (v : Value) (l : List Pg) (hm : RdM W v l) (a : Int) (wa : (Lit.int .i64 a).wf = true) (n : Int) (wn : (Lit.int .i64 n).wf = true) (r : Int) (wr : (Lit.int .i64 r).wf = true) :
    Calls Try.prog 8 #[v, .int .i64 a, .int .i64 n, .int .i64 r] W fun e w' => e = .returned (.bool true) ∧ Below W.heap.size W w' :=
  rnglaw_any v l a n r W hm (wf64 wa) (wf64 wn) (wf64 wr)
end Go.Proofs.Ytbbhkjljiljadaa
