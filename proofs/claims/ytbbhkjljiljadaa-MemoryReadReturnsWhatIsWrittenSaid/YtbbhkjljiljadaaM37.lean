/- The walks of MemoryProtectDecidesAccess, MemoryReadReturnsWhatIsWritten for their rows. Conditions: the arguments read so. -/
import Derived.Test.YtbbhkjljiljadaaM36
import Derived.Test.YtbbhkjljiljadaaMO
namespace Go.Proofs.Ytbbhkjljiljadaa
open Go.RowKit
theorem law12 (W : World) (v : Value) (l : List Pg) (hm : RdM W v l) (a : Int) (wa : (Lit.int .i64 a).wf = true) (n : Int) (wn : (Lit.int .i64 n).wf = true) (r : Int) (wr : (Lit.int .i64 r).wf = true) (k : Int) (wk : (Lit.int .i64 k).wf = true) (q : Int) (wq : (Lit.int .i64 q).wf = true) :
    Calls Try.prog 12 #[v, .int .i64 a, .int .i64 n, .int .i64 r, .int .i64 k, .int .i64 q] W fun e w' => e = .returned (.bool true) ∧ Below W.heap.size W w' :=
  protlaw_any v l a n r k q W hm (wf64 wa) (wf64 wn) (wf64 wr) (wf64 wk) (wf64 wq)
theorem law10 (W : World) (v : Value) (l : List Pg) (hm : RdM W v l) (a : Int) (wa : (Lit.int .i64 a).wf = true) (A : Option Addr) (n c : Nat) (zs : List Int) (hd : RdB W A n zs) (o : Int) (wo : (Lit.int .i64 o).wf = true) :
    Calls Try.prog 10 #[v, .int .i64 a, .slice A n c, .int .i64 o] W fun e w' => e = .returned (.bool true) ∧ Below W.heap.size W w' := by
  obtain rfl : zs.length = n := hd.1
  exact readlaw_any v l a A c zs o W hm (wf64 wa) hd (wf64 wo)
end Go.Proofs.Ytbbhkjljiljadaa
