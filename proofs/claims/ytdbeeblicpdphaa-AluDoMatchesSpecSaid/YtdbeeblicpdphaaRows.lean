/-
  No cell of these rows narrows 'for every input' (looked for: loops, veiled, ifaces, maps, wideKeys, modest, calm, conditions, laid).
  DERIVED. THE GIVEN ROWS OF THIS SEAT. 8 by the template 'for every input the law returns true; each argument reads behind the call as it read before'; 0 by the template 'total and deterministic' (their statements: YtdbeeblicpdphaaTotals.lean).
  GIVEN WITH THE SEED: the statements are not yours to turn. If you find one false, say at which input.
  Laid BY PROGRAM, IN A SANDBOX (cutbox-rows.mjs): the forced cells as the released guide's own fill.sh prints them over the translation ff5d4579504d8f88… (all of the seat's roots in one cut). By AI agents, Wed Nov 11 2026. No macro, syntax, notation, axiom, sorry.
-/
import Derived.Test.YtdbeeblicpdphaaChecked
import GoSem.Claim
import GoSem.ClaimJoined
import GoSem.ClaimMapViews
import Derived.JoinedTies
import Derived.KernelRfl
namespace Go.Proofs.Ytdbeeblicpdphaa
/- THE CELL 'sum', in the pinned program and in every row, IS THE sha256 OF THE DUMP (.gsa) THAT YtdbeeblicpdphaaProg.lean LOADS. Nothing in Lean hashes anything: it is a label: what it is worth is what the hold of that sum in a sandbox is worth. -/
noncomputable def Try.pinned : Pinned := { name := "ytdbeeblicpdphaa", sum := "ff5d4579504d8f8892700603de006531e66cde6d056a8995f3b8d2c30f187651", checked := Try.checked }
namespace Rows
def none {H : Type} : Left H := { results := [], args := [] }

/-- 'linkhouselaw5.LanesMatchSpec': WHATEVER THE INPUT: true; the input reads as it did. -/
def lanesMatchSpecSpec : ChangeSpec := { name := "lanesMatchSpec", fn := fun _ => fun
  | [d1, d2, d3] => { results := [.lit (.bool true)], args := [d1, d2, d3] }
  | _ => none }
def lanesMatchSpecRow : OpenClaim := { program := "ytdbeeblicpdphaa", sum := "ff5d4579504d8f8892700603de006531e66cde6d056a8995f3b8d2c30f187651", func := "linkhouse/linkhouselaw5.LanesMatchSpec", spec := "lanesMatchSpec", unfollowed := true, recurses := true, apart := false }
def LanesMatchSpecSaid : Prop := lanesMatchSpecRow.holds Try.pinned (OpenSpec.ofChange lanesMatchSpecSpec)

/-- ITS FALSE NEIGHBOUR: 'it returns false'. Refute it at one input. -/
def lanesMatchSpecWrong : ChangeSpec := { name := "lanesMatchSpec", fn := fun _ => fun
  | [d1, d2, d3] => { results := [.lit (.bool false)], args := [d1, d2, d3] }
  | _ => none }
def LanesMatchSpecWrongFalsely : Prop := lanesMatchSpecRow.holds Try.pinned (OpenSpec.ofChange lanesMatchSpecWrong)

/-- 'linkhouselaw5.LanesBytesMatchSpec': WHATEVER THE INPUT: true; the input reads as it did. -/
def lanesBytesMatchSpecSpec : ChangeSpec := { name := "lanesBytesMatchSpec", fn := fun _ => fun
  | [d1, d2] => { results := [.lit (.bool true)], args := [d1, d2] }
  | _ => none }
def lanesBytesMatchSpecRow : OpenClaim := { program := "ytdbeeblicpdphaa", sum := "ff5d4579504d8f8892700603de006531e66cde6d056a8995f3b8d2c30f187651", func := "linkhouse/linkhouselaw5.LanesBytesMatchSpec", spec := "lanesBytesMatchSpec", unfollowed := true, recurses := true, apart := false }
def LanesBytesMatchSpecSaid : Prop := lanesBytesMatchSpecRow.holds Try.pinned (OpenSpec.ofChange lanesBytesMatchSpecSpec)

/-- ITS FALSE NEIGHBOUR: 'it returns false'. Refute it at one input. -/
def lanesBytesMatchSpecWrong : ChangeSpec := { name := "lanesBytesMatchSpec", fn := fun _ => fun
  | [d1, d2] => { results := [.lit (.bool false)], args := [d1, d2] }
  | _ => none }
def LanesBytesMatchSpecWrongFalsely : Prop := lanesBytesMatchSpecRow.holds Try.pinned (OpenSpec.ofChange lanesBytesMatchSpecWrong)

/-- 'linkhouselaw5.LanesSumIsLinear': WHATEVER THE INPUT: true; the input reads as it did. -/
def lanesSumIsLinearSpec : ChangeSpec := { name := "lanesSumIsLinear", fn := fun _ => fun
  | [d1, d2, d3] => { results := [.lit (.bool true)], args := [d1, d2, d3] }
  | _ => none }
def lanesSumIsLinearRow : OpenClaim := { program := "ytdbeeblicpdphaa", sum := "ff5d4579504d8f8892700603de006531e66cde6d056a8995f3b8d2c30f187651", func := "linkhouse/linkhouselaw5.LanesSumIsLinear", spec := "lanesSumIsLinear", unfollowed := true, recurses := true, apart := false }
def LanesSumIsLinearSaid : Prop := lanesSumIsLinearRow.holds Try.pinned (OpenSpec.ofChange lanesSumIsLinearSpec)

/-- ITS FALSE NEIGHBOUR: 'it returns false'. Refute it at one input. -/
def lanesSumIsLinearWrong : ChangeSpec := { name := "lanesSumIsLinear", fn := fun _ => fun
  | [d1, d2, d3] => { results := [.lit (.bool false)], args := [d1, d2, d3] }
  | _ => none }
def LanesSumIsLinearWrongFalsely : Prop := lanesSumIsLinearRow.holds Try.pinned (OpenSpec.ofChange lanesSumIsLinearWrong)

/-- 'linkhouselaw5.AluDoMatchesSpec': WHATEVER THE INPUT: true; the input reads as it did. -/
def aluDoMatchesSpecSpec : ChangeSpec := { name := "aluDoMatchesSpec", fn := fun _ => fun
  | [d1, d2, d3] => { results := [.lit (.bool true)], args := [d1, d2, d3] }
  | _ => none }
def aluDoMatchesSpecRow : OpenClaim := { program := "ytdbeeblicpdphaa", sum := "ff5d4579504d8f8892700603de006531e66cde6d056a8995f3b8d2c30f187651", func := "linkhouse/linkhouselaw5.AluDoMatchesSpec", spec := "aluDoMatchesSpec", unfollowed := true, recurses := true, apart := false }
def AluDoMatchesSpecSaid : Prop := aluDoMatchesSpecRow.holds Try.pinned (OpenSpec.ofChange aluDoMatchesSpecSpec)

/-- ITS FALSE NEIGHBOUR: 'it returns false'. Refute it at one input. -/
def aluDoMatchesSpecWrong : ChangeSpec := { name := "aluDoMatchesSpec", fn := fun _ => fun
  | [d1, d2, d3] => { results := [.lit (.bool false)], args := [d1, d2, d3] }
  | _ => none }
def AluDoMatchesSpecWrongFalsely : Prop := aluDoMatchesSpecRow.holds Try.pinned (OpenSpec.ofChange aluDoMatchesSpecWrong)

/-- 'linkhouselaw5.AluTakenMatchesSpec': WHATEVER THE INPUT: true; the input reads as it did. -/
def aluTakenMatchesSpecSpec : ChangeSpec := { name := "aluTakenMatchesSpec", fn := fun _ => fun
  | [d1, d2] => { results := [.lit (.bool true)], args := [d1, d2] }
  | _ => none }
def aluTakenMatchesSpecRow : OpenClaim := { program := "ytdbeeblicpdphaa", sum := "ff5d4579504d8f8892700603de006531e66cde6d056a8995f3b8d2c30f187651", func := "linkhouse/linkhouselaw5.AluTakenMatchesSpec", spec := "aluTakenMatchesSpec", unfollowed := true, recurses := true, apart := false }
def AluTakenMatchesSpecSaid : Prop := aluTakenMatchesSpecRow.holds Try.pinned (OpenSpec.ofChange aluTakenMatchesSpecSpec)

/-- ITS FALSE NEIGHBOUR: 'it returns false'. Refute it at one input. -/
def aluTakenMatchesSpecWrong : ChangeSpec := { name := "aluTakenMatchesSpec", fn := fun _ => fun
  | [d1, d2] => { results := [.lit (.bool false)], args := [d1, d2] }
  | _ => none }
def AluTakenMatchesSpecWrongFalsely : Prop := aluTakenMatchesSpecRow.holds Try.pinned (OpenSpec.ofChange aluTakenMatchesSpecWrong)

/-- 'linkhouselaw5.AluFlagsOrderNumbers': WHATEVER THE INPUT: true; the input reads as it did. -/
def aluFlagsOrderNumbersSpec : ChangeSpec := { name := "aluFlagsOrderNumbers", fn := fun _ => fun
  | [d1, d2] => { results := [.lit (.bool true)], args := [d1, d2] }
  | _ => none }
def aluFlagsOrderNumbersRow : OpenClaim := { program := "ytdbeeblicpdphaa", sum := "ff5d4579504d8f8892700603de006531e66cde6d056a8995f3b8d2c30f187651", func := "linkhouse/linkhouselaw5.AluFlagsOrderNumbers", spec := "aluFlagsOrderNumbers", unfollowed := true, recurses := true, apart := false }
def AluFlagsOrderNumbersSaid : Prop := aluFlagsOrderNumbersRow.holds Try.pinned (OpenSpec.ofChange aluFlagsOrderNumbersSpec)

/-- ITS FALSE NEIGHBOUR: 'it returns false'. Refute it at one input. -/
def aluFlagsOrderNumbersWrong : ChangeSpec := { name := "aluFlagsOrderNumbers", fn := fun _ => fun
  | [d1, d2] => { results := [.lit (.bool false)], args := [d1, d2] }
  | _ => none }
def AluFlagsOrderNumbersWrongFalsely : Prop := aluFlagsOrderNumbersRow.holds Try.pinned (OpenSpec.ofChange aluFlagsOrderNumbersWrong)

/-- 'linkhouselaw5.AluAddIsInverseOfSub': WHATEVER THE INPUT: true; the input reads as it did. -/
def aluAddIsInverseOfSubSpec : ChangeSpec := { name := "aluAddIsInverseOfSub", fn := fun _ => fun
  | [d1, d2, d3] => { results := [.lit (.bool true)], args := [d1, d2, d3] }
  | _ => none }
def aluAddIsInverseOfSubRow : OpenClaim := { program := "ytdbeeblicpdphaa", sum := "ff5d4579504d8f8892700603de006531e66cde6d056a8995f3b8d2c30f187651", func := "linkhouse/linkhouselaw5.AluAddIsInverseOfSub", spec := "aluAddIsInverseOfSub", unfollowed := true, recurses := true, apart := false }
def AluAddIsInverseOfSubSaid : Prop := aluAddIsInverseOfSubRow.holds Try.pinned (OpenSpec.ofChange aluAddIsInverseOfSubSpec)

/-- ITS FALSE NEIGHBOUR: 'it returns false'. Refute it at one input. -/
def aluAddIsInverseOfSubWrong : ChangeSpec := { name := "aluAddIsInverseOfSub", fn := fun _ => fun
  | [d1, d2, d3] => { results := [.lit (.bool false)], args := [d1, d2, d3] }
  | _ => none }
def AluAddIsInverseOfSubWrongFalsely : Prop := aluAddIsInverseOfSubRow.holds Try.pinned (OpenSpec.ofChange aluAddIsInverseOfSubWrong)

/-- 'linkhouselaw5.AluQuotientsLeaveRests': WHATEVER THE INPUT: true; the input reads as it did. -/
def aluQuotientsLeaveRestsSpec : ChangeSpec := { name := "aluQuotientsLeaveRests", fn := fun _ => fun
  | [d1, d2] => { results := [.lit (.bool true)], args := [d1, d2] }
  | _ => none }
def aluQuotientsLeaveRestsRow : OpenClaim := { program := "ytdbeeblicpdphaa", sum := "ff5d4579504d8f8892700603de006531e66cde6d056a8995f3b8d2c30f187651", func := "linkhouse/linkhouselaw5.AluQuotientsLeaveRests", spec := "aluQuotientsLeaveRests", unfollowed := true, recurses := true, apart := false }
def AluQuotientsLeaveRestsSaid : Prop := aluQuotientsLeaveRestsRow.holds Try.pinned (OpenSpec.ofChange aluQuotientsLeaveRestsSpec)

/-- ITS FALSE NEIGHBOUR: 'it returns false'. Refute it at one input. -/
def aluQuotientsLeaveRestsWrong : ChangeSpec := { name := "aluQuotientsLeaveRests", fn := fun _ => fun
  | [d1, d2] => { results := [.lit (.bool false)], args := [d1, d2] }
  | _ => none }
def AluQuotientsLeaveRestsWrongFalsely : Prop := aluQuotientsLeaveRestsRow.holds Try.pinned (OpenSpec.ofChange aluQuotientsLeaveRestsWrong)

/- THE SECOND FORM. 'bulk': how many values and letters a reading holds, each counted each time it is reached (what is shared counts as often as it is met; a slice's spare places count too). A statement '..UptoSaid' is the law's where the arguments, and the package variables that the reading takes, are together of bulk at most 1048576: NARROWER than '..Said'. Prove '..Said' where nothing that the law and all that it calls make is longer than what came in: it says more and counts as full. Else prove '..UptoSaid'. A law counts once. -/
mutual
def uptoBulk {H : Type} : DataW H → Nat
  | .lit (.string bytes) => bytes.length + 1
  | .lit _ => 1
  | .nil => 1
  | .ptr d => uptoBulk d + 1
  | .slice elems spare => uptoBulkAll elems + uptoBulkAll spare + 1
  | .agg parts => uptoBulkAll parts + 1
  | .iface _ d => uptoBulk d + 1
  | .map entries => uptoBulkEntries entries + 1
  | .held _ => 1
def uptoBulkAll {H : Type} : List (DataW H) → Nat
  | [] => 0
  | d :: r => uptoBulk d + uptoBulkAll r
def uptoBulkEntries {H : Type} : List (Lit × DataW H) → Nat
  | [] => 0
  | x :: r => uptoBulkEntry x + uptoBulkEntries r
def uptoBulkEntry {H : Type} : Lit × DataW H → Nat
  | (.string bytes, d) => bytes.length + uptoBulk d + 1
  | (_, d) => uptoBulk d + 1
 end
def uptoSmall : (H : Type) → List (DataW H) → Bool := fun _ ds => decide (uptoBulkAll ds ≤ 1048576)
def OpenSpec.upto (s : _root_.Go.ChangeSpec) : _root_.Go.OpenSpec := { _root_.Go.OpenSpec.ofChange s with cond := some uptoSmall }

/-- 'linkhouselaw5.LanesMatchSpec', WHERE WHAT IT READS IS OF BULK AT MOST 1048576: true; the input reads as it did. -/
def lanesMatchSpecUptoRow : OpenClaim := { program := "ytdbeeblicpdphaa", sum := "ff5d4579504d8f8892700603de006531e66cde6d056a8995f3b8d2c30f187651", func := "linkhouse/linkhouselaw5.LanesMatchSpec", spec := "lanesMatchSpec", unfollowed := true, recurses := true, apart := false, narrowed := true }
def LanesMatchSpecUptoSaid : Prop := lanesMatchSpecUptoRow.holds Try.pinned (OpenSpec.upto lanesMatchSpecSpec)

/-- 'linkhouselaw5.LanesBytesMatchSpec', WHERE WHAT IT READS IS OF BULK AT MOST 1048576: true; the input reads as it did. -/
def lanesBytesMatchSpecUptoRow : OpenClaim := { program := "ytdbeeblicpdphaa", sum := "ff5d4579504d8f8892700603de006531e66cde6d056a8995f3b8d2c30f187651", func := "linkhouse/linkhouselaw5.LanesBytesMatchSpec", spec := "lanesBytesMatchSpec", unfollowed := true, recurses := true, apart := false, narrowed := true }
def LanesBytesMatchSpecUptoSaid : Prop := lanesBytesMatchSpecUptoRow.holds Try.pinned (OpenSpec.upto lanesBytesMatchSpecSpec)

/-- 'linkhouselaw5.LanesSumIsLinear', WHERE WHAT IT READS IS OF BULK AT MOST 1048576: true; the input reads as it did. -/
def lanesSumIsLinearUptoRow : OpenClaim := { program := "ytdbeeblicpdphaa", sum := "ff5d4579504d8f8892700603de006531e66cde6d056a8995f3b8d2c30f187651", func := "linkhouse/linkhouselaw5.LanesSumIsLinear", spec := "lanesSumIsLinear", unfollowed := true, recurses := true, apart := false, narrowed := true }
def LanesSumIsLinearUptoSaid : Prop := lanesSumIsLinearUptoRow.holds Try.pinned (OpenSpec.upto lanesSumIsLinearSpec)

/-- 'linkhouselaw5.AluDoMatchesSpec', WHERE WHAT IT READS IS OF BULK AT MOST 1048576: true; the input reads as it did. -/
def aluDoMatchesSpecUptoRow : OpenClaim := { program := "ytdbeeblicpdphaa", sum := "ff5d4579504d8f8892700603de006531e66cde6d056a8995f3b8d2c30f187651", func := "linkhouse/linkhouselaw5.AluDoMatchesSpec", spec := "aluDoMatchesSpec", unfollowed := true, recurses := true, apart := false, narrowed := true }
def AluDoMatchesSpecUptoSaid : Prop := aluDoMatchesSpecUptoRow.holds Try.pinned (OpenSpec.upto aluDoMatchesSpecSpec)

/-- 'linkhouselaw5.AluTakenMatchesSpec', WHERE WHAT IT READS IS OF BULK AT MOST 1048576: true; the input reads as it did. -/
def aluTakenMatchesSpecUptoRow : OpenClaim := { program := "ytdbeeblicpdphaa", sum := "ff5d4579504d8f8892700603de006531e66cde6d056a8995f3b8d2c30f187651", func := "linkhouse/linkhouselaw5.AluTakenMatchesSpec", spec := "aluTakenMatchesSpec", unfollowed := true, recurses := true, apart := false, narrowed := true }
def AluTakenMatchesSpecUptoSaid : Prop := aluTakenMatchesSpecUptoRow.holds Try.pinned (OpenSpec.upto aluTakenMatchesSpecSpec)

/-- 'linkhouselaw5.AluFlagsOrderNumbers', WHERE WHAT IT READS IS OF BULK AT MOST 1048576: true; the input reads as it did. -/
def aluFlagsOrderNumbersUptoRow : OpenClaim := { program := "ytdbeeblicpdphaa", sum := "ff5d4579504d8f8892700603de006531e66cde6d056a8995f3b8d2c30f187651", func := "linkhouse/linkhouselaw5.AluFlagsOrderNumbers", spec := "aluFlagsOrderNumbers", unfollowed := true, recurses := true, apart := false, narrowed := true }
def AluFlagsOrderNumbersUptoSaid : Prop := aluFlagsOrderNumbersUptoRow.holds Try.pinned (OpenSpec.upto aluFlagsOrderNumbersSpec)

/-- 'linkhouselaw5.AluAddIsInverseOfSub', WHERE WHAT IT READS IS OF BULK AT MOST 1048576: true; the input reads as it did. -/
def aluAddIsInverseOfSubUptoRow : OpenClaim := { program := "ytdbeeblicpdphaa", sum := "ff5d4579504d8f8892700603de006531e66cde6d056a8995f3b8d2c30f187651", func := "linkhouse/linkhouselaw5.AluAddIsInverseOfSub", spec := "aluAddIsInverseOfSub", unfollowed := true, recurses := true, apart := false, narrowed := true }
def AluAddIsInverseOfSubUptoSaid : Prop := aluAddIsInverseOfSubUptoRow.holds Try.pinned (OpenSpec.upto aluAddIsInverseOfSubSpec)

/-- 'linkhouselaw5.AluQuotientsLeaveRests', WHERE WHAT IT READS IS OF BULK AT MOST 1048576: true; the input reads as it did. -/
def aluQuotientsLeaveRestsUptoRow : OpenClaim := { program := "ytdbeeblicpdphaa", sum := "ff5d4579504d8f8892700603de006531e66cde6d056a8995f3b8d2c30f187651", func := "linkhouse/linkhouselaw5.AluQuotientsLeaveRests", spec := "aluQuotientsLeaveRests", unfollowed := true, recurses := true, apart := false, narrowed := true }
def AluQuotientsLeaveRestsUptoSaid : Prop := aluQuotientsLeaveRestsUptoRow.holds Try.pinned (OpenSpec.upto aluQuotientsLeaveRestsSpec)

end Rows
end Go.Proofs.Ytdbeeblicpdphaa
