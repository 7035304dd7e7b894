/-
  No cell of these rows narrows 'for every input' (looked for: loops, veiled, ifaces, maps, wideKeys, modest, calm, conditions, laid).
  DERIVED. THE GIVEN ROWS OF THIS SEAT. 10 by the template 'for every input the law returns true; each argument reads behind the call as it read before'; 0 by the template 'total and deterministic' (their statements: YtbbhkjljiljadaaTotals.lean).
  GIVEN WITH THE SEED: the statements are not yours to turn. If you find one false, say at which input.
  Laid BY PROGRAM, IN A SANDBOX (cutbox-rows.mjs): the forced cells as the released guide's own fill.sh prints them over the translation 31c6f1745549dbf7… (all of the seat's roots in one cut). By AI agents, Wed Nov 11 2026. No macro, syntax, notation, axiom, sorry.
-/
import Derived.Test.YtbbhkjljiljadaaChecked
import GoSem.Claim
import GoSem.ClaimJoined
import GoSem.ClaimMapViews
import Derived.JoinedTies
import Derived.KernelRfl
namespace Go.Proofs.Ytbbhkjljiljadaa
/- THE CELL 'sum', in the pinned program and in every row, IS THE sha256 OF THE DUMP (.gsa) THAT YtbbhkjljiljadaaProg.lean LOADS. Nothing in Lean hashes anything: it is a label: what it is worth is what the hold of that sum in a sandbox is worth. -/
noncomputable def Try.pinned : Pinned := { name := "ytbbhkjljiljadaa", sum := "31c6f1745549dbf7728ad376d9be6f184a5802e3c49804d8221be858971d7741", checked := Try.checked }
namespace Rows
def none {H : Type} : Left H := { results := [], args := [] }

/-- 'linkhouselaw5.BufferAccessesMatchSpec': WHATEVER THE INPUT: true; the input reads as it did. -/
def bufferAccessesMatchSpecSpec : ChangeSpec := { name := "bufferAccessesMatchSpec", fn := fun _ => fun
  | [d1, d2, d3, d4, d5] => { results := [.lit (.bool true)], args := [d1, d2, d3, d4, d5] }
  | _ => none }
def bufferAccessesMatchSpecRow : OpenClaim := { program := "ytbbhkjljiljadaa", sum := "31c6f1745549dbf7728ad376d9be6f184a5802e3c49804d8221be858971d7741", func := "linkhouse/linkhouselaw5.BufferAccessesMatchSpec", spec := "bufferAccessesMatchSpec", unfollowed := true, recurses := true, apart := false }
def BufferAccessesMatchSpecSaid : Prop := bufferAccessesMatchSpecRow.holds Try.pinned (OpenSpec.ofChange bufferAccessesMatchSpecSpec)

/-- ITS FALSE NEIGHBOUR: 'it returns false'. Refute it at one input. -/
def bufferAccessesMatchSpecWrong : ChangeSpec := { name := "bufferAccessesMatchSpec", fn := fun _ => fun
  | [d1, d2, d3, d4, d5] => { results := [.lit (.bool false)], args := [d1, d2, d3, d4, d5] }
  | _ => none }
def BufferAccessesMatchSpecWrongFalsely : Prop := bufferAccessesMatchSpecRow.holds Try.pinned (OpenSpec.ofChange bufferAccessesMatchSpecWrong)

/-- 'linkhouselaw5.BufferCommitsMatchSpec': WHATEVER THE INPUT: true; the input reads as it did. -/
def bufferCommitsMatchSpecSpec : ChangeSpec := { name := "bufferCommitsMatchSpec", fn := fun _ => fun
  | [d1, d2] => { results := [.lit (.bool true)], args := [d1, d2] }
  | _ => none }
def bufferCommitsMatchSpecRow : OpenClaim := { program := "ytbbhkjljiljadaa", sum := "31c6f1745549dbf7728ad376d9be6f184a5802e3c49804d8221be858971d7741", func := "linkhouse/linkhouselaw5.BufferCommitsMatchSpec", spec := "bufferCommitsMatchSpec", unfollowed := true, recurses := true, apart := false }
def BufferCommitsMatchSpecSaid : Prop := bufferCommitsMatchSpecRow.holds Try.pinned (OpenSpec.ofChange bufferCommitsMatchSpecSpec)

/-- ITS FALSE NEIGHBOUR: 'it returns false'. Refute it at one input. -/
def bufferCommitsMatchSpecWrong : ChangeSpec := { name := "bufferCommitsMatchSpec", fn := fun _ => fun
  | [d1, d2] => { results := [.lit (.bool false)], args := [d1, d2] }
  | _ => none }
def BufferCommitsMatchSpecWrongFalsely : Prop := bufferCommitsMatchSpecRow.holds Try.pinned (OpenSpec.ofChange bufferCommitsMatchSpecWrong)

/-- 'linkhouselaw5.BufferCoreSeesItsStores': WHATEVER THE INPUT: true; the input reads as it did. -/
def bufferCoreSeesItsStoresSpec : ChangeSpec := { name := "bufferCoreSeesItsStores", fn := fun _ => fun
  | [d1, d2, d3, d4, d5] => { results := [.lit (.bool true)], args := [d1, d2, d3, d4, d5] }
  | _ => none }
def bufferCoreSeesItsStoresRow : OpenClaim := { program := "ytbbhkjljiljadaa", sum := "31c6f1745549dbf7728ad376d9be6f184a5802e3c49804d8221be858971d7741", func := "linkhouse/linkhouselaw5.BufferCoreSeesItsStores", spec := "bufferCoreSeesItsStores", unfollowed := true, recurses := true, apart := false }
def BufferCoreSeesItsStoresSaid : Prop := bufferCoreSeesItsStoresRow.holds Try.pinned (OpenSpec.ofChange bufferCoreSeesItsStoresSpec)

/-- ITS FALSE NEIGHBOUR: 'it returns false'. Refute it at one input. -/
def bufferCoreSeesItsStoresWrong : ChangeSpec := { name := "bufferCoreSeesItsStores", fn := fun _ => fun
  | [d1, d2, d3, d4, d5] => { results := [.lit (.bool false)], args := [d1, d2, d3, d4, d5] }
  | _ => none }
def BufferCoreSeesItsStoresWrongFalsely : Prop := bufferCoreSeesItsStoresRow.holds Try.pinned (OpenSpec.ofChange bufferCoreSeesItsStoresWrong)

/-- 'linkhouselaw5.BufferCommitsAreInvisible': WHATEVER THE INPUT: true; the input reads as it did. -/
def bufferCommitsAreInvisibleSpec : ChangeSpec := { name := "bufferCommitsAreInvisible", fn := fun _ => fun
  | [d1, d2, d3, d4] => { results := [.lit (.bool true)], args := [d1, d2, d3, d4] }
  | _ => none }
def bufferCommitsAreInvisibleRow : OpenClaim := { program := "ytbbhkjljiljadaa", sum := "31c6f1745549dbf7728ad376d9be6f184a5802e3c49804d8221be858971d7741", func := "linkhouse/linkhouselaw5.BufferCommitsAreInvisible", spec := "bufferCommitsAreInvisible", unfollowed := true, recurses := true, apart := false }
def BufferCommitsAreInvisibleSaid : Prop := bufferCommitsAreInvisibleRow.holds Try.pinned (OpenSpec.ofChange bufferCommitsAreInvisibleSpec)

/-- ITS FALSE NEIGHBOUR: 'it returns false'. Refute it at one input. -/
def bufferCommitsAreInvisibleWrong : ChangeSpec := { name := "bufferCommitsAreInvisible", fn := fun _ => fun
  | [d1, d2, d3, d4] => { results := [.lit (.bool false)], args := [d1, d2, d3, d4] }
  | _ => none }
def BufferCommitsAreInvisibleWrongFalsely : Prop := bufferCommitsAreInvisibleRow.holds Try.pinned (OpenSpec.ofChange bufferCommitsAreInvisibleWrong)

/-- 'linkhouselaw5.BufferDrainIsRepeatedCommit': WHATEVER THE INPUT: true; the input reads as it did. -/
def bufferDrainIsRepeatedCommitSpec : ChangeSpec := { name := "bufferDrainIsRepeatedCommit", fn := fun _ => fun
  | [d1, d2] => { results := [.lit (.bool true)], args := [d1, d2] }
  | _ => none }
def bufferDrainIsRepeatedCommitRow : OpenClaim := { program := "ytbbhkjljiljadaa", sum := "31c6f1745549dbf7728ad376d9be6f184a5802e3c49804d8221be858971d7741", func := "linkhouse/linkhouselaw5.BufferDrainIsRepeatedCommit", spec := "bufferDrainIsRepeatedCommit", unfollowed := true, recurses := true, apart := false }
def BufferDrainIsRepeatedCommitSaid : Prop := bufferDrainIsRepeatedCommitRow.holds Try.pinned (OpenSpec.ofChange bufferDrainIsRepeatedCommitSpec)

/-- ITS FALSE NEIGHBOUR: 'it returns false'. Refute it at one input. -/
def bufferDrainIsRepeatedCommitWrong : ChangeSpec := { name := "bufferDrainIsRepeatedCommit", fn := fun _ => fun
  | [d1, d2] => { results := [.lit (.bool false)], args := [d1, d2] }
  | _ => none }
def BufferDrainIsRepeatedCommitWrongFalsely : Prop := bufferDrainIsRepeatedCommitRow.holds Try.pinned (OpenSpec.ofChange bufferDrainIsRepeatedCommitWrong)

/-- 'linkhouselaw5.MemoryRangesMatchSpec': WHATEVER THE INPUT: true; the input reads as it did. -/
def memoryRangesMatchSpecSpec : ChangeSpec := { name := "memoryRangesMatchSpec", fn := fun _ => fun
  | [d1, d2, d3, d4] => { results := [.lit (.bool true)], args := [d1, d2, d3, d4] }
  | _ => none }
def memoryRangesMatchSpecRow : OpenClaim := { program := "ytbbhkjljiljadaa", sum := "31c6f1745549dbf7728ad376d9be6f184a5802e3c49804d8221be858971d7741", func := "linkhouse/linkhouselaw5.MemoryRangesMatchSpec", spec := "memoryRangesMatchSpec", inPlace := ["slices.overlaps[linkhouse/api.Page]"], unfollowed := true, recurses := true, apart := false }
def MemoryRangesMatchSpecSaid : Prop := memoryRangesMatchSpecRow.holds Try.pinned (OpenSpec.ofChange memoryRangesMatchSpecSpec)

/-- ITS FALSE NEIGHBOUR: 'it returns false'. Refute it at one input. -/
def memoryRangesMatchSpecWrong : ChangeSpec := { name := "memoryRangesMatchSpec", fn := fun _ => fun
  | [d1, d2, d3, d4] => { results := [.lit (.bool false)], args := [d1, d2, d3, d4] }
  | _ => none }
def MemoryRangesMatchSpecWrongFalsely : Prop := memoryRangesMatchSpecRow.holds Try.pinned (OpenSpec.ofChange memoryRangesMatchSpecWrong)

/-- 'linkhouselaw5.MemoryAccessesMatchSpec': WHATEVER THE INPUT: true; the input reads as it did. -/
def memoryAccessesMatchSpecSpec : ChangeSpec := { name := "memoryAccessesMatchSpec", fn := fun _ => fun
  | [d1, d2, d3, d4, d5] => { results := [.lit (.bool true)], args := [d1, d2, d3, d4, d5] }
  | _ => none }
def memoryAccessesMatchSpecRow : OpenClaim := { program := "ytbbhkjljiljadaa", sum := "31c6f1745549dbf7728ad376d9be6f184a5802e3c49804d8221be858971d7741", func := "linkhouse/linkhouselaw5.MemoryAccessesMatchSpec", spec := "memoryAccessesMatchSpec", inPlace := ["slices.overlaps[linkhouse/api.Page]"], unfollowed := true, recurses := true, apart := false }
def MemoryAccessesMatchSpecSaid : Prop := memoryAccessesMatchSpecRow.holds Try.pinned (OpenSpec.ofChange memoryAccessesMatchSpecSpec)

/-- ITS FALSE NEIGHBOUR: 'it returns false'. Refute it at one input. -/
def memoryAccessesMatchSpecWrong : ChangeSpec := { name := "memoryAccessesMatchSpec", fn := fun _ => fun
  | [d1, d2, d3, d4, d5] => { results := [.lit (.bool false)], args := [d1, d2, d3, d4, d5] }
  | _ => none }
def MemoryAccessesMatchSpecWrongFalsely : Prop := memoryAccessesMatchSpecRow.holds Try.pinned (OpenSpec.ofChange memoryAccessesMatchSpecWrong)

/-- 'linkhouselaw5.MemoryReadReturnsWhatIsWritten': WHATEVER THE INPUT: true; the input reads as it did. -/
def memoryReadReturnsWhatIsWrittenSpec : ChangeSpec := { name := "memoryReadReturnsWhatIsWritten", fn := fun _ => fun
  | [d1, d2, d3, d4] => { results := [.lit (.bool true)], args := [d1, d2, d3, d4] }
  | _ => none }
def memoryReadReturnsWhatIsWrittenRow : OpenClaim := { program := "ytbbhkjljiljadaa", sum := "31c6f1745549dbf7728ad376d9be6f184a5802e3c49804d8221be858971d7741", func := "linkhouse/linkhouselaw5.MemoryReadReturnsWhatIsWritten", spec := "memoryReadReturnsWhatIsWritten", inPlace := ["slices.overlaps[linkhouse/api.Page]"], unfollowed := true, recurses := true, apart := false }
def MemoryReadReturnsWhatIsWrittenSaid : Prop := memoryReadReturnsWhatIsWrittenRow.holds Try.pinned (OpenSpec.ofChange memoryReadReturnsWhatIsWrittenSpec)

/-- ITS FALSE NEIGHBOUR: 'it returns false'. Refute it at one input. -/
def memoryReadReturnsWhatIsWrittenWrong : ChangeSpec := { name := "memoryReadReturnsWhatIsWritten", fn := fun _ => fun
  | [d1, d2, d3, d4] => { results := [.lit (.bool false)], args := [d1, d2, d3, d4] }
  | _ => none }
def MemoryReadReturnsWhatIsWrittenWrongFalsely : Prop := memoryReadReturnsWhatIsWrittenRow.holds Try.pinned (OpenSpec.ofChange memoryReadReturnsWhatIsWrittenWrong)

/-- 'linkhouselaw5.MemoryUnmapIsInverseOfMap': WHATEVER THE INPUT: true; the input reads as it did. -/
def memoryUnmapIsInverseOfMapSpec : ChangeSpec := { name := "memoryUnmapIsInverseOfMap", fn := fun _ => fun
  | [d1, d2, d3, d4] => { results := [.lit (.bool true)], args := [d1, d2, d3, d4] }
  | _ => none }
def memoryUnmapIsInverseOfMapRow : OpenClaim := { program := "ytbbhkjljiljadaa", sum := "31c6f1745549dbf7728ad376d9be6f184a5802e3c49804d8221be858971d7741", func := "linkhouse/linkhouselaw5.MemoryUnmapIsInverseOfMap", spec := "memoryUnmapIsInverseOfMap", inPlace := ["slices.overlaps[linkhouse/api.Page]"], unfollowed := true, recurses := true, apart := false }
def MemoryUnmapIsInverseOfMapSaid : Prop := memoryUnmapIsInverseOfMapRow.holds Try.pinned (OpenSpec.ofChange memoryUnmapIsInverseOfMapSpec)

/-- ITS FALSE NEIGHBOUR: 'it returns false'. Refute it at one input. -/
def memoryUnmapIsInverseOfMapWrong : ChangeSpec := { name := "memoryUnmapIsInverseOfMap", fn := fun _ => fun
  | [d1, d2, d3, d4] => { results := [.lit (.bool false)], args := [d1, d2, d3, d4] }
  | _ => none }
def MemoryUnmapIsInverseOfMapWrongFalsely : Prop := memoryUnmapIsInverseOfMapRow.holds Try.pinned (OpenSpec.ofChange memoryUnmapIsInverseOfMapWrong)

/-- 'linkhouselaw5.MemoryProtectDecidesAccess': WHATEVER THE INPUT: true; the input reads as it did. -/
def memoryProtectDecidesAccessSpec : ChangeSpec := { name := "memoryProtectDecidesAccess", fn := fun _ => fun
  | [d1, d2, d3, d4, d5, d6] => { results := [.lit (.bool true)], args := [d1, d2, d3, d4, d5, d6] }
  | _ => none }
def memoryProtectDecidesAccessRow : OpenClaim := { program := "ytbbhkjljiljadaa", sum := "31c6f1745549dbf7728ad376d9be6f184a5802e3c49804d8221be858971d7741", func := "linkhouse/linkhouselaw5.MemoryProtectDecidesAccess", spec := "memoryProtectDecidesAccess", inPlace := ["slices.overlaps[linkhouse/api.Page]"], unfollowed := true, recurses := true, apart := false }
def MemoryProtectDecidesAccessSaid : Prop := memoryProtectDecidesAccessRow.holds Try.pinned (OpenSpec.ofChange memoryProtectDecidesAccessSpec)

/-- ITS FALSE NEIGHBOUR: 'it returns false'. Refute it at one input. -/
def memoryProtectDecidesAccessWrong : ChangeSpec := { name := "memoryProtectDecidesAccess", fn := fun _ => fun
  | [d1, d2, d3, d4, d5, d6] => { results := [.lit (.bool false)], args := [d1, d2, d3, d4, d5, d6] }
  | _ => none }
def MemoryProtectDecidesAccessWrongFalsely : Prop := memoryProtectDecidesAccessRow.holds Try.pinned (OpenSpec.ofChange memoryProtectDecidesAccessWrong)

/- THE SECOND FORM. 'bulk': how many values and letters a reading holds, each counted each time it is reached (what is shared counts as often as it is met; a slice's spare places count too). A statement '..UptoSaid' is the law's where the arguments, and the package variables that the reading takes, are together of bulk at most 1048576: NARROWER than '..Said'. Prove '..Said' where nothing that the law and all that it calls make is longer than what came in: it says more and counts as full. Else prove '..UptoSaid'. A law counts once. -/
mutual
def uptoBulk {H : Type} : DataW H → Nat
  | .lit (.string bytes) => bytes.length + 1
  | .lit _ => 1
  | .nil => 1
  | .ptr d => uptoBulk d + 1
  | .slice elems spare => uptoBulkAll elems + uptoBulkAll spare + 1
  | .agg parts => uptoBulkAll parts + 1
  | .iface _ d => uptoBulk d + 1
  | .map entries => uptoBulkEntries entries + 1
  | .held _ => 1
def uptoBulkAll {H : Type} : List (DataW H) → Nat
  | [] => 0
  | d :: r => uptoBulk d + uptoBulkAll r
def uptoBulkEntries {H : Type} : List (Lit × DataW H) → Nat
  | [] => 0
  | x :: r => uptoBulkEntry x + uptoBulkEntries r
def uptoBulkEntry {H : Type} : Lit × DataW H → Nat
  | (.string bytes, d) => bytes.length + uptoBulk d + 1
  | (_, d) => uptoBulk d + 1
 end
def uptoSmall : (H : Type) → List (DataW H) → Bool := fun _ ds => decide (uptoBulkAll ds ≤ 1048576)
def OpenSpec.upto (s : _root_.Go.ChangeSpec) : _root_.Go.OpenSpec := { _root_.Go.OpenSpec.ofChange s with cond := some uptoSmall }

/-- 'linkhouselaw5.BufferAccessesMatchSpec', WHERE WHAT IT READS IS OF BULK AT MOST 1048576: true; the input reads as it did. -/
def bufferAccessesMatchSpecUptoRow : OpenClaim := { program := "ytbbhkjljiljadaa", sum := "31c6f1745549dbf7728ad376d9be6f184a5802e3c49804d8221be858971d7741", func := "linkhouse/linkhouselaw5.BufferAccessesMatchSpec", spec := "bufferAccessesMatchSpec", unfollowed := true, recurses := true, apart := false, narrowed := true }
def BufferAccessesMatchSpecUptoSaid : Prop := bufferAccessesMatchSpecUptoRow.holds Try.pinned (OpenSpec.upto bufferAccessesMatchSpecSpec)

/-- 'linkhouselaw5.BufferCommitsMatchSpec', WHERE WHAT IT READS IS OF BULK AT MOST 1048576: true; the input reads as it did. -/
def bufferCommitsMatchSpecUptoRow : OpenClaim := { program := "ytbbhkjljiljadaa", sum := "31c6f1745549dbf7728ad376d9be6f184a5802e3c49804d8221be858971d7741", func := "linkhouse/linkhouselaw5.BufferCommitsMatchSpec", spec := "bufferCommitsMatchSpec", unfollowed := true, recurses := true, apart := false, narrowed := true }
def BufferCommitsMatchSpecUptoSaid : Prop := bufferCommitsMatchSpecUptoRow.holds Try.pinned (OpenSpec.upto bufferCommitsMatchSpecSpec)

/-- 'linkhouselaw5.BufferCoreSeesItsStores', WHERE WHAT IT READS IS OF BULK AT MOST 1048576: true; the input reads as it did. -/
def bufferCoreSeesItsStoresUptoRow : OpenClaim := { program := "ytbbhkjljiljadaa", sum := "31c6f1745549dbf7728ad376d9be6f184a5802e3c49804d8221be858971d7741", func := "linkhouse/linkhouselaw5.BufferCoreSeesItsStores", spec := "bufferCoreSeesItsStores", unfollowed := true, recurses := true, apart := false, narrowed := true }
def BufferCoreSeesItsStoresUptoSaid : Prop := bufferCoreSeesItsStoresUptoRow.holds Try.pinned (OpenSpec.upto bufferCoreSeesItsStoresSpec)

/-- 'linkhouselaw5.BufferCommitsAreInvisible', WHERE WHAT IT READS IS OF BULK AT MOST 1048576: true; the input reads as it did. -/
def bufferCommitsAreInvisibleUptoRow : OpenClaim := { program := "ytbbhkjljiljadaa", sum := "31c6f1745549dbf7728ad376d9be6f184a5802e3c49804d8221be858971d7741", func := "linkhouse/linkhouselaw5.BufferCommitsAreInvisible", spec := "bufferCommitsAreInvisible", unfollowed := true, recurses := true, apart := false, narrowed := true }
def BufferCommitsAreInvisibleUptoSaid : Prop := bufferCommitsAreInvisibleUptoRow.holds Try.pinned (OpenSpec.upto bufferCommitsAreInvisibleSpec)

/-- 'linkhouselaw5.BufferDrainIsRepeatedCommit', WHERE WHAT IT READS IS OF BULK AT MOST 1048576: true; the input reads as it did. -/
def bufferDrainIsRepeatedCommitUptoRow : OpenClaim := { program := "ytbbhkjljiljadaa", sum := "31c6f1745549dbf7728ad376d9be6f184a5802e3c49804d8221be858971d7741", func := "linkhouse/linkhouselaw5.BufferDrainIsRepeatedCommit", spec := "bufferDrainIsRepeatedCommit", unfollowed := true, recurses := true, apart := false, narrowed := true }
def BufferDrainIsRepeatedCommitUptoSaid : Prop := bufferDrainIsRepeatedCommitUptoRow.holds Try.pinned (OpenSpec.upto bufferDrainIsRepeatedCommitSpec)

/-- 'linkhouselaw5.MemoryRangesMatchSpec', WHERE WHAT IT READS IS OF BULK AT MOST 1048576: true; the input reads as it did. -/
def memoryRangesMatchSpecUptoRow : OpenClaim := { program := "ytbbhkjljiljadaa", sum := "31c6f1745549dbf7728ad376d9be6f184a5802e3c49804d8221be858971d7741", func := "linkhouse/linkhouselaw5.MemoryRangesMatchSpec", spec := "memoryRangesMatchSpec", inPlace := ["slices.overlaps[linkhouse/api.Page]"], unfollowed := true, recurses := true, apart := false, narrowed := true }
def MemoryRangesMatchSpecUptoSaid : Prop := memoryRangesMatchSpecUptoRow.holds Try.pinned (OpenSpec.upto memoryRangesMatchSpecSpec)

/-- 'linkhouselaw5.MemoryAccessesMatchSpec', WHERE WHAT IT READS IS OF BULK AT MOST 1048576: true; the input reads as it did. -/
def memoryAccessesMatchSpecUptoRow : OpenClaim := { program := "ytbbhkjljiljadaa", sum := "31c6f1745549dbf7728ad376d9be6f184a5802e3c49804d8221be858971d7741", func := "linkhouse/linkhouselaw5.MemoryAccessesMatchSpec", spec := "memoryAccessesMatchSpec", inPlace := ["slices.overlaps[linkhouse/api.Page]"], unfollowed := true, recurses := true, apart := false, narrowed := true }
def MemoryAccessesMatchSpecUptoSaid : Prop := memoryAccessesMatchSpecUptoRow.holds Try.pinned (OpenSpec.upto memoryAccessesMatchSpecSpec)

/-- 'linkhouselaw5.MemoryReadReturnsWhatIsWritten', WHERE WHAT IT READS IS OF BULK AT MOST 1048576: true; the input reads as it did. -/
def memoryReadReturnsWhatIsWrittenUptoRow : OpenClaim := { program := "ytbbhkjljiljadaa", sum := "31c6f1745549dbf7728ad376d9be6f184a5802e3c49804d8221be858971d7741", func := "linkhouse/linkhouselaw5.MemoryReadReturnsWhatIsWritten", spec := "memoryReadReturnsWhatIsWritten", inPlace := ["slices.overlaps[linkhouse/api.Page]"], unfollowed := true, recurses := true, apart := false, narrowed := true }
def MemoryReadReturnsWhatIsWrittenUptoSaid : Prop := memoryReadReturnsWhatIsWrittenUptoRow.holds Try.pinned (OpenSpec.upto memoryReadReturnsWhatIsWrittenSpec)

/-- 'linkhouselaw5.MemoryUnmapIsInverseOfMap', WHERE WHAT IT READS IS OF BULK AT MOST 1048576: true; the input reads as it did. -/
def memoryUnmapIsInverseOfMapUptoRow : OpenClaim := { program := "ytbbhkjljiljadaa", sum := "31c6f1745549dbf7728ad376d9be6f184a5802e3c49804d8221be858971d7741", func := "linkhouse/linkhouselaw5.MemoryUnmapIsInverseOfMap", spec := "memoryUnmapIsInverseOfMap", inPlace := ["slices.overlaps[linkhouse/api.Page]"], unfollowed := true, recurses := true, apart := false, narrowed := true }
def MemoryUnmapIsInverseOfMapUptoSaid : Prop := memoryUnmapIsInverseOfMapUptoRow.holds Try.pinned (OpenSpec.upto memoryUnmapIsInverseOfMapSpec)

/-- 'linkhouselaw5.MemoryProtectDecidesAccess', WHERE WHAT IT READS IS OF BULK AT MOST 1048576: true; the input reads as it did. -/
def memoryProtectDecidesAccessUptoRow : OpenClaim := { program := "ytbbhkjljiljadaa", sum := "31c6f1745549dbf7728ad376d9be6f184a5802e3c49804d8221be858971d7741", func := "linkhouse/linkhouselaw5.MemoryProtectDecidesAccess", spec := "memoryProtectDecidesAccess", inPlace := ["slices.overlaps[linkhouse/api.Page]"], unfollowed := true, recurses := true, apart := false, narrowed := true }
def MemoryProtectDecidesAccessUptoSaid : Prop := memoryProtectDecidesAccessUptoRow.holds Try.pinned (OpenSpec.upto memoryProtectDecidesAccessSpec)

end Rows
end Go.Proofs.Ytbbhkjljiljadaa
