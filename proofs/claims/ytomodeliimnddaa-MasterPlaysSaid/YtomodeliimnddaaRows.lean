/-
  No cell of these rows narrows 'for every input' (looked for: loops, veiled, ifaces, maps, wideKeys, modest, calm, conditions, laid).
  DERIVED. THE GIVEN ROWS OF THIS SEAT. 23 by the template 'for every input the law returns true; each argument reads behind the call as it read before'; 0 by the template 'total and deterministic' (their statements: YtomodeliimnddaaTotals.lean).
  GIVEN WITH THE SEED: the statements are not yours to turn. If you find one false, say at which input.
  Laid BY PROGRAM, IN A SANDBOX (cutbox-rows.mjs): the forced cells as the released guide's own fill.sh prints them over the translation 563451a10a86c1ea… (all of the seat's roots in one cut). By AI agents, Wed Nov 11 2026. No macro, syntax, notation, axiom, sorry.
-/
import Derived.Test.YtomodeliimnddaaChecked
import GoSem.Claim
import GoSem.ClaimJoined
import GoSem.ClaimMapViews
import Derived.JoinedTies
import Derived.KernelRfl
namespace Go.Proofs.Ytomodeliimnddaa
/- THE CELL 'sum', in the pinned program and in every row, IS THE sha256 OF THE DUMP (.gsa) THAT YtomodeliimnddaaProg.lean LOADS. Nothing in Lean hashes anything: it is a label: what it is worth is what the hold of that sum in a sandbox is worth. -/
noncomputable def Try.pinned : Pinned := { name := "ytomodeliimnddaa", sum := "563451a10a86c1eae703d37d2a1ea3532304ea3937f6e8c149386b2a9f116634", checked := Try.checked }
namespace Rows
def none {H : Type} : Left H := { results := [], args := [] }

/-- 'runglaw11.ImageHides': WHATEVER THE INPUT: true; the input reads as it did. -/
def imageHidesSpec : ChangeSpec := { name := "imageHides", fn := fun _ => fun
  | [d1, d2] => { results := [.lit (.bool true)], args := [d1, d2] }
  | _ => none }
def imageHidesRow : OpenClaim := { program := "ytomodeliimnddaa", sum := "563451a10a86c1eae703d37d2a1ea3532304ea3937f6e8c149386b2a9f116634", func := "rung/runglaw11.ImageHides", spec := "imageHides", inPlace := ["sync/atomic.AddUint64", "sync/atomic.LoadUint64"], apart := false }
def ImageHidesSaid : Prop := imageHidesRow.holds Try.pinned (OpenSpec.ofChange imageHidesSpec)

/-- ITS FALSE NEIGHBOUR: 'it returns false'. Refute it at one input. -/
def imageHidesWrong : ChangeSpec := { name := "imageHides", fn := fun _ => fun
  | [d1, d2] => { results := [.lit (.bool false)], args := [d1, d2] }
  | _ => none }
def ImageHidesWrongFalsely : Prop := imageHidesRow.holds Try.pinned (OpenSpec.ofChange imageHidesWrong)

/-- 'runglaw11.ImagePlays': WHATEVER THE INPUT: true; the input reads as it did. -/
def imagePlaysSpec : ChangeSpec := { name := "imagePlays", fn := fun _ => fun
  | [d] => { results := [.lit (.bool true)], args := [d] }
  | _ => none }
def imagePlaysRow : OpenClaim := { program := "ytomodeliimnddaa", sum := "563451a10a86c1eae703d37d2a1ea3532304ea3937f6e8c149386b2a9f116634", func := "rung/runglaw11.ImagePlays", spec := "imagePlays", inPlace := ["sync/atomic.AddUint64", "sync/atomic.LoadUint64", "sync/atomic.StoreUint64"], apart := false }
def ImagePlaysSaid : Prop := imagePlaysRow.holds Try.pinned (OpenSpec.ofChange imagePlaysSpec)

/-- ITS FALSE NEIGHBOUR: 'it returns false'. Refute it at one input. -/
def imagePlaysWrong : ChangeSpec := { name := "imagePlays", fn := fun _ => fun
  | [d] => { results := [.lit (.bool false)], args := [d] }
  | _ => none }
def ImagePlaysWrongFalsely : Prop := imagePlaysRow.holds Try.pinned (OpenSpec.ofChange imagePlaysWrong)

/-- 'runglaw3.PduRequests': WHATEVER THE INPUT: true; the input reads as it did. -/
def pduRequestsSpec : ChangeSpec := { name := "pduRequests", fn := fun _ => fun
  | [d] => { results := [.lit (.bool true)], args := [d] }
  | _ => none }
def pduRequestsRow : OpenClaim := { program := "ytomodeliimnddaa", sum := "563451a10a86c1eae703d37d2a1ea3532304ea3937f6e8c149386b2a9f116634", func := "rung/runglaw3.PduRequests", spec := "pduRequests", apart := false }
def PduRequestsSaid : Prop := pduRequestsRow.holds Try.pinned (OpenSpec.ofChange pduRequestsSpec)

/-- ITS FALSE NEIGHBOUR: 'it returns false'. Refute it at one input. -/
def pduRequestsWrong : ChangeSpec := { name := "pduRequests", fn := fun _ => fun
  | [d] => { results := [.lit (.bool false)], args := [d] }
  | _ => none }
def PduRequestsWrongFalsely : Prop := pduRequestsRow.holds Try.pinned (OpenSpec.ofChange pduRequestsWrong)

/-- 'runglaw3.PduReads': WHATEVER THE INPUT: true; the input reads as it did. -/
def pduReadsSpec : ChangeSpec := { name := "pduReads", fn := fun _ => fun
  | [d] => { results := [.lit (.bool true)], args := [d] }
  | _ => none }
def pduReadsRow : OpenClaim := { program := "ytomodeliimnddaa", sum := "563451a10a86c1eae703d37d2a1ea3532304ea3937f6e8c149386b2a9f116634", func := "rung/runglaw3.PduReads", spec := "pduReads", apart := false }
def PduReadsSaid : Prop := pduReadsRow.holds Try.pinned (OpenSpec.ofChange pduReadsSpec)

/-- ITS FALSE NEIGHBOUR: 'it returns false'. Refute it at one input. -/
def pduReadsWrong : ChangeSpec := { name := "pduReads", fn := fun _ => fun
  | [d] => { results := [.lit (.bool false)], args := [d] }
  | _ => none }
def PduReadsWrongFalsely : Prop := pduReadsRow.holds Try.pinned (OpenSpec.ofChange pduReadsWrong)

/-- 'runglaw3.PduReplies': WHATEVER THE INPUT: true; the input reads as it did. -/
def pduRepliesSpec : ChangeSpec := { name := "pduReplies", fn := fun _ => fun
  | [d] => { results := [.lit (.bool true)], args := [d] }
  | _ => none }
def pduRepliesRow : OpenClaim := { program := "ytomodeliimnddaa", sum := "563451a10a86c1eae703d37d2a1ea3532304ea3937f6e8c149386b2a9f116634", func := "rung/runglaw3.PduReplies", spec := "pduReplies", apart := false }
def PduRepliesSaid : Prop := pduRepliesRow.holds Try.pinned (OpenSpec.ofChange pduRepliesSpec)

/-- ITS FALSE NEIGHBOUR: 'it returns false'. Refute it at one input. -/
def pduRepliesWrong : ChangeSpec := { name := "pduReplies", fn := fun _ => fun
  | [d] => { results := [.lit (.bool false)], args := [d] }
  | _ => none }
def PduRepliesWrongFalsely : Prop := pduRepliesRow.holds Try.pinned (OpenSpec.ofChange pduRepliesWrong)

/-- 'runglaw3.PduAnswers': WHATEVER THE INPUT: true; the input reads as it did. -/
def pduAnswersSpec : ChangeSpec := { name := "pduAnswers", fn := fun _ => fun
  | [d1, d2] => { results := [.lit (.bool true)], args := [d1, d2] }
  | _ => none }
def pduAnswersRow : OpenClaim := { program := "ytomodeliimnddaa", sum := "563451a10a86c1eae703d37d2a1ea3532304ea3937f6e8c149386b2a9f116634", func := "rung/runglaw3.PduAnswers", spec := "pduAnswers", apart := false }
def PduAnswersSaid : Prop := pduAnswersRow.holds Try.pinned (OpenSpec.ofChange pduAnswersSpec)

/-- ITS FALSE NEIGHBOUR: 'it returns false'. Refute it at one input. -/
def pduAnswersWrong : ChangeSpec := { name := "pduAnswers", fn := fun _ => fun
  | [d1, d2] => { results := [.lit (.bool false)], args := [d1, d2] }
  | _ => none }
def PduAnswersWrongFalsely : Prop := pduAnswersRow.holds Try.pinned (OpenSpec.ofChange pduAnswersWrong)

/-- 'runglaw3.PduMatches': WHATEVER THE INPUT: true; the input reads as it did. -/
def pduMatchesSpec : ChangeSpec := { name := "pduMatches", fn := fun _ => fun
  | [d1, d2, d3, d4, d5] => { results := [.lit (.bool true)], args := [d1, d2, d3, d4, d5] }
  | _ => none }
def pduMatchesRow : OpenClaim := { program := "ytomodeliimnddaa", sum := "563451a10a86c1eae703d37d2a1ea3532304ea3937f6e8c149386b2a9f116634", func := "rung/runglaw3.PduMatches", spec := "pduMatches", apart := false }
def PduMatchesSaid : Prop := pduMatchesRow.holds Try.pinned (OpenSpec.ofChange pduMatchesSpec)

/-- ITS FALSE NEIGHBOUR: 'it returns false'. Refute it at one input. -/
def pduMatchesWrong : ChangeSpec := { name := "pduMatches", fn := fun _ => fun
  | [d1, d2, d3, d4, d5] => { results := [.lit (.bool false)], args := [d1, d2, d3, d4, d5] }
  | _ => none }
def PduMatchesWrongFalsely : Prop := pduMatchesRow.holds Try.pinned (OpenSpec.ofChange pduMatchesWrong)

/-- 'runglaw3.PduBits': WHATEVER THE INPUT: true; the input reads as it did. -/
def pduBitsSpec : ChangeSpec := { name := "pduBits", fn := fun _ => fun
  | [d1, d2, d3] => { results := [.lit (.bool true)], args := [d1, d2, d3] }
  | _ => none }
def pduBitsRow : OpenClaim := { program := "ytomodeliimnddaa", sum := "563451a10a86c1eae703d37d2a1ea3532304ea3937f6e8c149386b2a9f116634", func := "rung/runglaw3.PduBits", spec := "pduBits", apart := false }
def PduBitsSaid : Prop := pduBitsRow.holds Try.pinned (OpenSpec.ofChange pduBitsSpec)

/-- ITS FALSE NEIGHBOUR: 'it returns false'. Refute it at one input. -/
def pduBitsWrong : ChangeSpec := { name := "pduBits", fn := fun _ => fun
  | [d1, d2, d3] => { results := [.lit (.bool false)], args := [d1, d2, d3] }
  | _ => none }
def PduBitsWrongFalsely : Prop := pduBitsRow.holds Try.pinned (OpenSpec.ofChange pduBitsWrong)

/-- 'runglaw3.PduOnce': WHATEVER THE INPUT: true; the input reads as it did. -/
def pduOnceSpec : ChangeSpec := { name := "pduOnce", fn := fun _ => fun
  | [d1, d2] => { results := [.lit (.bool true)], args := [d1, d2] }
  | _ => none }
def pduOnceRow : OpenClaim := { program := "ytomodeliimnddaa", sum := "563451a10a86c1eae703d37d2a1ea3532304ea3937f6e8c149386b2a9f116634", func := "rung/runglaw3.PduOnce", spec := "pduOnce", apart := false }
def PduOnceSaid : Prop := pduOnceRow.holds Try.pinned (OpenSpec.ofChange pduOnceSpec)

/-- ITS FALSE NEIGHBOUR: 'it returns false'. Refute it at one input. -/
def pduOnceWrong : ChangeSpec := { name := "pduOnce", fn := fun _ => fun
  | [d1, d2] => { results := [.lit (.bool false)], args := [d1, d2] }
  | _ => none }
def PduOnceWrongFalsely : Prop := pduOnceRow.holds Try.pinned (OpenSpec.ofChange pduOnceWrong)

/-- 'runglaw3.PduShort': WHATEVER THE INPUT: true; the input reads as it did. -/
def pduShortSpec : ChangeSpec := { name := "pduShort", fn := fun _ => fun
  | [d1, d2, d3] => { results := [.lit (.bool true)], args := [d1, d2, d3] }
  | _ => none }
def pduShortRow : OpenClaim := { program := "ytomodeliimnddaa", sum := "563451a10a86c1eae703d37d2a1ea3532304ea3937f6e8c149386b2a9f116634", func := "rung/runglaw3.PduShort", spec := "pduShort", apart := false }
def PduShortSaid : Prop := pduShortRow.holds Try.pinned (OpenSpec.ofChange pduShortSpec)

/-- ITS FALSE NEIGHBOUR: 'it returns false'. Refute it at one input. -/
def pduShortWrong : ChangeSpec := { name := "pduShort", fn := fun _ => fun
  | [d1, d2, d3] => { results := [.lit (.bool false)], args := [d1, d2, d3] }
  | _ => none }
def PduShortWrongFalsely : Prop := pduShortRow.holds Try.pinned (OpenSpec.ofChange pduShortWrong)

/-- 'runglaw25.SlaveEdges': WHATEVER THE INPUT: true; the input reads as it did. -/
def slaveEdgesSpec : ChangeSpec := { name := "slaveEdges", fn := fun _ => fun
  | [d1, d2, d3] => { results := [.lit (.bool true)], args := [d1, d2, d3] }
  | _ => none }
def slaveEdgesRow : OpenClaim := { program := "ytomodeliimnddaa", sum := "563451a10a86c1eae703d37d2a1ea3532304ea3937f6e8c149386b2a9f116634", func := "rung/runglaw25.SlaveEdges", spec := "slaveEdges", unfollowed := true, recurses := true, apart := false }
def SlaveEdgesSaid : Prop := slaveEdgesRow.holds Try.pinned (OpenSpec.ofChange slaveEdgesSpec)

/-- ITS FALSE NEIGHBOUR: 'it returns false'. Refute it at one input. -/
def slaveEdgesWrong : ChangeSpec := { name := "slaveEdges", fn := fun _ => fun
  | [d1, d2, d3] => { results := [.lit (.bool false)], args := [d1, d2, d3] }
  | _ => none }
def SlaveEdgesWrongFalsely : Prop := slaveEdgesRow.holds Try.pinned (OpenSpec.ofChange slaveEdgesWrong)

/-- 'runglaw25.SlaveApart': WHATEVER THE INPUT: true; the input reads as it did. -/
def slaveApartSpec : ChangeSpec := { name := "slaveApart", fn := fun _ => fun
  | [d1, d2] => { results := [.lit (.bool true)], args := [d1, d2] }
  | _ => none }
def slaveApartRow : OpenClaim := { program := "ytomodeliimnddaa", sum := "563451a10a86c1eae703d37d2a1ea3532304ea3937f6e8c149386b2a9f116634", func := "rung/runglaw25.SlaveApart", spec := "slaveApart", unfollowed := true, recurses := true, apart := false }
def SlaveApartSaid : Prop := slaveApartRow.holds Try.pinned (OpenSpec.ofChange slaveApartSpec)

/-- ITS FALSE NEIGHBOUR: 'it returns false'. Refute it at one input. -/
def slaveApartWrong : ChangeSpec := { name := "slaveApart", fn := fun _ => fun
  | [d1, d2] => { results := [.lit (.bool false)], args := [d1, d2] }
  | _ => none }
def SlaveApartWrongFalsely : Prop := slaveApartRow.holds Try.pinned (OpenSpec.ofChange slaveApartWrong)

/-- 'runglaw26.MasterChecks': WHATEVER THE INPUT: true; the input reads as it did. -/
def masterChecksSpec : ChangeSpec := { name := "masterChecks", fn := fun _ => fun
  | [d1, d2] => { results := [.lit (.bool true)], args := [d1, d2] }
  | _ => none }
def masterChecksRow : OpenClaim := { program := "ytomodeliimnddaa", sum := "563451a10a86c1eae703d37d2a1ea3532304ea3937f6e8c149386b2a9f116634", func := "rung/runglaw26.MasterChecks", spec := "masterChecks", inPlace := ["sync/atomic.AddUint32"], unfollowed := true, recurses := true, apart := false }
def MasterChecksSaid : Prop := masterChecksRow.holds Try.pinned (OpenSpec.ofChange masterChecksSpec)

/-- ITS FALSE NEIGHBOUR: 'it returns false'. Refute it at one input. -/
def masterChecksWrong : ChangeSpec := { name := "masterChecks", fn := fun _ => fun
  | [d1, d2] => { results := [.lit (.bool false)], args := [d1, d2] }
  | _ => none }
def MasterChecksWrongFalsely : Prop := masterChecksRow.holds Try.pinned (OpenSpec.ofChange masterChecksWrong)

/-- 'runglaw26.MasterAges': WHATEVER THE INPUT: true; the input reads as it did. -/
def masterAgesSpec : ChangeSpec := { name := "masterAges", fn := fun _ => fun
  | [d1, d2, d3] => { results := [.lit (.bool true)], args := [d1, d2, d3] }
  | _ => none }
def masterAgesRow : OpenClaim := { program := "ytomodeliimnddaa", sum := "563451a10a86c1eae703d37d2a1ea3532304ea3937f6e8c149386b2a9f116634", func := "rung/runglaw26.MasterAges", spec := "masterAges", inPlace := ["sync/atomic.AddUint32"], unfollowed := true, recurses := true, apart := false }
def MasterAgesSaid : Prop := masterAgesRow.holds Try.pinned (OpenSpec.ofChange masterAgesSpec)

/-- ITS FALSE NEIGHBOUR: 'it returns false'. Refute it at one input. -/
def masterAgesWrong : ChangeSpec := { name := "masterAges", fn := fun _ => fun
  | [d1, d2, d3] => { results := [.lit (.bool false)], args := [d1, d2, d3] }
  | _ => none }
def MasterAgesWrongFalsely : Prop := masterAgesRow.holds Try.pinned (OpenSpec.ofChange masterAgesWrong)

/-- 'runglaw26.MasterStale': WHATEVER THE INPUT: true; the input reads as it did. -/
def masterStaleSpec : ChangeSpec := { name := "masterStale", fn := fun _ => fun
  | [d1, d2, d3, d4, d5] => { results := [.lit (.bool true)], args := [d1, d2, d3, d4, d5] }
  | _ => none }
def masterStaleRow : OpenClaim := { program := "ytomodeliimnddaa", sum := "563451a10a86c1eae703d37d2a1ea3532304ea3937f6e8c149386b2a9f116634", func := "rung/runglaw26.MasterStale", spec := "masterStale", inPlace := ["sync/atomic.AddUint32"], unfollowed := true, recurses := true, apart := false }
def MasterStaleSaid : Prop := masterStaleRow.holds Try.pinned (OpenSpec.ofChange masterStaleSpec)

/-- ITS FALSE NEIGHBOUR: 'it returns false'. Refute it at one input. -/
def masterStaleWrong : ChangeSpec := { name := "masterStale", fn := fun _ => fun
  | [d1, d2, d3, d4, d5] => { results := [.lit (.bool false)], args := [d1, d2, d3, d4, d5] }
  | _ => none }
def MasterStaleWrongFalsely : Prop := masterStaleRow.holds Try.pinned (OpenSpec.ofChange masterStaleWrong)

/-- 'runglaw26.MasterIds': WHATEVER THE INPUT: true; the input reads as it did. -/
def masterIdsSpec : ChangeSpec := { name := "masterIds", fn := fun _ => fun
  | [d1, d2] => { results := [.lit (.bool true)], args := [d1, d2] }
  | _ => none }
def masterIdsRow : OpenClaim := { program := "ytomodeliimnddaa", sum := "563451a10a86c1eae703d37d2a1ea3532304ea3937f6e8c149386b2a9f116634", func := "rung/runglaw26.MasterIds", spec := "masterIds", inPlace := ["sync/atomic.AddUint32"], unfollowed := true, recurses := true, apart := false }
def MasterIdsSaid : Prop := masterIdsRow.holds Try.pinned (OpenSpec.ofChange masterIdsSpec)

/-- ITS FALSE NEIGHBOUR: 'it returns false'. Refute it at one input. -/
def masterIdsWrong : ChangeSpec := { name := "masterIds", fn := fun _ => fun
  | [d1, d2] => { results := [.lit (.bool false)], args := [d1, d2] }
  | _ => none }
def MasterIdsWrongFalsely : Prop := masterIdsRow.holds Try.pinned (OpenSpec.ofChange masterIdsWrong)

/-- 'runglaw26.MasterPlays': WHATEVER THE INPUT: true; the input reads as it did. -/
def masterPlaysSpec : ChangeSpec := { name := "masterPlays", fn := fun _ => fun
  | [d1, d2] => { results := [.lit (.bool true)], args := [d1, d2] }
  | _ => none }
def masterPlaysRow : OpenClaim := { program := "ytomodeliimnddaa", sum := "563451a10a86c1eae703d37d2a1ea3532304ea3937f6e8c149386b2a9f116634", func := "rung/runglaw26.MasterPlays", spec := "masterPlays", inPlace := ["sync/atomic.AddUint32"], unfollowed := true, recurses := true, apart := false }
def MasterPlaysSaid : Prop := masterPlaysRow.holds Try.pinned (OpenSpec.ofChange masterPlaysSpec)

/-- ITS FALSE NEIGHBOUR: 'it returns false'. Refute it at one input. -/
def masterPlaysWrong : ChangeSpec := { name := "masterPlays", fn := fun _ => fun
  | [d1, d2] => { results := [.lit (.bool false)], args := [d1, d2] }
  | _ => none }
def MasterPlaysWrongFalsely : Prop := masterPlaysRow.holds Try.pinned (OpenSpec.ofChange masterPlaysWrong)

/-- 'runglaw26.MasterWrites': WHATEVER THE INPUT: true; the input reads as it did. -/
def masterWritesSpec : ChangeSpec := { name := "masterWrites", fn := fun _ => fun
  | [d1, d2, d3, d4] => { results := [.lit (.bool true)], args := [d1, d2, d3, d4] }
  | _ => none }
def masterWritesRow : OpenClaim := { program := "ytomodeliimnddaa", sum := "563451a10a86c1eae703d37d2a1ea3532304ea3937f6e8c149386b2a9f116634", func := "rung/runglaw26.MasterWrites", spec := "masterWrites", inPlace := ["sync/atomic.AddUint32"], unfollowed := true, recurses := true, apart := false }
def MasterWritesSaid : Prop := masterWritesRow.holds Try.pinned (OpenSpec.ofChange masterWritesSpec)

/-- ITS FALSE NEIGHBOUR: 'it returns false'. Refute it at one input. -/
def masterWritesWrong : ChangeSpec := { name := "masterWrites", fn := fun _ => fun
  | [d1, d2, d3, d4] => { results := [.lit (.bool false)], args := [d1, d2, d3, d4] }
  | _ => none }
def MasterWritesWrongFalsely : Prop := masterWritesRow.holds Try.pinned (OpenSpec.ofChange masterWritesWrong)

/-- 'runglaw26.MasterMany': WHATEVER THE INPUT: true; the input reads as it did. -/
def masterManySpec : ChangeSpec := { name := "masterMany", fn := fun _ => fun
  | [d1, d2, d3] => { results := [.lit (.bool true)], args := [d1, d2, d3] }
  | _ => none }
def masterManyRow : OpenClaim := { program := "ytomodeliimnddaa", sum := "563451a10a86c1eae703d37d2a1ea3532304ea3937f6e8c149386b2a9f116634", func := "rung/runglaw26.MasterMany", spec := "masterMany", inPlace := ["sync/atomic.AddUint32"], unfollowed := true, recurses := true, apart := false }
def MasterManySaid : Prop := masterManyRow.holds Try.pinned (OpenSpec.ofChange masterManySpec)

/-- ITS FALSE NEIGHBOUR: 'it returns false'. Refute it at one input. -/
def masterManyWrong : ChangeSpec := { name := "masterMany", fn := fun _ => fun
  | [d1, d2, d3] => { results := [.lit (.bool false)], args := [d1, d2, d3] }
  | _ => none }
def MasterManyWrongFalsely : Prop := masterManyRow.holds Try.pinned (OpenSpec.ofChange masterManyWrong)

/-- 'runglaw25.SlaveServes': WHATEVER THE INPUT: true; the input reads as it did. -/
def slaveServesSpec : ChangeSpec := { name := "slaveServes", fn := fun _ => fun
  | [d1, d2] => { results := [.lit (.bool true)], args := [d1, d2] }
  | _ => none }
def slaveServesRow : OpenClaim := { program := "ytomodeliimnddaa", sum := "563451a10a86c1eae703d37d2a1ea3532304ea3937f6e8c149386b2a9f116634", func := "rung/runglaw25.SlaveServes", spec := "slaveServes", inPlace := ["sync/atomic.LoadUint64"], unfollowed := true, recurses := true, apart := false }
def SlaveServesSaid : Prop := slaveServesRow.holds Try.pinned (OpenSpec.ofChange slaveServesSpec)

/-- ITS FALSE NEIGHBOUR: 'it returns false'. Refute it at one input. -/
def slaveServesWrong : ChangeSpec := { name := "slaveServes", fn := fun _ => fun
  | [d1, d2] => { results := [.lit (.bool false)], args := [d1, d2] }
  | _ => none }
def SlaveServesWrongFalsely : Prop := slaveServesRow.holds Try.pinned (OpenSpec.ofChange slaveServesWrong)

/-- 'runglaw25.SlaveAsks': WHATEVER THE INPUT: true; the input reads as it did. -/
def slaveAsksSpec : ChangeSpec := { name := "slaveAsks", fn := fun _ => fun
  | [d1, d2] => { results := [.lit (.bool true)], args := [d1, d2] }
  | _ => none }
def slaveAsksRow : OpenClaim := { program := "ytomodeliimnddaa", sum := "563451a10a86c1eae703d37d2a1ea3532304ea3937f6e8c149386b2a9f116634", func := "rung/runglaw25.SlaveAsks", spec := "slaveAsks", inPlace := ["sync/atomic.LoadUint64"], unfollowed := true, recurses := true, apart := false }
def SlaveAsksSaid : Prop := slaveAsksRow.holds Try.pinned (OpenSpec.ofChange slaveAsksSpec)

/-- ITS FALSE NEIGHBOUR: 'it returns false'. Refute it at one input. -/
def slaveAsksWrong : ChangeSpec := { name := "slaveAsks", fn := fun _ => fun
  | [d1, d2] => { results := [.lit (.bool false)], args := [d1, d2] }
  | _ => none }
def SlaveAsksWrongFalsely : Prop := slaveAsksRow.holds Try.pinned (OpenSpec.ofChange slaveAsksWrong)

/-- 'runglaw25.SlaveWrites': WHATEVER THE INPUT: true; the input reads as it did. -/
def slaveWritesSpec : ChangeSpec := { name := "slaveWrites", fn := fun _ => fun
  | [d1, d2, d3, d4, d5, d6] => { results := [.lit (.bool true)], args := [d1, d2, d3, d4, d5, d6] }
  | _ => none }
def slaveWritesRow : OpenClaim := { program := "ytomodeliimnddaa", sum := "563451a10a86c1eae703d37d2a1ea3532304ea3937f6e8c149386b2a9f116634", func := "rung/runglaw25.SlaveWrites", spec := "slaveWrites", inPlace := ["sync/atomic.LoadUint64"], unfollowed := true, recurses := true, apart := false }
def SlaveWritesSaid : Prop := slaveWritesRow.holds Try.pinned (OpenSpec.ofChange slaveWritesSpec)

/-- ITS FALSE NEIGHBOUR: 'it returns false'. Refute it at one input. -/
def slaveWritesWrong : ChangeSpec := { name := "slaveWrites", fn := fun _ => fun
  | [d1, d2, d3, d4, d5, d6] => { results := [.lit (.bool false)], args := [d1, d2, d3, d4, d5, d6] }
  | _ => none }
def SlaveWritesWrongFalsely : Prop := slaveWritesRow.holds Try.pinned (OpenSpec.ofChange slaveWritesWrong)

/-- 'runglaw25.SlaveTells': WHATEVER THE INPUT: true; the input reads as it did. -/
def slaveTellsSpec : ChangeSpec := { name := "slaveTells", fn := fun _ => fun
  | [d1, d2] => { results := [.lit (.bool true)], args := [d1, d2] }
  | _ => none }
def slaveTellsRow : OpenClaim := { program := "ytomodeliimnddaa", sum := "563451a10a86c1eae703d37d2a1ea3532304ea3937f6e8c149386b2a9f116634", func := "rung/runglaw25.SlaveTells", spec := "slaveTells", inPlace := ["sync/atomic.LoadUint64"], unfollowed := true, recurses := true, apart := false }
def SlaveTellsSaid : Prop := slaveTellsRow.holds Try.pinned (OpenSpec.ofChange slaveTellsSpec)

/-- ITS FALSE NEIGHBOUR: 'it returns false'. Refute it at one input. -/
def slaveTellsWrong : ChangeSpec := { name := "slaveTells", fn := fun _ => fun
  | [d1, d2] => { results := [.lit (.bool false)], args := [d1, d2] }
  | _ => none }
def SlaveTellsWrongFalsely : Prop := slaveTellsRow.holds Try.pinned (OpenSpec.ofChange slaveTellsWrong)

/- THE SECOND FORM. 'bulk': how many values and letters a reading holds, each counted each time it is reached (what is shared counts as often as it is met; a slice's spare places count too). A statement '..UptoSaid' is the law's where the arguments, and the package variables that the reading takes, are together of bulk at most 1048576: NARROWER than '..Said'. Prove '..Said' where nothing that the law and all that it calls make is longer than what came in: it says more and counts as full. Else prove '..UptoSaid'. A law counts once. -/
mutual
def uptoBulk {H : Type} : DataW H → Nat
  | .lit (.string bytes) => bytes.length + 1
  | .lit _ => 1
  | .nil => 1
  | .ptr d => uptoBulk d + 1
  | .slice elems spare => uptoBulkAll elems + uptoBulkAll spare + 1
  | .agg parts => uptoBulkAll parts + 1
  | .iface _ d => uptoBulk d + 1
  | .map entries => uptoBulkEntries entries + 1
  | .held _ => 1
def uptoBulkAll {H : Type} : List (DataW H) → Nat
  | [] => 0
  | d :: r => uptoBulk d + uptoBulkAll r
def uptoBulkEntries {H : Type} : List (Lit × DataW H) → Nat
  | [] => 0
  | x :: r => uptoBulkEntry x + uptoBulkEntries r
def uptoBulkEntry {H : Type} : Lit × DataW H → Nat
  | (.string bytes, d) => bytes.length + uptoBulk d + 1
  | (_, d) => uptoBulk d + 1
 end
def uptoSmall : (H : Type) → List (DataW H) → Bool := fun _ ds => decide (uptoBulkAll ds ≤ 1048576)
def OpenSpec.upto (s : _root_.Go.ChangeSpec) : _root_.Go.OpenSpec := { _root_.Go.OpenSpec.ofChange s with cond := some uptoSmall }

/-- 'runglaw11.ImageHides', WHERE WHAT IT READS IS OF BULK AT MOST 1048576: true; the input reads as it did. -/
def imageHidesUptoRow : OpenClaim := { program := "ytomodeliimnddaa", sum := "563451a10a86c1eae703d37d2a1ea3532304ea3937f6e8c149386b2a9f116634", func := "rung/runglaw11.ImageHides", spec := "imageHides", inPlace := ["sync/atomic.AddUint64", "sync/atomic.LoadUint64"], apart := false, narrowed := true }
def ImageHidesUptoSaid : Prop := imageHidesUptoRow.holds Try.pinned (OpenSpec.upto imageHidesSpec)

/-- 'runglaw11.ImagePlays', WHERE WHAT IT READS IS OF BULK AT MOST 1048576: true; the input reads as it did. -/
def imagePlaysUptoRow : OpenClaim := { program := "ytomodeliimnddaa", sum := "563451a10a86c1eae703d37d2a1ea3532304ea3937f6e8c149386b2a9f116634", func := "rung/runglaw11.ImagePlays", spec := "imagePlays", inPlace := ["sync/atomic.AddUint64", "sync/atomic.LoadUint64", "sync/atomic.StoreUint64"], apart := false, narrowed := true }
def ImagePlaysUptoSaid : Prop := imagePlaysUptoRow.holds Try.pinned (OpenSpec.upto imagePlaysSpec)

/-- 'runglaw3.PduRequests', WHERE WHAT IT READS IS OF BULK AT MOST 1048576: true; the input reads as it did. -/
def pduRequestsUptoRow : OpenClaim := { program := "ytomodeliimnddaa", sum := "563451a10a86c1eae703d37d2a1ea3532304ea3937f6e8c149386b2a9f116634", func := "rung/runglaw3.PduRequests", spec := "pduRequests", apart := false, narrowed := true }
def PduRequestsUptoSaid : Prop := pduRequestsUptoRow.holds Try.pinned (OpenSpec.upto pduRequestsSpec)

/-- 'runglaw3.PduReads', WHERE WHAT IT READS IS OF BULK AT MOST 1048576: true; the input reads as it did. -/
def pduReadsUptoRow : OpenClaim := { program := "ytomodeliimnddaa", sum := "563451a10a86c1eae703d37d2a1ea3532304ea3937f6e8c149386b2a9f116634", func := "rung/runglaw3.PduReads", spec := "pduReads", apart := false, narrowed := true }
def PduReadsUptoSaid : Prop := pduReadsUptoRow.holds Try.pinned (OpenSpec.upto pduReadsSpec)

/-- 'runglaw3.PduReplies', WHERE WHAT IT READS IS OF BULK AT MOST 1048576: true; the input reads as it did. -/
def pduRepliesUptoRow : OpenClaim := { program := "ytomodeliimnddaa", sum := "563451a10a86c1eae703d37d2a1ea3532304ea3937f6e8c149386b2a9f116634", func := "rung/runglaw3.PduReplies", spec := "pduReplies", apart := false, narrowed := true }
def PduRepliesUptoSaid : Prop := pduRepliesUptoRow.holds Try.pinned (OpenSpec.upto pduRepliesSpec)

/-- 'runglaw3.PduAnswers', WHERE WHAT IT READS IS OF BULK AT MOST 1048576: true; the input reads as it did. -/
def pduAnswersUptoRow : OpenClaim := { program := "ytomodeliimnddaa", sum := "563451a10a86c1eae703d37d2a1ea3532304ea3937f6e8c149386b2a9f116634", func := "rung/runglaw3.PduAnswers", spec := "pduAnswers", apart := false, narrowed := true }
def PduAnswersUptoSaid : Prop := pduAnswersUptoRow.holds Try.pinned (OpenSpec.upto pduAnswersSpec)

/-- 'runglaw3.PduMatches', WHERE WHAT IT READS IS OF BULK AT MOST 1048576: true; the input reads as it did. -/
def pduMatchesUptoRow : OpenClaim := { program := "ytomodeliimnddaa", sum := "563451a10a86c1eae703d37d2a1ea3532304ea3937f6e8c149386b2a9f116634", func := "rung/runglaw3.PduMatches", spec := "pduMatches", apart := false, narrowed := true }
def PduMatchesUptoSaid : Prop := pduMatchesUptoRow.holds Try.pinned (OpenSpec.upto pduMatchesSpec)

/-- 'runglaw3.PduBits', WHERE WHAT IT READS IS OF BULK AT MOST 1048576: true; the input reads as it did. -/
def pduBitsUptoRow : OpenClaim := { program := "ytomodeliimnddaa", sum := "563451a10a86c1eae703d37d2a1ea3532304ea3937f6e8c149386b2a9f116634", func := "rung/runglaw3.PduBits", spec := "pduBits", apart := false, narrowed := true }
def PduBitsUptoSaid : Prop := pduBitsUptoRow.holds Try.pinned (OpenSpec.upto pduBitsSpec)

/-- 'runglaw3.PduOnce', WHERE WHAT IT READS IS OF BULK AT MOST 1048576: true; the input reads as it did. -/
def pduOnceUptoRow : OpenClaim := { program := "ytomodeliimnddaa", sum := "563451a10a86c1eae703d37d2a1ea3532304ea3937f6e8c149386b2a9f116634", func := "rung/runglaw3.PduOnce", spec := "pduOnce", apart := false, narrowed := true }
def PduOnceUptoSaid : Prop := pduOnceUptoRow.holds Try.pinned (OpenSpec.upto pduOnceSpec)

/-- 'runglaw3.PduShort', WHERE WHAT IT READS IS OF BULK AT MOST 1048576: true; the input reads as it did. -/
def pduShortUptoRow : OpenClaim := { program := "ytomodeliimnddaa", sum := "563451a10a86c1eae703d37d2a1ea3532304ea3937f6e8c149386b2a9f116634", func := "rung/runglaw3.PduShort", spec := "pduShort", apart := false, narrowed := true }
def PduShortUptoSaid : Prop := pduShortUptoRow.holds Try.pinned (OpenSpec.upto pduShortSpec)

/-- 'runglaw25.SlaveEdges', WHERE WHAT IT READS IS OF BULK AT MOST 1048576: true; the input reads as it did. -/
def slaveEdgesUptoRow : OpenClaim := { program := "ytomodeliimnddaa", sum := "563451a10a86c1eae703d37d2a1ea3532304ea3937f6e8c149386b2a9f116634", func := "rung/runglaw25.SlaveEdges", spec := "slaveEdges", unfollowed := true, recurses := true, apart := false, narrowed := true }
def SlaveEdgesUptoSaid : Prop := slaveEdgesUptoRow.holds Try.pinned (OpenSpec.upto slaveEdgesSpec)

/-- 'runglaw25.SlaveApart', WHERE WHAT IT READS IS OF BULK AT MOST 1048576: true; the input reads as it did. -/
def slaveApartUptoRow : OpenClaim := { program := "ytomodeliimnddaa", sum := "563451a10a86c1eae703d37d2a1ea3532304ea3937f6e8c149386b2a9f116634", func := "rung/runglaw25.SlaveApart", spec := "slaveApart", unfollowed := true, recurses := true, apart := false, narrowed := true }
def SlaveApartUptoSaid : Prop := slaveApartUptoRow.holds Try.pinned (OpenSpec.upto slaveApartSpec)

/-- 'runglaw26.MasterChecks', WHERE WHAT IT READS IS OF BULK AT MOST 1048576: true; the input reads as it did. -/
def masterChecksUptoRow : OpenClaim := { program := "ytomodeliimnddaa", sum := "563451a10a86c1eae703d37d2a1ea3532304ea3937f6e8c149386b2a9f116634", func := "rung/runglaw26.MasterChecks", spec := "masterChecks", inPlace := ["sync/atomic.AddUint32"], unfollowed := true, recurses := true, apart := false, narrowed := true }
def MasterChecksUptoSaid : Prop := masterChecksUptoRow.holds Try.pinned (OpenSpec.upto masterChecksSpec)

/-- 'runglaw26.MasterAges', WHERE WHAT IT READS IS OF BULK AT MOST 1048576: true; the input reads as it did. -/
def masterAgesUptoRow : OpenClaim := { program := "ytomodeliimnddaa", sum := "563451a10a86c1eae703d37d2a1ea3532304ea3937f6e8c149386b2a9f116634", func := "rung/runglaw26.MasterAges", spec := "masterAges", inPlace := ["sync/atomic.AddUint32"], unfollowed := true, recurses := true, apart := false, narrowed := true }
def MasterAgesUptoSaid : Prop := masterAgesUptoRow.holds Try.pinned (OpenSpec.upto masterAgesSpec)

/-- 'runglaw26.MasterStale', WHERE WHAT IT READS IS OF BULK AT MOST 1048576: true; the input reads as it did. -/
def masterStaleUptoRow : OpenClaim := { program := "ytomodeliimnddaa", sum := "563451a10a86c1eae703d37d2a1ea3532304ea3937f6e8c149386b2a9f116634", func := "rung/runglaw26.MasterStale", spec := "masterStale", inPlace := ["sync/atomic.AddUint32"], unfollowed := true, recurses := true, apart := false, narrowed := true }
def MasterStaleUptoSaid : Prop := masterStaleUptoRow.holds Try.pinned (OpenSpec.upto masterStaleSpec)

/-- 'runglaw26.MasterIds', WHERE WHAT IT READS IS OF BULK AT MOST 1048576: true; the input reads as it did. -/
def masterIdsUptoRow : OpenClaim := { program := "ytomodeliimnddaa", sum := "563451a10a86c1eae703d37d2a1ea3532304ea3937f6e8c149386b2a9f116634", func := "rung/runglaw26.MasterIds", spec := "masterIds", inPlace := ["sync/atomic.AddUint32"], unfollowed := true, recurses := true, apart := false, narrowed := true }
def MasterIdsUptoSaid : Prop := masterIdsUptoRow.holds Try.pinned (OpenSpec.upto masterIdsSpec)

/-- 'runglaw26.MasterPlays', WHERE WHAT IT READS IS OF BULK AT MOST 1048576: true; the input reads as it did. -/
def masterPlaysUptoRow : OpenClaim := { program := "ytomodeliimnddaa", sum := "563451a10a86c1eae703d37d2a1ea3532304ea3937f6e8c149386b2a9f116634", func := "rung/runglaw26.MasterPlays", spec := "masterPlays", inPlace := ["sync/atomic.AddUint32"], unfollowed := true, recurses := true, apart := false, narrowed := true }
def MasterPlaysUptoSaid : Prop := masterPlaysUptoRow.holds Try.pinned (OpenSpec.upto masterPlaysSpec)

/-- 'runglaw26.MasterWrites', WHERE WHAT IT READS IS OF BULK AT MOST 1048576: true; the input reads as it did. -/
def masterWritesUptoRow : OpenClaim := { program := "ytomodeliimnddaa", sum := "563451a10a86c1eae703d37d2a1ea3532304ea3937f6e8c149386b2a9f116634", func := "rung/runglaw26.MasterWrites", spec := "masterWrites", inPlace := ["sync/atomic.AddUint32"], unfollowed := true, recurses := true, apart := false, narrowed := true }
def MasterWritesUptoSaid : Prop := masterWritesUptoRow.holds Try.pinned (OpenSpec.upto masterWritesSpec)

/-- 'runglaw26.MasterMany', WHERE WHAT IT READS IS OF BULK AT MOST 1048576: true; the input reads as it did. -/
def masterManyUptoRow : OpenClaim := { program := "ytomodeliimnddaa", sum := "563451a10a86c1eae703d37d2a1ea3532304ea3937f6e8c149386b2a9f116634", func := "rung/runglaw26.MasterMany", spec := "masterMany", inPlace := ["sync/atomic.AddUint32"], unfollowed := true, recurses := true, apart := false, narrowed := true }
def MasterManyUptoSaid : Prop := masterManyUptoRow.holds Try.pinned (OpenSpec.upto masterManySpec)

/-- 'runglaw25.SlaveServes', WHERE WHAT IT READS IS OF BULK AT MOST 1048576: true; the input reads as it did. -/
def slaveServesUptoRow : OpenClaim := { program := "ytomodeliimnddaa", sum := "563451a10a86c1eae703d37d2a1ea3532304ea3937f6e8c149386b2a9f116634", func := "rung/runglaw25.SlaveServes", spec := "slaveServes", inPlace := ["sync/atomic.LoadUint64"], unfollowed := true, recurses := true, apart := false, narrowed := true }
def SlaveServesUptoSaid : Prop := slaveServesUptoRow.holds Try.pinned (OpenSpec.upto slaveServesSpec)

/-- 'runglaw25.SlaveAsks', WHERE WHAT IT READS IS OF BULK AT MOST 1048576: true; the input reads as it did. -/
def slaveAsksUptoRow : OpenClaim := { program := "ytomodeliimnddaa", sum := "563451a10a86c1eae703d37d2a1ea3532304ea3937f6e8c149386b2a9f116634", func := "rung/runglaw25.SlaveAsks", spec := "slaveAsks", inPlace := ["sync/atomic.LoadUint64"], unfollowed := true, recurses := true, apart := false, narrowed := true }
def SlaveAsksUptoSaid : Prop := slaveAsksUptoRow.holds Try.pinned (OpenSpec.upto slaveAsksSpec)

/-- 'runglaw25.SlaveWrites', WHERE WHAT IT READS IS OF BULK AT MOST 1048576: true; the input reads as it did. -/
def slaveWritesUptoRow : OpenClaim := { program := "ytomodeliimnddaa", sum := "563451a10a86c1eae703d37d2a1ea3532304ea3937f6e8c149386b2a9f116634", func := "rung/runglaw25.SlaveWrites", spec := "slaveWrites", inPlace := ["sync/atomic.LoadUint64"], unfollowed := true, recurses := true, apart := false, narrowed := true }
def SlaveWritesUptoSaid : Prop := slaveWritesUptoRow.holds Try.pinned (OpenSpec.upto slaveWritesSpec)

/-- 'runglaw25.SlaveTells', WHERE WHAT IT READS IS OF BULK AT MOST 1048576: true; the input reads as it did. -/
def slaveTellsUptoRow : OpenClaim := { program := "ytomodeliimnddaa", sum := "563451a10a86c1eae703d37d2a1ea3532304ea3937f6e8c149386b2a9f116634", func := "rung/runglaw25.SlaveTells", spec := "slaveTells", inPlace := ["sync/atomic.LoadUint64"], unfollowed := true, recurses := true, apart := false, narrowed := true }
def SlaveTellsUptoSaid : Prop := slaveTellsUptoRow.holds Try.pinned (OpenSpec.upto slaveTellsSpec)

end Rows
end Go.Proofs.Ytomodeliimnddaa
