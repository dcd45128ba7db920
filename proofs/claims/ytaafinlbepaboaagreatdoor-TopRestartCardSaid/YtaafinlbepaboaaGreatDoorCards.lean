/-
  DERIVED. GIVEN WITH THE SEED: THE CARDS: each row of YtaafinlbepaboaaGreatDoorRows.lean that lists a variable, with what it lists TIED to the program's text (the seventh form; the later family's looks); each row that meets fmt, with fmt's text TOLD by the authors' own Lean function (tested against real Go, not proved from fmt's source: count such statements apart). THE CARD IS WHAT COUNTS. Prove the row's statement (the work); the ties are given (YtaafinlbepaboaaGreatDoorTie.lean); close each card by the builder's one call (the guide's Derived/Test/ToyasCard.lean, 'card_holds'). Laid BY PROGRAM, IN A SANDBOX (cutbox-door.mjs). By AI agents, Wed Nov 11 2026. No macro, syntax, notation, axiom, sorry.
-/
import Derived.Test.YtaafinlbepaboaaGreatDoorRows
import GoSem.ClaimSeven
namespace Go.Proofs.YtaafinlbepaboaaGreatDoor
namespace Rows

/-- THE TIED CARD OF 'rungtop.TopHalf'. -/
def topHalfCard : Claim7 := { stood := { row := topHalfRow, standIns := [], harness := (true, "78d83abfbc6fc6f6aae5c5cdd69acf07ca051c214993daff8f1bde5dcd01c483"), looks := true }, kinds := [], alts := [], laidByText := true, laidKinds := [.data, .listed, .sentinel, .sentinel, .data, .data, .data], laidTests := true, laidLooks := .later }
def TopHalfCardSaid : Prop := Claim7.holds Tryz.pinned (.plain (OpenSpec.ofChange topHalfSpec)) topHalfCard

/-- THE TIED CARD OF 'rungtop.TopRestart'. -/
def topRestartCard : Claim7 := { stood := { row := topRestartRow, standIns := [], harness := (true, "78d83abfbc6fc6f6aae5c5cdd69acf07ca051c214993daff8f1bde5dcd01c483"), looks := true }, kinds := [], alts := [], laidByText := true, laidKinds := [.data, .listed, .sentinel, .sentinel, .data, .data, .data], laidTests := true, laidLooks := .later }
def TopRestartCardSaid : Prop := Claim7.holds Tryz.pinned (.plain (OpenSpec.ofChange topRestartSpec)) topRestartCard

/-- THE TIED CARD OF 'rungtop.TopCounters'. -/
def topCountersCard : Claim7 := { stood := { row := topCountersRow, standIns := [], harness := (true, "78d83abfbc6fc6f6aae5c5cdd69acf07ca051c214993daff8f1bde5dcd01c483"), looks := true }, kinds := [], alts := [], laidByText := true, laidKinds := [.data, .listed, .sentinel, .sentinel, .data, .data, .data], laidTests := true, laidLooks := .later }
def TopCountersCardSaid : Prop := Claim7.holds Tryz.pinned (.plain (OpenSpec.ofChange topCountersSpec)) topCountersCard

/-- THE TIED CARD OF 'rungtop.TopConns'. -/
def topConnsCard : Claim7 := { stood := { row := topConnsRow, standIns := [], harness := (true, "78d83abfbc6fc6f6aae5c5cdd69acf07ca051c214993daff8f1bde5dcd01c483"), looks := true }, kinds := [], alts := [], laidByText := true, laidKinds := [.data, .listed, .sentinel, .sentinel, .data, .data, .data], laidTests := true, laidLooks := .later }
def TopConnsCardSaid : Prop := Claim7.holds Tryz.pinned (.plain (OpenSpec.ofChange topConnsSpec)) topConnsCard

/-- THE TIED CARD OF 'rungtop.TopChunks'. -/
def topChunksCard : Claim7 := { stood := { row := topChunksRow, standIns := [], harness := (true, "78d83abfbc6fc6f6aae5c5cdd69acf07ca051c214993daff8f1bde5dcd01c483"), looks := true }, kinds := [], alts := [], laidByText := true, laidKinds := [.data, .listed, .sentinel, .sentinel, .data, .data, .data], laidTests := true, laidLooks := .later }
def TopChunksCardSaid : Prop := Claim7.holds Tryz.pinned (.plain (OpenSpec.ofChange topChunksSpec)) topChunksCard

/-- THE TIED CARD OF 'rungtop.TopMasks'. -/
def topMasksCard : Claim7 := { stood := { row := topMasksRow, standIns := [], harness := (true, "78d83abfbc6fc6f6aae5c5cdd69acf07ca051c214993daff8f1bde5dcd01c483"), looks := true }, kinds := [], alts := [], laidByText := true, laidKinds := [.data, .listed, .sentinel, .sentinel, .data, .data, .data], laidTests := true, laidLooks := .later }
def TopMasksCardSaid : Prop := Claim7.holds Tryz.pinned (.plain (OpenSpec.ofChange topMasksSpec)) topMasksCard

/-- THE SECOND FORM's CARD OF 'rungtop.TopHalf'. -/
def topHalfUptoCard : Claim7 := { stood := { row := topHalfUptoRow, standIns := [], harness := (true, "78d83abfbc6fc6f6aae5c5cdd69acf07ca051c214993daff8f1bde5dcd01c483"), looks := true }, kinds := [], alts := [], laidByText := true, laidKinds := [.data, .listed, .sentinel, .sentinel, .data, .data, .data], laidTests := true, laidLooks := .later }
def TopHalfUptoCardSaid : Prop := Claim7.holds Tryz.pinned (.plain (OpenSpec.upto topHalfSpec)) topHalfUptoCard

/-- THE SECOND FORM's CARD OF 'rungtop.TopRestart'. -/
def topRestartUptoCard : Claim7 := { stood := { row := topRestartUptoRow, standIns := [], harness := (true, "78d83abfbc6fc6f6aae5c5cdd69acf07ca051c214993daff8f1bde5dcd01c483"), looks := true }, kinds := [], alts := [], laidByText := true, laidKinds := [.data, .listed, .sentinel, .sentinel, .data, .data, .data], laidTests := true, laidLooks := .later }
def TopRestartUptoCardSaid : Prop := Claim7.holds Tryz.pinned (.plain (OpenSpec.upto topRestartSpec)) topRestartUptoCard

/-- THE SECOND FORM's CARD OF 'rungtop.TopCounters'. -/
def topCountersUptoCard : Claim7 := { stood := { row := topCountersUptoRow, standIns := [], harness := (true, "78d83abfbc6fc6f6aae5c5cdd69acf07ca051c214993daff8f1bde5dcd01c483"), looks := true }, kinds := [], alts := [], laidByText := true, laidKinds := [.data, .listed, .sentinel, .sentinel, .data, .data, .data], laidTests := true, laidLooks := .later }
def TopCountersUptoCardSaid : Prop := Claim7.holds Tryz.pinned (.plain (OpenSpec.upto topCountersSpec)) topCountersUptoCard

/-- THE SECOND FORM's CARD OF 'rungtop.TopConns'. -/
def topConnsUptoCard : Claim7 := { stood := { row := topConnsUptoRow, standIns := [], harness := (true, "78d83abfbc6fc6f6aae5c5cdd69acf07ca051c214993daff8f1bde5dcd01c483"), looks := true }, kinds := [], alts := [], laidByText := true, laidKinds := [.data, .listed, .sentinel, .sentinel, .data, .data, .data], laidTests := true, laidLooks := .later }
def TopConnsUptoCardSaid : Prop := Claim7.holds Tryz.pinned (.plain (OpenSpec.upto topConnsSpec)) topConnsUptoCard

/-- THE SECOND FORM's CARD OF 'rungtop.TopChunks'. -/
def topChunksUptoCard : Claim7 := { stood := { row := topChunksUptoRow, standIns := [], harness := (true, "78d83abfbc6fc6f6aae5c5cdd69acf07ca051c214993daff8f1bde5dcd01c483"), looks := true }, kinds := [], alts := [], laidByText := true, laidKinds := [.data, .listed, .sentinel, .sentinel, .data, .data, .data], laidTests := true, laidLooks := .later }
def TopChunksUptoCardSaid : Prop := Claim7.holds Tryz.pinned (.plain (OpenSpec.upto topChunksSpec)) topChunksUptoCard

/-- THE SECOND FORM's CARD OF 'rungtop.TopMasks'. -/
def topMasksUptoCard : Claim7 := { stood := { row := topMasksUptoRow, standIns := [], harness := (true, "78d83abfbc6fc6f6aae5c5cdd69acf07ca051c214993daff8f1bde5dcd01c483"), looks := true }, kinds := [], alts := [], laidByText := true, laidKinds := [.data, .listed, .sentinel, .sentinel, .data, .data, .data], laidTests := true, laidLooks := .later }
def TopMasksUptoCardSaid : Prop := Claim7.holds Tryz.pinned (.plain (OpenSpec.upto topMasksSpec)) topMasksUptoCard
end Rows
end Go.Proofs.YtaafinlbepaboaaGreatDoor
