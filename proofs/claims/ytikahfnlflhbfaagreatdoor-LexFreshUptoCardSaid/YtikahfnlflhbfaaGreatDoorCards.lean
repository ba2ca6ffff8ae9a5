/-
  DERIVED. GIVEN WITH THE SEED: THE CARDS: each row of YtikahfnlflhbfaaGreatDoorRows.lean that lists a variable, with what it lists TIED to the program's text (the seventh form; the later family's looks); each row that meets fmt, with fmt's text TOLD by the authors' own Lean function (tested against real Go, not proved from fmt's source: count such statements apart). THE CARD IS WHAT COUNTS. Prove the row's statement (the work); the ties are given (YtikahfnlflhbfaaGreatDoorTie.lean); close each card by the builder's one call (the guide's Derived/Test/ToyasCard.lean, 'card_holds'). Laid BY PROGRAM, IN A SANDBOX (cutbox-door.mjs). By AI agents, Wed Nov 11 2026. No macro, syntax, notation, axiom, sorry.
-/
import Derived.Test.YtikahfnlflhbfaaGreatDoorRows
import GoSem.ClaimSeven
namespace Go.Proofs.YtikahfnlflhbfaaGreatDoor
namespace Rows

/-- THE TIED CARD OF 'quadrillelaw8.LexAll'. -/
def lexAllCard : Claim7 := { stood := { row := lexAllRow, standIns := [], harness := (true, "902ca51fc9c68cb8cfcf4ea70b369e8ae89375ed9e8e75f0318c35fb6796509a"), looks := true }, kinds := [], alts := [], laidByText := true, laidKinds := [.data, .data, .data, .data, .sentinel, .sentinel, .pinned, .pinned], laidTests := true, laidLooks := .later }
def LexAllCardSaid : Prop := Claim7.holds Tryz.pinned (.plain (OpenSpec.ofChange lexAllSpec)) lexAllCard

/-- THE TIED CARD OF 'quadrillelaw8.LexFresh'. -/
def lexFreshCard : Claim7 := { stood := { row := lexFreshRow, standIns := [], harness := (true, "902ca51fc9c68cb8cfcf4ea70b369e8ae89375ed9e8e75f0318c35fb6796509a"), looks := true }, kinds := [], alts := [], laidByText := true, laidKinds := [.data, .data, .data, .data, .sentinel, .sentinel, .pinned, .pinned], laidTests := true, laidLooks := .later }
def LexFreshCardSaid : Prop := Claim7.holds Tryz.pinned (.plain (OpenSpec.ofChange lexFreshSpec)) lexFreshCard

/-- THE SECOND FORM's CARD OF 'quadrillelaw8.LexAll'. -/
def lexAllUptoCard : Claim7 := { stood := { row := lexAllUptoRow, standIns := [], harness := (true, "902ca51fc9c68cb8cfcf4ea70b369e8ae89375ed9e8e75f0318c35fb6796509a"), looks := true }, kinds := [], alts := [], laidByText := true, laidKinds := [.data, .data, .data, .data, .sentinel, .sentinel, .pinned, .pinned], laidTests := true, laidLooks := .later }
def LexAllUptoCardSaid : Prop := Claim7.holds Tryz.pinned (.plain (OpenSpec.upto lexAllSpec)) lexAllUptoCard

/-- THE SECOND FORM's CARD OF 'quadrillelaw8.LexFresh'. -/
def lexFreshUptoCard : Claim7 := { stood := { row := lexFreshUptoRow, standIns := [], harness := (true, "902ca51fc9c68cb8cfcf4ea70b369e8ae89375ed9e8e75f0318c35fb6796509a"), looks := true }, kinds := [], alts := [], laidByText := true, laidKinds := [.data, .data, .data, .data, .sentinel, .sentinel, .pinned, .pinned], laidTests := true, laidLooks := .later }
def LexFreshUptoCardSaid : Prop := Claim7.holds Tryz.pinned (.plain (OpenSpec.upto lexFreshSpec)) lexFreshUptoCard
end Rows
end Go.Proofs.YtikahfnlflhbfaaGreatDoor
