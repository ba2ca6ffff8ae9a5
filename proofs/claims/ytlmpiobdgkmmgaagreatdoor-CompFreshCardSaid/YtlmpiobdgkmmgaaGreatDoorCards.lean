/-
  DERIVED. GIVEN WITH THE SEED: THE CARDS: each row of YtlmpiobdgkmmgaaGreatDoorRows.lean that lists a variable, with what it lists TIED to the program's text (the seventh form; the later family's looks); each row that meets fmt, with fmt's text TOLD by the authors' own Lean function (tested against real Go, not proved from fmt's source: count such statements apart). THE CARD IS WHAT COUNTS. Prove the row's statement (the work); the ties are given (YtlmpiobdgkmmgaaGreatDoorTie.lean); close each card by the builder's one call (the guide's Derived/Test/ToyasCard.lean, 'card_holds'). Laid BY PROGRAM, IN A SANDBOX (cutbox-door.mjs). By AI agents, Wed Nov 11 2026. No macro, syntax, notation, axiom, sorry.
-/
import Derived.Test.YtlmpiobdgkmmgaaGreatDoorRows
import GoSem.ClaimSeven
namespace Go.Proofs.YtlmpiobdgkmmgaaGreatDoor
namespace Rows

/-- THE TIED CARD OF 'quadrillelaw17.CompAll'. -/
def compAllCard : Claim7 := { stood := { row := compAllRow, standIns := [], harness := (true, "67872cd9a584bae949978e62ed140bd54ebce15bd834e4cf5e60022517adc228"), looks := false }, kinds := [], alts := [], laidByText := true, laidKinds := [.data, .data, .data], laidTests := true, laidLooks := .later }
def CompAllCardSaid : Prop := Claim7.holds Tryz.pinned (.plain (OpenSpec.ofChange compAllSpec)) compAllCard

/-- THE TIED CARD OF 'quadrillelaw17.CompFresh'. -/
def compFreshCard : Claim7 := { stood := { row := compFreshRow, standIns := [], harness := (true, "67872cd9a584bae949978e62ed140bd54ebce15bd834e4cf5e60022517adc228"), looks := false }, kinds := [], alts := [], laidByText := true, laidKinds := [.data, .data, .data], laidTests := true, laidLooks := .later }
def CompFreshCardSaid : Prop := Claim7.holds Tryz.pinned (.plain (OpenSpec.ofChange compFreshSpec)) compFreshCard

/-- THE TIED CARD OF 'quadrillelaw17.CompParts'. -/
def compPartsCard : Claim7 := { stood := { row := compPartsRow, standIns := [], harness := (true, "67872cd9a584bae949978e62ed140bd54ebce15bd834e4cf5e60022517adc228"), looks := false }, kinds := [], alts := [], laidByText := true, laidKinds := [.data, .data, .data], laidTests := true, laidLooks := .later }
def CompPartsCardSaid : Prop := Claim7.holds Tryz.pinned (.plain (OpenSpec.ofChange compPartsSpec)) compPartsCard

/-- THE TIED CARD OF 'quadrillelaw17.CompMay'. -/
def compMayCard : Claim7 := { stood := { row := compMayRow, standIns := [], harness := (true, "67872cd9a584bae949978e62ed140bd54ebce15bd834e4cf5e60022517adc228"), looks := false }, kinds := [], alts := [], laidByText := true, laidKinds := [.data, .data, .data], laidTests := true, laidLooks := .later }
def CompMayCardSaid : Prop := Claim7.holds Tryz.pinned (.plain (OpenSpec.ofChange compMaySpec)) compMayCard

/-- THE SECOND FORM's CARD OF 'quadrillelaw17.CompAll'. -/
def compAllUptoCard : Claim7 := { stood := { row := compAllUptoRow, standIns := [], harness := (true, "67872cd9a584bae949978e62ed140bd54ebce15bd834e4cf5e60022517adc228"), looks := false }, kinds := [], alts := [], laidByText := true, laidKinds := [.data, .data, .data], laidTests := true, laidLooks := .later }
def CompAllUptoCardSaid : Prop := Claim7.holds Tryz.pinned (.plain (OpenSpec.upto compAllSpec)) compAllUptoCard

/-- THE SECOND FORM's CARD OF 'quadrillelaw17.CompFresh'. -/
def compFreshUptoCard : Claim7 := { stood := { row := compFreshUptoRow, standIns := [], harness := (true, "67872cd9a584bae949978e62ed140bd54ebce15bd834e4cf5e60022517adc228"), looks := false }, kinds := [], alts := [], laidByText := true, laidKinds := [.data, .data, .data], laidTests := true, laidLooks := .later }
def CompFreshUptoCardSaid : Prop := Claim7.holds Tryz.pinned (.plain (OpenSpec.upto compFreshSpec)) compFreshUptoCard

/-- THE SECOND FORM's CARD OF 'quadrillelaw17.CompParts'. -/
def compPartsUptoCard : Claim7 := { stood := { row := compPartsUptoRow, standIns := [], harness := (true, "67872cd9a584bae949978e62ed140bd54ebce15bd834e4cf5e60022517adc228"), looks := false }, kinds := [], alts := [], laidByText := true, laidKinds := [.data, .data, .data], laidTests := true, laidLooks := .later }
def CompPartsUptoCardSaid : Prop := Claim7.holds Tryz.pinned (.plain (OpenSpec.upto compPartsSpec)) compPartsUptoCard

/-- THE SECOND FORM's CARD OF 'quadrillelaw17.CompMay'. -/
def compMayUptoCard : Claim7 := { stood := { row := compMayUptoRow, standIns := [], harness := (true, "67872cd9a584bae949978e62ed140bd54ebce15bd834e4cf5e60022517adc228"), looks := false }, kinds := [], alts := [], laidByText := true, laidKinds := [.data, .data, .data], laidTests := true, laidLooks := .later }
def CompMayUptoCardSaid : Prop := Claim7.holds Tryz.pinned (.plain (OpenSpec.upto compMaySpec)) compMayUptoCard
end Rows
end Go.Proofs.YtlmpiobdgkmmgaaGreatDoor
