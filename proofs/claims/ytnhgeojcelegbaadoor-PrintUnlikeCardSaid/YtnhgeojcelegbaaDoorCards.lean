/-
  DERIVED. GIVEN WITH THE SEED: THE CARDS: each row of YtnhgeojcelegbaaDoorRows.lean that lists a variable, with what it lists TIED to the program's text (the seventh form; the later family's looks); each row that meets fmt, with fmt's text TOLD by the authors' own Lean function (tested against real Go, not proved from fmt's source: count such statements apart). THE CARD IS WHAT COUNTS. Prove the row's statement (the work); the ties are given (YtnhgeojcelegbaaDoorTie.lean); close each card by the builder's one call (the guide's Derived/Test/ToyasCard.lean, 'card_holds'). Laid BY PROGRAM, IN A SANDBOX (cutbox-door.mjs). By AI agents, Wed Nov 11 2026. No macro, syntax, notation, axiom, sorry.
-/
import Derived.Test.YtnhgeojcelegbaaDoorRows
import GoSem.ClaimSeven
namespace Go.Proofs.YtnhgeojcelegbaaDoor
namespace Rows

/-- THE TIED CARD OF 'quadrillelaw11.PrintAll'. -/
def printAllCard : Claim7 := { stood := { row := printAllRow, standIns := [], harness := (true, "8182fcf883a3e7a03b67cbcaad6f62c36cfd7253fd8fdf5151b6b89f5bd348a1"), looks := true }, kinds := [], alts := [], laidByText := true, laidKinds := [.data, .data, .data, .data, .pinned], laidTests := true, laidLooks := .later }
def PrintAllCardSaid : Prop := Claim7.holds Tryd.pinned (.plain (OpenSpec.ofChange printAllSpec)) printAllCard

/-- THE TIED CARD OF 'quadrillelaw11.PrintKids'. -/
def printKidsCard : Claim7 := { stood := { row := printKidsRow, standIns := [], harness := (true, "8182fcf883a3e7a03b67cbcaad6f62c36cfd7253fd8fdf5151b6b89f5bd348a1"), looks := true }, kinds := [], alts := [], laidByText := true, laidKinds := [.data, .data, .data, .data, .pinned], laidTests := true, laidLooks := .later }
def PrintKidsCardSaid : Prop := Claim7.holds Tryd.pinned (.plain (OpenSpec.ofChange printKidsSpec)) printKidsCard

/-- THE TIED CARD OF 'quadrillelaw11.PrintUnlike'. -/
def printUnlikeCard : Claim7 := { stood := { row := printUnlikeRow, standIns := [], harness := (true, "8182fcf883a3e7a03b67cbcaad6f62c36cfd7253fd8fdf5151b6b89f5bd348a1"), looks := true }, kinds := [], alts := [], laidByText := true, laidKinds := [.data, .data, .data, .data, .pinned], laidTests := true, laidLooks := .later }
def PrintUnlikeCardSaid : Prop := Claim7.holds Tryd.pinned (.plain (OpenSpec.ofChange printUnlikeSpec)) printUnlikeCard

/-- THE TIED CARD OF 'quadrillelaw2.SpotThere'. -/
def spotThereCard : Claim7 := { stood := { row := spotThereRow, standIns := [], harness := (true, "8182fcf883a3e7a03b67cbcaad6f62c36cfd7253fd8fdf5151b6b89f5bd348a1"), looks := true }, kinds := [], alts := [], laidByText := true, laidKinds := [.data, .data, .data, .data, .sentinel, .sentinel, .pinned, .pinned], laidTests := true, laidLooks := .later }
def SpotThereCardSaid : Prop := Claim7.holds Tryd.pinned (.plain (OpenSpec.ofChange spotThereSpec)) spotThereCard

/-- THE TIED CARD OF 'quadrillelaw2.SpotBegins'. -/
def spotBeginsCard : Claim7 := { stood := { row := spotBeginsRow, standIns := [], harness := (true, "8182fcf883a3e7a03b67cbcaad6f62c36cfd7253fd8fdf5151b6b89f5bd348a1"), looks := true }, kinds := [], alts := [], laidByText := true, laidKinds := [.data, .data, .data, .data, .sentinel, .sentinel, .pinned, .pinned], laidTests := true, laidLooks := .later }
def SpotBeginsCardSaid : Prop := Claim7.holds Tryd.pinned (.plain (OpenSpec.ofChange spotBeginsSpec)) spotBeginsCard

/-- THE TIED CARD OF 'quadrillelaw2.SpotAreas'. -/
def spotAreasCard : Claim7 := { stood := { row := spotAreasRow, standIns := [], harness := (true, "8182fcf883a3e7a03b67cbcaad6f62c36cfd7253fd8fdf5151b6b89f5bd348a1"), looks := true }, kinds := [], alts := [], laidByText := true, laidKinds := [.data, .data, .data, .data, .sentinel, .sentinel, .pinned, .pinned], laidTests := true, laidLooks := .later }
def SpotAreasCardSaid : Prop := Claim7.holds Tryd.pinned (.plain (OpenSpec.ofChange spotAreasSpec)) spotAreasCard

/-- THE TIED CARD OF 'quadrillelaw2.SpotAll'. -/
def spotAllCard : Claim7 := { stood := { row := spotAllRow, standIns := [], harness := (true, "8182fcf883a3e7a03b67cbcaad6f62c36cfd7253fd8fdf5151b6b89f5bd348a1"), looks := true }, kinds := [], alts := [], laidByText := true, laidKinds := [.data, .data, .data, .data, .sentinel, .sentinel, .pinned, .pinned], laidTests := true, laidLooks := .later }
def SpotAllCardSaid : Prop := Claim7.holds Tryd.pinned (.plain (OpenSpec.ofChange spotAllSpec)) spotAllCard

/-- THE TIED CARD OF 'quadrillelaw2.SpotOrder'. -/
def spotOrderCard : Claim7 := { stood := { row := spotOrderRow, standIns := [], harness := (true, "8182fcf883a3e7a03b67cbcaad6f62c36cfd7253fd8fdf5151b6b89f5bd348a1"), looks := true }, kinds := [], alts := [], laidByText := true, laidKinds := [.data, .data, .data, .data, .sentinel, .sentinel, .pinned, .pinned], laidTests := true, laidLooks := .later }
def SpotOrderCardSaid : Prop := Claim7.holds Tryd.pinned (.plain (OpenSpec.ofChange spotOrderSpec)) spotOrderCard

/-- THE SECOND FORM's CARD OF 'quadrillelaw11.PrintAll'. -/
def printAllUptoCard : Claim7 := { stood := { row := printAllUptoRow, standIns := [], harness := (true, "8182fcf883a3e7a03b67cbcaad6f62c36cfd7253fd8fdf5151b6b89f5bd348a1"), looks := true }, kinds := [], alts := [], laidByText := true, laidKinds := [.data, .data, .data, .data, .pinned], laidTests := true, laidLooks := .later }
def PrintAllUptoCardSaid : Prop := Claim7.holds Tryd.pinned (.plain (OpenSpec.upto printAllSpec)) printAllUptoCard

/-- THE SECOND FORM's CARD OF 'quadrillelaw11.PrintKids'. -/
def printKidsUptoCard : Claim7 := { stood := { row := printKidsUptoRow, standIns := [], harness := (true, "8182fcf883a3e7a03b67cbcaad6f62c36cfd7253fd8fdf5151b6b89f5bd348a1"), looks := true }, kinds := [], alts := [], laidByText := true, laidKinds := [.data, .data, .data, .data, .pinned], laidTests := true, laidLooks := .later }
def PrintKidsUptoCardSaid : Prop := Claim7.holds Tryd.pinned (.plain (OpenSpec.upto printKidsSpec)) printKidsUptoCard

/-- THE SECOND FORM's CARD OF 'quadrillelaw11.PrintUnlike'. -/
def printUnlikeUptoCard : Claim7 := { stood := { row := printUnlikeUptoRow, standIns := [], harness := (true, "8182fcf883a3e7a03b67cbcaad6f62c36cfd7253fd8fdf5151b6b89f5bd348a1"), looks := true }, kinds := [], alts := [], laidByText := true, laidKinds := [.data, .data, .data, .data, .pinned], laidTests := true, laidLooks := .later }
def PrintUnlikeUptoCardSaid : Prop := Claim7.holds Tryd.pinned (.plain (OpenSpec.upto printUnlikeSpec)) printUnlikeUptoCard

/-- THE SECOND FORM's CARD OF 'quadrillelaw2.SpotThere'. -/
def spotThereUptoCard : Claim7 := { stood := { row := spotThereUptoRow, standIns := [], harness := (true, "8182fcf883a3e7a03b67cbcaad6f62c36cfd7253fd8fdf5151b6b89f5bd348a1"), looks := true }, kinds := [], alts := [], laidByText := true, laidKinds := [.data, .data, .data, .data, .sentinel, .sentinel, .pinned, .pinned], laidTests := true, laidLooks := .later }
def SpotThereUptoCardSaid : Prop := Claim7.holds Tryd.pinned (.plain (OpenSpec.upto spotThereSpec)) spotThereUptoCard

/-- THE SECOND FORM's CARD OF 'quadrillelaw2.SpotBegins'. -/
def spotBeginsUptoCard : Claim7 := { stood := { row := spotBeginsUptoRow, standIns := [], harness := (true, "8182fcf883a3e7a03b67cbcaad6f62c36cfd7253fd8fdf5151b6b89f5bd348a1"), looks := true }, kinds := [], alts := [], laidByText := true, laidKinds := [.data, .data, .data, .data, .sentinel, .sentinel, .pinned, .pinned], laidTests := true, laidLooks := .later }
def SpotBeginsUptoCardSaid : Prop := Claim7.holds Tryd.pinned (.plain (OpenSpec.upto spotBeginsSpec)) spotBeginsUptoCard

/-- THE SECOND FORM's CARD OF 'quadrillelaw2.SpotAreas'. -/
def spotAreasUptoCard : Claim7 := { stood := { row := spotAreasUptoRow, standIns := [], harness := (true, "8182fcf883a3e7a03b67cbcaad6f62c36cfd7253fd8fdf5151b6b89f5bd348a1"), looks := true }, kinds := [], alts := [], laidByText := true, laidKinds := [.data, .data, .data, .data, .sentinel, .sentinel, .pinned, .pinned], laidTests := true, laidLooks := .later }
def SpotAreasUptoCardSaid : Prop := Claim7.holds Tryd.pinned (.plain (OpenSpec.upto spotAreasSpec)) spotAreasUptoCard

/-- THE SECOND FORM's CARD OF 'quadrillelaw2.SpotAll'. -/
def spotAllUptoCard : Claim7 := { stood := { row := spotAllUptoRow, standIns := [], harness := (true, "8182fcf883a3e7a03b67cbcaad6f62c36cfd7253fd8fdf5151b6b89f5bd348a1"), looks := true }, kinds := [], alts := [], laidByText := true, laidKinds := [.data, .data, .data, .data, .sentinel, .sentinel, .pinned, .pinned], laidTests := true, laidLooks := .later }
def SpotAllUptoCardSaid : Prop := Claim7.holds Tryd.pinned (.plain (OpenSpec.upto spotAllSpec)) spotAllUptoCard

/-- THE SECOND FORM's CARD OF 'quadrillelaw2.SpotOrder'. -/
def spotOrderUptoCard : Claim7 := { stood := { row := spotOrderUptoRow, standIns := [], harness := (true, "8182fcf883a3e7a03b67cbcaad6f62c36cfd7253fd8fdf5151b6b89f5bd348a1"), looks := true }, kinds := [], alts := [], laidByText := true, laidKinds := [.data, .data, .data, .data, .sentinel, .sentinel, .pinned, .pinned], laidTests := true, laidLooks := .later }
def SpotOrderUptoCardSaid : Prop := Claim7.holds Tryd.pinned (.plain (OpenSpec.upto spotOrderSpec)) spotOrderUptoCard
end Rows
end Go.Proofs.YtnhgeojcelegbaaDoor
