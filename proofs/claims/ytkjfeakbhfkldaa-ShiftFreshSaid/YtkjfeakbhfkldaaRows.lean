/-
  NARROWER THAN 'FOR EVERY INPUT', by the rows' own cells (each row's printed sentence says how): TreeAll: loops · TreeShared: loops · TreeFresh: loops · TreeParts: loops · TreeTurned: loops · ShiftAll: loops · ShiftPasted: loops · ShiftBack: loops · ShiftFresh: loops.
  DERIVED. THE GIVEN ROWS OF THIS SEAT. 12 by the template 'for every input the law returns true; each argument reads behind the call as it read before'; 0 by the template 'total and deterministic' (their statements: YtkjfeakbhfkldaaTotals.lean).
  GIVEN WITH THE SEED: the statements are not yours to turn. If you find one false, say at which input.
  Laid BY PROGRAM, IN A SANDBOX (cutbox-rows.mjs): the forced cells as the released guide's own fill.sh prints them over the translation 48071283eb6c646d… (all of the seat's roots in one cut). By AI agents, Wed Nov 11 2026. No macro, syntax, notation, axiom, sorry.
-/
import Derived.Test.YtkjfeakbhfkldaaChecked
import GoSem.Claim
import GoSem.ClaimJoined
import GoSem.ClaimMapViews
import Derived.JoinedTies
import Derived.KernelRfl
namespace Go.Proofs.Ytkjfeakbhfkldaa
/- THE CELL 'sum', in the pinned program and in every row, IS THE sha256 OF THE DUMP (.gsa) THAT YtkjfeakbhfkldaaProg.lean LOADS. Nothing in Lean hashes anything: it is a label: what it is worth is what the hold of that sum in a sandbox is worth. -/
noncomputable def Try.pinned : Pinned := { name := "ytkjfeakbhfkldaa", sum := "48071283eb6c646dd593457bbc531ea696c1c46c38a5aabde151f2ba7ee8901f", checked := Try.checked }
namespace Rows
def none {H : Type} : Left H := { results := [], args := [] }

/-- 'quadrillelaw9.TreeAll': WHATEVER THE INPUT: true; the input reads as it did. -/
def treeAllSpec : ChangeSpec := { name := "treeAll", fn := fun _ => fun
  | [d] => { results := [.lit (.bool true)], args := [d] }
  | _ => none }
def treeAllRow : OpenClaim := { program := "ytkjfeakbhfkldaa", sum := "48071283eb6c646dd593457bbc531ea696c1c46c38a5aabde151f2ba7ee8901f", func := "quadrille/quadrillelaw9.TreeAll", spec := "treeAll", unfollowed := true, recurses := true, loops := true, apart := false }
def TreeAllSaid : Prop := treeAllRow.holds Try.pinned (OpenSpec.ofChange treeAllSpec)

/-- ITS FALSE NEIGHBOUR: 'it returns false'. Refute it at one input. -/
def treeAllWrong : ChangeSpec := { name := "treeAll", fn := fun _ => fun
  | [d] => { results := [.lit (.bool false)], args := [d] }
  | _ => none }
def TreeAllWrongFalsely : Prop := treeAllRow.holds Try.pinned (OpenSpec.ofChange treeAllWrong)

/-- 'quadrillelaw9.TreeShared': WHATEVER THE INPUT: true; the input reads as it did. -/
def treeSharedSpec : ChangeSpec := { name := "treeShared", fn := fun _ => fun
  | [d1, d2] => { results := [.lit (.bool true)], args := [d1, d2] }
  | _ => none }
def treeSharedRow : OpenClaim := { program := "ytkjfeakbhfkldaa", sum := "48071283eb6c646dd593457bbc531ea696c1c46c38a5aabde151f2ba7ee8901f", func := "quadrille/quadrillelaw9.TreeShared", spec := "treeShared", unfollowed := true, recurses := true, loops := true, apart := false }
def TreeSharedSaid : Prop := treeSharedRow.holds Try.pinned (OpenSpec.ofChange treeSharedSpec)

/-- ITS FALSE NEIGHBOUR: 'it returns false'. Refute it at one input. -/
def treeSharedWrong : ChangeSpec := { name := "treeShared", fn := fun _ => fun
  | [d1, d2] => { results := [.lit (.bool false)], args := [d1, d2] }
  | _ => none }
def TreeSharedWrongFalsely : Prop := treeSharedRow.holds Try.pinned (OpenSpec.ofChange treeSharedWrong)

/-- 'quadrillelaw9.TreeFresh': WHATEVER THE INPUT: true; the input reads as it did. -/
def treeFreshSpec : ChangeSpec := { name := "treeFresh", fn := fun _ => fun
  | [d] => { results := [.lit (.bool true)], args := [d] }
  | _ => none }
def treeFreshRow : OpenClaim := { program := "ytkjfeakbhfkldaa", sum := "48071283eb6c646dd593457bbc531ea696c1c46c38a5aabde151f2ba7ee8901f", func := "quadrille/quadrillelaw9.TreeFresh", spec := "treeFresh", unfollowed := true, recurses := true, loops := true, apart := false }
def TreeFreshSaid : Prop := treeFreshRow.holds Try.pinned (OpenSpec.ofChange treeFreshSpec)

/-- ITS FALSE NEIGHBOUR: 'it returns false'. Refute it at one input. -/
def treeFreshWrong : ChangeSpec := { name := "treeFresh", fn := fun _ => fun
  | [d] => { results := [.lit (.bool false)], args := [d] }
  | _ => none }
def TreeFreshWrongFalsely : Prop := treeFreshRow.holds Try.pinned (OpenSpec.ofChange treeFreshWrong)

/-- 'quadrillelaw9.TreeParts': WHATEVER THE INPUT: true; the input reads as it did. -/
def treePartsSpec : ChangeSpec := { name := "treeParts", fn := fun _ => fun
  | [d] => { results := [.lit (.bool true)], args := [d] }
  | _ => none }
def treePartsRow : OpenClaim := { program := "ytkjfeakbhfkldaa", sum := "48071283eb6c646dd593457bbc531ea696c1c46c38a5aabde151f2ba7ee8901f", func := "quadrille/quadrillelaw9.TreeParts", spec := "treeParts", unfollowed := true, recurses := true, loops := true, apart := false }
def TreePartsSaid : Prop := treePartsRow.holds Try.pinned (OpenSpec.ofChange treePartsSpec)

/-- ITS FALSE NEIGHBOUR: 'it returns false'. Refute it at one input. -/
def treePartsWrong : ChangeSpec := { name := "treeParts", fn := fun _ => fun
  | [d] => { results := [.lit (.bool false)], args := [d] }
  | _ => none }
def TreePartsWrongFalsely : Prop := treePartsRow.holds Try.pinned (OpenSpec.ofChange treePartsWrong)

/-- 'quadrillelaw9.TreeTurned': WHATEVER THE INPUT: true; the input reads as it did. -/
def treeTurnedSpec : ChangeSpec := { name := "treeTurned", fn := fun _ => fun
  | [d1, d2, d3] => { results := [.lit (.bool true)], args := [d1, d2, d3] }
  | _ => none }
def treeTurnedRow : OpenClaim := { program := "ytkjfeakbhfkldaa", sum := "48071283eb6c646dd593457bbc531ea696c1c46c38a5aabde151f2ba7ee8901f", func := "quadrille/quadrillelaw9.TreeTurned", spec := "treeTurned", unfollowed := true, recurses := true, loops := true, apart := false }
def TreeTurnedSaid : Prop := treeTurnedRow.holds Try.pinned (OpenSpec.ofChange treeTurnedSpec)

/-- ITS FALSE NEIGHBOUR: 'it returns false'. Refute it at one input. -/
def treeTurnedWrong : ChangeSpec := { name := "treeTurned", fn := fun _ => fun
  | [d1, d2, d3] => { results := [.lit (.bool false)], args := [d1, d2, d3] }
  | _ => none }
def TreeTurnedWrongFalsely : Prop := treeTurnedRow.holds Try.pinned (OpenSpec.ofChange treeTurnedWrong)

/-- 'quadrillelaw9.TreeBounds': WHATEVER THE INPUT: true; the input reads as it did. -/
def treeBoundsSpec : ChangeSpec := { name := "treeBounds", fn := fun _ => fun
  | [d1, d2, d3] => { results := [.lit (.bool true)], args := [d1, d2, d3] }
  | _ => none }
def treeBoundsRow : OpenClaim := { program := "ytkjfeakbhfkldaa", sum := "48071283eb6c646dd593457bbc531ea696c1c46c38a5aabde151f2ba7ee8901f", func := "quadrille/quadrillelaw9.TreeBounds", spec := "treeBounds", unfollowed := true, recurses := true, apart := false }
def TreeBoundsSaid : Prop := treeBoundsRow.holds Try.pinned (OpenSpec.ofChange treeBoundsSpec)

/-- ITS FALSE NEIGHBOUR: 'it returns false'. Refute it at one input. -/
def treeBoundsWrong : ChangeSpec := { name := "treeBounds", fn := fun _ => fun
  | [d1, d2, d3] => { results := [.lit (.bool false)], args := [d1, d2, d3] }
  | _ => none }
def TreeBoundsWrongFalsely : Prop := treeBoundsRow.holds Try.pinned (OpenSpec.ofChange treeBoundsWrong)

/-- 'quadrillelaw12.ShiftAll': WHATEVER THE INPUT: true; the input reads as it did. -/
def shiftAllSpec : ChangeSpec := { name := "shiftAll", fn := fun _ => fun
  | [d] => { results := [.lit (.bool true)], args := [d] }
  | _ => none }
def shiftAllRow : OpenClaim := { program := "ytkjfeakbhfkldaa", sum := "48071283eb6c646dd593457bbc531ea696c1c46c38a5aabde151f2ba7ee8901f", func := "quadrille/quadrillelaw12.ShiftAll", spec := "shiftAll", unfollowed := true, recurses := true, loops := true, apart := false }
def ShiftAllSaid : Prop := shiftAllRow.holds Try.pinned (OpenSpec.ofChange shiftAllSpec)

/-- ITS FALSE NEIGHBOUR: 'it returns false'. Refute it at one input. -/
def shiftAllWrong : ChangeSpec := { name := "shiftAll", fn := fun _ => fun
  | [d] => { results := [.lit (.bool false)], args := [d] }
  | _ => none }
def ShiftAllWrongFalsely : Prop := shiftAllRow.holds Try.pinned (OpenSpec.ofChange shiftAllWrong)

/-- 'quadrillelaw12.ShiftPasted': WHATEVER THE INPUT: true; the input reads as it did. -/
def shiftPastedSpec : ChangeSpec := { name := "shiftPasted", fn := fun _ => fun
  | [d1, d2, d3, d4, d5] => { results := [.lit (.bool true)], args := [d1, d2, d3, d4, d5] }
  | _ => none }
def shiftPastedRow : OpenClaim := { program := "ytkjfeakbhfkldaa", sum := "48071283eb6c646dd593457bbc531ea696c1c46c38a5aabde151f2ba7ee8901f", func := "quadrille/quadrillelaw12.ShiftPasted", spec := "shiftPasted", unfollowed := true, recurses := true, loops := true, apart := false }
def ShiftPastedSaid : Prop := shiftPastedRow.holds Try.pinned (OpenSpec.ofChange shiftPastedSpec)

/-- ITS FALSE NEIGHBOUR: 'it returns false'. Refute it at one input. -/
def shiftPastedWrong : ChangeSpec := { name := "shiftPasted", fn := fun _ => fun
  | [d1, d2, d3, d4, d5] => { results := [.lit (.bool false)], args := [d1, d2, d3, d4, d5] }
  | _ => none }
def ShiftPastedWrongFalsely : Prop := shiftPastedRow.holds Try.pinned (OpenSpec.ofChange shiftPastedWrong)

/-- 'quadrillelaw12.ShiftPinned': WHATEVER THE INPUT: true; the input reads as it did. -/
def shiftPinnedSpec : ChangeSpec := { name := "shiftPinned", fn := fun _ => fun
  | [d1, d2, d3] => { results := [.lit (.bool true)], args := [d1, d2, d3] }
  | _ => none }
def shiftPinnedRow : OpenClaim := { program := "ytkjfeakbhfkldaa", sum := "48071283eb6c646dd593457bbc531ea696c1c46c38a5aabde151f2ba7ee8901f", func := "quadrille/quadrillelaw12.ShiftPinned", spec := "shiftPinned", unfollowed := true, recurses := true, apart := false }
def ShiftPinnedSaid : Prop := shiftPinnedRow.holds Try.pinned (OpenSpec.ofChange shiftPinnedSpec)

/-- ITS FALSE NEIGHBOUR: 'it returns false'. Refute it at one input. -/
def shiftPinnedWrong : ChangeSpec := { name := "shiftPinned", fn := fun _ => fun
  | [d1, d2, d3] => { results := [.lit (.bool false)], args := [d1, d2, d3] }
  | _ => none }
def ShiftPinnedWrongFalsely : Prop := shiftPinnedRow.holds Try.pinned (OpenSpec.ofChange shiftPinnedWrong)

/-- 'quadrillelaw12.ShiftBack': WHATEVER THE INPUT: true; the input reads as it did. -/
def shiftBackSpec : ChangeSpec := { name := "shiftBack", fn := fun _ => fun
  | [d1, d2, d3, d4] => { results := [.lit (.bool true)], args := [d1, d2, d3, d4] }
  | _ => none }
def shiftBackRow : OpenClaim := { program := "ytkjfeakbhfkldaa", sum := "48071283eb6c646dd593457bbc531ea696c1c46c38a5aabde151f2ba7ee8901f", func := "quadrille/quadrillelaw12.ShiftBack", spec := "shiftBack", unfollowed := true, recurses := true, loops := true, apart := false }
def ShiftBackSaid : Prop := shiftBackRow.holds Try.pinned (OpenSpec.ofChange shiftBackSpec)

/-- ITS FALSE NEIGHBOUR: 'it returns false'. Refute it at one input. -/
def shiftBackWrong : ChangeSpec := { name := "shiftBack", fn := fun _ => fun
  | [d1, d2, d3, d4] => { results := [.lit (.bool false)], args := [d1, d2, d3, d4] }
  | _ => none }
def ShiftBackWrongFalsely : Prop := shiftBackRow.holds Try.pinned (OpenSpec.ofChange shiftBackWrong)

/-- 'quadrillelaw12.ShiftOut': WHATEVER THE INPUT: true; the input reads as it did. -/
def shiftOutSpec : ChangeSpec := { name := "shiftOut", fn := fun _ => fun
  | [d1, d2, d3, d4] => { results := [.lit (.bool true)], args := [d1, d2, d3, d4] }
  | _ => none }
def shiftOutRow : OpenClaim := { program := "ytkjfeakbhfkldaa", sum := "48071283eb6c646dd593457bbc531ea696c1c46c38a5aabde151f2ba7ee8901f", func := "quadrille/quadrillelaw12.ShiftOut", spec := "shiftOut", unfollowed := true, recurses := true, apart := false }
def ShiftOutSaid : Prop := shiftOutRow.holds Try.pinned (OpenSpec.ofChange shiftOutSpec)

/-- ITS FALSE NEIGHBOUR: 'it returns false'. Refute it at one input. -/
def shiftOutWrong : ChangeSpec := { name := "shiftOut", fn := fun _ => fun
  | [d1, d2, d3, d4] => { results := [.lit (.bool false)], args := [d1, d2, d3, d4] }
  | _ => none }
def ShiftOutWrongFalsely : Prop := shiftOutRow.holds Try.pinned (OpenSpec.ofChange shiftOutWrong)

/-- 'quadrillelaw12.ShiftFresh': WHATEVER THE INPUT: true; the input reads as it did. -/
def shiftFreshSpec : ChangeSpec := { name := "shiftFresh", fn := fun _ => fun
  | [d] => { results := [.lit (.bool true)], args := [d] }
  | _ => none }
def shiftFreshRow : OpenClaim := { program := "ytkjfeakbhfkldaa", sum := "48071283eb6c646dd593457bbc531ea696c1c46c38a5aabde151f2ba7ee8901f", func := "quadrille/quadrillelaw12.ShiftFresh", spec := "shiftFresh", unfollowed := true, recurses := true, loops := true, apart := false }
def ShiftFreshSaid : Prop := shiftFreshRow.holds Try.pinned (OpenSpec.ofChange shiftFreshSpec)

/-- ITS FALSE NEIGHBOUR: 'it returns false'. Refute it at one input. -/
def shiftFreshWrong : ChangeSpec := { name := "shiftFresh", fn := fun _ => fun
  | [d] => { results := [.lit (.bool false)], args := [d] }
  | _ => none }
def ShiftFreshWrongFalsely : Prop := shiftFreshRow.holds Try.pinned (OpenSpec.ofChange shiftFreshWrong)

/- THE SECOND FORM. 'bulk': how many values and letters a reading holds, each counted each time it is reached (what is shared counts as often as it is met; a slice's spare places count too). A statement '..UptoSaid' is the law's where the arguments, and the package variables that the reading takes, are together of bulk at most 1048576: NARROWER than '..Said'. Prove '..Said' where nothing that the law and all that it calls make is longer than what came in: it says more and counts as full. Else prove '..UptoSaid'. A law counts once. -/
mutual
def uptoBulk {H : Type} : DataW H → Nat
  | .lit (.string bytes) => bytes.length + 1
  | .lit _ => 1
  | .nil => 1
  | .ptr d => uptoBulk d + 1
  | .slice elems spare => uptoBulkAll elems + uptoBulkAll spare + 1
  | .agg parts => uptoBulkAll parts + 1
  | .iface _ d => uptoBulk d + 1
  | .map entries => uptoBulkEntries entries + 1
  | .held _ => 1
def uptoBulkAll {H : Type} : List (DataW H) → Nat
  | [] => 0
  | d :: r => uptoBulk d + uptoBulkAll r
def uptoBulkEntries {H : Type} : List (Lit × DataW H) → Nat
  | [] => 0
  | x :: r => uptoBulkEntry x + uptoBulkEntries r
def uptoBulkEntry {H : Type} : Lit × DataW H → Nat
  | (.string bytes, d) => bytes.length + uptoBulk d + 1
  | (_, d) => uptoBulk d + 1
 end
def uptoSmall : (H : Type) → List (DataW H) → Bool := fun _ ds => decide (uptoBulkAll ds ≤ 1048576)
def OpenSpec.upto (s : _root_.Go.ChangeSpec) : _root_.Go.OpenSpec := { _root_.Go.OpenSpec.ofChange s with cond := some uptoSmall }

/-- 'quadrillelaw9.TreeAll', WHERE WHAT IT READS IS OF BULK AT MOST 1048576: true; the input reads as it did. -/
def treeAllUptoRow : OpenClaim := { program := "ytkjfeakbhfkldaa", sum := "48071283eb6c646dd593457bbc531ea696c1c46c38a5aabde151f2ba7ee8901f", func := "quadrille/quadrillelaw9.TreeAll", spec := "treeAll", unfollowed := true, recurses := true, loops := true, apart := false, narrowed := true }
def TreeAllUptoSaid : Prop := treeAllUptoRow.holds Try.pinned (OpenSpec.upto treeAllSpec)

/-- 'quadrillelaw9.TreeShared', WHERE WHAT IT READS IS OF BULK AT MOST 1048576: true; the input reads as it did. -/
def treeSharedUptoRow : OpenClaim := { program := "ytkjfeakbhfkldaa", sum := "48071283eb6c646dd593457bbc531ea696c1c46c38a5aabde151f2ba7ee8901f", func := "quadrille/quadrillelaw9.TreeShared", spec := "treeShared", unfollowed := true, recurses := true, loops := true, apart := false, narrowed := true }
def TreeSharedUptoSaid : Prop := treeSharedUptoRow.holds Try.pinned (OpenSpec.upto treeSharedSpec)

/-- 'quadrillelaw9.TreeFresh', WHERE WHAT IT READS IS OF BULK AT MOST 1048576: true; the input reads as it did. -/
def treeFreshUptoRow : OpenClaim := { program := "ytkjfeakbhfkldaa", sum := "48071283eb6c646dd593457bbc531ea696c1c46c38a5aabde151f2ba7ee8901f", func := "quadrille/quadrillelaw9.TreeFresh", spec := "treeFresh", unfollowed := true, recurses := true, loops := true, apart := false, narrowed := true }
def TreeFreshUptoSaid : Prop := treeFreshUptoRow.holds Try.pinned (OpenSpec.upto treeFreshSpec)

/-- 'quadrillelaw9.TreeParts', WHERE WHAT IT READS IS OF BULK AT MOST 1048576: true; the input reads as it did. -/
def treePartsUptoRow : OpenClaim := { program := "ytkjfeakbhfkldaa", sum := "48071283eb6c646dd593457bbc531ea696c1c46c38a5aabde151f2ba7ee8901f", func := "quadrille/quadrillelaw9.TreeParts", spec := "treeParts", unfollowed := true, recurses := true, loops := true, apart := false, narrowed := true }
def TreePartsUptoSaid : Prop := treePartsUptoRow.holds Try.pinned (OpenSpec.upto treePartsSpec)

/-- 'quadrillelaw9.TreeTurned', WHERE WHAT IT READS IS OF BULK AT MOST 1048576: true; the input reads as it did. -/
def treeTurnedUptoRow : OpenClaim := { program := "ytkjfeakbhfkldaa", sum := "48071283eb6c646dd593457bbc531ea696c1c46c38a5aabde151f2ba7ee8901f", func := "quadrille/quadrillelaw9.TreeTurned", spec := "treeTurned", unfollowed := true, recurses := true, loops := true, apart := false, narrowed := true }
def TreeTurnedUptoSaid : Prop := treeTurnedUptoRow.holds Try.pinned (OpenSpec.upto treeTurnedSpec)

/-- 'quadrillelaw9.TreeBounds', WHERE WHAT IT READS IS OF BULK AT MOST 1048576: true; the input reads as it did. -/
def treeBoundsUptoRow : OpenClaim := { program := "ytkjfeakbhfkldaa", sum := "48071283eb6c646dd593457bbc531ea696c1c46c38a5aabde151f2ba7ee8901f", func := "quadrille/quadrillelaw9.TreeBounds", spec := "treeBounds", unfollowed := true, recurses := true, apart := false, narrowed := true }
def TreeBoundsUptoSaid : Prop := treeBoundsUptoRow.holds Try.pinned (OpenSpec.upto treeBoundsSpec)

/-- 'quadrillelaw12.ShiftAll', WHERE WHAT IT READS IS OF BULK AT MOST 1048576: true; the input reads as it did. -/
def shiftAllUptoRow : OpenClaim := { program := "ytkjfeakbhfkldaa", sum := "48071283eb6c646dd593457bbc531ea696c1c46c38a5aabde151f2ba7ee8901f", func := "quadrille/quadrillelaw12.ShiftAll", spec := "shiftAll", unfollowed := true, recurses := true, loops := true, apart := false, narrowed := true }
def ShiftAllUptoSaid : Prop := shiftAllUptoRow.holds Try.pinned (OpenSpec.upto shiftAllSpec)

/-- 'quadrillelaw12.ShiftPasted', WHERE WHAT IT READS IS OF BULK AT MOST 1048576: true; the input reads as it did. -/
def shiftPastedUptoRow : OpenClaim := { program := "ytkjfeakbhfkldaa", sum := "48071283eb6c646dd593457bbc531ea696c1c46c38a5aabde151f2ba7ee8901f", func := "quadrille/quadrillelaw12.ShiftPasted", spec := "shiftPasted", unfollowed := true, recurses := true, loops := true, apart := false, narrowed := true }
def ShiftPastedUptoSaid : Prop := shiftPastedUptoRow.holds Try.pinned (OpenSpec.upto shiftPastedSpec)

/-- 'quadrillelaw12.ShiftPinned', WHERE WHAT IT READS IS OF BULK AT MOST 1048576: true; the input reads as it did. -/
def shiftPinnedUptoRow : OpenClaim := { program := "ytkjfeakbhfkldaa", sum := "48071283eb6c646dd593457bbc531ea696c1c46c38a5aabde151f2ba7ee8901f", func := "quadrille/quadrillelaw12.ShiftPinned", spec := "shiftPinned", unfollowed := true, recurses := true, apart := false, narrowed := true }
def ShiftPinnedUptoSaid : Prop := shiftPinnedUptoRow.holds Try.pinned (OpenSpec.upto shiftPinnedSpec)

/-- 'quadrillelaw12.ShiftBack', WHERE WHAT IT READS IS OF BULK AT MOST 1048576: true; the input reads as it did. -/
def shiftBackUptoRow : OpenClaim := { program := "ytkjfeakbhfkldaa", sum := "48071283eb6c646dd593457bbc531ea696c1c46c38a5aabde151f2ba7ee8901f", func := "quadrille/quadrillelaw12.ShiftBack", spec := "shiftBack", unfollowed := true, recurses := true, loops := true, apart := false, narrowed := true }
def ShiftBackUptoSaid : Prop := shiftBackUptoRow.holds Try.pinned (OpenSpec.upto shiftBackSpec)

/-- 'quadrillelaw12.ShiftOut', WHERE WHAT IT READS IS OF BULK AT MOST 1048576: true; the input reads as it did. -/
def shiftOutUptoRow : OpenClaim := { program := "ytkjfeakbhfkldaa", sum := "48071283eb6c646dd593457bbc531ea696c1c46c38a5aabde151f2ba7ee8901f", func := "quadrille/quadrillelaw12.ShiftOut", spec := "shiftOut", unfollowed := true, recurses := true, apart := false, narrowed := true }
def ShiftOutUptoSaid : Prop := shiftOutUptoRow.holds Try.pinned (OpenSpec.upto shiftOutSpec)

/-- 'quadrillelaw12.ShiftFresh', WHERE WHAT IT READS IS OF BULK AT MOST 1048576: true; the input reads as it did. -/
def shiftFreshUptoRow : OpenClaim := { program := "ytkjfeakbhfkldaa", sum := "48071283eb6c646dd593457bbc531ea696c1c46c38a5aabde151f2ba7ee8901f", func := "quadrille/quadrillelaw12.ShiftFresh", spec := "shiftFresh", unfollowed := true, recurses := true, loops := true, apart := false, narrowed := true }
def ShiftFreshUptoSaid : Prop := shiftFreshUptoRow.holds Try.pinned (OpenSpec.upto shiftFreshSpec)

end Rows
end Go.Proofs.Ytkjfeakbhfkldaa
