/- The catalogue of functions: its rows as Lean data, and what the two functions that lay them hand back. No condition. -/
import Derived.Test.YtkjfeakbhfkldaaBase
namespace Go.Proofs.Ytkjfeakbhfkldaa
open Go.RowKit

structure FnRow where
  name : List UInt8
  cls : Int
  min : Int
  max : Int

def rowsT : List FnRow := [
  ⟨[65, 66, 83], 1, 1, 1⟩, -- ABS
  ⟨[83, 73, 71, 78], 1, 1, 1⟩, -- SIGN
  ⟨[77, 79, 68], 1, 2, 2⟩, -- MOD
  ⟨[81, 85, 79, 84, 73, 69, 78, 84], 1, 2, 2⟩, -- QUOTIENT
  ⟨[80, 79, 87, 69, 82], 1, 2, 2⟩, -- POWER
  ⟨[71, 67, 68], 1, 2, 2⟩, -- GCD
  ⟨[76, 67, 77], 1, 2, 2⟩, -- LCM
  ⟨[70, 65, 67, 84], 1, 1, 1⟩, -- FACT
  ⟨[73, 83, 69, 86, 69, 78], 1, 1, 1⟩, -- ISEVEN
  ⟨[73, 83, 79, 68, 68], 1, 1, 1⟩, -- ISODD
  ⟨[66, 73, 84, 65, 78, 68], 1, 2, 2⟩, -- BITAND
  ⟨[66, 73, 84, 79, 82], 1, 2, 2⟩, -- BITOR
  ⟨[66, 73, 84, 88, 79, 82], 1, 2, 2⟩, -- BITXOR
  ⟨[78, 79, 84], 1, 1, 1⟩, -- NOT
  ⟨[67, 76, 65, 77, 80], 1, 3, 3⟩, -- CLAMP
  ⟨[76, 69, 78], 1, 1, 1⟩, -- LEN
  ⟨[76, 69, 70, 84], 1, 1, 2⟩, -- LEFT
  ⟨[82, 73, 71, 72, 84], 1, 1, 2⟩, -- RIGHT
  ⟨[77, 73, 68], 1, 3, 3⟩, -- MID
  ⟨[85, 80, 80, 69, 82], 1, 1, 1⟩, -- UPPER
  ⟨[76, 79, 87, 69, 82], 1, 1, 1⟩, -- LOWER
  ⟨[84, 82, 73, 77], 1, 1, 1⟩, -- TRIM
  ⟨[82, 69, 86, 69, 82, 83, 69], 1, 1, 1⟩, -- REVERSE
  ⟨[70, 73, 78, 68], 1, 2, 3⟩, -- FIND
  ⟨[83, 85, 66, 83, 84, 73, 84, 85, 84, 69], 1, 3, 3⟩, -- SUBSTITUTE
  ⟨[82, 69, 80, 76, 65, 67, 69], 1, 4, 4⟩, -- REPLACE
  ⟨[82, 69, 80, 84], 1, 2, 2⟩, -- REPT
  ⟨[69, 88, 65, 67, 84], 1, 2, 2⟩, -- EXACT
  ⟨[67, 79, 68, 69], 1, 1, 1⟩, -- CODE
  ⟨[67, 72, 65, 82], 1, 1, 1⟩, -- CHAR
  ⟨[86, 65, 76, 85, 69], 1, 1, 1⟩, -- VALUE
  ⟨[84, 69, 88, 84], 1, 1, 1⟩, -- TEXT
  ⟨[78], 1, 1, 1⟩, -- N
  ⟨[84], 1, 1, 1⟩, -- T
  ⟨[78, 65], 1, 0, 0⟩, -- NA
  ⟨[73, 83, 66, 76, 65, 78, 75], 2, 1, 1⟩, -- ISBLANK
  ⟨[73, 83, 78, 85, 77, 66, 69, 82], 2, 1, 1⟩, -- ISNUMBER
  ⟨[73, 83, 84, 69, 88, 84], 2, 1, 1⟩, -- ISTEXT
  ⟨[73, 83, 76, 79, 71, 73, 67, 65, 76], 2, 1, 1⟩, -- ISLOGICAL
  ⟨[73, 83, 69, 82, 82, 79, 82], 2, 1, 1⟩, -- ISERROR
  ⟨[73, 83, 78, 65], 2, 1, 1⟩, -- ISNA
  ⟨[73, 70], 3, 2, 3⟩, -- IF
  ⟨[73, 70, 69, 82, 82, 79, 82], 3, 2, 2⟩, -- IFERROR
  ⟨[73, 70, 78, 65], 3, 2, 2⟩, -- IFNA
  ⟨[67, 72, 79, 79, 83, 69], 3, 2, -1⟩, -- CHOOSE
  ⟨[83, 87, 73, 84, 67, 72], 3, 3, -1⟩, -- SWITCH
  ⟨[82, 79, 87], 4, 0, 1⟩, -- ROW
  ⟨[67, 79, 76, 85, 77, 78], 4, 0, 1⟩, -- COLUMN
  ⟨[82, 79, 87, 83], 4, 1, 1⟩, -- ROWS
  ⟨[67, 79, 76, 85, 77, 78, 83], 4, 1, 1⟩, -- COLUMNS
  ⟨[73, 78, 68, 73, 82, 69, 67, 84], 5, 1, 1⟩, -- INDIRECT
  ⟨[79, 70, 70, 83, 69, 84], 5, 3, 5⟩, -- OFFSET
  ⟨[73, 78, 68, 69, 88], 5, 2, 3⟩, -- INDEX
  ⟨[83, 85, 77], 6, 1, -1⟩, -- SUM
  ⟨[80, 82, 79, 68, 85, 67, 84], 6, 1, -1⟩, -- PRODUCT
  ⟨[67, 79, 85, 78, 84], 6, 1, -1⟩, -- COUNT
  ⟨[67, 79, 85, 78, 84, 65], 6, 1, -1⟩, -- COUNTA
  ⟨[67, 79, 85, 78, 84, 66, 76, 65, 78, 75], 6, 1, -1⟩, -- COUNTBLANK
  ⟨[77, 73, 78], 6, 1, -1⟩, -- MIN
  ⟨[77, 65, 88], 6, 1, -1⟩, -- MAX
  ⟨[65, 86, 69, 82, 65, 71, 69], 6, 1, -1⟩, -- AVERAGE
  ⟨[77, 69, 68, 73, 65, 78], 6, 1, -1⟩, -- MEDIAN
  ⟨[76, 65, 82, 71, 69], 6, 2, 2⟩, -- LARGE
  ⟨[83, 77, 65, 76, 76], 6, 2, 2⟩, -- SMALL
  ⟨[65, 78, 68], 6, 1, -1⟩, -- AND
  ⟨[79, 82], 6, 1, -1⟩, -- OR
  ⟨[88, 79, 82], 6, 1, -1⟩, -- XOR
  ⟨[67, 79, 78, 67, 65, 84], 6, 1, -1⟩, -- CONCAT
  ⟨[74, 79, 73, 78], 6, 2, -1⟩, -- JOIN
  ⟨[77, 65, 84, 67, 72], 6, 2, 2⟩, -- MATCH
  ⟨[86, 76, 79, 79, 75, 85, 80], 6, 3, 3⟩, -- VLOOKUP
  ⟨[72, 76, 79, 79, 75, 85, 80], 6, 3, 3⟩, -- HLOOKUP
  ⟨[83, 85, 77, 73, 70], 6, 2, 3⟩, -- SUMIF
  ⟨[67, 79, 85, 78, 84, 73, 70], 6, 2, 2⟩, -- COUNTIF
  ⟨[83, 85, 77, 80, 82, 79, 68, 85, 67, 84], 6, 2, 2⟩, -- SUMPRODUCT
  ⟨[70, 73, 82, 83, 84], 6, 1, -1⟩] -- FIRST

def FnRow.cells (r : FnRow) : List Value := [.string ⟨r.name.toArray⟩, .int .i64 r.cls, .int .i64 r.min, .int .i64 r.max]
def rowsCells : List Value := rowsT.flatMap FnRow.cells
def rowsObj : Obj := .cells rowsCells.toArray 108 (0, 0)
def rowsFr0 : Array Value := #[Value.slice none 0 0] ++ Array.replicate 77 undef
def rowsFr1 (b : Nat) : Array Value := (Value.slice (some ⟨b, 0, none⟩) 76 76 :: ((rowsT.map fun (r : FnRow) => Value.agg r.cells.toArray) ++ [Value.slice (some ⟨b, 0, none⟩) 76 76])).toArray

set_option maxRecDepth 100000 in
theorem rows_any (w : World) :
    Calls Try.prog 91 #[] w fun e w' => e = .returned (.slice (some ⟨w.heap.size, 0, none⟩) 76 76) ∧ w.alloc rowsObj = w' := by
  refine calls_of_wp Try.func91 rfl ?_
  refine wp_seq ?_
  refine Run.region_wp (a' := { tmps := rowsFr0, defers := [] }) (w' := w) (by kernel_rfl) ?_
  refine wp_seq ?_
  refine Run.region_wp (a' := { tmps := rowsFr1 w.heap.size, defers := [] }) (w' := w.alloc rowsObj) (by kernel_rfl) ?_
  refine wp_ret ?_
  exact bodyPost_ret (v := .slice (some ⟨w.heap.size, 0, none⟩) 76 76) (by kernel_rfl) rfl ⟨rfl, rfl⟩

set_option maxRecDepth 100000 in
theorem refRows_any (w : World) :
    Calls Try.prog 102 #[] w fun e w' => e = .returned (.slice (some ⟨w.heap.size, 0, none⟩) 76 76) ∧ w.alloc rowsObj = w' := by
  refine calls_of_wp Try.func102 rfl ?_
  refine wp_seq ?_
  refine Run.region_wp (a' := { tmps := rowsFr0, defers := [] }) (w' := w) (by kernel_rfl) ?_
  refine wp_seq ?_
  refine Run.region_wp (a' := { tmps := rowsFr1 w.heap.size, defers := [] }) (w' := w.alloc rowsObj) (by kernel_rfl) ?_
  refine wp_ret ?_
  exact bodyPost_ret (v := .slice (some ⟨w.heap.size, 0, none⟩) 76 76) (by kernel_rfl) rfl ⟨rfl, rfl⟩

attribute [irreducible] rowsObj
end Go.Proofs.Ytkjfeakbhfkldaa
