/- Formulas' trees as Lean data, and what the document tells of them. No program in sight. -/
import Derived.Test.YtkjfeakbhfkldaaBase
namespace Go.Proofs.Ytkjfeakbhfkldaa
open Go.RowKit

structure RefT where
  row : Int
  col : Int
  pr : Bool
  pc : Bool
  deriving DecidableEq

/-- A node without its kids. -/
structure Hd where
  kind : Int
  op : Int
  num : Int
  text : List UInt8
  ref : RefT
  to : RefT
  fn : Int
  deriving DecidableEq

/-- A list of trees: the first one's node, its kids, the other trees. -/
inductive Trees where
  | nil
  | cons (h : Hd) (kids rest : Trees)
  deriving DecidableEq

def Trees.len : Trees → Nat
  | .nil => 0
  | .cons _ _ r => r.len + 1
def Trees.nodes : Trees → Nat
  | .nil => 0
  | .cons _ k r => 1 + k.nodes + r.nodes
def Trees.deep : Trees → Nat
  | .nil => 0
  | .cons _ k r => max (1 + k.deep) r.deep
def Hd.bytes (h : Hd) : Nat := if h.kind = 2 then h.text.length else 0
def Trees.bytes : Trees → Nat
  | .nil => 0
  | .cons h k r => h.bytes + k.bytes + r.bytes
/-- The nodes with how many kids each has, a node ahead of its kids. -/
def Trees.pre : Trees → List (Hd × Nat)
  | .nil => []
  | .cons h k r => (h, k.len) :: (k.pre ++ r.pre)

def RefT.zero : RefT := ⟨0, 0, false, false⟩
def Hd.zero : Hd := ⟨0, 0, 0, [], .zero, .zero, 0⟩
def placeB (r : RefT) : Bool := decide (0 ≤ r.row) && decide (r.row < 65536) && decide (0 ≤ r.col) && decide (r.col < 702)

def RefT.vals (r : RefT) : List Value := [.int .i64 r.row, .int .i64 r.col, .bool r.pr, .bool r.pc]
/-- The cells of a node, its kids' slice last. -/
def Hd.vals (h : Hd) (ks : Value) : List Value :=
  [.int .i64 h.kind, .int .i64 h.op, .int .i64 h.num, .string ⟨h.text.toArray⟩,
   .int .i64 h.ref.row, .int .i64 h.ref.col, .bool h.ref.pr, .bool h.ref.pc,
   .int .i64 h.to.row, .int .i64 h.to.col, .bool h.to.pr, .bool h.to.pc, .int .i64 h.fn, ks]
/-- Is a node with n kids as the document tells? (lo, hi: how many arguments the function that it names takes.) -/
def fitsB (h : Hd) (n : Nat) (lo hi : Int) : Bool :=
  (decide (h.op = 0) || (decide (h.kind = 7) && decide (1 ≤ h.op) && decide (h.op ≤ 3)) || (decide (h.kind = 8) && decide (1 ≤ h.op) && decide (h.op ≤ 12))) &&
  (!decide (h.op = 0) || (!decide (h.kind = 7) && !decide (h.kind = 8))) &&
  (if h.kind = 1 then decide (0 ≤ h.num) else if h.kind = 3 then decide (h.num = 0) || decide (h.num = 1) else if h.kind = 4 then decide (1 ≤ h.num) && decide (h.num ≤ 6) else decide (h.num = 0)) &&
  (decide (h.kind = 2) || decide (h.text = [])) &&
  (if h.kind = 5 ∨ h.kind = 6 then placeB h.ref else decide (h.ref = .zero)) &&
  (if h.kind = 6 then placeB h.to else decide (h.to = .zero)) &&
  (if h.kind = 9 then decide (1 ≤ h.fn) && decide (h.fn ≤ 76) && decide (lo ≤ n) && (decide (hi < 0) || decide (n ≤ hi)) else decide (h.fn = 0) && decide (n = (if h.kind = 7 then 1 else if h.kind = 8 then 2 else 0))) &&
  (decide (1 ≤ h.kind) && decide (h.kind ≤ 9))
end Go.Proofs.Ytkjfeakbhfkldaa
