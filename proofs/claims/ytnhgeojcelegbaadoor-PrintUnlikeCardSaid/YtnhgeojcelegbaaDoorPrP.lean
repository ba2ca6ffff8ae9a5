/- A formula's one text, as the document tells it. No program in sight. -/
import Derived.Test.YtnhgeojcelegbaaDoorTreeF
import Derived.Test.YtnhgeojcelegbaaDoorSpP
import Derived.Lib.Replace
namespace Go.Proofs.YtnhgeojcelegbaaDoor
open Go.RowKit Go.Lib

/-- The sign of an operation on two, and its level. -/
def signL (op : Int) : List UInt8 :=
  if op = 1 then [94]
  else if op = 2 then [42]
  else if op = 3 then [47]
  else if op = 4 then [43]
  else if op = 5 then [45]
  else if op = 6 then [38]
  else if op = 7 then [61]
  else if op = 8 then [60, 62]
  else if op = 9 then [60]
  else if op = 10 then [60, 61]
  else if op = 11 then [62]
  else if op = 12 then [62, 61]
  else []
def levN (op : Int) : Int :=
  if op = 1 then 5
  else if op = 2 then 4
  else if op = 3 then 4
  else if op = 4 then 3
  else if op = 5 then 3
  else if op = 6 then 2
  else if op = 7 then 1
  else if op = 8 then 1
  else if op = 9 then 1
  else if op = 10 then 1
  else if op = 11 then 1
  else if op = 12 then 1
  else 0
/-- An error's text. -/
def errL (n : Int) : List UInt8 :=
  if n = 1 then [35, 78, 65, 77, 69, 63]
  else if n = 2 then [35, 78, 85, 77, 33]
  else if n = 3 then [35, 82, 69, 70, 33]
  else if n = 4 then [35, 86, 65, 76, 85, 69, 33]
  else if n = 5 then [35, 68, 73, 86, 47, 48, 33]
  else if n = 6 then [35, 78, 47, 65]
  else []
/-- A node's level. -/
def levH (h : Hd) : Int := if h.kind = 8 then levN h.op else if h.kind = 7 then (if h.op = 3 then 7 else 6) else 8
/-- Each quotation mark twice. -/
def dupQ (l : List UInt8) : List UInt8 := replaceAll l [34] [34, 34]
def boolL (n : Int) : List UInt8 := if n = 1 then [84, 82, 85, 69] else [70, 65, 76, 83, 69]
/-- A kid's text, in brackets if its level is below n. -/
def fromL (k : Hd × List UInt8) (n : Int) : List UInt8 := if n ≤ levH k.1 then k.2 else [40] ++ k.2 ++ [41]
/-- A call's arguments from the i-th on. -/
def argsL : List (Hd × List UInt8) → Nat → List UInt8
  | [], _ => []
  | k :: r, i => (if 0 < i then [44] else []) ++ k.2 ++ argsL r (i + 1)
def kidAt (ks : List (Hd × List UInt8)) (i : Nat) : Hd × List UInt8 := ks[i]?.getD (.zero, [])
/-- A node's text out of its kids'. -/
def nodeL (h : Hd) (ks : List (Hd × List UInt8)) : List UInt8 :=
  if h.kind = 1 then itoa h.num
  else if h.kind = 2 then [34] ++ dupQ h.text ++ [34]
  else if h.kind = 3 then boolL h.num
  else if h.kind = 4 then errL h.num
  else if h.kind = 5 then refTextL h.ref
  else if h.kind = 6 then refTextL h.ref ++ [58] ++ refTextL h.to
  else if h.kind = 7 then (if h.op = 3 then fromL (kidAt ks 0) 7 ++ [37] else (if h.op = 1 then [45] else [43]) ++ fromL (kidAt ks 0) 6)
  else if h.kind = 8 then fromL (kidAt ks 0) (levN h.op) ++ signL h.op ++ fromL (kidAt ks 1) (levN h.op + 1)
  else (infoRow h.fn).name ++ [40] ++ argsL ks 0 ++ [41]
/-- The texts of a list of trees, each with its node. -/
def txs : Trees → List (Hd × List UInt8)
  | .nil => []
  | .cons h k r => (h, nodeL h (txs k)) :: txs r
def textL (h : Hd) (ks : Trees) : List UInt8 := nodeL h (txs ks)
/-- P11.1. -/
def formL (h : Hd) (ks : Trees) : List UInt8 := if mayE h ks = 0 then 61 :: textL h ks else []
theorem txs_len : ∀ ks : Trees, (txs ks).length = ks.len
  | .nil => rfl
  | .cons _ _ r => by simp [txs, Trees.len, txs_len r]

/-- No node's text is longer than this. -/
def roomT : Trees → Nat
  | .nil => 0
  | .cons h k r => 200 + 2 * h.text.length + roomT k + roomT r
def roomH (h : Hd) (ks : Trees) : Nat := 200 + 2 * h.text.length + roomT ks
theorem signL_len (op : Int) : (signL op).length ≤ 2 := by unfold signL; (repeat' split) <;> simp
theorem errL_len (op : Int) : (errL op).length ≤ 7 := by unfold errL; (repeat' split) <;> simp
theorem levN_in (op : Int) : 0 ≤ levN op ∧ levN op ≤ 5 := by unfold levN; (repeat' split) <;> omega
end Go.Proofs.YtnhgeojcelegbaaDoor
