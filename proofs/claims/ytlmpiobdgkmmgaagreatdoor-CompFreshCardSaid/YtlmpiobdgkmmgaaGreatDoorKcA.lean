/- Trees as data; a node in memory; the table of functions. -/
import Derived.Test.YtlmpiobdgkmmgaaGreatDoorBase
import Derived.OrdersHeld
set_option maxRecDepth 1000000
set_option maxHeartbeats 16000000
namespace Go.Proofs.YtlmpiobdgkmmgaaGreatDoor
section
variable {P : Program} {ops : Array Oper} {Q : Exit → Act → World → Prop} {md : Region.Mode} {S : World → Prop}
theorem wpT (i : Nat) (oi : Oper) (v : Value) {fuel : Nat} {listed : Array Bool} {a : Act} {w : World} (hy : YieldsIf P ops S oi v a) (hS : S w) (h : wpAnyH P md ops Q S fuel (listed.setIfInBounds i true) (a.put oi.dst v) w)
 (hi : ops[i]? = some oi := by rfl) (hs : Region.noSelect ops = true := by kernel_rfl) (hf : Region.free md ops listed i = true := by kernel_rfl) (hr : (Region.ready md ops listed).contains i = true := by kernel_rfl) (hQ : ∀ c a w, Q (.panic c) (a.put oi.dst v) w → Q (.panic c) a w := by exact fun _ _ _ h => h) : wpAnyH P md ops Q S (fuel + 1) listed a w :=
 wpAnyH_take hi hs hf hr hQ hy hS h
theorem wpV (i : Nat) (oi : Oper) (v : Value) {fuel : Nat} {listed : Array Bool} {a : Act} {w : World} (hS : S w) (h : wpAnyH P md ops Q S fuel (listed.setIfInBounds i true) (a.put oi.dst v) w) (hy : YieldsIf P ops S oi v a := by exact Or.inl ⟨by rfl, fun W hW => by first | (go_simp; done) | (go_simp; with_reducible rfl)⟩)
 (hi : ops[i]? = some oi := by rfl) (hs : Region.noSelect ops = true := by kernel_rfl) (hf : Region.free md ops listed i = true := by kernel_rfl) (hr : (Region.ready md ops listed).contains i = true := by kernel_rfl) (hQ : ∀ c a w, Q (.panic c) (a.put oi.dst v) w → Q (.panic c) a w := by exact fun _ _ _ h => h) : wpAnyH P md ops Q S (fuel + 1) listed a w :=
 wpAnyH_take hi hs hf hr hQ hy hS h
end
end Go.Proofs.YtlmpiobdgkmmgaaGreatDoor
namespace Go.Proofs.YtlmpiobdgkmmgaaGreatDoor
open Go.RowKit
structure RefT where
 row : Int
 col : Int
 pr : Bool
 pc : Bool
 deriving DecidableEq
structure Hd where
 kind : Int
 op : Int
 num : Int
 text : List UInt8
 ref : RefT
 to : RefT
 fn : Int
 deriving DecidableEq
inductive Trees where
 | nil
 | cons (h : Hd) (kids rest : Trees)
 deriving DecidableEq
def Trees.len : Trees → Nat
 | .nil => 0
 | .cons _ _ r => r.len + 1
def Trees.nodes : Trees → Nat
 | .nil => 0
 | .cons _ k r => 1 + k.nodes + r.nodes
def Trees.deep : Trees → Nat
 | .nil => 0
 | .cons _ k r => max (1 + k.deep) r.deep
def Hd.bytes (h : Hd) : Nat := if h.kind = 2 then h.text.length else 0
def Trees.bytes : Trees → Nat
 | .nil => 0
 | .cons h k r => h.bytes + k.bytes + r.bytes
def Trees.pre : Trees → List (Hd × Nat)
 | .nil => []
 | .cons h k r => (h, k.len) :: (k.pre ++ r.pre)
def RefT.zero : RefT := ⟨0, 0, false, false⟩
def Hd.zero : Hd := ⟨0, 0, 0, [], .zero, .zero, 0⟩
def placeB (r : RefT) : Bool := decide (0 ≤ r.row) && decide (r.row < 65536) && decide (0 ≤ r.col) && decide (r.col < 702)
def RefT.vals (r : RefT) : List Value := [.int .i64 r.row, .int .i64 r.col, .bool r.pr, .bool r.pc]
def Hd.vals (h : Hd) (ks : Value) : List Value :=
 [.int .i64 h.kind, .int .i64 h.op, .int .i64 h.num, .string ⟨h.text.toArray⟩,
  .int .i64 h.ref.row, .int .i64 h.ref.col, .bool h.ref.pr, .bool h.ref.pc,
  .int .i64 h.to.row, .int .i64 h.to.col, .bool h.to.pr, .bool h.to.pc, .int .i64 h.fn, ks]
def fitsB (h : Hd) (n : Nat) (lo hi : Int) : Bool :=
 (decide (h.op = 0) || (decide (h.kind = 7) && decide (1 ≤ h.op) && decide (h.op ≤ 3)) || (decide (h.kind = 8) && decide (1 ≤ h.op) && decide (h.op ≤ 12))) &&
 (!decide (h.op = 0) || (!decide (h.kind = 7) && !decide (h.kind = 8))) &&
 (if h.kind = 1 then decide (0 ≤ h.num) else if h.kind = 3 then decide (h.num = 0) || decide (h.num = 1) else if h.kind = 4 then decide (1 ≤ h.num) && decide (h.num ≤ 6) else decide (h.num = 0)) &&
 (decide (h.kind = 2) || decide (h.text = [])) &&
 (if h.kind = 5 ∨ h.kind = 6 then placeB h.ref else decide (h.ref = .zero)) &&
 (if h.kind = 6 then placeB h.to else decide (h.to = .zero)) &&
 (if h.kind = 9 then decide (1 ≤ h.fn) && decide (h.fn ≤ 76) && decide (lo ≤ n) && (decide (hi < 0) || decide (n ≤ hi)) else decide (h.fn = 0) && decide (n = (if h.kind = 7 then 1 else if h.kind = 8 then 2 else 0))) &&
 (decide (1 ≤ h.kind) && decide (h.kind ≤ 9))
end Go.Proofs.YtlmpiobdgkmmgaaGreatDoor
namespace Go.Proofs.YtlmpiobdgkmmgaaGreatDoor
open Go.RowKit
def bareB (h : Hd) (n : Nat) : Bool :=
 (decide (h.op = 0) || decide (h.kind = 7) || decide (h.kind = 8)) &&
 (decide (h.num = 0) || decide (h.kind = 1) || decide (h.kind = 3) || decide (h.kind = 4)) &&
 (decide (h.text = []) || decide (h.kind = 2)) &&
 (decide (h.ref = .zero) || decide (h.kind = 5) || decide (h.kind = 6)) &&
 (decide (h.to = .zero) || decide (h.kind = 6)) &&
 (decide (h.fn = 0) || decide (h.kind = 9)) &&
 (decide (n = (if h.kind = 7 then 1 else if h.kind = 8 then 2 else 0)) || decide (h.kind = 9))
def NodeAt (w : World) (b off : Nat) (h : Hd) (ks : Value) : Prop := b < w.heap.size ∧ ∀ j v, (h.vals ks)[j]? = some v → w.cell? ⟨b, off + j, none⟩ = some v
structure NodeFacts (w : World) (b off : Nat) (h : Hd) (ks : Value) : Prop where
 lt : b < w.heap.size
 c0 : w.cell? ⟨b, off, none⟩ = some (.int .i64 h.kind)
 c1 : w.cell? ⟨b, off + 1, none⟩ = some (.int .i64 h.op)
 c2 : w.cell? ⟨b, off + 2, none⟩ = some (.int .i64 h.num)
 c3 : w.cell? ⟨b, off + 3, none⟩ = some (.string ⟨h.text.toArray⟩)
 c4 : w.cell? ⟨b, off + 4, none⟩ = some (.int .i64 h.ref.row)
 c5 : w.cell? ⟨b, off + 5, none⟩ = some (.int .i64 h.ref.col)
 c6 : w.cell? ⟨b, off + 6, none⟩ = some (.bool h.ref.pr)
 c7 : w.cell? ⟨b, off + 7, none⟩ = some (.bool h.ref.pc)
 c8 : w.cell? ⟨b, off + 8, none⟩ = some (.int .i64 h.to.row)
 c9 : w.cell? ⟨b, off + 9, none⟩ = some (.int .i64 h.to.col)
 c10 : w.cell? ⟨b, off + 10, none⟩ = some (.bool h.to.pr)
 c11 : w.cell? ⟨b, off + 11, none⟩ = some (.bool h.to.pc)
 c12 : w.cell? ⟨b, off + 12, none⟩ = some (.int .i64 h.fn)
 c13 : w.cell? ⟨b, off + 13, none⟩ = some ks
 d5 : w.cell? ⟨b, off + 4 + 1, none⟩ = some (.int .i64 h.ref.col)
 d6 : w.cell? ⟨b, off + 4 + 2, none⟩ = some (.bool h.ref.pr)
 d7 : w.cell? ⟨b, off + 4 + 3, none⟩ = some (.bool h.ref.pc)
 d9 : w.cell? ⟨b, off + 8 + 1, none⟩ = some (.int .i64 h.to.col)
 d10 : w.cell? ⟨b, off + 8 + 2, none⟩ = some (.bool h.to.pr)
 d11 : w.cell? ⟨b, off + 8 + 3, none⟩ = some (.bool h.to.pc)
theorem NodeAt.facts {w : World} {b off : Nat} {h : Hd} {ks : Value} (n : NodeAt w b off h ks) : NodeFacts w b off h ks :=
 ⟨n.1, n.2 0 _ rfl, n.2 1 _ rfl, n.2 2 _ rfl, n.2 3 _ rfl, n.2 4 _ rfl, n.2 5 _ rfl, n.2 6 _ rfl, n.2 7 _ rfl, n.2 8 _ rfl, n.2 9 _ rfl, n.2 10 _ rfl, n.2 11 _ rfl, n.2 12 _ rfl, n.2 13 _ rfl,
  n.2 5 _ rfl, n.2 6 _ rfl, n.2 7 _ rfl, n.2 9 _ rfl, n.2 10 _ rfl, n.2 11 _ rfl⟩
theorem NodeAt.kept {w w' : World} {B b off : Nat} {h : Hd} {ks : Value} (n : NodeAt w b off h ks) (hb : Below B w w') (hB : b < B) : NodeAt w' b off h ks :=
 ⟨Nat.lt_of_lt_of_le n.1 hb.size, fun j v hj => (hb.cell (p := ⟨b, off + j, none⟩) hB).trans (n.2 j v hj)⟩
end Go.Proofs.YtlmpiobdgkmmgaaGreatDoor
namespace Go.Proofs.YtlmpiobdgkmmgaaGreatDoor
open Go.RowKit
def I64 (x : Int) : Prop := -9223372036854775808 ≤ x ∧ x ≤ 9223372036854775807
structure Hd.ok (h : Hd) : Prop where
 text : h.text.length ≤ 140737488351232
 kind : I64 h.kind
 op : I64 h.op
 num : I64 h.num
 rrow : I64 h.ref.row
 rcol : I64 h.ref.col
 trow : I64 h.to.row
 tcol : I64 h.to.col
 fn : I64 h.fn
def RowIn (w : World) (B : Nat) : Trees → Option Addr → Nat → Prop
 | .nil, _, _ => True
 | .cons h ks rest, a, i => (∃ b off ka kl kc, a = some ⟨b, off, none⟩ ∧ b < B ∧ NodeAt w b (off + i * 14) h (.slice ka kl kc) ∧ kl = ks.len ∧ kl ≤ 9223372036854775807 ∧ h.ok ∧ RowIn w B ks ka 0) ∧ RowIn w B rest a (i + 1)
theorem RowIn.kept {w w' : World} {B B' : Nat} (hb : Below B w w') (hB : B' ≤ B) : ∀ {ts : Trees} {a : Option Addr} {i : Nat}, RowIn w B' ts a i → RowIn w' B' ts a i
 | .nil, _, _, _ => trivial
 | .cons _ _ _, _, _, ⟨⟨b, off, ka, kl, kc, e, lt, n, l, m, o, k⟩, r⟩ =>
  ⟨⟨b, off, ka, kl, kc, e, lt, n.kept hb (Nat.lt_of_lt_of_le lt hB), l, m, o, RowIn.kept hb hB k⟩, RowIn.kept hb hB r⟩
theorem RowIn.mono {w : World} {B B' : Nat} (hB : B ≤ B') : ∀ {ts : Trees} {a : Option Addr} {i : Nat}, RowIn w B ts a i → RowIn w B' ts a i
 | .nil, _, _, _ => trivial
 | .cons _ _ _, _, _, ⟨⟨b, off, ka, kl, kc, e, lt, n, l, m, o, k⟩, r⟩ =>
  ⟨⟨b, off, ka, kl, kc, e, Nat.lt_of_lt_of_le lt hB, n, l, m, o, RowIn.mono hB k⟩, RowIn.mono hB r⟩
def AllT (Q : Hd → Trees → Prop) : Trees → Prop
 | .nil => True
 | .cons h k r => Q h k ∧ AllT Q r
theorem allT {Q : Hd → Trees → Prop} (step : ∀ h k, AllT Q k → Q h k) : ∀ ts, AllT Q ts
 | .nil => trivial
 | .cons h k r => ⟨step h k (allT step k), allT step r⟩
structure TreeV (w : World) (B : Nat) (h : Hd) (ks : Trees) (ka : Option Addr) (kl : Nat) : Prop where
 len : kl = ks.len
 max : kl ≤ 9223372036854775807
 ok : h.ok
 row : RowIn w B ks ka 0
theorem TreeV.kept {w w' : World} {B B' : Nat} {h : Hd} {ks : Trees} {ka : Option Addr} {kl : Nat} (t : TreeV w B' h ks ka kl) (hb : Below B w w') (hB : B' ≤ B) : TreeV w' B' h ks ka kl := ⟨t.len, t.max, t.ok, t.row.kept hb hB⟩
theorem TreeV.mono {w : World} {B B' : Nat} {h : Hd} {ks : Trees} {ka : Option Addr} {kl : Nat} (t : TreeV w B h ks ka kl) (hB : B ≤ B') : TreeV w B' h ks ka kl := ⟨t.len, t.max, t.ok, t.row.mono hB⟩
theorem RowIn.head {w : World} {B : Nat} {h : Hd} {ks rest : Trees} {a : Option Addr} {i : Nat} (r : RowIn w B (.cons h ks rest) a i) :
 ∃ b off ka kl kc, a = some ⟨b, off, none⟩ ∧ b < B ∧ NodeAt w b (off + i * 14) h (.slice ka kl kc) ∧ TreeV w B h ks ka kl := by
 obtain ⟨⟨b, off, ka, kl, kc, e, lt, n, l, m, o, k⟩, _⟩ := r
 exact ⟨b, off, ka, kl, kc, e, lt, n, l, m, o, k⟩
def Fine (h : Hd) (ks : Trees) : Prop := 1 + ks.nodes ≤ 512 ∧ 1 + ks.deep ≤ 64 ∧ h.bytes + ks.bytes ≤ 16384
instance (h : Hd) (ks : Trees) : Decidable (Fine h ks) := by unfold Fine; infer_instance
theorem ext_drewN {a b : World} (h : Below a.heap.size a b) (n : Nat) : Below a.heap.size a (b.drewN n) := ⟨h.os, h.tape, h.output, h.size, h.block⟩
end Go.Proofs.YtlmpiobdgkmmgaaGreatDoor
namespace Go.Proofs.YtlmpiobdgkmmgaaGreatDoor
open Go.RowKit
structure FnRow where
 name : List UInt8
 cls : Int
 min : Int
 max : Int
def rowsT : List FnRow := [
 ⟨[65, 66, 83], 1, 1, 1⟩, -- ABS
 ⟨[83, 73, 71, 78], 1, 1, 1⟩, -- SIGN
 ⟨[77, 79, 68], 1, 2, 2⟩, -- MOD
 ⟨[81, 85, 79, 84, 73, 69, 78, 84], 1, 2, 2⟩, -- QUOTIENT
 ⟨[80, 79, 87, 69, 82], 1, 2, 2⟩, -- POWER
 ⟨[71, 67, 68], 1, 2, 2⟩, -- GCD
 ⟨[76, 67, 77], 1, 2, 2⟩, -- LCM
 ⟨[70, 65, 67, 84], 1, 1, 1⟩, -- FACT
 ⟨[73, 83, 69, 86, 69, 78], 1, 1, 1⟩, -- ISEVEN
 ⟨[73, 83, 79, 68, 68], 1, 1, 1⟩, -- ISODD
 ⟨[66, 73, 84, 65, 78, 68], 1, 2, 2⟩, -- BITAND
 ⟨[66, 73, 84, 79, 82], 1, 2, 2⟩, -- BITOR
 ⟨[66, 73, 84, 88, 79, 82], 1, 2, 2⟩, -- BITXOR
 ⟨[78, 79, 84], 1, 1, 1⟩, -- NOT
 ⟨[67, 76, 65, 77, 80], 1, 3, 3⟩, -- CLAMP
 ⟨[76, 69, 78], 1, 1, 1⟩, -- LEN
 ⟨[76, 69, 70, 84], 1, 1, 2⟩, -- LEFT
 ⟨[82, 73, 71, 72, 84], 1, 1, 2⟩, -- RIGHT
 ⟨[77, 73, 68], 1, 3, 3⟩, -- MID
 ⟨[85, 80, 80, 69, 82], 1, 1, 1⟩, -- UPPER
 ⟨[76, 79, 87, 69, 82], 1, 1, 1⟩, -- LOWER
 ⟨[84, 82, 73, 77], 1, 1, 1⟩, -- TRIM
 ⟨[82, 69, 86, 69, 82, 83, 69], 1, 1, 1⟩, -- REVERSE
 ⟨[70, 73, 78, 68], 1, 2, 3⟩, -- FIND
 ⟨[83, 85, 66, 83, 84, 73, 84, 85, 84, 69], 1, 3, 3⟩, -- SUBSTITUTE
 ⟨[82, 69, 80, 76, 65, 67, 69], 1, 4, 4⟩, -- REPLACE
 ⟨[82, 69, 80, 84], 1, 2, 2⟩, -- REPT
 ⟨[69, 88, 65, 67, 84], 1, 2, 2⟩, -- EXACT
 ⟨[67, 79, 68, 69], 1, 1, 1⟩, -- CODE
 ⟨[67, 72, 65, 82], 1, 1, 1⟩, -- CHAR
 ⟨[86, 65, 76, 85, 69], 1, 1, 1⟩, -- VALUE
 ⟨[84, 69, 88, 84], 1, 1, 1⟩, -- TEXT
 ⟨[78], 1, 1, 1⟩, -- N
 ⟨[84], 1, 1, 1⟩, -- T
 ⟨[78, 65], 1, 0, 0⟩, -- NA
 ⟨[73, 83, 66, 76, 65, 78, 75], 2, 1, 1⟩, -- ISBLANK
 ⟨[73, 83, 78, 85, 77, 66, 69, 82], 2, 1, 1⟩, -- ISNUMBER
 ⟨[73, 83, 84, 69, 88, 84], 2, 1, 1⟩, -- ISTEXT
 ⟨[73, 83, 76, 79, 71, 73, 67, 65, 76], 2, 1, 1⟩, -- ISLOGICAL
 ⟨[73, 83, 69, 82, 82, 79, 82], 2, 1, 1⟩, -- ISERROR
 ⟨[73, 83, 78, 65], 2, 1, 1⟩, -- ISNA
 ⟨[73, 70], 3, 2, 3⟩, -- IF
 ⟨[73, 70, 69, 82, 82, 79, 82], 3, 2, 2⟩, -- IFERROR
 ⟨[73, 70, 78, 65], 3, 2, 2⟩, -- IFNA
 ⟨[67, 72, 79, 79, 83, 69], 3, 2, -1⟩, -- CHOOSE
 ⟨[83, 87, 73, 84, 67, 72], 3, 3, -1⟩, -- SWITCH
 ⟨[82, 79, 87], 4, 0, 1⟩, -- ROW
 ⟨[67, 79, 76, 85, 77, 78], 4, 0, 1⟩, -- COLUMN
 ⟨[82, 79, 87, 83], 4, 1, 1⟩, -- ROWS
 ⟨[67, 79, 76, 85, 77, 78, 83], 4, 1, 1⟩, -- COLUMNS
 ⟨[73, 78, 68, 73, 82, 69, 67, 84], 5, 1, 1⟩, -- INDIRECT
 ⟨[79, 70, 70, 83, 69, 84], 5, 3, 5⟩, -- OFFSET
 ⟨[73, 78, 68, 69, 88], 5, 2, 3⟩, -- INDEX
 ⟨[83, 85, 77], 6, 1, -1⟩, -- SUM
 ⟨[80, 82, 79, 68, 85, 67, 84], 6, 1, -1⟩, -- PRODUCT
 ⟨[67, 79, 85, 78, 84], 6, 1, -1⟩, -- COUNT
 ⟨[67, 79, 85, 78, 84, 65], 6, 1, -1⟩, -- COUNTA
 ⟨[67, 79, 85, 78, 84, 66, 76, 65, 78, 75], 6, 1, -1⟩, -- COUNTBLANK
 ⟨[77, 73, 78], 6, 1, -1⟩, -- MIN
 ⟨[77, 65, 88], 6, 1, -1⟩, -- MAX
 ⟨[65, 86, 69, 82, 65, 71, 69], 6, 1, -1⟩, -- AVERAGE
 ⟨[77, 69, 68, 73, 65, 78], 6, 1, -1⟩, -- MEDIAN
 ⟨[76, 65, 82, 71, 69], 6, 2, 2⟩, -- LARGE
 ⟨[83, 77, 65, 76, 76], 6, 2, 2⟩, -- SMALL
 ⟨[65, 78, 68], 6, 1, -1⟩, -- AND
 ⟨[79, 82], 6, 1, -1⟩, -- OR
 ⟨[88, 79, 82], 6, 1, -1⟩, -- XOR
 ⟨[67, 79, 78, 67, 65, 84], 6, 1, -1⟩, -- CONCAT
 ⟨[74, 79, 73, 78], 6, 2, -1⟩, -- JOIN
 ⟨[77, 65, 84, 67, 72], 6, 2, 2⟩, -- MATCH
 ⟨[86, 76, 79, 79, 75, 85, 80], 6, 3, 3⟩, -- VLOOKUP
 ⟨[72, 76, 79, 79, 75, 85, 80], 6, 3, 3⟩, -- HLOOKUP
 ⟨[83, 85, 77, 73, 70], 6, 2, 3⟩, -- SUMIF
 ⟨[67, 79, 85, 78, 84, 73, 70], 6, 2, 2⟩, -- COUNTIF
 ⟨[83, 85, 77, 80, 82, 79, 68, 85, 67, 84], 6, 2, 2⟩, -- SUMPRODUCT
 ⟨[70, 73, 82, 83, 84], 6, 1, -1⟩] -- FIRST
def FnRow.cells (r : FnRow) : List Value := [.string ⟨r.name.toArray⟩, .int .i64 r.cls, .int .i64 r.min, .int .i64 r.max]
def rowsCells : List Value := rowsT.flatMap FnRow.cells
def rowsObj : Obj := .cells rowsCells.toArray 42 (0, 0)
def rowsFr0 : Array Value := #[Value.slice none 0 0] ++ Array.replicate 77 undef
def rowsFr1 (b : Nat) : Array Value := (Value.slice (some ⟨b, 0, none⟩) 76 76 :: ((rowsT.map fun (r : FnRow) => Value.agg r.cells.toArray) ++ [Value.slice (some ⟨b, 0, none⟩) 76 76])).toArray
theorem rows_any (w : World) :
 Calls Tryz.prog 40 #[] w fun e w' => e = .returned (.slice (some ⟨w.heap.size, 0, none⟩) 76 76) ∧ w.alloc rowsObj = w' := by
 refine calls_of_wp Tryz.func40 rfl ?_
 refine wp_seq ?_
 refine Run.region_wp (a' := { tmps := rowsFr0, defers := [] }) (w' := w) (by kernel_rfl) ?_
 refine wp_seq ?_
 refine Run.region_wp (a' := { tmps := rowsFr1 w.heap.size, defers := [] }) (w' := w.alloc rowsObj) (by kernel_rfl) ?_
 refine wp_ret ?_
 exact bodyPost_ret (v := .slice (some ⟨w.heap.size, 0, none⟩) 76 76) (by kernel_rfl) rfl ⟨rfl, rfl⟩
theorem refRows_any (w : World) :
 Calls Tryz.prog 130 #[] w fun e w' => e = .returned (.slice (some ⟨w.heap.size, 0, none⟩) 76 76) ∧ w.alloc rowsObj = w' := by
 refine calls_of_wp Tryz.func130 rfl ?_
 refine wp_seq ?_
 refine Run.region_wp (a' := { tmps := rowsFr0, defers := [] }) (w' := w) (by kernel_rfl) ?_
 refine wp_seq ?_
 refine Run.region_wp (a' := { tmps := rowsFr1 w.heap.size, defers := [] }) (w' := w.alloc rowsObj) (by kernel_rfl) ?_
 refine wp_ret ?_
 exact bodyPost_ret (v := .slice (some ⟨w.heap.size, 0, none⟩) 76 76) (by kernel_rfl) rfl ⟨rfl, rfl⟩
attribute [irreducible] rowsObj
end Go.Proofs.YtlmpiobdgkmmgaaGreatDoor
namespace Go.Proofs.YtlmpiobdgkmmgaaGreatDoor
open Go.RowKit
def rowAt (i : Nat) : FnRow := rowsT.getD i ⟨[], 0, 0, 0⟩
theorem rowsT_len : rowsT.length = 76 := by decide
theorem rows_at {i : Nat} (h : i < 76) : rowsT[i]? = some (rowAt i) := by
 rw [rowAt, List.getD_eq_getElem?_getD, List.getElem?_eq_getElem (by rw [rowsT_len]; exact h)]; rfl
theorem flat_at (r : FnRow) (j : Nat) (hj : j < 4) : ∀ (l : List FnRow) (i : Nat), l[i]? = some r → (l.flatMap FnRow.cells)[i * 4 + j]? = r.cells[j]?
 | [], i, h => by simp at h
 | x :: l, 0, h => by
  simp only [List.getElem?_cons_zero, Option.some.injEq] at h
  subst h
  rw [List.flatMap_cons, Nat.zero_mul, Nat.zero_add, List.getElem?_append_left (by simpa [FnRow.cells] using hj)]
 | x :: l, i + 1, h => by
  rw [List.flatMap_cons, List.getElem?_append_right (by simp [FnRow.cells]; omega)]
  rw [← flat_at r j hj l i (by simpa using h)]
  congr 1
  simp [FnRow.cells]; omega
theorem rows_cell (w : World) {i : Nat} (h : i < 76) {j : Nat} (hj : j < 4) {v : Value} (hv : (rowAt i).cells[j]? = some v) : (w.alloc rowsObj).cell? ⟨w.heap.size, i * 4 + j, none⟩ = some v := by
 unfold rowsObj
 rw [World.cell?_alloc_at _ _ _ _ rfl, List.getElem?_toArray]
 exact (flat_at _ _ hj _ _ (rows_at h)).trans hv
def infoRow (n : Int) : FnRow := if 1 ≤ n ∧ n ≤ 76 then rowAt (n.toNat - 1) else ⟨[], 0, 0, 0⟩
def infoErr (n : Int) : Int := if 1 ≤ n ∧ n ≤ 76 then 0 else 1
def infoV (n : Int) : Value := .tuple #[.agg (infoRow n).cells.toArray, .int .i64 (infoErr n)]
def InfoPost (n : Int) (w : World) (e : Ending) (w' : World) : Prop := e = .returned (infoV n) ∧ Below w.heap.size w w'
theorem infoV_no {n : Int} (h : ¬ (1 ≤ n ∧ n ≤ 76)) : infoV n = .tuple #[.agg #[.string ⟨#[]⟩, .int .i64 0, .int .i64 0, .int .i64 0], .int .i64 1] := by
 simp [infoV, infoRow, infoErr, h, FnRow.cells]
theorem infoV_yes {k : Nat} (h : k < 76) : infoV (k + 1) = .tuple #[.agg #[.string ⟨(rowAt k).name.toArray⟩, .int .i64 (rowAt k).cls, .int .i64 (rowAt k).min, .int .i64 (rowAt k).max], .int .i64 0] := by
 have h2 : 1 ≤ (k : Int) + 1 ∧ (k : Int) + 1 ≤ 76 := by omega
 simp [infoV, infoRow, infoErr, h2, FnRow.cells]
theorem rows_cells {k : Nat} (h : k < 76) : (∀ (w : World) (b : Nat), w.heap.size = b → (w.alloc rowsObj).cell? ⟨b, k * 4, none⟩ = some (.string ⟨(rowAt k).name.toArray⟩)) ∧
 (∀ (w : World) (b : Nat), w.heap.size = b → (w.alloc rowsObj).cell? ⟨b, k * 4 + 1, none⟩ = some (.int .i64 (rowAt k).cls)) ∧
 (∀ (w : World) (b : Nat), w.heap.size = b → (w.alloc rowsObj).cell? ⟨b, k * 4 + 2, none⟩ = some (.int .i64 (rowAt k).min)) ∧
 (∀ (w : World) (b : Nat), w.heap.size = b → (w.alloc rowsObj).cell? ⟨b, k * 4 + 3, none⟩ = some (.int .i64 (rowAt k).max)) :=
 ⟨fun w b e => by subst e; exact rows_cell w h (j := 0) (by decide) rfl, fun w b e => by subst e; exact rows_cell w h (j := 1) (by decide) rfl,
  fun w b e => by subst e; exact rows_cell w h (j := 2) (by decide) rfl, fun w b e => by subst e; exact rows_cell w h (j := 3) (by decide) rfl⟩
theorem info_no (n : Int) (w : World) (h : ¬ (1 ≤ n ∧ n ≤ 76)) :
 Calls Tryz.prog 16 #[.int .i64 n] w (InfoPost n w) := by
 have hv := infoV_no h
 have H := Lib.hid hv; clear hv
 have hh : n < 1 ∨ (¬ n < 1 ∧ 76 < n) := by omega
 rcases hh with h1 | ⟨h1, h2⟩
 all_goals
  go_enter Tryz.func16, Tryz.ntmps16
  go_wp2_with (go_at_call 40; refine (rows_any _).mono ?_; rintro e w' ⟨rfl, rfl⟩)
  refine bodyPost_ret (v := infoV n) (by rw [H.out]; simp [results, Tryz.results16, go_sem]) rfl ⟨rfl, ?_⟩
  first | exact (Below.refl _ _).alloc (Nat.le_refl _) _ | exact (((Below.refl _ _).alloc (Nat.le_refl _) _).alloc (by simp) _)
theorem info_yes (n : Int) (w : World) (h0 : 1 ≤ n) (h1 : n ≤ 76) :
 Calls Tryz.prog 16 #[.int .i64 n] w (InfoPost n w) := by
 obtain ⟨k, rfl⟩ : ∃ k : Nat, n = k + 1 := ⟨n.toNat - 1, by omega⟩
 have hv := infoV_yes (k := k) (by omega)
 have H := Lib.hid hv; clear hv
 obtain ⟨c0, c1, c2, c3⟩ := rows_cells (k := k) (by omega)
 go_enter Tryz.func16, Tryz.ntmps16
 go_wp2_with (go_at_call 40; refine (rows_any _).mono ?_; rintro e w' ⟨rfl, rfl⟩)
 refine bodyPost_ret (v := infoV (k + 1)) (by rw [H.out]; simp [results, Tryz.results16, go_sem]) rfl ⟨rfl, ?_⟩
 exact (((Below.refl _ _).alloc (Nat.le_refl _) _).alloc (by simp) _)
theorem info_any (n : Int) (w : World) : Calls Tryz.prog 16 #[.int .i64 n] w (InfoPost n w) := by
 by_cases h : 1 ≤ n ∧ n ≤ 76
 ·exact info_yes n w h.1 h.2
 ·exact info_no n w h
theorem refInfo_no (n : Int) (w : World) (h : ¬ (1 ≤ n ∧ n ≤ 76)) :
 Calls Tryz.prog 122 #[.int .i64 n] w (InfoPost n w) := by
 have hv := infoV_no h
 have H := Lib.hid hv; clear hv
 have hh : n < 1 ∨ (¬ n < 1 ∧ 76 < n) := by omega
 rcases hh with h1 | ⟨h1, h2⟩
 all_goals
  go_enter Tryz.func122, Tryz.ntmps122
  go_wp2_with (go_at_call 130; refine (refRows_any _).mono ?_; rintro e w' ⟨rfl, rfl⟩)
  refine bodyPost_ret (v := infoV n) (by rw [H.out]; simp [results, Tryz.results122, go_sem]) rfl ⟨rfl, ?_⟩
  first | exact (Below.refl _ _).alloc (Nat.le_refl _) _ | exact (((Below.refl _ _).alloc (Nat.le_refl _) _).alloc (by simp) _)
theorem refInfo_yes (n : Int) (w : World) (h0 : 1 ≤ n) (h1 : n ≤ 76) :
 Calls Tryz.prog 122 #[.int .i64 n] w (InfoPost n w) := by
 obtain ⟨k, rfl⟩ : ∃ k : Nat, n = k + 1 := ⟨n.toNat - 1, by omega⟩
 have hv := infoV_yes (k := k) (by omega)
 have H := Lib.hid hv; clear hv
 obtain ⟨c0, c1, c2, c3⟩ := rows_cells (k := k) (by omega)
 go_enter Tryz.func122, Tryz.ntmps122
 go_wp2_with (go_at_call 130; refine (refRows_any _).mono ?_; rintro e w' ⟨rfl, rfl⟩)
 refine bodyPost_ret (v := infoV (k + 1)) (by rw [H.out]; simp [results, Tryz.results122, go_sem]) rfl ⟨rfl, ?_⟩
 exact (((Below.refl _ _).alloc (Nat.le_refl _) _).alloc (by simp) _)
theorem refInfo_any (n : Int) (w : World) : Calls Tryz.prog 122 #[.int .i64 n] w (InfoPost n w) := by
 by_cases h : 1 ≤ n ∧ n ≤ 76
 ·exact refInfo_yes n w h.1 h.2
 ·exact refInfo_no n w h
end Go.Proofs.YtlmpiobdgkmmgaaGreatDoor
namespace Go.Proofs.YtlmpiobdgkmmgaaGreatDoor
structure PI where
 op : Int
 a : Int
 b : Int
 c : Int
 d : Int
 t : List Int
 deriving DecidableEq
structure PV where
 kind : Int
 num : Int
 text : List UInt8
 deriving DecidableEq
end Go.Proofs.YtlmpiobdgkmmgaaGreatDoor
