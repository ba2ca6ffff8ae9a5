/- Trees: a node that lies in memory. -/
import Derived.Test.YtkjfeakbhfkldaaTreeM
namespace Go.Proofs.Ytkjfeakbhfkldaa
open Go.RowKit
/-- Are the fields that a node's kind does not have zero? -/
def bareB (h : Hd) (n : Nat) : Bool :=
  (decide (h.op = 0) || decide (h.kind = 7) || decide (h.kind = 8)) &&
  (decide (h.num = 0) || decide (h.kind = 1) || decide (h.kind = 3) || decide (h.kind = 4)) &&
  (decide (h.text = []) || decide (h.kind = 2)) &&
  (decide (h.ref = .zero) || decide (h.kind = 5) || decide (h.kind = 6)) &&
  (decide (h.to = .zero) || decide (h.kind = 6)) &&
  (decide (h.fn = 0) || decide (h.kind = 9)) &&
  (decide (n = (if h.kind = 7 then 1 else if h.kind = 8 then 2 else 0)) || decide (h.kind = 9))

/-- The cells of a node that lies in memory. -/
def NodeAt (w : World) (b off : Nat) (h : Hd) (ks : Value) : Prop := b < w.heap.size ∧ ∀ j v, (h.vals ks)[j]? = some v → w.cell? ⟨b, off + j, none⟩ = some v
structure NodeFacts (w : World) (b off : Nat) (h : Hd) (ks : Value) : Prop where
  lt : b < w.heap.size
  c0 : w.cell? ⟨b, off, none⟩ = some (.int .i64 h.kind)
  c1 : w.cell? ⟨b, off + 1, none⟩ = some (.int .i64 h.op)
  c2 : w.cell? ⟨b, off + 2, none⟩ = some (.int .i64 h.num)
  c3 : w.cell? ⟨b, off + 3, none⟩ = some (.string ⟨h.text.toArray⟩)
  c4 : w.cell? ⟨b, off + 4, none⟩ = some (.int .i64 h.ref.row)
  c5 : w.cell? ⟨b, off + 5, none⟩ = some (.int .i64 h.ref.col)
  c6 : w.cell? ⟨b, off + 6, none⟩ = some (.bool h.ref.pr)
  c7 : w.cell? ⟨b, off + 7, none⟩ = some (.bool h.ref.pc)
  c8 : w.cell? ⟨b, off + 8, none⟩ = some (.int .i64 h.to.row)
  c9 : w.cell? ⟨b, off + 9, none⟩ = some (.int .i64 h.to.col)
  c10 : w.cell? ⟨b, off + 10, none⟩ = some (.bool h.to.pr)
  c11 : w.cell? ⟨b, off + 11, none⟩ = some (.bool h.to.pc)
  c12 : w.cell? ⟨b, off + 12, none⟩ = some (.int .i64 h.fn)
  c13 : w.cell? ⟨b, off + 13, none⟩ = some ks
  d5 : w.cell? ⟨b, off + 4 + 1, none⟩ = some (.int .i64 h.ref.col)
  d6 : w.cell? ⟨b, off + 4 + 2, none⟩ = some (.bool h.ref.pr)
  d7 : w.cell? ⟨b, off + 4 + 3, none⟩ = some (.bool h.ref.pc)
  d9 : w.cell? ⟨b, off + 8 + 1, none⟩ = some (.int .i64 h.to.col)
  d10 : w.cell? ⟨b, off + 8 + 2, none⟩ = some (.bool h.to.pr)
  d11 : w.cell? ⟨b, off + 8 + 3, none⟩ = some (.bool h.to.pc)
theorem NodeAt.facts {w : World} {b off : Nat} {h : Hd} {ks : Value} (n : NodeAt w b off h ks) : NodeFacts w b off h ks :=
  ⟨n.1, n.2 0 _ rfl, n.2 1 _ rfl, n.2 2 _ rfl, n.2 3 _ rfl, n.2 4 _ rfl, n.2 5 _ rfl, n.2 6 _ rfl, n.2 7 _ rfl, n.2 8 _ rfl, n.2 9 _ rfl, n.2 10 _ rfl, n.2 11 _ rfl, n.2 12 _ rfl, n.2 13 _ rfl,
   n.2 5 _ rfl, n.2 6 _ rfl, n.2 7 _ rfl, n.2 9 _ rfl, n.2 10 _ rfl, n.2 11 _ rfl⟩
theorem NodeAt.kept {w w' : World} {B b off : Nat} {h : Hd} {ks : Value} (n : NodeAt w b off h ks) (hb : Below B w w') (hB : b < B) : NodeAt w' b off h ks :=
  ⟨Nat.lt_of_lt_of_le n.1 hb.size, fun j v hj => (hb.cell (p := ⟨b, off + j, none⟩) hB).trans (n.2 j v hj)⟩
end Go.Proofs.Ytkjfeakbhfkldaa
