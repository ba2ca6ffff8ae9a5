/- Trees that lie in memory: a row of nodes and, below each, its kids' row. -/
import Derived.Test.YtkjfeakbhfkldaaTreeN
namespace Go.Proofs.Ytkjfeakbhfkldaa
open Go.RowKit

def I64 (x : Int) : Prop := -9223372036854775808 ≤ x ∧ x ≤ 9223372036854775807
/-- Every number fits its kind, the text is no longer than a text can be that is read. -/
structure Hd.ok (h : Hd) : Prop where
  text : h.text.length ≤ 140737488351232
  kind : I64 h.kind
  op : I64 h.op
  num : I64 h.num
  rrow : I64 h.ref.row
  rcol : I64 h.ref.col
  trow : I64 h.to.row
  tcol : I64 h.to.col
  fn : I64 h.fn

/-- From place i of the row at a on lie the trees of a list, all in blocks below B. -/
def RowIn (w : World) (B : Nat) : Trees → Option Addr → Nat → Prop
  | .nil, _, _ => True
  | .cons h ks rest, a, i => (∃ b off ka kl kc, a = some ⟨b, off, none⟩ ∧ b < B ∧ NodeAt w b (off + i * 14) h (.slice ka kl kc) ∧ kl = ks.len ∧ kl ≤ 9223372036854775807 ∧ h.ok ∧ RowIn w B ks ka 0) ∧ RowIn w B rest a (i + 1)

theorem RowIn.kept {w w' : World} {B B' : Nat} (hb : Below B w w') (hB : B' ≤ B) : ∀ {ts : Trees} {a : Option Addr} {i : Nat}, RowIn w B' ts a i → RowIn w' B' ts a i
  | .nil, _, _, _ => trivial
  | .cons _ _ _, _, _, ⟨⟨b, off, ka, kl, kc, e, lt, n, l, m, o, k⟩, r⟩ =>
    ⟨⟨b, off, ka, kl, kc, e, lt, n.kept hb (Nat.lt_of_lt_of_le lt hB), l, m, o, RowIn.kept hb hB k⟩, RowIn.kept hb hB r⟩
theorem RowIn.mono {w : World} {B B' : Nat} (hB : B ≤ B') : ∀ {ts : Trees} {a : Option Addr} {i : Nat}, RowIn w B ts a i → RowIn w B' ts a i
  | .nil, _, _, _ => trivial
  | .cons _ _ _, _, _, ⟨⟨b, off, ka, kl, kc, e, lt, n, l, m, o, k⟩, r⟩ =>
    ⟨⟨b, off, ka, kl, kc, e, Nat.lt_of_lt_of_le lt hB, n, l, m, o, RowIn.mono hB k⟩, RowIn.mono hB r⟩

/-- What holds of a tree if it holds of its kids holds of all. -/
def AllT (Q : Hd → Trees → Prop) : Trees → Prop
  | .nil => True
  | .cons h k r => Q h k ∧ AllT Q r
theorem allT {Q : Hd → Trees → Prop} (step : ∀ h k, AllT Q k → Q h k) : ∀ ts, AllT Q ts
  | .nil => trivial
  | .cons h k r => ⟨step h k (allT step k), allT step r⟩

/-- A tree as a value: its kids' slice leads to their row. -/
structure TreeV (w : World) (B : Nat) (h : Hd) (ks : Trees) (ka : Option Addr) (kl : Nat) : Prop where
  len : kl = ks.len
  max : kl ≤ 9223372036854775807
  ok : h.ok
  row : RowIn w B ks ka 0
theorem TreeV.kept {w w' : World} {B B' : Nat} {h : Hd} {ks : Trees} {ka : Option Addr} {kl : Nat} (t : TreeV w B' h ks ka kl) (hb : Below B w w') (hB : B' ≤ B) : TreeV w' B' h ks ka kl := ⟨t.len, t.max, t.ok, t.row.kept hb hB⟩
theorem TreeV.mono {w : World} {B B' : Nat} {h : Hd} {ks : Trees} {ka : Option Addr} {kl : Nat} (t : TreeV w B h ks ka kl) (hB : B ≤ B') : TreeV w B' h ks ka kl := ⟨t.len, t.max, t.ok, t.row.mono hB⟩
/-- The tree at place i of a row. -/
theorem RowIn.head {w : World} {B : Nat} {h : Hd} {ks rest : Trees} {a : Option Addr} {i : Nat} (r : RowIn w B (.cons h ks rest) a i) :
    ∃ b off ka kl kc, a = some ⟨b, off, none⟩ ∧ b < B ∧ NodeAt w b (off + i * 14) h (.slice ka kl kc) ∧ TreeV w B h ks ka kl := by
  obtain ⟨⟨b, off, ka, kl, kc, e, lt, n, l, m, o, k⟩, _⟩ := r
  exact ⟨b, off, ka, kl, kc, e, lt, n, l, m, o, k⟩

/-- Is a tree neither of too many nodes, nor too deep, nor of too long texts? -/
def Fine (h : Hd) (ks : Trees) : Prop := 1 + ks.nodes ≤ 512 ∧ 1 + ks.deep ≤ 64 ∧ h.bytes + ks.bytes ≤ 16384
instance (h : Hd) (ks : Trees) : Decidable (Fine h ks) := by unfold Fine; infer_instance
theorem ext_drewN {a b : World} (h : Below a.heap.size a b) (n : Nat) : Below a.heap.size a (b.drewN n) := ⟨h.os, h.tape, h.output, h.size, h.block⟩
end Go.Proofs.Ytkjfeakbhfkldaa
