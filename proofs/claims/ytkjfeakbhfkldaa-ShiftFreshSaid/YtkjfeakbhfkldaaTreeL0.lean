/- Structs that are written whole into their block; rows of trees that keep off a block. -/
import Derived.Test.YtkjfeakbhfkldaaTreeQ
import Derived.Deep.MidRow
namespace Go.Proofs.Ytkjfeakbhfkldaa
open Go.RowKit

theorem infoExprS : (Try.prog.info? 29).map (·.size) = some 14 := by kernel_rfl
theorem setCells_size : ∀ (vs : List Value) (o b : Nat) (w : World), (w.setCells b o vs).heap.size = w.heap.size
  | [], _, _, _ => rfl
  | v :: r, o, b, w => by rw [World.setCells, setCells_size r]; simp [World.setCell]
theorem setCells_other {b k : Nat} (hk : k ≠ b) : ∀ (vs : List Value) (o : Nat) (w : World), (w.setCells b o vs).heap[k]? = w.heap[k]?
  | [], _, _ => rfl
  | v :: r, o, w => by rw [World.setCells, setCells_other hk r]; exact Below.heap_setCell _ _ _ _ (by simpa using hk)
theorem setCells_below {B b : Nat} (hb : B ≤ b) {w0 : World} : ∀ (vs : List Value) (o : Nat) {w : World}, Below B w0 w → Below B w0 (w.setCells b o vs)
  | [], _, _, h => h
  | v :: r, o, _, h => setCells_below hb r (o + 1) (h.setCell (p := ⟨b, o, none⟩) hb v)
theorem setCells_blk {b : Nat} {T : TypeId} {fr : Nat × Nat} : ∀ (vs : List Value) (o : Nat) (w : World) (cs : Array Value), w.heap[b]? = some (.cells cs T fr) → o + vs.length ≤ cs.size →
    (w.setCells b o vs).heap[b]? = some (.cells (cs.toList.take o ++ (vs ++ cs.toList.drop (o + vs.length))).toArray T fr)
  | [], o, w, cs, h, _ => by simp only [World.setCells, List.nil_append, List.length_nil, Nat.add_zero, List.take_append_drop, Array.toArray_toList]; exact h
  | v :: r, o, w, cs, h, hl => by
    simp only [List.length_cons] at hl
    have h1 := block_set h (i := o) v
    rw [World.setCells, setCells_blk r (o + 1) _ _ h1 (by simp; omega)]
    congr 3
    have ho : o < cs.toList.length := by simp; omega
    simp only [Array.toList_setIfInBounds, List.length_cons]
    rw [List.take_succ_eq_append_getElem (by simpa using ho), List.getElem_set_self, List.take_set_of_le (Nat.le_refl o), List.drop_set_of_lt (by omega), List.append_assoc]
    simp only [List.cons_append, List.nil_append]
    rw [show o + 1 + r.length = o + (r.length + 1) by omega]
/-- A struct's block, written whole. -/
theorem setCells_all {b : Nat} {T : TypeId} {fr : Nat × Nat} {vs : List Value} {w : World} {cs : Array Value} (h : w.heap[b]? = some (.cells cs T fr)) (hl : cs.size = vs.length) : (w.setCells b 0 vs).heap[b]? = some (.cells vs.toArray T fr) := by
  rw [setCells_blk vs 0 w cs h (by omega)]
  simp [← hl]
theorem there_of_block {w : World} {b : Nat} {cs : Array Value} {T : TypeId} (h : w.heap[b]? = some (.cells cs T (0, 0))) (n : Nat) (hn : cs.size = n) : w.there b 0 n := fun j hj => by
  rw [cells_of_block h, frees_of_block h, Array.getElem?_eq_getElem (by omega)]; simp

theorem lt_same {w w' : World} {b : Nat} (hs : w'.heap[b]? = w.heap[b]?) (h : b < w.heap.size) : b < w'.heap.size := by
  rw [Array.getElem?_eq_getElem h] at hs
  exact (Array.getElem?_eq_some_iff.1 hs).1
theorem NodeAt.same {w w' : World} {b off : Nat} {h : Hd} {ks : Value} (n : NodeAt w b off h ks) (hs : w'.heap[b]? = w.heap[b]?) : NodeAt w' b off h ks :=
  ⟨lt_same hs n.1, fun j v hj => (World.cell?_of_block (a := ⟨b, off + j, none⟩) hs).trans (n.2 j v hj)⟩
/-- A row of trees, all of whose rows lie in blocks that ok names. -/
def RowX (w : World) (ok : Nat → Prop) : Trees → Option Addr → Nat → Prop
  | .nil, _, _ => True
  | .cons h ks rest, a, i => (∃ b off ka kl kc, a = some ⟨b, off, none⟩ ∧ ok b ∧ NodeAt w b (off + i * 14) h (.slice ka kl kc) ∧ kl = ks.len ∧ kl ≤ 9223372036854775807 ∧ h.ok ∧ RowX w ok ks ka 0) ∧ RowX w ok rest a (i + 1)
theorem RowX.of {w : World} {B : Nat} {ok : Nat → Prop} (hok : ∀ b, b < B → ok b) : ∀ {ts : Trees} {a : Option Addr} {i : Nat}, RowIn w B ts a i → RowX w ok ts a i
  | .nil, _, _, _ => trivial
  | .cons _ _ _, _, _, ⟨⟨b, off, ka, kl, kc, e, lt, n, l, m, o, k⟩, r⟩ => ⟨⟨b, off, ka, kl, kc, e, hok b lt, n, l, m, o, RowX.of hok k⟩, RowX.of hok r⟩
theorem RowX.to {w : World} {B : Nat} {ok : Nat → Prop} (hok : ∀ b, ok b → b < B) : ∀ {ts : Trees} {a : Option Addr} {i : Nat}, RowX w ok ts a i → RowIn w B ts a i
  | .nil, _, _, _ => trivial
  | .cons _ _ _, _, _, ⟨⟨b, off, ka, kl, kc, e, lt, n, l, m, o, k⟩, r⟩ => ⟨⟨b, off, ka, kl, kc, e, hok b lt, n, l, m, o, RowX.to hok k⟩, RowX.to hok r⟩
theorem RowX.kept {w w' : World} {ok ok' : Nat → Prop} (hk : ∀ b, ok b → ok' b ∧ w'.heap[b]? = w.heap[b]?) : ∀ {ts : Trees} {a : Option Addr} {i : Nat}, RowX w ok ts a i → RowX w' ok' ts a i
  | .nil, _, _, _ => trivial
  | .cons _ _ _, _, _, ⟨⟨b, off, ka, kl, kc, e, lt, n, l, m, o, k⟩, r⟩ => ⟨⟨b, off, ka, kl, kc, e, (hk b lt).1, n.same (hk b lt).2, l, m, o, RowX.kept hk k⟩, RowX.kept hk r⟩
structure TreeX (w : World) (ok : Nat → Prop) (h : Hd) (ks : Trees) (ka : Option Addr) (kl : Nat) : Prop where
  len : kl = ks.len
  max : kl ≤ 9223372036854775807
  hok : h.ok
  row : RowX w ok ks ka 0
theorem TreeX.of {w : World} {B : Nat} {ok : Nat → Prop} {h : Hd} {ks : Trees} {ka : Option Addr} {kl : Nat} (t : TreeV w B h ks ka kl) (hok : ∀ b, b < B → ok b) : TreeX w ok h ks ka kl := ⟨t.len, t.max, t.ok, RowX.of hok t.row⟩
theorem TreeX.to {w : World} {B : Nat} {ok : Nat → Prop} {h : Hd} {ks : Trees} {ka : Option Addr} {kl : Nat} (t : TreeX w ok h ks ka kl) (hok : ∀ b, ok b → b < B) : TreeV w B h ks ka kl := ⟨t.len, t.max, t.hok, RowX.to hok t.row⟩
theorem TreeX.kept {w w' : World} {ok ok' : Nat → Prop} {h : Hd} {ks : Trees} {ka : Option Addr} {kl : Nat} (t : TreeX w ok h ks ka kl) (hk : ∀ b, ok b → ok' b ∧ w'.heap[b]? = w.heap[b]?) : TreeX w' ok' h ks ka kl := ⟨t.len, t.max, t.hok, RowX.kept hk t.row⟩
/-- A row of nodes that was laid: cells one behind the other. -/
theorem node_in {w : World} {g : Nat} {cs : Array Value} {T : TypeId} {h : Hd} {v : Value} (i : Nat) (hb : w.heap[g]? = some (.cells cs T)) (pre post : List Value) (hc : cs.toList = pre ++ (h.vals v ++ post)) (hp : pre.length = i * 14) : NodeAt w g (0 + i * 14) h v := by
  refine ⟨lt_of_block hb, fun j u hj => ?_⟩
  have hl := (List.getElem?_eq_some_iff.1 hj).1
  rw [cells_of_block hb, ← Array.getElem?_toList, hc, Nat.zero_add, List.getElem?_append_right (by omega), hp, Nat.add_sub_cancel_left, List.getElem?_append_left hl]
  exact hj
end Go.Proofs.Ytkjfeakbhfkldaa
