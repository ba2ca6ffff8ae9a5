/- Trees in memory of their own, laid with marks and kept. -/
import Derived.Test.YtnhgeojcelegbaaDoorTreeE
import Derived.Maps.AppendAt
import Derived.OwnWalk
import Derived.Test.YtnhgeojcelegbaaDoorPrJ
import Derived.Deep.AppendLies
import Derived.Deep.RegionLaw
import Derived.Deep.MidRow
import Derived.WalkSpells
import Derived.Lib.SliceRun
import Derived.StillTailTactics
namespace Go.Proofs.YtnhgeojcelegbaaDoor
open Go.RowKit

theorem kept_free2 {w w3 : World} {c c' : Array Value} {T T' : TypeId} (h : Below ((w.alloc (.cells c T)).alloc (.cells c' T')).heap.size ((w.alloc (.cells c T)).alloc (.cells c' T')) w3) :
    (∀ o, w3.frozen? ⟨w.heap.size, o, none⟩ = false) ∧ ∀ o, w3.frozen? ⟨w.heap.size + 1, o, none⟩ = false := by
  refine ⟨fun o => ?_, fun o => ?_⟩
  · rw [h.frozen (p := ⟨w.heap.size, o, none⟩) (by simp; omega), World.frozen?_alloc_past _ _ _ (by simp)]
    exact World.frozen?_alloc_at _ _ _ _ rfl
  · rw [h.frozen (p := ⟨w.heap.size + 1, o, none⟩) (by simp)]
    exact World.frozen?_alloc_at _ _ _ _ (by simp)
/-- A list of n nodes in a block of its own: its cells; G: that block. -/
def Slot (w : World) (v : Value) (n : Nat) (cs : List Value) (G : List Nat) : Prop :=
  cs.length = n * 14 ∧ ((v = .slice none 0 0 ∧ n = 0 ∧ G = []) ∨
  ∃ g cap cur, v = .slice (some ⟨g, 0, none⟩) n cap ∧ w.heap[g]? = some (.cells cur 30 (0, 0)) ∧ n ≤ cap ∧ cap ≤ maxLen ∧ cur.size = cap * 14 ∧ cur.toList.take (n * 14) = cs ∧ G = [g])
/-- Cells that hold a list of trees; F: the blocks of all that hangs on them. -/
def OwnCells (w : World) : Trees → List Value → List Nat → Prop
  | .nil, cs, F => cs = [] ∧ F = []
  | .cons h k r, cs, F => ∃ v cs' cs1 G F1 F2, cs = h.vals v ++ cs' ∧ h.ok ∧ Slot w v k.len cs1 G ∧ OwnCells w k cs1 F1 ∧ OwnCells w r cs' F2 ∧ F = (G ++ F1) ++ F2
def OwnV (w : World) (ts : Trees) (v : Value) (F : List Nat) : Prop := ∃ cs G F', Slot w v ts.len cs G ∧ OwnCells w ts cs F' ∧ F = G ++ F'

theorem Slot.kept {w w' : World} {v : Value} {n : Nat} {cs : List Value} {G : List Nat} (s : Slot w v n cs G) (h : ∀ b ∈ G, w'.heap[b]? = w.heap[b]?) : Slot w' v n cs G := by
  obtain ⟨l, s⟩ := s
  refine ⟨l, ?_⟩
  rcases s with s | ⟨g, cap, cur, e, hg, r⟩
  · exact .inl s
  · obtain ⟨r1, r2, r3, r4, r5⟩ := r
    exact .inr ⟨g, cap, cur, e, (h g (by simp [r5])).trans hg, r1, r2, r3, r4, r5⟩
theorem OwnCells.kept {w w' : World} : ∀ {ts : Trees} {cs : List Value} {F : List Nat}, OwnCells w ts cs F → (∀ b ∈ F, w'.heap[b]? = w.heap[b]?) → OwnCells w' ts cs F
  | .nil, _, _, o, _ => o
  | .cons _ _ _, _, _, ⟨v, cs', cs1, G, F1, F2, e, ok, s, o1, o2, eF⟩, h => by
    subst eF
    exact ⟨v, cs', cs1, G, F1, F2, e, ok, s.kept fun b hb => h b (by simp [hb]), o1.kept fun b hb => h b (by simp [hb]), o2.kept fun b hb => h b (by simp [hb]), rfl⟩
theorem OwnV.kept {w w' : World} {ts : Trees} {v : Value} {F : List Nat} (o : OwnV w ts v F) (h : ∀ b ∈ F, w'.heap[b]? = w.heap[b]?) : OwnV w' ts v F := by
  obtain ⟨cs, G, F', s, o, rfl⟩ := o
  exact ⟨cs, G, F', s.kept fun b hb => h b (by simp [hb]), o.kept fun b hb => h b (by simp [hb]), rfl⟩
theorem OwnV.ext {w w' : World} {ts : Trees} {v : Value} {F : List Nat} (o : OwnV w ts v F) (hF : ∀ b ∈ F, b < w.heap.size) (h : Below w.heap.size w w') : OwnV w' ts v F := o.kept fun b hb => h.block b (hF b hb)

theorem Hd.vals_len (h : Hd) (v : Value) : (h.vals v).length = 14 := rfl
theorem OwnCells.length {w : World} : ∀ {ts : Trees} {cs : List Value} {F : List Nat}, OwnCells w ts cs F → cs.length = ts.len * 14
  | .nil, _, _, ⟨e, _⟩ => by subst e; rfl
  | .cons _ _ _, _, _, ⟨v, cs', cs1, G, F1, F2, e, ok, s, o1, o2, eF⟩ => by
    subst e
    rw [List.length_append, Hd.vals_len, o2.length, Trees.len]; omega

/-- What Slot says of the value. -/
theorem Slot.slice {w : World} {v : Value} {n : Nat} {cs : List Value} {G : List Nat} (s : Slot w v n cs G) : ∃ a c, v = .slice a n c := by
  rcases s.2 with ⟨rfl, rfl, _⟩ | ⟨g, cap, cur, rfl, _⟩
  · exact ⟨none, 0, rfl⟩
  · exact ⟨_, cap, rfl⟩
theorem Slot.le {w : World} {v : Value} {n : Nat} {cs : List Value} {G : List Nat} (s : Slot w v n cs G) : n ≤ 9223372036854775807 := by
  rcases s.2 with ⟨rfl, rfl, _⟩ | ⟨g, cap, cur, rfl, _, h1, h2, _⟩
  · omega
  · have : maxLen = 9223372036854775807 := rfl
    omega

/-- Trees that are owned can be read. -/
theorem OwnCells.row {w : World} {B : Nat} (hB : B ≤ w.heap.size) : ∀ {ts : Trees} {cs : List Value} {F : List Nat}, OwnCells w ts cs F → (∀ b ∈ F, b < B) → ∀ (a : Option Addr) (i : Nat),
    (0 < ts.len → ∃ g cur t fr, a = some ⟨g, 0, none⟩ ∧ g < B ∧ w.heap[g]? = some (.cells cur t fr) ∧ ∃ pre post, cur.toList = pre ++ (cs ++ post) ∧ pre.length = i * 14) → RowIn w B ts a i
  | .nil, _, _, _, _, _, _, _ => trivial
  | .cons h k r, cs, F, ⟨v, cs', cs1, G, F1, F2, e, ok, s, o1, o2, eF⟩, hF, a, i, ha => by
    obtain ⟨g, cur, t, fr, rfl, hg, hcur, pre, post, hl, hp⟩ := ha (by simp [Trees.len])
    subst e eF
    obtain ⟨ka, kc, rfl⟩ := s.slice
    refine ⟨⟨g, 0, ka, k.len, kc, rfl, hg, ⟨Nat.lt_of_lt_of_le hg hB, fun j x hj => ?_⟩, rfl, s.le, ok, ?_⟩, ?_⟩
    · have hj14 : j < 14 := by rcases Nat.lt_or_ge j 14 with h1 | h1; exact h1; rw [List.getElem?_eq_none (by rw [Hd.vals_len]; exact h1)] at hj; cases hj
      simp only [World.cell?, hcur, Option.isSome_none, Bool.false_eq_true, if_false]
      rw [← Array.getElem?_toList, hl, List.getElem?_append_right (by omega), Nat.zero_add, hp, Nat.add_sub_cancel_left, List.append_assoc, List.getElem?_append_left (by rw [Hd.vals_len]; exact hj14)]
      exact hj
    · refine o1.row hB (fun b hb => hF b (by simp [hb])) ka 0 fun hk => ?_
      rcases s.2 with ⟨e1, e2, e3⟩ | ⟨g', cap', cur', e1, hg', h1, h2, h3, h4, h5⟩
      · omega
      · injection e1 with e1 _ _
        refine ⟨g', cur', _, _, e1, hF g' (by simp [h5]), hg', [], cur'.toList.drop (k.len * 14), ?_, by simp⟩
        rw [← h4, List.nil_append, List.take_append_drop]
    · refine o2.row hB (fun b hb => hF b (by simp [hb])) _ (i + 1) fun _ => ⟨g, cur, t, fr, rfl, hg, hcur, pre ++ h.vals (.slice ka k.len kc), post, ?_, ?_⟩
      · rw [hl]; simp only [List.append_assoc]
      · rw [List.length_append, Hd.vals_len, hp]; omega
theorem OwnV.tree {w : World} {B : Nat} (hB : B ≤ w.heap.size) {ts : Trees} {v : Value} {F : List Nat} (o : OwnV w ts v F) (hF : ∀ b ∈ F, b < B) {h : Hd} (ok : h.ok) : ∃ ka kc, v = .slice ka ts.len kc ∧ TreeV w B h ts ka ts.len := by
  obtain ⟨cs, G, F', s, o, rfl⟩ := o
  obtain ⟨ka, kc, rfl⟩ := s.slice
  refine ⟨ka, kc, rfl, rfl, s.le, ok, o.row hB (fun b hb => hF b (by simp [hb])) ka 0 fun hk => ?_⟩
  rcases s.2 with ⟨e1, e2, e3⟩ | ⟨g', cap', cur', e1, hg', h1, h2, h3, h4, h5⟩
  · omega
  · injection e1 with e1 _ _
    refine ⟨g', cur', _, _, e1, hF g' (by simp [h5]), hg', [], cur'.toList.drop (ts.len * 14), ?_, by simp⟩
    rw [← h4, List.nil_append, List.take_append_drop]

/-- One list behind another. -/
def Trees.app : Trees → Trees → Trees
  | .nil, t => t
  | .cons h k r, t => .cons h k (r.app t)
theorem Trees.app_len : ∀ (a b : Trees), (a.app b).len = a.len + b.len
  | .nil, b => by simp [Trees.app, Trees.len]
  | .cons h k r, b => by simp [Trees.app, Trees.len, Trees.app_len r b]; omega
theorem Trees.app_nil : ∀ (a : Trees), a.app .nil = a
  | .nil => rfl
  | .cons h k r => by simp [Trees.app, Trees.app_nil r]
theorem Trees.app_cons : ∀ (a : Trees) (h : Hd) (k r : Trees), (a.app (.cons h k .nil)).app r = a.app (.cons h k r)
  | .nil, h, k, r => rfl
  | .cons _ _ a, h, k, r => by simp [Trees.app, Trees.app_cons a]
theorem OwnCells.snoc {w : World} : ∀ {ts : Trees} {cs : List Value} {F : List Nat}, OwnCells w ts cs F → ∀ {h : Hd} {k : Trees} {v : Value} {F' : List Nat}, h.ok → OwnV w k v F' → OwnCells w (ts.app (.cons h k .nil)) (cs ++ h.vals v) (F ++ F')
  | .nil, _, _, ⟨e, e'⟩, h, k, v, F', ok, ⟨cs1, G, F1, s, o, eF⟩ => by
    subst e e' eF
    exact ⟨v, [], cs1, G, F1, [], by simp, ok, s, o, ⟨rfl, rfl⟩, by simp⟩
  | .cons _ _ _, _, _, ⟨v0, cs', cs1, G, F1, F2, e, ok0, s, o1, o2, eF⟩, h, k, v, F', ok, ov => by
    subst e eF
    exact ⟨v0, cs' ++ h.vals v, cs1, G, F1, F2 ++ F', by simp, ok0, s, o1, o2.snoc ok ov, by simp⟩

def ownList (v : Value) : List Nat := match v.ownBlock with | some g => [g] | none => []
theorem mem_ownList {v : Value} {b : Nat} : b ∈ ownList v ↔ v.ownBlock = some b := by
  unfold ownList; cases h : v.ownBlock <;> simp [eq_comm]
/-- Slot and the kit's word for a row that a call owns. -/
theorem Slot.owns {w : World} {v : Value} {n : Nat} {cs : List Value} {G : List Nat} {base : Nat} (s : Slot w v n cs G) (hG : ∀ b ∈ G, base ≤ b) : w.ownsRow base 30 14 v n cs := by
  refine ⟨s.1, ?_⟩
  rcases s.2 with ⟨e1, e2, e3⟩ | ⟨g, cap, cur, e1, hg, h1, h2, h3, h4, h5⟩
  · exact .inl ⟨e1, e2⟩
  · exact .inr ⟨g, cap, cur, e1, hG g (by simp [h5]), hg, h1, h2, h3, h4⟩
theorem slot_of {w : World} {v : Value} {n : Nat} {cs : List Value} {base : Nat} (s : w.ownsRow base 30 14 v n cs) : Slot w v n cs (ownList v) := by
  refine ⟨s.1, ?_⟩
  rcases s.2 with ⟨e1, e2⟩ | ⟨g, cap, cur, e1, hb, hg, h1, h2, h3, h4⟩
  · subst e1; exact .inl ⟨rfl, e2, rfl⟩
  · subst e1; exact .inr ⟨g, cap, cur, rfl, hg, h1, h2, h3, h4, rfl⟩
theorem Slot.block {w : World} {v : Value} {n : Nat} {cs : List Value} {G : List Nat} (s : Slot w v n cs G) : G = ownList v := by
  rcases s.2 with ⟨rfl, _, rfl⟩ | ⟨g, cap, cur, rfl, _, _, _, _, _, rfl⟩ <;> rfl

/-- A tree of the call's own: each block once, each laid since the heap had size b0. -/
structure Fresh (w : World) (b0 : Nat) (ts : Trees) (v : Value) (F : List Nat) : Prop where
  own : OwnV w ts v F
  once : F.Nodup
  new : ∀ b ∈ F, b0 ≤ b
  lt : ∀ b ∈ F, b < w.heap.size

/-- A further tree is appended to a list of the call's own. -/
theorem Fresh.step {wr w2 w3 : World} {b0 : Nat} {dn : Trees} {l v' v2 : Value} {cs : List Value} {F' F2 : List Nat} {h : Hd} {k : Trees} {O : Obj} (o : OwnCells wr dn cs F') (once : (ownList l ++ F').Nodup) (new : ∀ b ∈ ownList l ++ F', b0 ≤ b) (lt : ∀ b ∈ ownList l ++ F', b < wr.heap.size)
    (b2 : Below wr.heap.size wr w2) (f2 : Fresh w2 wr.heap.size k v2 F2) (ok : h.ok) (hb0 : b0 ≤ wr.heap.size) (hg : (w2.alloc O).grownBy w3 l.ownBlock) (hown : w3.ownsRow b0 30 14 v' (dn.len + 1) (cs ++ h.vals v2))
    (hloc : v'.ownBlock = l.ownBlock ∨ v'.ownBlock = some (w2.heap.size + 1)) : Fresh w3 b0 (dn.app (.cons h k .nil)) v' (ownList v' ++ (F' ++ F2)) := by
  have hsz := b2.size
  have hs3 : w2.heap.size + 1 ≤ w3.heap.size := by have := hg.size; simpa using this
  have same : ∀ b, b < w2.heap.size → l.ownBlock ≠ some b → w3.heap[b]? = w2.heap[b]? := fun b hb hne => by
    rw [hg.block b (by simp; omega) (fun e => hne e.symm), Below.heap_alloc _ _ _ hb]
  have hF' : ∀ b ∈ F', b < wr.heap.size ∧ l.ownBlock ≠ some b ∧ b0 ≤ b := fun b hb => by
    refine ⟨lt b (by simp [hb]), fun e => ?_, new b (by simp [hb])⟩
    have h1 := (List.nodup_append.1 once).2.2 b (mem_ownList.2 e) b hb
    exact h1 rfl
  have hL : ∀ b, l.ownBlock = some b → b < wr.heap.size := fun b hb => lt b (by simp [mem_ownList.2 hb])
  have o3 : OwnCells w3 dn cs F' := o.kept fun b hb => (same b (by have := (hF' b hb).1; omega) (hF' b hb).2.1).trans (b2.block b (hF' b hb).1)
  have ov3 : OwnV w3 k v2 F2 := f2.own.kept fun b hb => same b (f2.lt b hb) (fun e => by have := hL b e; have := f2.new b hb; omega)
  have s3 := slot_of hown
  refine ⟨⟨cs ++ h.vals v2, ownList v', F' ++ F2, ?_, o3.snoc ok ov3, rfl⟩, ?_, ?_, ?_⟩
  · rw [Trees.app_len]; exact s3
  · have hd : (F' ++ F2).Nodup := List.nodup_append.2 ⟨(List.nodup_append.1 once).2.1, f2.once, fun a ha b hb => by have := (hF' a ha).1; have := f2.new b hb; omega⟩
    refine List.nodup_append.2 ⟨by unfold ownList; split <;> simp, hd, fun a ha b hb => ?_⟩
    have ha' := mem_ownList.1 ha
    rcases hloc with e | e
    · rw [e] at ha'
      rcases List.mem_append.1 hb with hb | hb
      · intro e2; subst e2; exact (hF' a hb).2.1 ha'
      · have := hL a ha'; have := f2.new b hb; omega
    · rw [e] at ha'
      injection ha' with ha'
      rcases List.mem_append.1 hb with hb | hb
      · have := (hF' b hb).1; omega
      · have := f2.lt b hb; omega
  · intro b hb
    rcases List.mem_append.1 hb with hb | hb
    · exact (hown.lt b (mem_ownList.1 hb)).1
    · rcases List.mem_append.1 hb with hb | hb
      · exact (hF' b hb).2.2
      · have := f2.new b hb; omega
  · intro b hb
    rcases List.mem_append.1 hb with hb | hb
    · exact (hown.lt b (mem_ownList.1 hb)).2
    · rcases List.mem_append.1 hb with hb | hb
      · have := (hF' b hb).1; omega
      · have := f2.lt b hb; omega
end Go.Proofs.YtnhgeojcelegbaaDoor

namespace Go.Proofs.YtnhgeojcelegbaaDoor
open Go.RowKit

theorem infoExpr : (Tryd.prog.info? 30).map (fun i => (i.zero, i.size, i.bytes)) = some (some (.agg #[.int .i64 0, .int .i64 0, .int .i64 0, .string ⟨#[]⟩, .int .i64 0, .int .i64 0, .bool false, .bool false, .int .i64 0, .int .i64 0, .bool false, .bool false, .int .i64 0, .slice none 0 0]), 14, 120) := by kernel_rfl

theorem len_le_nodes : ∀ t : Trees, t.len ≤ t.nodes
  | .nil => Nat.le_refl _
  | .cons _ k r => by have := len_le_nodes r; simp only [Trees.len, Trees.nodes]; omega

theorem fine_nodes {h : Hd} {ks : Trees} (f : Fine h ks) : ks.nodes ≤ 100000 := by have := f.1; omega
theorem Fresh.sets {w w' : World} {b0 b1 : Nat} {ts : Trees} {v : Value} {F : List Nat} (f : Fresh w b0 ts v F) (h : ∀ b, b0 ≤ b → w'.heap[b]? = w.heap[b]?) (hb : b1 ≤ b0) (hs : w.heap.size ≤ w'.heap.size) : Fresh w' b1 ts v F :=
  ⟨f.own.kept fun b hb => h b (f.new b hb), f.once, fun b hm => Nat.le_trans hb (f.new b hm), fun b hm => Nat.lt_of_lt_of_le (f.lt b hm) hs⟩

theorem block_set {w : World} {b i : Nat} {cs : Array Value} {T : TypeId} {fr : Nat × Nat} (hb : w.heap[b]? = some (.cells cs T fr)) (v : Value) : (w.setCell ⟨b, i, none⟩ v).heap[b]? = some (.cells (cs.setIfInBounds i v) T fr) := by
  simp only [World.setCell, Array.getElem?_modify, if_true, hb, Option.map_some, Option.isSome_none, Bool.false_eq_true, if_false]

structure TwoBlocks (w w1 : World) (c c' : Array Value) (T T' : TypeId) : Prop where
  cell : ∀ o, w1.cell? ⟨w.heap.size + 1, o, none⟩ = c'[o]?
  free : ∀ o, w1.frozen? ⟨w.heap.size + 1, o, none⟩ = false
  below : Below w.heap.size w w1
  blocks : w1.heap[w.heap.size]? = some (.cells c T (0, 0)) ∧ w1.heap[w.heap.size + 1]? = some (.cells c' T' (0, 0))
theorem cells_of_block {w : World} {b : Nat} {cs : Array Value} {T : TypeId} {fr : Nat × Nat} (h : w.heap[b]? = some (.cells cs T fr)) : ∀ o, w.cell? ⟨b, o, none⟩ = cs[o]? := fun o => by
  simp [World.cell?, h]
theorem frees_of_block {w : World} {b : Nat} {cs : Array Value} {T : TypeId} (h : w.heap[b]? = some (.cells cs T (0, 0))) : ∀ o, w.frozen? ⟨b, o, none⟩ = false := fun o => by
  simp [World.frozen?, h]
theorem block_grown {wr w2 w3 : World} {U : Nat} {O : Obj} {obj : Obj} {l : Value} (hU : wr.heap[U]? = some obj) (b2 : Below wr.heap.size wr w2) (hg : (w2.alloc O).grownBy w3 l.ownBlock) (hne : l.ownBlock ≠ some U) : w3.heap[U]? = some obj := by
  have h1 := lt_of_block hU
  have h2 := b2.size
  rw [hg.block U (by simp; omega) (fun e => hne e.symm), Below.heap_alloc _ _ _ (by omega), b2.block _ h1]
  exact hU
theorem fresh_made {w1 : World} {b0 : Nat} {v : Value} (h : w1.ownsRow b0 30 14 v 0 []) : Fresh w1 b0 .nil v (ownList v) :=
  ⟨⟨[], ownList v, [], slot_of h, ⟨rfl, rfl⟩, by simp⟩, by unfold ownList; split <;> simp, fun b hb => (h.lt b (mem_ownList.1 hb)).1, fun b hb => (h.lt b (mem_ownList.1 hb)).2⟩
theorem two_blocks_grown {w w1 : World} {c c' : Array Value} {T T' : TypeId} (h : ((w.alloc (.cells c T)).alloc (.cells c' T')).grownBy w1 none) : TwoBlocks w w1 c c' T T' := by
  have h0 : w1.heap[w.heap.size]? = some (.cells c T (0, 0)) := by rw [h.block _ (by simp; omega) (by simp)]; exact (heap_alloc2_old _ _ _).trans rfl
  have h1 : w1.heap[w.heap.size + 1]? = some (.cells c' T' (0, 0)) := by rw [h.block _ (by simp) (by simp)]; exact heap_alloc2_new _ _ _
  refine ⟨cells_of_block h1, frees_of_block h1, ?_, h0, h1⟩
  exact (ext_alloc (ext_alloc (Below.refl _ _) _) _).grown h (by simp; omega) (by simp)

end Go.Proofs.YtnhgeojcelegbaaDoor

namespace Go.Proofs.YtnhgeojcelegbaaDoor
open Go.RowKit

theorem infoExprS : (Tryd.prog.info? 30).map (·.size) = some 14 := by kernel_rfl
theorem setCells_size : ∀ (vs : List Value) (o b : Nat) (w : World), (w.setCells b o vs).heap.size = w.heap.size
  | [], _, _, _ => rfl
  | v :: r, o, b, w => by rw [World.setCells, setCells_size r]; simp [World.setCell]
theorem setCells_other {b k : Nat} (hk : k ≠ b) : ∀ (vs : List Value) (o : Nat) (w : World), (w.setCells b o vs).heap[k]? = w.heap[k]?
  | [], _, _ => rfl
  | v :: r, o, w => by rw [World.setCells, setCells_other hk r]; exact Below.heap_setCell _ _ _ _ (by simpa using hk)
theorem setCells_below {B b : Nat} (hb : B ≤ b) {w0 : World} : ∀ (vs : List Value) (o : Nat) {w : World}, Below B w0 w → Below B w0 (w.setCells b o vs)
  | [], _, _, h => h
  | v :: r, o, _, h => setCells_below hb r (o + 1) (h.setCell (p := ⟨b, o, none⟩) hb v)
theorem setCells_blk {b : Nat} {T : TypeId} {fr : Nat × Nat} : ∀ (vs : List Value) (o : Nat) (w : World) (cs : Array Value), w.heap[b]? = some (.cells cs T fr) → o + vs.length ≤ cs.size →
    (w.setCells b o vs).heap[b]? = some (.cells (cs.toList.take o ++ (vs ++ cs.toList.drop (o + vs.length))).toArray T fr)
  | [], o, w, cs, h, _ => by simp only [World.setCells, List.nil_append, List.length_nil, Nat.add_zero, List.take_append_drop, Array.toArray_toList]; exact h
  | v :: r, o, w, cs, h, hl => by
    simp only [List.length_cons] at hl
    have h1 := block_set h (i := o) v
    rw [World.setCells, setCells_blk r (o + 1) _ _ h1 (by simp; omega)]
    congr 3
    have ho : o < cs.toList.length := by simp; omega
    simp only [Array.toList_setIfInBounds, List.length_cons]
    rw [List.take_succ_eq_append_getElem (by simpa using ho), List.getElem_set_self, List.take_set_of_le (Nat.le_refl o), List.drop_set_of_lt (by omega), List.append_assoc]
    simp only [List.cons_append, List.nil_append]
    rw [show o + 1 + r.length = o + (r.length + 1) by omega]
/-- A struct's block, written whole. -/
theorem setCells_all {b : Nat} {T : TypeId} {fr : Nat × Nat} {vs : List Value} {w : World} {cs : Array Value} (h : w.heap[b]? = some (.cells cs T fr)) (hl : cs.size = vs.length) : (w.setCells b 0 vs).heap[b]? = some (.cells vs.toArray T fr) := by
  rw [setCells_blk vs 0 w cs h (by omega)]
  simp [← hl]
theorem there_of_block {w : World} {b : Nat} {cs : Array Value} {T : TypeId} (h : w.heap[b]? = some (.cells cs T (0, 0))) (n : Nat) (hn : cs.size = n) : w.there b 0 n := fun j hj => by
  rw [cells_of_block h, frees_of_block h, Array.getElem?_eq_getElem (by omega)]; simp

theorem lt_same {w w' : World} {b : Nat} (hs : w'.heap[b]? = w.heap[b]?) (h : b < w.heap.size) : b < w'.heap.size := by
  rw [Array.getElem?_eq_getElem h] at hs
  exact (Array.getElem?_eq_some_iff.1 hs).1
theorem NodeAt.same {w w' : World} {b off : Nat} {h : Hd} {ks : Value} (n : NodeAt w b off h ks) (hs : w'.heap[b]? = w.heap[b]?) : NodeAt w' b off h ks :=
  ⟨lt_same hs n.1, fun j v hj => (World.cell?_of_block (a := ⟨b, off + j, none⟩) hs).trans (n.2 j v hj)⟩
/-- A row of trees, all of whose rows lie in blocks that ok names. -/
def RowX (w : World) (ok : Nat → Prop) : Trees → Option Addr → Nat → Prop
  | .nil, _, _ => True
  | .cons h ks rest, a, i => (∃ b off ka kl kc, a = some ⟨b, off, none⟩ ∧ ok b ∧ NodeAt w b (off + i * 14) h (.slice ka kl kc) ∧ kl = ks.len ∧ kl ≤ 9223372036854775807 ∧ h.ok ∧ RowX w ok ks ka 0) ∧ RowX w ok rest a (i + 1)
theorem RowX.of {w : World} {B : Nat} {ok : Nat → Prop} (hok : ∀ b, b < B → ok b) : ∀ {ts : Trees} {a : Option Addr} {i : Nat}, RowIn w B ts a i → RowX w ok ts a i
  | .nil, _, _, _ => trivial
  | .cons _ _ _, _, _, ⟨⟨b, off, ka, kl, kc, e, lt, n, l, m, o, k⟩, r⟩ => ⟨⟨b, off, ka, kl, kc, e, hok b lt, n, l, m, o, RowX.of hok k⟩, RowX.of hok r⟩
theorem RowX.to {w : World} {B : Nat} {ok : Nat → Prop} (hok : ∀ b, ok b → b < B) : ∀ {ts : Trees} {a : Option Addr} {i : Nat}, RowX w ok ts a i → RowIn w B ts a i
  | .nil, _, _, _ => trivial
  | .cons _ _ _, _, _, ⟨⟨b, off, ka, kl, kc, e, lt, n, l, m, o, k⟩, r⟩ => ⟨⟨b, off, ka, kl, kc, e, hok b lt, n, l, m, o, RowX.to hok k⟩, RowX.to hok r⟩
theorem RowX.kept {w w' : World} {ok ok' : Nat → Prop} (hk : ∀ b, ok b → ok' b ∧ w'.heap[b]? = w.heap[b]?) : ∀ {ts : Trees} {a : Option Addr} {i : Nat}, RowX w ok ts a i → RowX w' ok' ts a i
  | .nil, _, _, _ => trivial
  | .cons _ _ _, _, _, ⟨⟨b, off, ka, kl, kc, e, lt, n, l, m, o, k⟩, r⟩ => ⟨⟨b, off, ka, kl, kc, e, (hk b lt).1, n.same (hk b lt).2, l, m, o, RowX.kept hk k⟩, RowX.kept hk r⟩
structure TreeX (w : World) (ok : Nat → Prop) (h : Hd) (ks : Trees) (ka : Option Addr) (kl : Nat) : Prop where
  len : kl = ks.len
  max : kl ≤ 9223372036854775807
  hok : h.ok
  row : RowX w ok ks ka 0
theorem TreeX.of {w : World} {B : Nat} {ok : Nat → Prop} {h : Hd} {ks : Trees} {ka : Option Addr} {kl : Nat} (t : TreeV w B h ks ka kl) (hok : ∀ b, b < B → ok b) : TreeX w ok h ks ka kl := ⟨t.len, t.max, t.ok, RowX.of hok t.row⟩
theorem TreeX.to {w : World} {B : Nat} {ok : Nat → Prop} {h : Hd} {ks : Trees} {ka : Option Addr} {kl : Nat} (t : TreeX w ok h ks ka kl) (hok : ∀ b, ok b → b < B) : TreeV w B h ks ka kl := ⟨t.len, t.max, t.hok, RowX.to hok t.row⟩
theorem TreeX.kept {w w' : World} {ok ok' : Nat → Prop} {h : Hd} {ks : Trees} {ka : Option Addr} {kl : Nat} (t : TreeX w ok h ks ka kl) (hk : ∀ b, ok b → ok' b ∧ w'.heap[b]? = w.heap[b]?) : TreeX w' ok' h ks ka kl := ⟨t.len, t.max, t.hok, RowX.kept hk t.row⟩
/-- A row of nodes that was laid: cells one behind the other. -/
theorem node_in {w : World} {g : Nat} {cs : Array Value} {T : TypeId} {h : Hd} {v : Value} (i : Nat) (hb : w.heap[g]? = some (.cells cs T)) (pre post : List Value) (hc : cs.toList = pre ++ (h.vals v ++ post)) (hp : pre.length = i * 14) : NodeAt w g (0 + i * 14) h v := by
  refine ⟨lt_of_block hb, fun j u hj => ?_⟩
  have hl := (List.getElem?_eq_some_iff.1 hj).1
  rw [cells_of_block hb, ← Array.getElem?_toList, hc, Nat.zero_add, List.getElem?_append_right (by omega), hp, Nat.add_sub_cancel_left, List.getElem?_append_left hl]
  exact hj
end Go.Proofs.YtnhgeojcelegbaaDoor

namespace Go.Proofs.YtnhgeojcelegbaaDoor
open Go.RowKit

/-- The same but for the blocks F and new ones. -/
structure Spd (F : List Nat) (w w' : World) : Prop where
  os : w'.os = w.os
  tape : w'.tape = w.tape
  output : w'.output = w.output
  size : w.heap.size ≤ w'.heap.size
  same : ∀ k, k < w.heap.size → k ∉ F → w'.heap[k]? = w.heap[k]?
section
variable {F F' : List Nat} {w w' w2 : World}
theorem Spd.refl (F : List Nat) (w : World) : Spd F w w := ⟨rfl, rfl, rfl, Nat.le_refl _, fun _ _ _ => rfl⟩
theorem Spd.trans (h : Spd F w w') (k : Spd F' w' w2) (hs : ∀ b ∈ F', b ∈ F ∨ w.heap.size ≤ b) : Spd F w w2 :=
  ⟨k.os.trans h.os, k.tape.trans h.tape, k.output.trans h.output, Nat.le_trans h.size k.size, fun i hi hn => (k.same i (Nat.lt_of_lt_of_le hi h.size) fun hm => by rcases hs i hm with q | q; exact hn q; omega).trans (h.same i hi hn)⟩
theorem Spd.of (h : Below w.heap.size w w') : Spd F w w' := ⟨h.os, h.tape, h.output, h.size, fun k hk _ => h.block k hk⟩
theorem Spd.ext (h : Spd F w w') (b : Below w'.heap.size w' w2) : Spd F w w2 := h.trans (Spd.of (F := []) b) (by simp)
theorem Spd.below (h : Spd F w w') {B : Nat} (hB : B ≤ w.heap.size) (hF : ∀ b ∈ F, B ≤ b) : Below B w w' := ⟨h.os, h.tape, h.output, h.size, fun k hk => h.same k (Nat.lt_of_lt_of_le hk hB) fun hm => by have := hF k hm; omega⟩
theorem Spd.cells (h : Spd F w w') {N : Nat} (hN : N ∈ F ∨ w.heap.size ≤ N) (off : Nat) (vs : List Value) : Spd F w (w'.setCells N off vs) := by
  have b := setCells_below (Nat.le_refl N) vs off (Below.refl N w')
  exact ⟨b.os.trans h.os, b.tape.trans h.tape, b.output.trans h.output, Nat.le_trans h.size b.size, fun k hk hn => (setCells_other (fun e => by subst e; rcases hN with q | q; exact hn q; omega) vs off w').trans (h.same k hk hn)⟩
theorem Spd.grown (h : Spd F w w') {row : Option Nat} (hg : w'.grownBy w2 row) (hr : ∀ k, row = some k → k ∈ F ∨ w.heap.size ≤ k) : Spd F w w2 := by
  have b := (Below.refl 0 w').grown hg (Nat.zero_le _) (fun _ _ => Nat.zero_le _)
  exact ⟨b.os.trans h.os, b.tape.trans h.tape, b.output.trans h.output, Nat.le_trans h.size b.size, fun k hk hn => (hg.block k (Nat.lt_of_lt_of_le hk h.size) (fun e => by rcases hr k e.symm with q | q; exact hn q; omega)).trans (h.same k hk hn)⟩
end
theorem setCells_sized {W : World} {N off : Nat} {cs : Array Value} {T : TypeId} {fr : Nat × Nat} {vs : List Value} (h : W.heap[N]? = some (.cells cs T fr)) (hl : off + vs.length ≤ cs.size) : ∃ cs', (W.setCells N off vs).heap[N]? = some (.cells cs' T fr) ∧ cs'.size = cs.size :=
  ⟨_, setCells_blk vs off W cs h hl, by simp; omega⟩
section
variable {ops : Array Oper} {Q : Exit → Act → World → Prop} {rest : List Oper} {a : Act} {o : Oper} {s x y : Operand} {w : World} {N off : Nat} {cs : Array Value} {T' : TypeId} {vs : List Value}
theorem wpList_load_rng (hg : o.guard = none) (ho : o.op = Op.load 30 s) (ha : a.eval s = .pointer (some ⟨N, off, none⟩)) (hr : w.rangeAt N off vs) (hl : vs.length = 14) (h : wpList Tryd.prog ops Q rest (a.put o.dst (.agg vs.toArray)) w) : wpList Tryd.prog ops Q (o :: rest) a w :=
  wpList_load_mid hg _ s ho N off ha vs _ hr Tryd.underlying30 rfl (by simpa [hl] using infoExprS) h
theorem wpList_store_mem {T : TypeId} {n : Nat} (hi : (Tryd.prog.info? T).map (·.size) = some n) (hg : o.guard = none) (ho : o.op = Op.store T x y) (hx : a.eval x = .pointer (some ⟨N, off, none⟩)) (hy : a.eval y = .agg vs.toArray) (hb : w.heap[N]? = some (.cells cs T' (0, 0)))
    (hl : off + vs.length ≤ cs.size) (hn : vs.length = n) (h1 : ∀ v ∈ vs, v.oneCell' = true) (h : ∀ W', W' = w.setCells N off vs → wpList Tryd.prog ops Q rest (a.put o.dst undef) W') : wpList Tryd.prog ops Q (o :: rest) a w := by
  refine wpList_store_mid hg T x y ho N off vs.toArray hx hy (fun j hj => ⟨?_, frees_of_block hb _⟩) (by simpa [hn] using hi) (all_oneCell_toArray h1) (by simpa using h _ rfl)
  have : off + j < cs.size := by simp at hj; omega
  rw [cells_of_block hb]; simp [this]
end
/-- A kid's cells within its list's block. -/
theorem kid_range {W : World} {g j : Nat} {cur : Array Value} {T : TypeId} {h : Hd} {v : Value} {pre cs' : List Value} {n : Nat} (hg : W.heap[g]? = some (.cells cur T (0, 0))) (ht : cur.toList.take n = pre ++ (h.vals v ++ cs')) (hp : pre.length = j * 14) : W.rangeAt g (j * 14) (h.vals v) := fun i x hx => by
  have hi : i < 14 := by rcases Nat.lt_or_ge i 14 with q | q; exact q; rw [List.getElem?_eq_none (by rw [Hd.vals_len]; exact q)] at hx; cases hx
  have hl : cur.toList = (pre ++ (h.vals v ++ cs')) ++ cur.toList.drop n := by rw [← ht, List.take_append_drop]
  rw [cells_of_block hg, ← Array.getElem?_toList, hl, List.append_assoc, List.getElem?_append_right (by omega), hp, Nat.add_sub_cancel_left, List.append_assoc, List.getElem?_append_left (by rw [Hd.vals_len]; exact hi)]
  exact hx

def RSp (h : Hd) (ks : Trees) : Prop := ∀ (w : World) (F : List Nat) (ka : Option Addr) (kl kc : Nat), OwnV w ks (.slice ka kl kc) F → F.Nodup → (∀ b ∈ F, b < w.heap.size) → ks.nodes ≤ 100000 →
  Calls Tryd.prog 48 #[.agg #[.int .i64 h.kind, .int .i64 h.op, .int .i64 h.num, .string ⟨h.text.toArray⟩, .int .i64 h.ref.row, .int .i64 h.ref.col, .bool h.ref.pr, .bool h.ref.pc, .int .i64 h.to.row, .int .i64 h.to.col, .bool h.to.pr, .bool h.to.pc, .int .i64 h.fn, .slice ka kl kc]] w fun e w' => e = .returned (.tuple #[]) ∧ Spd F w w'
def Sp1 (nd : Hd) (g kl cap : Nat) (cs : List Value) (F : List Nat) (w wr : World) (i : Value) : Prop :=
  ∃ (j : Nat) (rest : Trees) (pre cs' : List Value) (F2 : List Nat), i = .int .i64 j ∧ Hid (j + rest.len = kl) ∧ Hid (cs = pre ++ cs' ∧ pre.length = j * 14) ∧ Hid (Slot wr (.slice (some ⟨g, 0, none⟩) kl cap) kl cs [g]) ∧ OwnCells wr rest cs' F2 ∧ Hid ((g :: F2).Nodup ∧ ∀ b ∈ F2, b ∈ F ∧ b < w.heap.size) ∧ AllT RSp rest ∧ rest.nodes ≤ 100000 ∧ wr.heap[w.heap.size]? = some (.cells #[.int .i64 nd.kind, .int .i64 nd.op, .int .i64 nd.num, .string ⟨nd.text.toArray⟩, .int .i64 nd.ref.row, .int .i64 nd.ref.col, .bool nd.ref.pr, .bool nd.ref.pc, .int .i64 nd.to.row, .int .i64 nd.to.col, .bool nd.to.pr, .bool nd.to.pc, .int .i64 nd.fn, .slice (some ⟨g, 0, none⟩) kl cap] 30 (0, 0)) ∧ Hid (Spd F w wr)
def Sp2 (nd : Hd) (g kl cap : Nat) (F : List Nat) (w wr : World) (i : Value) : Prop :=
  ∃ (j : Nat) (cur : Array Value), i = .int .i64 j ∧ j ≤ kl ∧ wr.heap[g]? = some (.cells cur 30 (0, 0)) ∧ cur.size = cap * 14 ∧ wr.heap[w.heap.size]? = some (.cells #[.int .i64 nd.kind, .int .i64 nd.op, .int .i64 nd.num, .string ⟨nd.text.toArray⟩, .int .i64 nd.ref.row, .int .i64 nd.ref.col, .bool nd.ref.pr, .bool nd.ref.pc, .int .i64 nd.to.row, .int .i64 nd.to.col, .bool nd.to.pr, .bool nd.to.pc, .int .i64 nd.fn, .slice (some ⟨g, 0, none⟩) kl cap] 30 (0, 0)) ∧ Hid (Spd F w wr)
def Sp3 (kl : Nat) (F : List Nat) (w wr : World) (l : Value) : Prop :=
  ∃ (la : Option Addr) (m lc : Nat) (cs : List Value), l = .slice la m lc ∧ kl ≤ m ∧ m ≤ kl + 5000 ∧ Hid (wr.ownsRow 0 30 14 (.slice la m lc) m cs) ∧ Hid (∀ b, (Value.slice la m lc).ownBlock = some b → b ∈ F ∨ w.heap.size ≤ b) ∧ Hid (Spd F w wr)
def lenOf (l : Value) : Nat := match l with | .slice _ m _ => m | _ => 0

set_option maxRecDepth 100000 in
set_option maxHeartbeats 4000000 in
theorem spoil_nil (nd : Hd) (w : World) : Calls Tryd.prog 48 #[.agg #[.int .i64 nd.kind, .int .i64 nd.op, .int .i64 nd.num, .string ⟨nd.text.toArray⟩, .int .i64 nd.ref.row, .int .i64 nd.ref.col, .bool nd.ref.pr, .bool nd.ref.pc, .int .i64 nd.to.row, .int .i64 nd.to.col, .bool nd.to.pr, .bool nd.to.pc, .int .i64 nd.fn, .slice none 0 0]] w fun e w' => e = .returned (.tuple #[]) ∧ Spd [] w w' := by
  have B0 := Lib.hid (ext_alloc (Below.refl _ w) (.cells #[.int .i64 nd.kind, .int .i64 nd.op, .int .i64 nd.num, .string ⟨nd.text.toArray⟩, .int .i64 nd.ref.row, .int .i64 nd.ref.col, .bool nd.ref.pr, .bool nd.ref.pc, .int .i64 nd.to.row, .int .i64 nd.to.col, .bool nd.to.pr, .bool nd.to.pc, .int .i64 nd.fn, .slice none 0 0] 30))
  go_enter Tryd.func48, Tryd.ntmps48
  go_wp2_with fail
  go_loop [2] (fun i => i = .int .i64 0) (fun _ => 0)
  case atStart => rfl
  case round =>
    obtain rfl := hrel
    go_wp2_with fail
    go_loop [3] (fun i => i = .int .i64 0) (fun _ => 0)
    case atStart => rfl
    case round =>
      obtain rfl := hrel
      go_wp2_with fail
      go_loop [4] (fun l => l = .slice none 0 0) (fun _ => 0)
      case atStart => rfl
      case round =>
        obtain rfl := hrel
        go_wp2
        go_end0
        exact ⟨rfl, Spd.of B0.out⟩
set_option maxRecDepth 100000 in
set_option maxHeartbeats 4000000 in
theorem spoil_some (nd : Hd) (ks : Trees) (ih : AllT RSp ks) (w : World) (g kl cap : Nat) (cs : List Value) (F' : List Nat) (hkl : kl = ks.len) (s : Slot w (.slice (some ⟨g, 0, none⟩) kl cap) kl cs [g]) (oc : OwnCells w ks cs F') (nd' : (g :: F').Nodup) (hF : ∀ b ∈ g :: F', b < w.heap.size) (hn : ks.nodes ≤ 100000) :
    Calls Tryd.prog 48 #[.agg #[.int .i64 nd.kind, .int .i64 nd.op, .int .i64 nd.num, .string ⟨nd.text.toArray⟩, .int .i64 nd.ref.row, .int .i64 nd.ref.col, .bool nd.ref.pr, .bool nd.ref.pc, .int .i64 nd.to.row, .int .i64 nd.to.col, .bool nd.to.pr, .bool nd.to.pc, .int .i64 nd.fn, .slice (some ⟨g, 0, none⟩) kl cap]] w fun e w' => e = .returned (.tuple #[]) ∧ Spd (g :: F') w w' := by
  obtain ⟨i0, hi, hz0, hz1, hz2⟩ := info_parts infoExpr
  have hk5 : kl ≤ 100000 := by rw [hkl]; exact Nat.le_trans (len_le_nodes ks) hn
  obtain ⟨hcl, hcm⟩ : kl ≤ cap ∧ cap ≤ 9223372036854775807 := by
    rcases s.2 with ⟨e, -⟩ | ⟨g', cap', cur, e, -, h1, h2, -⟩
    · simp at e
    · simp only [Value.slice.injEq] at e
      have : maxLen = 9223372036854775807 := rfl
      omega
  have b0 := ext_alloc (Below.refl _ w) (.cells #[.int .i64 nd.kind, .int .i64 nd.op, .int .i64 nd.num, .string ⟨nd.text.toArray⟩, .int .i64 nd.ref.row, .int .i64 nd.ref.col, .bool nd.ref.pr, .bool nd.ref.pc, .int .i64 nd.to.row, .int .i64 nd.to.col, .bool nd.to.pr, .bool nd.to.pc, .int .i64 nd.fn, .slice (some ⟨g, 0, none⟩) kl cap] 30)
  have hgw : g < w.heap.size := hF g (by simp)
  have S0 := Lib.hid (s.kept (w' := w.alloc (.cells #[.int .i64 nd.kind, .int .i64 nd.op, .int .i64 nd.num, .string ⟨nd.text.toArray⟩, .int .i64 nd.ref.row, .int .i64 nd.ref.col, .bool nd.ref.pr, .bool nd.ref.pc, .int .i64 nd.to.row, .int .i64 nd.to.col, .bool nd.to.pr, .bool nd.to.pc, .int .i64 nd.fn, .slice (some ⟨g, 0, none⟩) kl cap] 30)) fun b hb => Below.heap_alloc _ _ _ (by simp at hb; omega))
  have O0 := Lib.hid (oc.kept (w' := w.alloc (.cells #[.int .i64 nd.kind, .int .i64 nd.op, .int .i64 nd.num, .string ⟨nd.text.toArray⟩, .int .i64 nd.ref.row, .int .i64 nd.ref.col, .bool nd.ref.pr, .bool nd.ref.pc, .int .i64 nd.to.row, .int .i64 nd.to.col, .bool nd.to.pr, .bool nd.to.pc, .int .i64 nd.fn, .slice (some ⟨g, 0, none⟩) kl cap] 30)) fun b hb => Below.heap_alloc _ _ _ (hF b (by simp [hb])))
  have ND' := Lib.hid nd'; have HF := Lib.hid hF; have HI := Lib.hid ih; have HN := Lib.hid hn; have HKL := Lib.hid hkl
  have B0 := Lib.hid b0
  have H0 := Lib.hid (heap_alloc_new w (.cells #[.int .i64 nd.kind, .int .i64 nd.op, .int .i64 nd.num, .string ⟨nd.text.toArray⟩, .int .i64 nd.ref.row, .int .i64 nd.ref.col, .bool nd.ref.pr, .bool nd.ref.pc, .int .i64 nd.to.row, .int .i64 nd.to.col, .bool nd.to.pr, .bool nd.to.pc, .int .i64 nd.fn, .slice (some ⟨g, 0, none⟩) kl cap] 30))
  clear s oc nd' hF ih hn hkl b0
  rcases Nat.lt_or_ge (kl + 5000) cap with hc | hc
  · have hci : (kl : Int) + 5000 < (cap : Int) ∨ (cap : Int) ≤ (kl : Int) + 5000 := by omega
    go_enter Tryd.func48, Tryd.ntmps48
    go_wp2_with fail
    go_loopw [2] (fun i wr => Sp1 nd g kl cap cs (g :: F') w wr i) (fun i _ => kl - (intOf i).toNat)
    case atStart => exact ⟨0, ks, [], cs, F', rfl, Lib.hid (by rw [HKL.out]; omega), Lib.hid ⟨rfl, rfl⟩, S0, O0.out, Lib.hid ⟨ND'.out, fun b hb => ⟨by simp [hb], HF.out b (by simp [hb])⟩⟩, HI.out, HN.out, H0.out, Lib.hid (Spd.of B0.out)⟩
    case round =>
      obtain ⟨j, rest, pre, cs', F2, rfl, HJ, HCS, HSL, ho, HND, hall, hno, hbx, HSP⟩ := hrel
      have c0 := cells_of_block hbx
      have HBX := Lib.hid hbx
      have hlen := HJ.out
      by_cases hlt : j < kl
      · obtain ⟨h', k', r', rfl⟩ := trees_cons (rest := rest) (by omega)
        obtain ⟨v, cs2, cs1, G1, F1, F3, ecs, okh, sk, o1, o2, eF⟩ := ho
        obtain ⟨xa, xc, rfl⟩ : ∃ a c, v = .slice a k'.len c := sk.slice
        have hj0 : (0 : Int) ≤ (j : Int) := by omega
        have hji : (j : Int) < (kl : Int) := by omega
        obtain ⟨cur, hcur, htk⟩ : ∃ cur, wr.heap[g]? = some (.cells cur 30 (0, 0)) ∧ cur.toList.take (kl * 14) = cs := by
          rcases HSL.out.2 with ⟨e, -⟩ | ⟨g', cap', cur, e, h0, -, -, -, h4, h5⟩
          · simp at e
          · simp only [Value.slice.injEq, Option.some.injEq, Addr.mk.injEq] at e
            obtain ⟨⟨rfl, -⟩, -, -⟩ := e
            exact ⟨cur, h0, h4⟩
        have RG := Lib.hid (kid_range hcur (by rw [htk, HCS.out.1, ecs]) HCS.out.2)
        have hno1 : k'.nodes ≤ 100000 := by simp only [Trees.nodes] at hno; omega
        have hno2 : r'.nodes ≤ 100000 := by simp only [Trees.nodes] at hno; omega
        have hnd := HND.out
        rw [eF] at hnd
        have hnk : (G1 ++ F1).Nodup := (List.nodup_append.1 (List.nodup_cons.1 hnd.1).2).1
        have hsz := HSP.out.size
        have hltk : ∀ b ∈ G1 ++ F1, b < wr.heap.size := fun b hb => by have := (hnd.2 b (by simp only [List.mem_append] at hb ⊢; exact .inl hb)).2; omega
        have CA := Lib.hid (hall.1 wr (G1 ++ F1) xa k'.len xc ⟨cs1, G1, F1, sk, o1, rfl⟩ hnk hltk hno1)
        have HAll := Lib.hid hall.2
        have hgk : g ∉ G1 ++ F1 := fun hm => (List.nodup_cons.1 hnd.1).1 (by simp only [List.mem_append] at hm ⊢; exact .inl hm)
        have hdis : ∀ b ∈ F3, b ∉ G1 ++ F1 := fun b hb hm => (List.nodup_append.1 (List.nodup_cons.1 hnd.1).2).2.2 b hm b hb rfl
        have hF3 : ∀ b ∈ F3, b ∈ g :: F' ∧ b < w.heap.size := fun b hb => hnd.2 b (by simp [hb])
        have hFk : ∀ b ∈ G1 ++ F1, b ∈ g :: F' ∧ b < w.heap.size := fun b hb => hnd.2 b (by simp only [List.mem_append] at hb ⊢; exact .inl hb)
        have hn3 : (g :: F3).Nodup := List.nodup_cons.2 ⟨fun hm => (List.nodup_cons.1 hnd.1).1 (by simp [hm]), (List.nodup_append.1 (List.nodup_cons.1 hnd.1).2).2.1⟩
        have D := Lib.hid (And.intro hgk (And.intro hdis (And.intro hF3 (And.intro hFk hn3))))
        have O2 := Lib.hid o2; have ECS := Lib.hid ecs
        clear hnd hnk hltk hgk hdis hF3 hFk hn3 o1 o2 ecs eF sk hall hlen hno hcur htk hbx HND
        go_wp2_with (refine wpList_load_rng (N := g) (off := j * 14) (vs := [.int .i64 h'.kind, .int .i64 h'.op, .int .i64 h'.num, .string ⟨h'.text.toArray⟩, .int .i64 h'.ref.row, .int .i64 h'.ref.col, .bool h'.ref.pr, .bool h'.ref.pc, .int .i64 h'.to.row, .int .i64 h'.to.col, .bool h'.to.pr, .bool h'.to.pc, .int .i64 h'.fn, .slice xa k'.len xc]) rfl rfl rfl RG.out rfl ?_)
        refine CA.out.mono ?_
        rintro e w2 ⟨rfl, sp⟩
        obtain ⟨hgk, hdis, hF3, hFk, hn3⟩ := D.out
        have hg2 : w2.heap[g]? = wr.heap[g]? := sp.same g (by omega) hgk
        have SL2 := Lib.hid (HSL.out.kept (w' := w2) fun b hb => by simp at hb; subst hb; exact hg2)
        have O3 := Lib.hid (O2.out.kept (w' := w2) fun b hb => sp.same b (by have := (hF3 b hb).2; omega) (hdis b hb))
        have BX2 := Lib.hid ((sp.same w.heap.size (lt_of_block HBX.out) (fun hm => by have := (hFk _ hm).2; omega)).trans HBX.out)
        have SP2 := Lib.hid (HSP.out.trans sp fun b hb => .inl (hFk b hb).1)
        have HND2 := Lib.hid (And.intro hn3 hF3)
        have HJ2 := Lib.hid (show (j + 1) + r'.len = kl by have := HJ.out; simp only [Trees.len] at this; omega)
        have HCS2 := Lib.hid (show cs = (pre ++ h'.vals (.slice xa k'.len xc)) ++ cs2 ∧ (pre ++ h'.vals (.slice xa k'.len xc)).length = (j + 1) * 14 from ⟨by rw [HCS.out.1, ECS.out, List.append_assoc], by rw [List.length_append, HCS.out.2, Hd.vals_len]; omega⟩)
        clear sp hgk hdis hF3 hFk hn3 hg2 c0
        go_wp2
        exact ⟨⟨j + 1, r', _, _, _, by go_num, HJ2, HCS2, SL2, O3.out, HND2, HAll.out, hno2, BX2.out, SP2⟩, by simp [intOf]; omega⟩
      · have hg2 : ∃ cur, wr.heap[g]? = some (.cells cur 30 (0, 0)) ∧ cur.size = cap * 14 := by
          rcases HSL.out.2 with ⟨e, -⟩ | ⟨g', cap', cur, e, h0, -, -, h3, -⟩
          · simp at e
          · simp only [Value.slice.injEq, Option.some.injEq, Addr.mk.injEq] at e
            obtain ⟨⟨rfl, -⟩, -, rfl⟩ := e
            exact ⟨cur, h0, h3⟩
        obtain ⟨cur, h1, h2⟩ := hg2
        have HG1 := Lib.hid h1; have HG2 := Lib.hid h2
        clear h1 h2 ho hall hno hlen hbx HND HSL HCS HJ
        go_wp2_with fail
        clear c0
        go_loopw [3] (fun i wr => Sp2 nd g kl cap (g :: F') w wr i) (fun i _ => kl - (intOf i).toNat)
        case atStart => exact ⟨0, cur, rfl, Nat.zero_le _, HG1.out, HG2.out, HBX.out, HSP⟩
        case round =>
          obtain ⟨j, cur, rfl, hj, hg1, hg2, hbx, HSP⟩ := hrel
          have c0 := cells_of_block hbx
          have HG1 := Lib.hid hg1; have HG2 := Lib.hid hg2; have HBX := Lib.hid hbx
          clear hg1 hg2 hbx
          by_cases hlt : j < kl
          · have hji : (j : Int) < (kl : Int) := by omega
            have hj0 : (0 : Int) ≤ (j : Int) := by omega
            have hroom : j * 14 + 14 ≤ cur.size := by rw [HG2.out]; omega
            go_wp2_with (refine wpList_store_mem (N := g) (off := j * 14) (vs := [.int .i64 99, .int .i64 0, .int .i64 j, .string ⟨#[115, 112, 111, 105, 108, 116]⟩, .int .i64 0, .int .i64 0, .bool false, .bool false, .int .i64 0, .int .i64 0, .bool false, .bool false, .int .i64 0, .slice none 0 0]) infoExprS rfl rfl rfl rfl HG1.out hroom rfl (by simp [Value.oneCell']) ?_; intro w2 hw2; have EW := Lib.hid hw2; clear hw2)
            obtain ⟨cur2, h1, h2⟩ := setCells_sized (vs := [.int .i64 99, .int .i64 0, .int .i64 j, .string ⟨#[115, 112, 111, 105, 108, 116]⟩, .int .i64 0, .int .i64 0, .bool false, .bool false, .int .i64 0, .int .i64 0, .bool false, .bool false, .int .i64 0, .slice none 0 0]) HG1.out hroom
            rw [← EW.out] at h1
            have BX2 : w2.heap[w.heap.size]? = some (.cells #[.int .i64 nd.kind, .int .i64 nd.op, .int .i64 nd.num, .string ⟨nd.text.toArray⟩, .int .i64 nd.ref.row, .int .i64 nd.ref.col, .bool nd.ref.pr, .bool nd.ref.pc, .int .i64 nd.to.row, .int .i64 nd.to.col, .bool nd.to.pr, .bool nd.to.pc, .int .i64 nd.fn, .slice (some ⟨g, 0, none⟩) kl cap] 30 (0, 0)) := by rw [EW.out]; exact (setCells_other (by omega) _ _ _).trans HBX.out
            have SP2 : Spd (g :: F') w w2 := by rw [EW.out]; exact HSP.out.cells (.inl (by simp)) _ _
            exact ⟨⟨j + 1, cur2, by go_num, by omega, h1, by rw [h2, HG2.out], BX2, Lib.hid SP2⟩, by simp [intOf]; omega⟩
          · go_wp2_with fail
            clear c0
            go_loopw [4] (fun l wr => Sp3 kl (g :: F') w wr l) (fun l _ => kl + 5000 - lenOf l)
            case atStart =>
              refine ⟨some ⟨g, 0, none⟩, kl, cap, cur.toList.take (kl * 14), rfl, Nat.le_refl _, by omega, Lib.hid ⟨by rw [List.length_take, Array.length_toList, HG2.out]; omega, .inr ⟨g, cap, cur, rfl, Nat.zero_le _, HG1.out, hcl, ?_, HG2.out, rfl⟩⟩, Lib.hid (fun b hb => ?_), HSP⟩
              · have : maxLen = 9223372036854775807 := rfl
                omega
              · simp [Value.ownBlock] at hb; exact .inl (by simp [hb])
            case round =>
              obtain ⟨la, m, lc, cs3, rfl, hm1, hm2, HOW, HOB, HSP3⟩ := hrel
              have hmx : (m : Int) ≤ 105000 := by omega
              by_cases hmc : (m : Int) < ((kl : Int) + 5000)
              · go_wp2_with (at_builtin; refine wpList_append_own_at _ rfl _ _ 22 rfl 0 30 i0 _ 14 120 Tryd.underlying22 hi hz0 hz1 hz2 rfl (by decide) (.slice la m lc) m cs3 rfl (HOW.out.alloc _) ⟨wr.heap.size, 0, none⟩ 1 1 [.int .i64 98, .int .i64 0, .int .i64 0, .string ⟨#[103, 114, 111, 119, 110]⟩, .int .i64 0, .int .i64 0, .bool false, .bool false, .int .i64 0, .int .i64 0, .bool false, .bool false, .int .i64 0, .slice none 0 0] rfl rfl (World.news_of_block (heap_alloc_new wr _)) (by simp [Value.oneCell']) (by unfold maxLen; omega) (by omega) (Nat.zero_le _) ?_)
                intro v' w4 hown4 hgrow _ hloc
                obtain ⟨la', lc', rfl⟩ : ∃ a c, v' = .slice a (m + 1) c := (slot_of hown4).slice
                have h4 : Spd (g :: F') w (wr.alloc (.cells #[.int .i64 98, .int .i64 0, .int .i64 0, .string ⟨#[103, 114, 111, 119, 110]⟩, .int .i64 0, .int .i64 0, .bool false, .bool false, .int .i64 0, .int .i64 0, .bool false, .bool false, .int .i64 0, .slice none 0 0] 30)) := HSP3.out.ext ((Below.refl _ wr).alloc (Nat.le_refl _) _)
                have SP4 := Lib.hid (h4.grown hgrow HOB.out)
                have hob : ∀ b, (Value.slice la' (m + 1) lc').ownBlock = some b → b ∈ g :: F' ∨ w.heap.size ≤ b := fun b hb => by
                  rcases hloc with q | q
                  · exact HOB.out b (q.symm.trans hb)
                  · rw [q] at hb; injection hb with hb; have := HSP3.out.size; exact .inr (by omega)
                have HOB4 := Lib.hid hob; have HOW4 := Lib.hid hown4
                clear hown4 hgrow hloc h4 hob
                go_wp2
                exact ⟨⟨la', m + 1, lc', _, rfl, by omega, by omega, HOW4, HOB4, SP4⟩, by simp [lenOf]; omega⟩
              · go_wp2
                go_end0
                exact ⟨rfl, HSP3.out⟩
  · have hci : (kl : Int) + 5000 < (cap : Int) ∨ (cap : Int) ≤ (kl : Int) + 5000 := by omega
    go_enter Tryd.func48, Tryd.ntmps48
    go_wp2_with fail
    go_loopw [2] (fun i wr => Sp1 nd g kl cap cs (g :: F') w wr i) (fun i _ => kl - (intOf i).toNat)
    case atStart => exact ⟨0, ks, [], cs, F', rfl, Lib.hid (by rw [HKL.out]; omega), Lib.hid ⟨rfl, rfl⟩, S0, O0.out, Lib.hid ⟨ND'.out, fun b hb => ⟨by simp [hb], HF.out b (by simp [hb])⟩⟩, HI.out, HN.out, H0.out, Lib.hid (Spd.of B0.out)⟩
    case round =>
      obtain ⟨j, rest, pre, cs', F2, rfl, HJ, HCS, HSL, ho, HND, hall, hno, hbx, HSP⟩ := hrel
      have c0 := cells_of_block hbx
      have HBX := Lib.hid hbx
      have hlen := HJ.out
      by_cases hlt : j < kl
      · obtain ⟨h', k', r', rfl⟩ := trees_cons (rest := rest) (by omega)
        obtain ⟨v, cs2, cs1, G1, F1, F3, ecs, okh, sk, o1, o2, eF⟩ := ho
        obtain ⟨xa, xc, rfl⟩ : ∃ a c, v = .slice a k'.len c := sk.slice
        have hj0 : (0 : Int) ≤ (j : Int) := by omega
        have hji : (j : Int) < (kl : Int) := by omega
        obtain ⟨cur, hcur, htk⟩ : ∃ cur, wr.heap[g]? = some (.cells cur 30 (0, 0)) ∧ cur.toList.take (kl * 14) = cs := by
          rcases HSL.out.2 with ⟨e, -⟩ | ⟨g', cap', cur, e, h0, -, -, -, h4, h5⟩
          · simp at e
          · simp only [Value.slice.injEq, Option.some.injEq, Addr.mk.injEq] at e
            obtain ⟨⟨rfl, -⟩, -, -⟩ := e
            exact ⟨cur, h0, h4⟩
        have RG := Lib.hid (kid_range hcur (by rw [htk, HCS.out.1, ecs]) HCS.out.2)
        have hno1 : k'.nodes ≤ 100000 := by simp only [Trees.nodes] at hno; omega
        have hno2 : r'.nodes ≤ 100000 := by simp only [Trees.nodes] at hno; omega
        have hnd := HND.out
        rw [eF] at hnd
        have hnk : (G1 ++ F1).Nodup := (List.nodup_append.1 (List.nodup_cons.1 hnd.1).2).1
        have hsz := HSP.out.size
        have hltk : ∀ b ∈ G1 ++ F1, b < wr.heap.size := fun b hb => by have := (hnd.2 b (by simp only [List.mem_append] at hb ⊢; exact .inl hb)).2; omega
        have CA := Lib.hid (hall.1 wr (G1 ++ F1) xa k'.len xc ⟨cs1, G1, F1, sk, o1, rfl⟩ hnk hltk hno1)
        have HAll := Lib.hid hall.2
        have hgk : g ∉ G1 ++ F1 := fun hm => (List.nodup_cons.1 hnd.1).1 (by simp only [List.mem_append] at hm ⊢; exact .inl hm)
        have hdis : ∀ b ∈ F3, b ∉ G1 ++ F1 := fun b hb hm => (List.nodup_append.1 (List.nodup_cons.1 hnd.1).2).2.2 b hm b hb rfl
        have hF3 : ∀ b ∈ F3, b ∈ g :: F' ∧ b < w.heap.size := fun b hb => hnd.2 b (by simp [hb])
        have hFk : ∀ b ∈ G1 ++ F1, b ∈ g :: F' ∧ b < w.heap.size := fun b hb => hnd.2 b (by simp only [List.mem_append] at hb ⊢; exact .inl hb)
        have hn3 : (g :: F3).Nodup := List.nodup_cons.2 ⟨fun hm => (List.nodup_cons.1 hnd.1).1 (by simp [hm]), (List.nodup_append.1 (List.nodup_cons.1 hnd.1).2).2.1⟩
        have D := Lib.hid (And.intro hgk (And.intro hdis (And.intro hF3 (And.intro hFk hn3))))
        have O2 := Lib.hid o2; have ECS := Lib.hid ecs
        clear hnd hnk hltk hgk hdis hF3 hFk hn3 o1 o2 ecs eF sk hall hlen hno hcur htk hbx HND
        go_wp2_with (refine wpList_load_rng (N := g) (off := j * 14) (vs := [.int .i64 h'.kind, .int .i64 h'.op, .int .i64 h'.num, .string ⟨h'.text.toArray⟩, .int .i64 h'.ref.row, .int .i64 h'.ref.col, .bool h'.ref.pr, .bool h'.ref.pc, .int .i64 h'.to.row, .int .i64 h'.to.col, .bool h'.to.pr, .bool h'.to.pc, .int .i64 h'.fn, .slice xa k'.len xc]) rfl rfl rfl RG.out rfl ?_)
        refine CA.out.mono ?_
        rintro e w2 ⟨rfl, sp⟩
        obtain ⟨hgk, hdis, hF3, hFk, hn3⟩ := D.out
        have hg2 : w2.heap[g]? = wr.heap[g]? := sp.same g (by omega) hgk
        have SL2 := Lib.hid (HSL.out.kept (w' := w2) fun b hb => by simp at hb; subst hb; exact hg2)
        have O3 := Lib.hid (O2.out.kept (w' := w2) fun b hb => sp.same b (by have := (hF3 b hb).2; omega) (hdis b hb))
        have BX2 := Lib.hid ((sp.same w.heap.size (lt_of_block HBX.out) (fun hm => by have := (hFk _ hm).2; omega)).trans HBX.out)
        have SP2 := Lib.hid (HSP.out.trans sp fun b hb => .inl (hFk b hb).1)
        have HND2 := Lib.hid (And.intro hn3 hF3)
        have HJ2 := Lib.hid (show (j + 1) + r'.len = kl by have := HJ.out; simp only [Trees.len] at this; omega)
        have HCS2 := Lib.hid (show cs = (pre ++ h'.vals (.slice xa k'.len xc)) ++ cs2 ∧ (pre ++ h'.vals (.slice xa k'.len xc)).length = (j + 1) * 14 from ⟨by rw [HCS.out.1, ECS.out, List.append_assoc], by rw [List.length_append, HCS.out.2, Hd.vals_len]; omega⟩)
        clear sp hgk hdis hF3 hFk hn3 hg2 c0
        go_wp2
        exact ⟨⟨j + 1, r', _, _, _, by go_num, HJ2, HCS2, SL2, O3.out, HND2, HAll.out, hno2, BX2.out, SP2⟩, by simp [intOf]; omega⟩
      · have hg2 : ∃ cur, wr.heap[g]? = some (.cells cur 30 (0, 0)) ∧ cur.size = cap * 14 := by
          rcases HSL.out.2 with ⟨e, -⟩ | ⟨g', cap', cur, e, h0, -, -, h3, -⟩
          · simp at e
          · simp only [Value.slice.injEq, Option.some.injEq, Addr.mk.injEq] at e
            obtain ⟨⟨rfl, -⟩, -, rfl⟩ := e
            exact ⟨cur, h0, h3⟩
        obtain ⟨cur, h1, h2⟩ := hg2
        have HG1 := Lib.hid h1; have HG2 := Lib.hid h2
        clear h1 h2 ho hall hno hlen hbx HND HSL HCS HJ
        go_wp2_with fail
        clear c0
        go_loopw [3] (fun i wr => Sp2 nd g kl cap (g :: F') w wr i) (fun i _ => kl - (intOf i).toNat)
        case atStart => exact ⟨0, cur, rfl, Nat.zero_le _, HG1.out, HG2.out, HBX.out, HSP⟩
        case round =>
          obtain ⟨j, cur, rfl, hj, hg1, hg2, hbx, HSP⟩ := hrel
          have c0 := cells_of_block hbx
          have HG1 := Lib.hid hg1; have HG2 := Lib.hid hg2; have HBX := Lib.hid hbx
          clear hg1 hg2 hbx
          by_cases hlt : j < kl
          · have hji : (j : Int) < (kl : Int) := by omega
            have hj0 : (0 : Int) ≤ (j : Int) := by omega
            have hroom : j * 14 + 14 ≤ cur.size := by rw [HG2.out]; omega
            go_wp2_with (refine wpList_store_mem (N := g) (off := j * 14) (vs := [.int .i64 99, .int .i64 0, .int .i64 j, .string ⟨#[115, 112, 111, 105, 108, 116]⟩, .int .i64 0, .int .i64 0, .bool false, .bool false, .int .i64 0, .int .i64 0, .bool false, .bool false, .int .i64 0, .slice none 0 0]) infoExprS rfl rfl rfl rfl HG1.out hroom rfl (by simp [Value.oneCell']) ?_; intro w2 hw2; have EW := Lib.hid hw2; clear hw2)
            obtain ⟨cur2, h1, h2⟩ := setCells_sized (vs := [.int .i64 99, .int .i64 0, .int .i64 j, .string ⟨#[115, 112, 111, 105, 108, 116]⟩, .int .i64 0, .int .i64 0, .bool false, .bool false, .int .i64 0, .int .i64 0, .bool false, .bool false, .int .i64 0, .slice none 0 0]) HG1.out hroom
            rw [← EW.out] at h1
            have BX2 : w2.heap[w.heap.size]? = some (.cells #[.int .i64 nd.kind, .int .i64 nd.op, .int .i64 nd.num, .string ⟨nd.text.toArray⟩, .int .i64 nd.ref.row, .int .i64 nd.ref.col, .bool nd.ref.pr, .bool nd.ref.pc, .int .i64 nd.to.row, .int .i64 nd.to.col, .bool nd.to.pr, .bool nd.to.pc, .int .i64 nd.fn, .slice (some ⟨g, 0, none⟩) kl cap] 30 (0, 0)) := by rw [EW.out]; exact (setCells_other (by omega) _ _ _).trans HBX.out
            have SP2 : Spd (g :: F') w w2 := by rw [EW.out]; exact HSP.out.cells (.inl (by simp)) _ _
            exact ⟨⟨j + 1, cur2, by go_num, by omega, h1, by rw [h2, HG2.out], BX2, Lib.hid SP2⟩, by simp [intOf]; omega⟩
          · go_wp2_with fail
            clear c0
            go_loopw [4] (fun l wr => Sp3 kl (g :: F') w wr l) (fun l _ => kl + 5000 - lenOf l)
            case atStart =>
              refine ⟨some ⟨g, 0, none⟩, kl, cap, cur.toList.take (kl * 14), rfl, Nat.le_refl _, by omega, Lib.hid ⟨by rw [List.length_take, Array.length_toList, HG2.out]; omega, .inr ⟨g, cap, cur, rfl, Nat.zero_le _, HG1.out, hcl, ?_, HG2.out, rfl⟩⟩, Lib.hid (fun b hb => ?_), HSP⟩
              · have : maxLen = 9223372036854775807 := rfl
                omega
              · simp [Value.ownBlock] at hb; exact .inl (by simp [hb])
            case round =>
              obtain ⟨la, m, lc, cs3, rfl, hm1, hm2, HOW, HOB, HSP3⟩ := hrel
              have hmx : (m : Int) ≤ 105000 := by omega
              by_cases hmc : (m : Int) < (cap : Int)
              · go_wp2_with (at_builtin; refine wpList_append_own_at _ rfl _ _ 22 rfl 0 30 i0 _ 14 120 Tryd.underlying22 hi hz0 hz1 hz2 rfl (by decide) (.slice la m lc) m cs3 rfl (HOW.out.alloc _) ⟨wr.heap.size, 0, none⟩ 1 1 [.int .i64 98, .int .i64 0, .int .i64 0, .string ⟨#[103, 114, 111, 119, 110]⟩, .int .i64 0, .int .i64 0, .bool false, .bool false, .int .i64 0, .int .i64 0, .bool false, .bool false, .int .i64 0, .slice none 0 0] rfl rfl (World.news_of_block (heap_alloc_new wr _)) (by simp [Value.oneCell']) (by unfold maxLen; omega) (by omega) (Nat.zero_le _) ?_)
                intro v' w4 hown4 hgrow _ hloc
                obtain ⟨la', lc', rfl⟩ : ∃ a c, v' = .slice a (m + 1) c := (slot_of hown4).slice
                have h4 : Spd (g :: F') w (wr.alloc (.cells #[.int .i64 98, .int .i64 0, .int .i64 0, .string ⟨#[103, 114, 111, 119, 110]⟩, .int .i64 0, .int .i64 0, .bool false, .bool false, .int .i64 0, .int .i64 0, .bool false, .bool false, .int .i64 0, .slice none 0 0] 30)) := HSP3.out.ext ((Below.refl _ wr).alloc (Nat.le_refl _) _)
                have SP4 := Lib.hid (h4.grown hgrow HOB.out)
                have hob : ∀ b, (Value.slice la' (m + 1) lc').ownBlock = some b → b ∈ g :: F' ∨ w.heap.size ≤ b := fun b hb => by
                  rcases hloc with q | q
                  · exact HOB.out b (q.symm.trans hb)
                  · rw [q] at hb; injection hb with hb; have := HSP3.out.size; exact .inr (by omega)
                have HOB4 := Lib.hid hob; have HOW4 := Lib.hid hown4
                clear hown4 hgrow hloc h4 hob
                go_wp2
                exact ⟨⟨la', m + 1, lc', _, rfl, by omega, by omega, HOW4, HOB4, SP4⟩, by simp [lenOf]; omega⟩
              · go_wp2
                go_end0
                exact ⟨rfl, HSP3.out⟩
theorem spoil_step (nd : Hd) (ks : Trees) (ih : AllT RSp ks) : RSp nd ks := by
  intro w F ka kl kc ho hn hF hk
  obtain ⟨cs, G, F', s, oc, rfl⟩ := ho
  rcases s.2 with ⟨e, h0, e3⟩ | ⟨g, cap, cur, e, h0, h1, h2, h3, h4, h5⟩
  · simp only [Value.slice.injEq] at e
    obtain ⟨rfl, rfl, rfl⟩ := e
    obtain rfl := trees_nil h0
    obtain ⟨rfl, rfl⟩ := oc
    subst e3
    exact spoil_nil nd w
  · simp only [Value.slice.injEq] at e
    obtain ⟨rfl, rfl, rfl⟩ := e
    subst h5
    exact spoil_some nd ks ih w g ks.len kc cs F' rfl s oc hn hF hk
theorem spoil_any (h : Hd) (ks : Trees) : RSp h ks := spoil_step h ks (allT spoil_step ks)
end Go.Proofs.YtnhgeojcelegbaaDoor

namespace Go.Proofs.YtnhgeojcelegbaaDoor
open Go.RowKit

/-- Two blocks that a function makes first. -/
structure BxL (w : World) (A C : Obj) (W : World) : Prop where
  bel : Below w.heap.size w W
  b0 : W.heap[w.heap.size]? = some A
  b1 : W.heap[w.heap.size + 1]? = some C
theorem BxL.lt {w W : World} {A C : Obj} (p : BxL w A C W) : w.heap.size + 1 < W.heap.size := lt_of_block p.b1
theorem BxL.new (w : World) (A C : Obj) : BxL w A C ((w.alloc A).alloc C) := ⟨ext_alloc (ext_alloc (Below.refl _ w) A) C, heap_alloc2_old w A C, heap_alloc2_new w A C⟩
theorem BxL.keep {w W W' : World} {A C : Obj} (p : BxL w A C W) (b : Below (w.heap.size + 2) W W') : BxL w A C W' :=
  ⟨p.bel.trans (b.mono (by omega)), (b.block _ (by omega)).trans p.b0, (b.block _ (by omega)).trans p.b1⟩
def markL (n : Nat) : List Value := [.int .i64 (-7), .int .i64 0, .int .i64 n, .string ⟨#[]⟩, .int .i64 0, .int .i64 0, .bool false, .bool false, .int .i64 0, .int .i64 0, .bool false, .bool false, .int .i64 0, .slice none 0 0]
/-- Behind a list of kids lies a mark. -/
def LMk (w : World) (ok : Nat → Prop) (ka : Option Addr) (kl kc : Nat) : Prop := ∃ g cur, ka = some ⟨g, 0, none⟩ ∧ ok g ∧ kl < kc ∧ kc ≤ 9223372036854775807 ∧ w.heap[g]? = some (.cells cur 30 (0, 0)) ∧ cur.size = kc * 14 ∧ ∀ i x, (markL kl)[i]? = some x → cur[kl * 14 + i]? = some x
/-- A row of trees, a mark behind each of their lists. -/
def LRow (w : World) (ok : Nat → Prop) : Trees → Option Addr → Nat → Prop
  | .nil, _, _ => True
  | .cons h ks rest, a, i => (∃ b off ka kl kc, a = some ⟨b, off, none⟩ ∧ ok b ∧ NodeAt w b (off + i * 14) h (.slice ka kl kc) ∧ kl = ks.len ∧ kl ≤ 9223372036854775807 ∧ h.ok ∧ LMk w ok ka kl kc ∧ LRow w ok ks ka 0) ∧ LRow w ok rest a (i + 1)
theorem LMk.kept {w w' : World} {ok ok' : Nat → Prop} (hk : ∀ b, ok b → ok' b ∧ w'.heap[b]? = w.heap[b]?) {ka : Option Addr} {kl kc : Nat} (m : LMk w ok ka kl kc) : LMk w' ok' ka kl kc := by
  obtain ⟨g, cur, e, og, h1, h2, h3, h4, h5⟩ := m
  exact ⟨g, cur, e, (hk g og).1, h1, h2, (hk g og).2.trans h3, h4, h5⟩
theorem LRow.kept {w w' : World} {ok ok' : Nat → Prop} (hk : ∀ b, ok b → ok' b ∧ w'.heap[b]? = w.heap[b]?) : ∀ {ts : Trees} {a : Option Addr} {i : Nat}, LRow w ok ts a i → LRow w' ok' ts a i
  | .nil, _, _, _ => trivial
  | .cons _ _ _, _, _, ⟨⟨b, off, ka, kl, kc, e, lt, n, l, m, o, mk, k⟩, r⟩ => ⟨⟨b, off, ka, kl, kc, e, (hk b lt).1, n.same (hk b lt).2, l, m, o, mk.kept hk, LRow.kept hk k⟩, LRow.kept hk r⟩
theorem LRow.plain {w : World} {ok : Nat → Prop} : ∀ {ts : Trees} {a : Option Addr} {i : Nat}, LRow w ok ts a i → RowX w ok ts a i
  | .nil, _, _, _ => trivial
  | .cons _ _ _, _, _, ⟨⟨b, off, ka, kl, kc, e, lt, n, l, m, o, _, k⟩, r⟩ => ⟨⟨b, off, ka, kl, kc, e, lt, n, l, m, o, LRow.plain k⟩, LRow.plain r⟩
structure LTree (w : World) (ok : Nat → Prop) (h : Hd) (ks : Trees) (ka : Option Addr) (kl kc : Nat) : Prop where
  len : kl = ks.len
  max : kl ≤ 9223372036854775807
  hok : h.ok
  mark : LMk w ok ka kl kc
  row : LRow w ok ks ka 0
theorem LTree.kept {w w' : World} {ok ok' : Nat → Prop} {h : Hd} {ks : Trees} {ka : Option Addr} {kl kc : Nat} (t : LTree w ok h ks ka kl kc) (hk : ∀ b, ok b → ok' b ∧ w'.heap[b]? = w.heap[b]?) : LTree w' ok' h ks ka kl kc := ⟨t.len, t.max, t.hok, t.mark.kept hk, t.row.kept hk⟩
theorem LTree.plain {w : World} {ok : Nat → Prop} {h : Hd} {ks : Trees} {ka : Option Addr} {kl kc : Nat} (t : LTree w ok h ks ka kl kc) : TreeX w ok h ks ka kl := ⟨t.len, t.max, t.hok, t.row.plain⟩
/-- Cells that hold a list of such trees. -/
def LdM (w : World) (ok : Nat → Prop) : Trees → List Value → Prop
  | .nil, cs => cs = []
  | .cons h k r, cs => ∃ ka kl kc cs', cs = h.vals (.slice ka kl kc) ++ cs' ∧ LTree w ok h k ka kl kc ∧ LdM w ok r cs'
theorem LdM.kept {w w' : World} {ok ok' : Nat → Prop} (hk : ∀ b, ok b → ok' b ∧ w'.heap[b]? = w.heap[b]?) : ∀ {ts : Trees} {cs : List Value}, LdM w ok ts cs → LdM w' ok' ts cs
  | .nil, _, h => h
  | .cons _ _ _, _, ⟨ka, kl, kc, cs', e, t, r⟩ => ⟨ka, kl, kc, cs', e, t.kept hk, LdM.kept hk r⟩
theorem LdM.snoc {w : World} {ok : Nat → Prop} {h : Hd} {k : Trees} {ka : Option Addr} {kl kc : Nat} (t : LTree w ok h k ka kl kc) : ∀ {ts : Trees} {cs : List Value}, LdM w ok ts cs → LdM w ok (ts.app (.cons h k .nil)) (cs ++ h.vals (.slice ka kl kc))
  | .nil, _, e => by subst e; exact ⟨ka, kl, kc, [], by simp, t, rfl⟩
  | .cons _ _ _, _, ⟨ka', kl', kc', cs', e, t', r⟩ => ⟨ka', kl', kc', cs' ++ h.vals (.slice ka kl kc), by rw [e, List.append_assoc], t', LdM.snoc t r⟩
theorem LdM.row {w : World} {ok : Nat → Prop} {g : Nat} {cur : Array Value} {T : TypeId} (hg : w.heap[g]? = some (.cells cur T (0, 0))) (og : ok g) : ∀ {ts : Trees} {cs : List Value} (i : Nat) (pre post : List Value), LdM w ok ts cs → cur.toList = pre ++ (cs ++ post) → pre.length = i * 14 → LRow w ok ts (some ⟨g, 0, none⟩) i
  | .nil, _, _, _, _, _, _, _ => trivial
  | .cons h k r, cs, i, pre, post, ⟨ka, kl, kc, cs', e, t, q⟩, hc, hp => by
    subst e
    refine ⟨⟨g, 0, ka, kl, kc, rfl, og, node_in i hg pre (cs' ++ post) (by rw [hc, List.append_assoc]) hp, t.len, t.max, t.hok, t.mark, t.row⟩, LdM.row hg og (i + 1) (pre ++ h.vals (.slice ka kl kc)) post q (by rw [hc]; simp only [List.append_assoc]) (by rw [List.length_append, Hd.vals_len, hp]; omega)⟩
/-- A list and the mark behind it. -/
theorem LdM.tree {w : World} {ok : Nat → Prop} {base n : Nat} {ts : Trees} {cs : List Value} {l : Value} {h : Hd} {F : List Nat} (hn : n = ts.len) (o : w.ownsRow base 30 14 l (n + 1) (cs ++ markL n)) (og : ∀ g, l.ownBlock = some g → ok g) (r : LdM w ok ts cs) (oc : OwnCells w ts cs F) (hok : h.ok) :
    ∃ g c, l = .slice (some ⟨g, 0, none⟩) (n + 1) c ∧ n < c ∧ c ≤ 9223372036854775807 ∧ LTree w ok h ts (some ⟨g, 0, none⟩) n c ∧ OwnV w ts (.slice (some ⟨g, 0, none⟩) n c) (g :: F) := by
  have hc : cs.length = n * 14 := by rw [oc.length, hn]
  rcases o.2 with ⟨_, e2⟩ | ⟨g, cap, cur, e1, -, hb, h1, h2, h3, h4⟩
  · omega
  · subst e1
    have hm : maxLen = 9223372036854775807 := rfl
    have hl : cur.toList = (cs ++ markL n) ++ cur.toList.drop ((n + 1) * 14) := by rw [← h4, List.take_append_drop]
    refine ⟨g, cap, rfl, by omega, by omega, ⟨hn, by omega, hok, ⟨g, cur, rfl, og g rfl, by omega, by omega, hb, h3, fun i x hx => ?_⟩, ?_⟩, ⟨cs, [g], F, ⟨by rw [hc, hn], .inr ⟨g, cap, cur, by rw [hn], hb, by omega, h2, h3, ?_, rfl⟩⟩, oc, rfl⟩⟩
    · have hi : i < 14 := by rcases Nat.lt_or_ge i 14 with q | q; exact q; rw [List.getElem?_eq_none (by simpa [markL] using q)] at hx; cases hx
      rw [← Array.getElem?_toList, hl, List.append_assoc, List.getElem?_append_right (by omega), hc, Nat.add_sub_cancel_left, List.getElem?_append_left (by simpa [markL] using hi)]
      exact hx
    · exact LdM.row hb (og g rfl) 0 [] (markL n ++ cur.toList.drop ((n + 1) * 14)) r (by rw [List.nil_append, ← List.append_assoc]; exact hl) rfl
    · rw [hl, List.append_assoc, ← hn, ← hc, List.take_left']
      rfl

def RLay (h : Hd) (ks : Trees) : Prop := ∀ (w : World) (B : Nat) (ka : Option Addr) (kl kc : Nat), B ≤ w.heap.size → TreeV w B h ks ka kl → ks.nodes ≤ 100000 →
  Calls Tryd.prog 14 #[.agg #[.int .i64 h.kind, .int .i64 h.op, .int .i64 h.num, .string ⟨h.text.toArray⟩, .int .i64 h.ref.row, .int .i64 h.ref.col, .bool h.ref.pr, .bool h.ref.pc, .int .i64 h.to.row, .int .i64 h.to.col, .bool h.to.pr, .bool h.to.pc, .int .i64 h.fn, .slice ka kl kc]] w fun e w' => ∃ xa xl xc F, e = .returned (.agg #[.int .i64 h.kind, .int .i64 h.op, .int .i64 h.num, .string ⟨h.text.toArray⟩, .int .i64 h.ref.row, .int .i64 h.ref.col, .bool h.ref.pr, .bool h.ref.pc, .int .i64 h.to.row, .int .i64 h.to.col, .bool h.to.pr, .bool h.to.pc, .int .i64 h.fn, .slice xa xl xc]) ∧ Below w.heap.size w w' ∧ Fresh w' w.heap.size ks (.slice xa xl xc) F ∧ LTree w' (fun b => w.heap.size ≤ b ∧ b < w'.heap.size) h ks xa xl xc
def OkLy (w : World) (l : Value) (W : World) (b : Nat) : Prop := b < W.heap.size ∧ l.ownBlock ≠ some b ∧ w.heap.size + 2 ≤ b
def LyRel (nd : Hd) (ks : Trees) (kl kc B : Nat) (ka : Option Addr) (w wr : World) (l i : Value) : Prop :=
  ∃ (j : Nat) (dn rest : Trees) (cs : List Value) (F : List Nat), i = .int .i64 j ∧ j = dn.len ∧ dn.app rest = ks ∧ RowIn wr B rest ka j ∧ AllT RLay rest ∧ rest.nodes ≤ 100000 ∧ Hid (BxL w (.cells #[.int .i64 nd.kind, .int .i64 nd.op, .int .i64 nd.num, .string ⟨nd.text.toArray⟩, .int .i64 nd.ref.row, .int .i64 nd.ref.col, .bool nd.ref.pr, .bool nd.ref.pc, .int .i64 nd.to.row, .int .i64 nd.to.col, .bool nd.to.pr, .bool nd.to.pc, .int .i64 nd.fn, .slice ka kl kc] 30) (.cells #[.int .i64 0, .int .i64 0, .int .i64 0, .string ⟨#[]⟩, .int .i64 0, .int .i64 0, .bool false, .bool false, .int .i64 0, .int .i64 0, .bool false, .bool false, .int .i64 0, .slice none 0 0] 30) wr) ∧ Hid (wr.ownsRow (w.heap.size + 2) 30 14 l dn.len cs) ∧ Hid (LdM wr (OkLy w l wr) dn cs) ∧ Hid (OwnCells wr dn cs F) ∧ Hid ((ownList l ++ F).Nodup ∧ (∀ b ∈ ownList l ++ F, w.heap.size + 2 ≤ b) ∧ ∀ b ∈ ownList l ++ F, b < wr.heap.size)

set_option maxRecDepth 100000 in
set_option maxHeartbeats 4000000 in
theorem lay_step (nd : Hd) (ks : Trees) (ih : AllT RLay ks) : RLay nd ks := by
  intro w B ka kl kc hB tv hn
  have hm := tv.max
  obtain ⟨i0, hi, hz0, hz1, hz2⟩ := info_parts infoExpr
  have hkl : kl ≤ 100000 := by rw [tv.len]; exact Nat.le_trans (len_le_nodes ks) hn
  have P0 := Lib.hid (BxL.new w (.cells #[.int .i64 nd.kind, .int .i64 nd.op, .int .i64 nd.num, .string ⟨nd.text.toArray⟩, .int .i64 nd.ref.row, .int .i64 nd.ref.col, .bool nd.ref.pr, .bool nd.ref.pc, .int .i64 nd.to.row, .int .i64 nd.to.col, .bool nd.to.pr, .bool nd.to.pc, .int .i64 nd.fn, .slice ka kl kc] 30) (.cells #[.int .i64 0, .int .i64 0, .int .i64 0, .string ⟨#[]⟩, .int .i64 0, .int .i64 0, .bool false, .bool false, .int .i64 0, .int .i64 0, .bool false, .bool false, .int .i64 0, .slice none 0 0] 30))
  have HI := Lib.hid ih; have HT := Lib.hid tv; have HN := Lib.hid hn
  clear ih tv hn
  go_enter Tryd.func14, Tryd.ntmps14
  go_wp2_with (at_make; refine wpList_make_own _ rfl _ _ 22 rfl (w.heap.size + 2) 30 i0 _ 14 Tryd.underlying22 hi hz0 hz1 .i64 .i64 _ (kl + 1) rfl rfl (by go_num) (by rw [hz2]; omega) (by unfold maxLen; omega) (by simp) ?_)
  intro w1 hown1 hgrow1
  have b1 : Below (w.heap.size + 2) ((w.alloc (.cells #[.int .i64 nd.kind, .int .i64 nd.op, .int .i64 nd.num, .string ⟨nd.text.toArray⟩, .int .i64 nd.ref.row, .int .i64 nd.ref.col, .bool nd.ref.pr, .bool nd.ref.pc, .int .i64 nd.to.row, .int .i64 nd.to.col, .bool nd.to.pr, .bool nd.to.pc, .int .i64 nd.fn, .slice ka kl kc] 30)).alloc (.cells #[.int .i64 0, .int .i64 0, .int .i64 0, .string ⟨#[]⟩, .int .i64 0, .int .i64 0, .bool false, .bool false, .int .i64 0, .int .i64 0, .bool false, .bool false, .int .i64 0, .slice none 0 0] 30)) w1 := (Below.refl _ _).grown hgrow1 (by simp) (by simp)
  have P1 := Lib.hid (P0.out.keep b1)
  have c0 := cells_of_block P1.out.b0
  have OW1 := Lib.hid hown1
  clear hown1 hgrow1 b1
  go_wp2_with fail
  clear c0
  go_loopw [3, 4] (fun l i wr => LyRel nd ks kl kc B ka w wr l i) (fun _ i _ => kl - (intOf i).toNat)
  case atStart =>
    exact ⟨0, .nil, ks, [], [], rfl, rfl, rfl, HT.out.row.kept (P1.out.bel.mono hB) (Nat.le_refl _), HI.out, HN.out, P1, OW1, Lib.hid rfl, Lib.hid ⟨rfl, rfl⟩, Lib.hid ⟨by unfold ownList; split <;> simp, fun b hb => (OW1.out.lt b (mem_ownList.1 (by simpa using hb))).1, fun b hb => (OW1.out.lt b (mem_ownList.1 (by simpa using hb))).2⟩⟩
  case round =>
    obtain ⟨j, dn, rest, cs, F, rfl, hj, happ, hrow, hall, hno, HP, HOW, HRD, HOC, HFF⟩ := hrel
    have hlen : kl = j + rest.len := by rw [HT.out.len, ← happ, Trees.app_len, hj]
    have c0 := cells_of_block HP.out.b0
    have hlt3 := HP.out.lt
    by_cases hlt : j < kl
    · obtain ⟨h', k', r', rfl⟩ := trees_cons (rest := rest) (by omega)
      obtain ⟨b1, off, ka', kl', kc', rfl, hb1, N1, tv1⟩ := hrow.head
      have hl1 := N1.1
      have RG := Lib.hid (show wr.rangeAt b1 (off + j * 14) [.int .i64 h'.kind, .int .i64 h'.op, .int .i64 h'.num, .string ⟨h'.text.toArray⟩, .int .i64 h'.ref.row, .int .i64 h'.ref.col, .bool h'.ref.pr, .bool h'.ref.pc, .int .i64 h'.to.row, .int .i64 h'.to.col, .bool h'.to.pr, .bool h'.to.pc, .int .i64 h'.fn, .slice ka' kl' kc'] from fun q x hx => N1.2 q x hx)
      have hno1 : k'.nodes ≤ 100000 := by simp only [Trees.nodes] at hno; omega
      have hno2 : r'.nodes ≤ 100000 := by simp only [Trees.nodes] at hno; omega
      have CA := Lib.hid (hall.1 wr B ka' kl' kc' (by omega) tv1 hno1)
      have HA := Lib.hid happ; have HJ := Lib.hid hj; have HLen := Lib.hid hlen; have HAll := Lib.hid hall.2; have HRow := Lib.hid hrow.2
      have hji : (j : Int) < (kl : Int) := by omega
      have hj0 : (0 : Int) ≤ (j : Int) := by omega
      have hdl : dn.len ≤ 100000 := by omega
      have OKH := Lib.hid tv1.ok
      clear happ hj hlen hall hrow tv1 N1 hno hno1
      go_wp2_with (refine wpList_load_rng (N := b1) (off := off + j * 14) (vs := [.int .i64 h'.kind, .int .i64 h'.op, .int .i64 h'.num, .string ⟨h'.text.toArray⟩, .int .i64 h'.ref.row, .int .i64 h'.ref.col, .bool h'.ref.pr, .bool h'.ref.pc, .int .i64 h'.to.row, .int .i64 h'.to.col, .bool h'.to.pr, .bool h'.to.pc, .int .i64 h'.fn, .slice ka' kl' kc']) rfl rfl rfl RG.out rfl ?_)
      refine CA.out.mono ?_
      rintro e w2 ⟨xa, xl, xc, F2, rfl, b2, f2, x2⟩
      have hs2 := b2.size
      have own3 : w2.ownsRow (w.heap.size + 2) 30 14 u3 dn.len cs := ((slot_of HOW.out).kept fun b hb => b2.block b (HOW.out.lt b (mem_ownList.1 hb)).2).owns fun b hb => (HOW.out.lt b (mem_ownList.1 hb)).1
      have B2 := Lib.hid b2; have X2 := Lib.hid x2; have FF2 := Lib.hid f2
      clear b2 x2 f2 c0 CA
      go_wp2_with (at_builtin; refine wpList_append_own_at _ rfl _ _ 22 rfl (w.heap.size + 2) 30 i0 _ 14 120 Tryd.underlying22 hi hz0 hz1 hz2 rfl (by decide) u3 dn.len cs rfl (own3.alloc _) ⟨w2.heap.size, 0, none⟩ 1 1 (Hd.vals h' (.slice xa xl xc)) rfl rfl (World.news_of_block (heap_alloc_new w2 _)) (by simp [Value.oneCell', Hd.vals]) (by unfold maxLen; omega) (by omega) (by simp; omega) ?_)
      intro v' w4 hown4 hgrow _ hloc
      have hl : ∀ k, u3.ownBlock = some k → w.heap.size + 2 ≤ k ∧ k < wr.heap.size := fun k hk => HOW.out.lt k hk
      have b4 : Below (w.heap.size + 2) wr w4 := ((B2.out.mono (by omega)).alloc (by omega) _).grown hgrow (by simp; omega) (fun k hk => (hl k hk).1)
      have s4 : w2.heap.size + 1 ≤ w4.heap.size := by have := hgrow.size; simpa using this
      have hloc' : v'.ownBlock = u3.ownBlock ∨ v'.ownBlock = some (w2.heap.size + 1) := by simpa using hloc
      have hnb : ∀ b, b < w2.heap.size → v'.ownBlock = some b → u3.ownBlock = some b := fun b hb e => by
        rcases hloc' with q | q
        · rw [q] at e; exact e
        · rw [q] at e; injection e with e; omega
      have same : ∀ b, b < w2.heap.size → u3.ownBlock ≠ some b → w4.heap[b]? = w2.heap[b]? := fun b hb hne => (hgrow.block b (by simp; omega) (fun e => hne e.symm)).trans (Below.heap_alloc _ _ _ hb)
      have r4 : LdM w4 (OkLy w v' w4) (dn.app (.cons h' k' .nil)) (cs ++ (Hd.vals h' (.slice xa xl xc))) := by
        refine LdM.snoc (X2.out.kept fun b hb => ?_) (HRD.out.kept fun b hb => ?_)
        · have hne : u3.ownBlock ≠ some b := fun e => by have := hl b e; omega
          exact ⟨⟨by omega, fun e => hne (hnb b (by omega) e), by omega⟩, same b (by omega) hne⟩
        · obtain ⟨q1, q2, q3⟩ := hb
          exact ⟨⟨by omega, fun e => q2 (hnb b (by omega) e), q3⟩, (same b (by omega) q2).trans (B2.out.block b q1)⟩
      have fr4 := Fresh.step HOC.out HFF.out.1 HFF.out.2.1 HFF.out.2.2 B2.out FF2.out OKH.out (by omega) hgrow (by simpa using hown4) hloc'
      have oc4 : OwnCells w4 (dn.app (.cons h' k' .nil)) (cs ++ (Hd.vals h' (.slice xa xl xc))) (F ++ F2) := by
        refine OwnCells.snoc (HOC.out.kept fun b hb => ?_) OKH.out (FF2.out.own.kept fun b hb => ?_)
        · have q1 := HFF.out.2.2 b (by simp [hb])
          have q2 : u3.ownBlock ≠ some b := fun e => (List.nodup_append.1 HFF.out.1).2.2 b (mem_ownList.2 e) b hb rfl
          exact (same b (by omega) q2).trans (B2.out.block b q1)
        · exact same b (FF2.out.lt b hb) (fun e => by have := (hl b e).2; have := FF2.out.new b hb; omega)
      have R4 := Lib.hid r4; have OC4 := Lib.hid oc4
      have NF4 := Lib.hid (And.intro fr4.once (And.intro fr4.new fr4.lt))
      have ROW4 := Lib.hid (HRow.out.kept (b4.mono (by omega)) (Nat.le_refl _))
      have P4 := Lib.hid (HP.out.keep b4)
      have own4 : w4.ownsRow (w.heap.size + 2) 30 14 v' (dn.app (.cons h' k' .nil)).len (cs ++ (Hd.vals h' (.slice xa xl xc))) := by rw [Trees.app_len]; exact hown4
      have OWN4 := Lib.hid own4
      clear own4 hown4 hgrow hloc hloc' hnb same r4 oc4 fr4 own3 b4 hl
      go_wp2
      exact ⟨⟨j + 1, dn.app (.cons h' k' .nil), r', _, _, by go_num, by rw [Trees.app_len, HJ.out]; rfl, by rw [Trees.app_cons]; exact HA.out, ROW4.out, HAll.out, hno2, P4, OWN4, R4, OC4, NF4⟩, by simp [intOf]; have := HLen.out; simp only [Trees.len] at this; omega⟩
    · have hz : rest.len = 0 := by omega
      obtain rfl := trees_nil hz
      rw [Trees.app_nil] at happ
      subst happ
      obtain ⟨la, lc, rfl⟩ : ∃ a c, u3 = .slice a dn.len c := (slot_of HOW.out).slice
      have hdl : dn.len ≤ 100000 := by omega
      clear hrow hall hj hlen
      go_wp2_with (at_builtin; refine wpList_append_own_at _ rfl _ _ 22 rfl (w.heap.size + 2) 30 i0 _ 14 120 Tryd.underlying22 hi hz0 hz1 hz2 rfl (by decide) (.slice la dn.len lc) dn.len cs rfl (HOW.out.alloc _) ⟨wr.heap.size, 0, none⟩ 1 1 (markL dn.len) rfl rfl (World.news_of_block (heap_alloc_new wr _)) (by simp [Value.oneCell', markL]) (by unfold maxLen; omega) (by omega) (by simp; omega) ?_)
      intro v' w4 hown4 hgrow _ hloc
      have hl : ∀ k, (Value.slice la dn.len lc).ownBlock = some k → w.heap.size + 2 ≤ k ∧ k < wr.heap.size := fun k hk => HOW.out.lt k hk
      have b4 : Below (w.heap.size + 2) wr w4 := ((Below.refl _ wr).alloc (by omega) _).grown hgrow (by simp; omega) (fun k hk => (hl k hk).1)
      have s4 : wr.heap.size + 1 ≤ w4.heap.size := by have := hgrow.size; simpa using this
      have hloc' : v'.ownBlock = (Value.slice la dn.len lc).ownBlock ∨ v'.ownBlock = some (wr.heap.size + 1) := by simpa using hloc
      have same : ∀ b, b < wr.heap.size → (Value.slice la dn.len lc).ownBlock ≠ some b → w4.heap[b]? = wr.heap[b]? := fun b hb hne => (hgrow.block b (by simp; omega) (fun e => hne e.symm)).trans (Below.heap_alloc _ _ _ hb)
      have r4 : LdM w4 (fun b => w.heap.size + 2 ≤ b ∧ b < w4.heap.size) dn cs := HRD.out.kept fun b hb => ⟨⟨hb.2.2, by have := hb.1; omega⟩, same b hb.1 hb.2.1⟩
      have hq : ∀ b ∈ F, (Value.slice la dn.len lc).ownBlock ≠ some b := fun b hb e => (List.nodup_append.1 HFF.out.1).2.2 b (mem_ownList.2 e) b hb rfl
      have oc4 : OwnCells w4 dn cs F := HOC.out.kept fun b hb => same b (HFF.out.2.2 b (by simp [hb])) (hq b hb)
      have hvb := fun b (hb : v'.ownBlock = some b) => hown4.lt b hb
      obtain ⟨g, cp, rfl, hcp, hcm, mt, ov⟩ := LdM.tree (h := nd) rfl hown4 (fun g hg => hown4.lt g hg) r4 oc4 HT.out.ok
      have hg : w.heap.size + 2 ≤ g ∧ g < w4.heap.size := hvb g rfl
      have fr4 : Fresh w4 (w.heap.size + 2) dn (.slice (some ⟨g, 0, none⟩) dn.len cp) (g :: F) := by
        refine ⟨ov, List.nodup_cons.2 ⟨fun hm => ?_, (List.nodup_append.1 HFF.out.1).2.1⟩, fun b hb => ?_, fun b hb => ?_⟩
        · have := HFF.out.2.2 g (by simp [hm])
          rcases hloc' with q | q
          · exact hq g hm q.symm
          · simp [Value.ownBlock] at q; omega
        · rcases List.mem_cons.1 hb with q | q
          · subst q; exact hg.1
          · exact HFF.out.2.1 b (by simp [q])
        · rcases List.mem_cons.1 hb with q | q
          · subst q; exact hg.2
          · have := HFF.out.2.2 b (by simp [q]); omega
      have P4 := Lib.hid (HP.out.keep b4)
      have c0 := cells_of_block P4.out.b0
      have c1 := cells_of_block P4.out.b1
      have f0 := frees_of_block P4.out.b0
      have f1 := frees_of_block P4.out.b1
      have hlt4 := P4.out.lt
      have T5 := Lib.hid mt; have F5 := Lib.hid fr4
      clear hown4 hgrow hloc hloc' same r4 oc4 b4 hl mt ov fr4 s4 hq hvb
      go_wp2
      refine bodyPost_ret (v := .agg #[.int .i64 nd.kind, .int .i64 nd.op, .int .i64 nd.num, .string ⟨nd.text.toArray⟩, .int .i64 nd.ref.row, .int .i64 nd.ref.col, .bool nd.ref.pr, .bool nd.ref.pc, .int .i64 nd.to.row, .int .i64 nd.to.col, .bool nd.to.pr, .bool nd.to.pc, .int .i64 nd.fn, .slice (some ⟨g, 0, none⟩) dn.len cp]) (by simp [results, Tryd.results14, go_sem, c1]) rfl ?_
      refine ⟨_, dn.len, cp, g :: F, rfl, ?_, ?_, ?_⟩
      · repeat (refine Below.setCell ?_ (by simp; try omega) _)
        exact P4.out.bel
      · refine ⟨F5.out.own.kept fun b hb => ?_, F5.out.once, fun b hb => by have := F5.out.new b hb; omega, fun b hb => by simpa [World.setCell] using F5.out.lt b hb⟩
        have := F5.out.new b hb
        repeat rw [Below.heap_setCell _ _ _ _ (by simp; omega)]
      · refine T5.out.kept fun b hb => ?_
        refine ⟨⟨by omega, by simpa [World.setCell] using hb.2⟩, ?_⟩
        repeat rw [Below.heap_setCell _ _ _ _ (by simp; omega)]
theorem lay_any (h : Hd) (ks : Trees) : RLay h ks := lay_step h ks (allT lay_step ks)
end Go.Proofs.YtnhgeojcelegbaaDoor

namespace Go.Proofs.YtnhgeojcelegbaaDoor
open Go.RowKit

@[go_sem ↓ high] theorem run_neq_ref (a b : Int) (c d : Bool) (a' b' : Int) (c' d' : Bool) (w : World) :
    (binOp .neq 28 (.agg #[.int .i64 a, .int .i64 b, .bool c, .bool d]) (.agg #[.int .i64 a', .int .i64 b', .bool c', .bool d'])).run Tryd.prog w = .ok (.bool (!refEq a b c d a' b' c' d')) w := by
  by_cases h1 : a = a' <;> by_cases h2 : b = b' <;> by_cases h3 : c = c' <;> by_cases h4 : d = d' <;> simp [go_sem, refEq, h1, h2, h3, h4]

def sameB (h h' : Hd) (ks ks' : Trees) : Bool := decide (h = h' ∧ ks = ks')
def EqPost (h h' : Hd) (ks ks' : Trees) (w : World) (e : Ending) (w' : World) : Prop := e = .returned (.bool (sameB h h' ks ks')) ∧ Below w.heap.size w w'
def REq (h : Hd) (ks : Trees) : Prop := ∀ (h' : Hd) (ks' : Trees) (w : World) (B B' : Nat) (ka ka' : Option Addr) (kl kc kl' kc' : Nat), B ≤ w.heap.size → B' ≤ w.heap.size → TreeV w B h ks ka kl → TreeV w B' h' ks' ka' kl' →
  Calls Tryd.prog 46 #[.agg #[.int .i64 h.kind, .int .i64 h.op, .int .i64 h.num, .string ⟨h.text.toArray⟩, .int .i64 h.ref.row, .int .i64 h.ref.col, .bool h.ref.pr, .bool h.ref.pc, .int .i64 h.to.row, .int .i64 h.to.col, .bool h.to.pr, .bool h.to.pc, .int .i64 h.fn, .slice ka kl kc], .agg #[.int .i64 h'.kind, .int .i64 h'.op, .int .i64 h'.num, .string ⟨h'.text.toArray⟩, .int .i64 h'.ref.row, .int .i64 h'.ref.col, .bool h'.ref.pr, .bool h'.ref.pc, .int .i64 h'.to.row, .int .i64 h'.to.col, .bool h'.to.pr, .bool h'.to.pc, .int .i64 h'.fn, .slice ka' kl' kc']] w (EqPost h h' ks ks' w)
def ERel (ks ks' : Trees) (kl B B' : Nat) (ka ka' : Option Addr) (w wr : World) (i : Value) : Prop :=
  ∃ (j : Nat) (rest rest' : Trees), i = .int .i64 j ∧ j + rest.len = kl ∧ rest'.len = rest.len ∧ RowIn wr B rest ka j ∧ RowIn wr B' rest' ka' j ∧ AllT REq rest ∧ Below w.heap.size w wr ∧ Hid (decide (rest = rest') = decide (ks = ks'))

set_option maxRecDepth 100000 in
set_option maxHeartbeats 4000000 in
theorem refEq_same (h : Hd) (ks : Trees) (ih : AllT REq ks) (ks' : Trees) (w : World) (B B' : Nat) (ka ka' : Option Addr) (kl kc kc' : Nat) (hB : B ≤ w.heap.size) (hB' : B' ≤ w.heap.size) (tv : TreeV w B h ks ka kl) (tv' : TreeV w B' h ks' ka' kl) :
    Calls Tryd.prog 46 #[.agg #[.int .i64 h.kind, .int .i64 h.op, .int .i64 h.num, .string ⟨h.text.toArray⟩, .int .i64 h.ref.row, .int .i64 h.ref.col, .bool h.ref.pr, .bool h.ref.pc, .int .i64 h.to.row, .int .i64 h.to.col, .bool h.to.pr, .bool h.to.pc, .int .i64 h.fn, .slice ka kl kc], .agg #[.int .i64 h.kind, .int .i64 h.op, .int .i64 h.num, .string ⟨h.text.toArray⟩, .int .i64 h.ref.row, .int .i64 h.ref.col, .bool h.ref.pr, .bool h.ref.pc, .int .i64 h.to.row, .int .i64 h.to.col, .bool h.to.pr, .bool h.to.pc, .int .i64 h.fn, .slice ka' kl kc']] w (EqPost h h ks ks' w) := by
  have hm := tv.max
  have HI := Lib.hid ih; clear ih
  have HT := Lib.hid tv; clear tv
  have HT' := Lib.hid tv'; clear tv'
  have hx : sameB h h ks ks' = decide (ks = ks') := by simp [sameB]
  have HX := Lib.hid hx; clear hx
  have hr : refEq h.ref.row h.ref.col h.ref.pr h.ref.pc h.ref.row h.ref.col h.ref.pr h.ref.pc = true := by simp [refEq]
  have hr' : refEq h.to.row h.to.col h.to.pr h.to.pc h.to.row h.to.col h.to.pr h.to.pc = true := by simp [refEq]
  go_enter Tryd.func46, Tryd.ntmps46
  go_wp2_with fail
  go_loopw [5] (fun i wr => ERel ks ks' kl B B' ka ka' ((w.alloc (.cells #[.int .i64 h.kind, .int .i64 h.op, .int .i64 h.num, .string ⟨h.text.toArray⟩, .int .i64 h.ref.row, .int .i64 h.ref.col, .bool h.ref.pr, .bool h.ref.pc, .int .i64 h.to.row, .int .i64 h.to.col, .bool h.to.pr, .bool h.to.pc, .int .i64 h.fn, .slice ka kl kc] 30)).alloc (.cells #[.int .i64 h.kind, .int .i64 h.op, .int .i64 h.num, .string ⟨h.text.toArray⟩, .int .i64 h.ref.row, .int .i64 h.ref.col, .bool h.ref.pr, .bool h.ref.pc, .int .i64 h.to.row, .int .i64 h.to.col, .bool h.to.pr, .bool h.to.pc, .int .i64 h.fn, .slice ka' kl kc'] 30)) wr i) (fun i _ => kl - (intOf i).toNat)
  case atStart =>
    have b0 := ((Below.refl _ w).alloc hB (.cells #[.int .i64 h.kind, .int .i64 h.op, .int .i64 h.num, .string ⟨h.text.toArray⟩, .int .i64 h.ref.row, .int .i64 h.ref.col, .bool h.ref.pr, .bool h.ref.pc, .int .i64 h.to.row, .int .i64 h.to.col, .bool h.to.pr, .bool h.to.pc, .int .i64 h.fn, .slice ka kl kc] 30)).alloc (by simp; omega) (.cells #[.int .i64 h.kind, .int .i64 h.op, .int .i64 h.num, .string ⟨h.text.toArray⟩, .int .i64 h.ref.row, .int .i64 h.ref.col, .bool h.ref.pr, .bool h.ref.pc, .int .i64 h.to.row, .int .i64 h.to.col, .bool h.to.pr, .bool h.to.pc, .int .i64 h.fn, .slice ka' kl kc'] 30)
    have b0' := ((Below.refl _ w).alloc hB' (.cells #[.int .i64 h.kind, .int .i64 h.op, .int .i64 h.num, .string ⟨h.text.toArray⟩, .int .i64 h.ref.row, .int .i64 h.ref.col, .bool h.ref.pr, .bool h.ref.pc, .int .i64 h.to.row, .int .i64 h.to.col, .bool h.to.pr, .bool h.to.pc, .int .i64 h.fn, .slice ka kl kc] 30)).alloc (by simp; omega) (.cells #[.int .i64 h.kind, .int .i64 h.op, .int .i64 h.num, .string ⟨h.text.toArray⟩, .int .i64 h.ref.row, .int .i64 h.ref.col, .bool h.ref.pr, .bool h.ref.pc, .int .i64 h.to.row, .int .i64 h.to.col, .bool h.to.pr, .bool h.to.pc, .int .i64 h.fn, .slice ka' kl kc'] 30)
    exact ⟨0, ks, ks', rfl, by have := HT.out.len; omega, by rw [← HT.out.len, ← HT'.out.len], HT.out.row.kept b0 (Nat.le_refl _), HT'.out.row.kept b0' (Nat.le_refl _), HI.out, Below.refl _ _, Lib.hid rfl⟩
  case round =>
    obtain ⟨j, rest, rest', rfl, hj, hlen, hrow, hrow', hall, hbel, H1⟩ := hrel
    obtain ⟨zb, cb, cb'⟩ := kept_block2 hbel
    have hsz : w.heap.size + 2 ≤ wr.heap.size := by omega
    by_cases hlt : j < kl
    · obtain ⟨h1, k1, r1, rfl⟩ := trees_cons (rest := rest) (by omega)
      obtain ⟨h2, k2, r2, rfl⟩ := trees_cons (rest := rest') (by omega)
      obtain ⟨b1, off1, ka1, kl1, kc1, rfl, hb1, N1, tv1⟩ := hrow.head
      obtain ⟨b2, off2, ka2, kl2, kc2, rfl, hb2, N2, tv2⟩ := hrow'.head
      obtain ⟨hl1, c0, c1, c2, c3, c4, c5, c6, c7, c8, c9, c10, c11, c12, c13, d5, d6, d7, d9, d10, d11⟩ := N1.facts
      clear d5 d6 d7 d9 d10 d11 N1
      obtain ⟨hl2, e0, e1, e2, e3, e4, e5, e6, e7, e8, e9, e10, e11, e12, e13, d5, d6, d7, d9, d10, d11⟩ := N2.facts
      clear d5 d6 d7 d9 d10 d11 N2
      have HT1 := Lib.hid tv1; clear tv1
      have HT2 := Lib.hid tv2; clear tv2
      have HC := Lib.hid (hall.1); have HA := Lib.hid hall.2; clear hall
      have HRow := Lib.hid hrow.2; clear hrow
      have HRow' := Lib.hid hrow'.2; clear hrow'
      have HJ := Lib.hid hj; clear hj
      have HLn := Lib.hid hlen; clear hlen
      go_wp2_with fail
      go_still_tail 10, (by kernel_rfl)
      change wpList _ _ _ _ _ wr.drew
      clear c0 c1 c2 c3 c4 c5 c6 c7 c8 c9 c10 c11 c12 c13 e0 e1 e2 e3 e4 e5 e6 e7 e8 e9 e10 e11 e12 e13
      go_wp2_with fail
      refine (HC.out h2 k2 _ B B' ka1 ka2 kl1 kc1 kl2 kc2 (by simp; omega) (by simp; omega) (HT1.out.kept ((Below.refl B _).drew) (Nat.le_refl _)) (HT2.out.kept ((Below.refl B' _).drew) (Nat.le_refl _))).mono ?_
      rintro e w2 ⟨rfl, b2'⟩
      have b3 : Below wr.heap.size wr w2 := ((Below.refl _ wr).drew).trans b2'
      clear b2'
      cases hq : sameB h1 h2 k1 k2
      · have hz : sameB h h ks ks' = false := by
          rw [HX.out, ← H1.out]
          simp only [sameB, decide_eq_false_iff_not] at hq ⊢
          intro e; apply hq; injection e with e1 e2 e3; exact ⟨e1, e2⟩
        have HZ := Lib.hid hz; clear hz hq
        go_wp2
        go_ret
        exact ⟨ret_bool HZ.out.symm, (ext_alloc (ext_alloc (Below.refl _ _) _) _).trans ((hbel.trans (b3.mono hbel.size)).mono (by simp; omega))⟩
      · have hz : decide (r1 = r2) = decide (ks = ks') := by
          rw [← H1.out]
          simp only [sameB, decide_eq_true_eq] at hq
          obtain ⟨rfl, rfl⟩ := hq
          simp
        have HZ := Lib.hid hz; clear hz hq
        go_wp2
        exact ⟨⟨j + 1, r1, r2, by go_num, by have := HJ.out; simp only [Trees.len] at this; omega, by have := HLn.out; simp only [Trees.len] at this; omega, HRow.out.kept b3 (by omega), HRow'.out.kept b3 (by omega), HA.out, hbel.trans (b3.mono hbel.size), HZ⟩, by simp [intOf]; omega⟩
    · have hz : rest.len = 0 := by omega
      have hz' : rest'.len = 0 := by omega
      obtain rfl := trees_nil hz
      obtain rfl := trees_nil hz'
      have hq := H1.out
      have HQ := Lib.hid hq
      clear hq H1 hlen
      go_wp2
      go_ret
      exact ⟨ret_bool (by rw [HX.out, ← HQ.out]; rfl), (ext_alloc (ext_alloc (Below.refl _ _) _) _).trans (hbel.mono (by simp; omega))⟩

set_option maxRecDepth 100000 in
set_option maxHeartbeats 4000000 in
theorem refEq_differs (h : Hd) (ks : Trees) (h' : Hd) (ks' : Trees) (w : World) (ka ka' : Option Addr) (kl kc kl' kc' : Nat) (hlen : kl = ks.len) (hlen' : kl' = ks'.len) (hne : ¬ (h = h' ∧ kl = kl')) :
    Calls Tryd.prog 46 #[.agg #[.int .i64 h.kind, .int .i64 h.op, .int .i64 h.num, .string ⟨h.text.toArray⟩, .int .i64 h.ref.row, .int .i64 h.ref.col, .bool h.ref.pr, .bool h.ref.pc, .int .i64 h.to.row, .int .i64 h.to.col, .bool h.to.pr, .bool h.to.pc, .int .i64 h.fn, .slice ka kl kc], .agg #[.int .i64 h'.kind, .int .i64 h'.op, .int .i64 h'.num, .string ⟨h'.text.toArray⟩, .int .i64 h'.ref.row, .int .i64 h'.ref.col, .bool h'.ref.pr, .bool h'.ref.pc, .int .i64 h'.to.row, .int .i64 h'.to.col, .bool h'.to.pr, .bool h'.to.pc, .int .i64 h'.fn, .slice ka' kl' kc']] w (EqPost h h' ks ks' w) := by
  have hx : sameB h h' ks ks' = false := by
    simp only [sameB, decide_eq_false_iff_not]
    rintro ⟨rfl, rfl⟩
    exact hne ⟨rfl, hlen.trans hlen'.symm⟩
  have HX := Lib.hid hx; clear hx
  have HN := Lib.hid hne; clear hne
  clear hlen hlen'
  obtain ⟨kind, op, num, text, ⟨rr, rc, rpr, rpc⟩, ⟨tr, tc, tpr, tpc⟩, fn⟩ := h
  obtain ⟨kind', op', num', text', ⟨rr', rc', rpr', rpc'⟩, ⟨tr', tc', tpr', tpc'⟩, fn'⟩ := h'
  go_enter Tryd.func46, Tryd.ntmps46
  go_wp2_with fail
  all_goals first
    | (go_ret; exact ⟨ret_bool HX.out.symm, ext_alloc (ext_alloc (Below.refl _ _) _) _⟩)
    | (exfalso; have hq : ((kl : Int) != kl') = false := by assumption
       have hn := HN.out; clear HN HX
       have hkl : kl = kl' := by simp at hq; omega
       clear hq
       simp_all [refEq])
theorem refEq_step (h : Hd) (ks : Trees) (ih : AllT REq ks) : REq h ks := by
  intro h' ks' w B B' ka ka' kl kc kl' kc' hB hB' tv tv'
  by_cases hs : h = h' ∧ kl = kl'
  · obtain ⟨rfl, rfl⟩ := hs
    exact refEq_same h ks ih ks' w B B' ka ka' kl kc kc' hB hB' tv tv'
  · exact refEq_differs h ks h' ks' w ka ka' kl kc kl' kc' tv.len tv'.len hs
theorem refEq_any (h : Hd) (ks : Trees) : REq h ks := refEq_step h ks (allT refEq_step ks)
end Go.Proofs.YtnhgeojcelegbaaDoor

namespace Go.Proofs.YtnhgeojcelegbaaDoor
open Go.RowKit

theorem LRow.head {w : World} {ok : Nat → Prop} {h : Hd} {ks rest : Trees} {a : Option Addr} {i : Nat} (r : LRow w ok (.cons h ks rest) a i) :
    ∃ b off ka kl kc, a = some ⟨b, off, none⟩ ∧ ok b ∧ NodeAt w b (off + i * 14) h (.slice ka kl kc) ∧ LTree w ok h ks ka kl kc := by
  obtain ⟨⟨b, off, ka, kl, kc, e, lt, n, l, m, o, mk, k⟩, _⟩ := r
  exact ⟨b, off, ka, kl, kc, e, lt, n, l, m, o, mk, k⟩
def RMl (h : Hd) (ks : Trees) : Prop := ∀ (w : World) (ok : Nat → Prop) (ka : Option Addr) (kl kc : Nat), (∀ b, ok b → b < w.heap.size) → LTree w ok h ks ka kl kc →
  Calls Tryd.prog 47 #[.agg #[.int .i64 h.kind, .int .i64 h.op, .int .i64 h.num, .string ⟨h.text.toArray⟩, .int .i64 h.ref.row, .int .i64 h.ref.col, .bool h.ref.pr, .bool h.ref.pc, .int .i64 h.to.row, .int .i64 h.to.col, .bool h.to.pr, .bool h.to.pc, .int .i64 h.fn, .slice ka kl kc]] w fun e w' => e = .returned (.bool true) ∧ Below w.heap.size w w'
def MlRel (nd : Hd) (g kl kc : Nat) (ok : Nat → Prop) (w wr : World) (i : Value) : Prop :=
  ∃ (j : Nat) (rest : Trees), i = .int .i64 j ∧ Hid (j + rest.len = kl) ∧ LRow wr ok rest (some ⟨g, 0, none⟩) j ∧ AllT RMl rest ∧ wr.heap[w.heap.size]? = some (.cells #[.int .i64 nd.kind, .int .i64 nd.op, .int .i64 nd.num, .string ⟨nd.text.toArray⟩, .int .i64 nd.ref.row, .int .i64 nd.ref.col, .bool nd.ref.pr, .bool nd.ref.pc, .int .i64 nd.to.row, .int .i64 nd.to.col, .bool nd.to.pr, .bool nd.to.pc, .int .i64 nd.fn, .slice (some ⟨g, 0, none⟩) kl kc] 30 (0, 0)) ∧ Hid (Below w.heap.size w wr)

set_option maxRecDepth 100000 in
set_option maxHeartbeats 4000000 in
theorem marked_step (nd : Hd) (ks : Trees) (ih : AllT RMl ks) : RMl nd ks := by
  intro w ok ka kl kc hok tv
  have hm := tv.max
  have b0 : ∀ O, Below w.heap.size w (w.alloc O) := fun O => ext_alloc (Below.refl _ w) O
  obtain ⟨g, cur, rfl, og, m1, m2, m3, m4, m5⟩ := tv.mark
  have hgw := hok g og
  have hcap : kl + 1 ≤ kc := m1
  have hck : (kl : Int) + 1 ≤ (kc : Int) := by omega
  have hk0 : (0 : Int) ≤ (kl : Int) + 1 := by omega
  have hki : (kl : Int) < (kl : Int) + 1 := by omega
  have RG := Lib.hid (show (w.alloc (.cells #[.int .i64 nd.kind, .int .i64 nd.op, .int .i64 nd.num, .string ⟨nd.text.toArray⟩, .int .i64 nd.ref.row, .int .i64 nd.ref.col, .bool nd.ref.pr, .bool nd.ref.pc, .int .i64 nd.to.row, .int .i64 nd.to.col, .bool nd.to.pr, .bool nd.to.pc, .int .i64 nd.fn, .slice (some ⟨g, 0, none⟩) kl kc] 30)).rangeAt g (kl * 14) [.int .i64 (-7), .int .i64 0, .int .i64 kl, .string ⟨#[]⟩, .int .i64 0, .int .i64 0, .bool false, .bool false, .int .i64 0, .int .i64 0, .bool false, .bool false, .int .i64 0, .slice none 0 0] from fun i x hx => by
    rw [cells_of_block ((Below.heap_alloc w (.cells #[.int .i64 nd.kind, .int .i64 nd.op, .int .i64 nd.num, .string ⟨nd.text.toArray⟩, .int .i64 nd.ref.row, .int .i64 nd.ref.col, .bool nd.ref.pr, .bool nd.ref.pc, .int .i64 nd.to.row, .int .i64 nd.to.col, .bool nd.to.pr, .bool nd.to.pc, .int .i64 nd.fn, .slice (some ⟨g, 0, none⟩) kl kc] 30) g hgw).trans m3)]; exact m5 i x hx)
  have HT := Lib.hid tv; have HI := Lib.hid ih; have OK := Lib.hid hok
  have H0 := Lib.hid (heap_alloc_new w (.cells #[.int .i64 nd.kind, .int .i64 nd.op, .int .i64 nd.num, .string ⟨nd.text.toArray⟩, .int .i64 nd.ref.row, .int .i64 nd.ref.col, .bool nd.ref.pr, .bool nd.ref.pc, .int .i64 nd.to.row, .int .i64 nd.to.col, .bool nd.to.pr, .bool nd.to.pc, .int .i64 nd.fn, .slice (some ⟨g, 0, none⟩) kl kc] 30))
  have B0 := Lib.hid (b0 (.cells #[.int .i64 nd.kind, .int .i64 nd.op, .int .i64 nd.num, .string ⟨nd.text.toArray⟩, .int .i64 nd.ref.row, .int .i64 nd.ref.col, .bool nd.ref.pr, .bool nd.ref.pc, .int .i64 nd.to.row, .int .i64 nd.to.col, .bool nd.to.pr, .bool nd.to.pc, .int .i64 nd.fn, .slice (some ⟨g, 0, none⟩) kl kc] 30))
  have hkm : (kl : Int) + 1 ≤ 9223372036854775807 := by omega
  clear tv ih hok b0 m3 m4 m5
  go_enter Tryd.func47, Tryd.ntmps47
  go_wp2_with (first
  | (refine wpList_load_rng (N := g) (off := kl * 14) (vs := [.int .i64 (-7), .int .i64 0, .int .i64 kl, .string ⟨#[]⟩, .int .i64 0, .int .i64 0, .bool false, .bool false, .int .i64 0, .int .i64 0, .bool false, .bool false, .int .i64 0, .slice none 0 0]) rfl rfl rfl RG.out rfl ?_)
  | (refine wpList_store_mem (N := w.heap.size + 1) (off := 0) (vs := [.int .i64 (-7), .int .i64 0, .int .i64 kl, .string ⟨#[]⟩, .int .i64 0, .int .i64 0, .bool false, .bool false, .int .i64 0, .int .i64 0, .bool false, .bool false, .int .i64 0, .slice none 0 0]) infoExprS rfl rfl rfl rfl (by have := heap_alloc_new (w.alloc (.cells #[.int .i64 nd.kind, .int .i64 nd.op, .int .i64 nd.num, .string ⟨nd.text.toArray⟩, .int .i64 nd.ref.row, .int .i64 nd.ref.col, .bool nd.ref.pr, .bool nd.ref.pc, .int .i64 nd.to.row, .int .i64 nd.to.col, .bool nd.to.pr, .bool nd.to.pc, .int .i64 nd.fn, .slice (some ⟨g, 0, none⟩) kl kc] 30)) (.cells #[.int .i64 0, .int .i64 0, .int .i64 0, .string ⟨#[]⟩, .int .i64 0, .int .i64 0, .bool false, .bool false, .int .i64 0, .int .i64 0, .bool false, .bool false, .int .i64 0, .slice none 0 0] 30); simpa using this) (by simp) rfl (by simp [Value.oneCell']) ?_
     intro w2 hw2
     have h1 : w2.heap[w.heap.size + 1]? = some (.cells #[.int .i64 (-7), .int .i64 0, .int .i64 kl, .string ⟨#[]⟩, .int .i64 0, .int .i64 0, .bool false, .bool false, .int .i64 0, .int .i64 0, .bool false, .bool false, .int .i64 0, .slice none 0 0] 30 (0, 0)) := by
       rw [hw2]
       refine setCells_all (vs := [.int .i64 (-7), .int .i64 0, .int .i64 kl, .string ⟨#[]⟩, .int .i64 0, .int .i64 0, .bool false, .bool false, .int .i64 0, .int .i64 0, .bool false, .bool false, .int .i64 0, .slice none 0 0]) (cs := #[.int .i64 0, .int .i64 0, .int .i64 0, .string ⟨#[]⟩, .int .i64 0, .int .i64 0, .bool false, .bool false, .int .i64 0, .int .i64 0, .bool false, .bool false, .int .i64 0, .slice none 0 0]) ?_ rfl
       have := heap_alloc_new (w.alloc (.cells #[.int .i64 nd.kind, .int .i64 nd.op, .int .i64 nd.num, .string ⟨nd.text.toArray⟩, .int .i64 nd.ref.row, .int .i64 nd.ref.col, .bool nd.ref.pr, .bool nd.ref.pc, .int .i64 nd.to.row, .int .i64 nd.to.col, .bool nd.to.pr, .bool nd.to.pc, .int .i64 nd.fn, .slice (some ⟨g, 0, none⟩) kl kc] 30)) (.cells #[.int .i64 0, .int .i64 0, .int .i64 0, .string ⟨#[]⟩, .int .i64 0, .int .i64 0, .bool false, .bool false, .int .i64 0, .int .i64 0, .bool false, .bool false, .int .i64 0, .slice none 0 0] 30); simpa using this
     have h0 : w2.heap[w.heap.size]? = some (.cells #[.int .i64 nd.kind, .int .i64 nd.op, .int .i64 nd.num, .string ⟨nd.text.toArray⟩, .int .i64 nd.ref.row, .int .i64 nd.ref.col, .bool nd.ref.pr, .bool nd.ref.pc, .int .i64 nd.to.row, .int .i64 nd.to.col, .bool nd.to.pr, .bool nd.to.pc, .int .i64 nd.fn, .slice (some ⟨g, 0, none⟩) kl kc] 30 (0, 0)) := by rw [hw2]; exact (setCells_other (by omega) _ _ _).trans (heap_alloc2_old w _ _)
     have hb : Below w.heap.size w w2 := by rw [hw2]; exact setCells_below (by omega) _ _ (ext_alloc B0.out _)
     have c1 := cells_of_block h1
     have c0 := cells_of_block h0
     have B2 := Lib.hid hb
     have H2 := Lib.hid h0
     clear hw2 h1 h0 hb))
  clear c1 c0
  go_loopw [5] (fun i wr => MlRel nd g kl kc ok w wr i) (fun i _ => kl - (intOf i).toNat)
  case atStart => exact ⟨0, ks, rfl, Lib.hid (by have := HT.out.len; omega), HT.out.row.kept fun b hb => ⟨hb, B2.out.block b (OK.out b hb)⟩, HI.out, H2.out, B2⟩
  case round =>
    obtain ⟨j, rest, rfl, HJ, hrow, hall, hbx, HB⟩ := hrel
    have c0 := cells_of_block hbx
    have HBX := Lib.hid hbx
    have hlen := HJ.out
    by_cases hlt : j < kl
    · obtain ⟨h', k', r', rfl⟩ := trees_cons (rest := rest) (by omega)
      obtain ⟨b1, off, ka', kl', kc', ea, hb1, N1, tv1⟩ := hrow.head
      injection ea with ea
      injection ea with e1 e2 e3
      subst e1 e2
      have RG1 := Lib.hid (show wr.rangeAt g (j * 14) [.int .i64 h'.kind, .int .i64 h'.op, .int .i64 h'.num, .string ⟨h'.text.toArray⟩, .int .i64 h'.ref.row, .int .i64 h'.ref.col, .bool h'.ref.pr, .bool h'.ref.pc, .int .i64 h'.to.row, .int .i64 h'.to.col, .bool h'.to.pr, .bool h'.to.pc, .int .i64 h'.fn, .slice ka' kl' kc'] from fun q x hx => by have := N1.2 q x hx; rwa [Nat.zero_add] at this)
      have hsz : ∀ b, ok b → b < wr.heap.size := fun b hb => Nat.lt_of_lt_of_le (OK.out b hb) HB.out.size
      have CC := Lib.hid (hall.1 wr ok ka' kl' kc' hsz tv1)
      have HA := Lib.hid hall.2; have HR := Lib.hid hrow.2; have SZ := Lib.hid hsz
      have hji : (j : Int) < (kl : Int) := by omega
      have hj0 : (0 : Int) ≤ (j : Int) := by omega
      clear hlen hall hrow N1 tv1 hsz hbx
      go_wp2_with (refine wpList_load_rng (N := g) (off := j * 14) (vs := [.int .i64 h'.kind, .int .i64 h'.op, .int .i64 h'.num, .string ⟨h'.text.toArray⟩, .int .i64 h'.ref.row, .int .i64 h'.ref.col, .bool h'.ref.pr, .bool h'.ref.pc, .int .i64 h'.to.row, .int .i64 h'.to.col, .bool h'.to.pr, .bool h'.to.pc, .int .i64 h'.fn, .slice ka' kl' kc']) rfl rfl rfl RG1.out rfl ?_)
      refine CC.out.mono ?_
      rintro e w2 ⟨rfl, b2⟩
      have HR2 := Lib.hid (HR.out.kept (ok' := ok) (w' := w2) fun b hb => ⟨hb, b2.block b (SZ.out b hb)⟩)
      have BX2 := Lib.hid ((b2.block _ (lt_of_block HBX.out)).trans HBX.out)
      have B2 := Lib.hid (HB.out.trans (b2.mono HB.out.size))
      have HJ2 := Lib.hid (show (j + 1) + r'.len = kl by have := HJ.out; simp only [Trees.len] at this; omega)
      clear b2 c0
      go_wp2
      exact ⟨⟨j + 1, r', by go_num, HJ2, HR2.out, HA.out, BX2.out, B2⟩, by simp [intOf]; have := HJ2.out; omega⟩
    · clear hrow hall hbx
      go_wp2
      go_ret
      exact ⟨rfl, HB.out⟩
theorem marked_any (h : Hd) (ks : Trees) : RMl h ks := marked_step h ks (allT marked_step ks)

set_option maxRecDepth 100000 in
set_option maxHeartbeats 4000000 in
theorem kept9_any (h : Hd) (ks : Trees) (w : World) (ok : Nat → Prop) (B : Nat) (F : List Nat) (a a' : Option Addr) (l c l' c' : Nat) (hok : ∀ b, ok b → b < w.heap.size) (hB : B ≤ w.heap.size) (lt : LTree w ok h ks a l c) (ow : OwnV w ks (.slice a l c) F) (hn : F.Nodup) (hF : ∀ b ∈ F, b < w.heap.size) (hk : ks.nodes ≤ 100000) (tv : TreeV w B h ks a' l') :
    Calls Tryd.prog 15 #[.agg #[.int .i64 h.kind, .int .i64 h.op, .int .i64 h.num, .string ⟨h.text.toArray⟩, .int .i64 h.ref.row, .int .i64 h.ref.col, .bool h.ref.pr, .bool h.ref.pc, .int .i64 h.to.row, .int .i64 h.to.col, .bool h.to.pr, .bool h.to.pc, .int .i64 h.fn, .slice a l c], .agg #[.int .i64 h.kind, .int .i64 h.op, .int .i64 h.num, .string ⟨h.text.toArray⟩, .int .i64 h.ref.row, .int .i64 h.ref.col, .bool h.ref.pr, .bool h.ref.pc, .int .i64 h.to.row, .int .i64 h.to.col, .bool h.to.pr, .bool h.to.pc, .int .i64 h.fn, .slice a' l' c']] w fun e w' => e = .returned (.bool true) ∧ Spd F w w' := by
  have b0 := ext_alloc (ext_alloc (Below.refl _ w) (.cells #[.int .i64 h.kind, .int .i64 h.op, .int .i64 h.num, .string ⟨h.text.toArray⟩, .int .i64 h.ref.row, .int .i64 h.ref.col, .bool h.ref.pr, .bool h.ref.pc, .int .i64 h.to.row, .int .i64 h.to.col, .bool h.to.pr, .bool h.to.pc, .int .i64 h.fn, .slice a l c] 30)) (.cells #[.int .i64 h.kind, .int .i64 h.op, .int .i64 h.num, .string ⟨h.text.toArray⟩, .int .i64 h.ref.row, .int .i64 h.ref.col, .bool h.ref.pr, .bool h.ref.pc, .int .i64 h.to.row, .int .i64 h.to.col, .bool h.to.pr, .bool h.to.pc, .int .i64 h.fn, .slice a' l' c'] 30)
  have M0 := Lib.hid (lt.kept (ok' := ok) fun b hb => ⟨hb, b0.block b (hok b hb)⟩)
  have T0 := Lib.hid (tv.kept (b0.mono hB) (Nat.le_refl _))
  have B0 := Lib.hid b0
  have OK := Lib.hid hok; have OW := Lib.hid ow; have HN := Lib.hid hn; have HF := Lib.hid hF; have HK := Lib.hid hk
  clear lt tv b0 hok ow hn hF hk
  go_enter Tryd.func15, Tryd.ntmps15
  go_wp2_with fail
  have cb := refEq_any h ks h ks _ w.heap.size B a a' l c l' c' (by simp; omega) (by simp; omega) (LTree.plain M0.out |>.to OK.out) T0.out
  refine cb.mono ?_
  clear cb
  rintro e w2 ⟨he, b2⟩
  obtain rfl := he.trans (show _ = Ending.returned (.bool true) by simp [sameB])
  obtain ⟨zb, cb, cb'⟩ := kept_block2 b2
  have M2 := Lib.hid (M0.out.kept (ok' := ok) fun b hb => ⟨hb, b2.block b (by have := OK.out b hb; simp; omega)⟩)
  have B2 := Lib.hid (B0.out.trans (b2.mono B0.out.size))
  have hok2 : ∀ b, ok b → b < w2.heap.size := fun b hb => by have := OK.out b hb; have := B2.out.size; omega
  have OK2 := Lib.hid hok2
  clear b2 hok2
  go_wp2_with fail
  have cm := marked_any h ks w2 ok a l c OK2.out M2.out
  refine cm.mono ?_
  clear cm
  rintro e w3 ⟨rfl, b3⟩
  have k0 := fun o => (b3.cell (p := ⟨w.heap.size, o, none⟩) (by simp; omega)).trans (cb o)
  have B3 := Lib.hid (B2.out.trans (b3.mono B2.out.size))
  clear b3 cb cb'
  go_wp2_with fail
  have cs := spoil_any h ks w3 F a l c (OW.out.ext HF.out B3.out) HN.out (fun b hb => Nat.lt_of_lt_of_le (HF.out b hb) B3.out.size) HK.out
  refine cs.mono ?_
  clear cs
  rintro e w4 ⟨rfl, s4⟩
  go_wp2
  go_ret
  exact ⟨rfl, (Spd.of B3.out).trans s4 fun b hb => .inl hb⟩
end Go.Proofs.YtnhgeojcelegbaaDoor
