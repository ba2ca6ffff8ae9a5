/- Trees in memory of their own. -/
import Derived.Test.YtlmpiobdgkmmgaaGreatDoorKcD
import Derived.Maps.AppendAt
import Derived.OwnWalk
import Derived.Test.YtlmpiobdgkmmgaaGreatDoorKcE
import Derived.Deep.AppendLies
import Derived.Deep.RegionLaw
import Derived.Deep.MidRow
set_option maxRecDepth 1000000
set_option maxHeartbeats 16000000
namespace Go.Proofs.YtlmpiobdgkmmgaaGreatDoor
open Go.RowKit
theorem kept_free2 {w w3 : World} {c c' : Array Value} {T T' : TypeId} (h : Below ((w.alloc (.cells c T)).alloc (.cells c' T')).heap.size ((w.alloc (.cells c T)).alloc (.cells c' T')) w3) :
 (∀ o, w3.frozen? ⟨w.heap.size, o, none⟩ = false) ∧ ∀ o, w3.frozen? ⟨w.heap.size + 1, o, none⟩ = false := by
 refine ⟨fun o => ?_, fun o => ?_⟩
 ·rw [h.frozen (p := ⟨w.heap.size, o, none⟩) (by simp; omega), World.frozen?_alloc_past _ _ _ (by simp)]
  exact World.frozen?_alloc_at _ _ _ _ rfl
 ·rw [h.frozen (p := ⟨w.heap.size + 1, o, none⟩) (by simp)]
  exact World.frozen?_alloc_at _ _ _ _ (by simp)
def Slot (w : World) (v : Value) (n : Nat) (cs : List Value) (G : List Nat) : Prop :=
 cs.length = n * 14 ∧ ((v = .slice none 0 0 ∧ n = 0 ∧ G = []) ∨
 ∃ g cap cur, v = .slice (some ⟨g, 0, none⟩) n cap ∧ w.heap[g]? = some (.cells cur 34 (0, 0)) ∧ n ≤ cap ∧ cap ≤ maxLen ∧ cur.size = cap * 14 ∧ cur.toList.take (n * 14) = cs ∧ G = [g])
def OwnCells (w : World) : Trees → List Value → List Nat → Prop
 | .nil, cs, F => cs = [] ∧ F = []
 | .cons h k r, cs, F => ∃ v cs' cs1 G F1 F2, cs = h.vals v ++ cs' ∧ h.ok ∧ Slot w v k.len cs1 G ∧ OwnCells w k cs1 F1 ∧ OwnCells w r cs' F2 ∧ F = (G ++ F1) ++ F2
def OwnV (w : World) (ts : Trees) (v : Value) (F : List Nat) : Prop := ∃ cs G F', Slot w v ts.len cs G ∧ OwnCells w ts cs F' ∧ F = G ++ F'
theorem Slot.kept {w w' : World} {v : Value} {n : Nat} {cs : List Value} {G : List Nat} (s : Slot w v n cs G) (h : ∀ b ∈ G, w'.heap[b]? = w.heap[b]?) : Slot w' v n cs G := by
 obtain ⟨l, s⟩ := s
 refine ⟨l, ?_⟩
 rcases s with s | ⟨g, cap, cur, e, hg, r⟩
 ·exact .inl s
 ·obtain ⟨r1, r2, r3, r4, r5⟩ := r
  exact .inr ⟨g, cap, cur, e, (h g (by simp [r5])).trans hg, r1, r2, r3, r4, r5⟩
theorem OwnCells.kept {w w' : World} : ∀ {ts : Trees} {cs : List Value} {F : List Nat}, OwnCells w ts cs F → (∀ b ∈ F, w'.heap[b]? = w.heap[b]?) → OwnCells w' ts cs F
 | .nil, _, _, o, _ => o
 | .cons _ _ _, _, _, ⟨v, cs', cs1, G, F1, F2, e, ok, s, o1, o2, eF⟩, h => by
  subst eF
  exact ⟨v, cs', cs1, G, F1, F2, e, ok, s.kept fun b hb => h b (by simp [hb]), o1.kept fun b hb => h b (by simp [hb]), o2.kept fun b hb => h b (by simp [hb]), rfl⟩
theorem OwnV.kept {w w' : World} {ts : Trees} {v : Value} {F : List Nat} (o : OwnV w ts v F) (h : ∀ b ∈ F, w'.heap[b]? = w.heap[b]?) : OwnV w' ts v F := by
 obtain ⟨cs, G, F', s, o, rfl⟩ := o
 exact ⟨cs, G, F', s.kept fun b hb => h b (by simp [hb]), o.kept fun b hb => h b (by simp [hb]), rfl⟩
theorem OwnV.ext {w w' : World} {ts : Trees} {v : Value} {F : List Nat} (o : OwnV w ts v F) (hF : ∀ b ∈ F, b < w.heap.size) (h : Below w.heap.size w w') : OwnV w' ts v F := o.kept fun b hb => h.block b (hF b hb)
theorem Hd.vals_len (h : Hd) (v : Value) : (h.vals v).length = 14 := rfl
theorem OwnCells.length {w : World} : ∀ {ts : Trees} {cs : List Value} {F : List Nat}, OwnCells w ts cs F → cs.length = ts.len * 14
 | .nil, _, _, ⟨e, _⟩ => by subst e; rfl
 | .cons _ _ _, _, _, ⟨v, cs', cs1, G, F1, F2, e, ok, s, o1, o2, eF⟩ => by
  subst e
  rw [List.length_append, Hd.vals_len, o2.length, Trees.len]; omega
theorem Slot.slice {w : World} {v : Value} {n : Nat} {cs : List Value} {G : List Nat} (s : Slot w v n cs G) : ∃ a c, v = .slice a n c := by
 rcases s.2 with ⟨rfl, rfl, _⟩ | ⟨g, cap, cur, rfl, _⟩
 ·exact ⟨none, 0, rfl⟩
 ·exact ⟨_, cap, rfl⟩
theorem Slot.le {w : World} {v : Value} {n : Nat} {cs : List Value} {G : List Nat} (s : Slot w v n cs G) : n ≤ 9223372036854775807 := by
 rcases s.2 with ⟨rfl, rfl, _⟩ | ⟨g, cap, cur, rfl, _, h1, h2, _⟩
 ·omega
 ·have : maxLen = 9223372036854775807 := rfl
  omega
theorem OwnCells.row {w : World} {B : Nat} (hB : B ≤ w.heap.size) : ∀ {ts : Trees} {cs : List Value} {F : List Nat}, OwnCells w ts cs F → (∀ b ∈ F, b < B) → ∀ (a : Option Addr) (i : Nat),
 (0 < ts.len → ∃ g cur t fr, a = some ⟨g, 0, none⟩ ∧ g < B ∧ w.heap[g]? = some (.cells cur t fr) ∧ ∃ pre post, cur.toList = pre ++ (cs ++ post) ∧ pre.length = i * 14) → RowIn w B ts a i
 | .nil, _, _, _, _, _, _, _ => trivial
 | .cons h k r, cs, F, ⟨v, cs', cs1, G, F1, F2, e, ok, s, o1, o2, eF⟩, hF, a, i, ha => by
  obtain ⟨g, cur, t, fr, rfl, hg, hcur, pre, post, hl, hp⟩ := ha (by simp [Trees.len])
  subst e eF
  obtain ⟨ka, kc, rfl⟩ := s.slice
  refine ⟨⟨g, 0, ka, k.len, kc, rfl, hg, ⟨Nat.lt_of_lt_of_le hg hB, fun j x hj => ?_⟩, rfl, s.le, ok, ?_⟩, ?_⟩
  ·have hj14 : j < 14 := by rcases Nat.lt_or_ge j 14 with h1 | h1; exact h1; rw [List.getElem?_eq_none (by rw [Hd.vals_len]; exact h1)] at hj; cases hj
   simp only [World.cell?, hcur, Option.isSome_none, Bool.false_eq_true, if_false]
   rw [← Array.getElem?_toList, hl, List.getElem?_append_right (by omega), Nat.zero_add, hp, Nat.add_sub_cancel_left, List.append_assoc, List.getElem?_append_left (by rw [Hd.vals_len]; exact hj14)]
   exact hj
  ·refine o1.row hB (fun b hb => hF b (by simp [hb])) ka 0 fun hk => ?_
   rcases s.2 with ⟨e1, e2, e3⟩ | ⟨g', cap', cur', e1, hg', h1, h2, h3, h4, h5⟩
   ·omega
   ·injection e1 with e1 _ _
    refine ⟨g', cur', _, _, e1, hF g' (by simp [h5]), hg', [], cur'.toList.drop (k.len * 14), ?_, by simp⟩
    rw [← h4, List.nil_append, List.take_append_drop]
  ·refine o2.row hB (fun b hb => hF b (by simp [hb])) _ (i + 1) fun _ => ⟨g, cur, t, fr, rfl, hg, hcur, pre ++ h.vals (.slice ka k.len kc), post, ?_, ?_⟩
   ·rw [hl]; simp only [List.append_assoc]
   ·rw [List.length_append, Hd.vals_len, hp]; omega
theorem OwnV.tree {w : World} {B : Nat} (hB : B ≤ w.heap.size) {ts : Trees} {v : Value} {F : List Nat} (o : OwnV w ts v F) (hF : ∀ b ∈ F, b < B) {h : Hd} (ok : h.ok) : ∃ ka kc, v = .slice ka ts.len kc ∧ TreeV w B h ts ka ts.len := by
 obtain ⟨cs, G, F', s, o, rfl⟩ := o
 obtain ⟨ka, kc, rfl⟩ := s.slice
 refine ⟨ka, kc, rfl, rfl, s.le, ok, o.row hB (fun b hb => hF b (by simp [hb])) ka 0 fun hk => ?_⟩
 rcases s.2 with ⟨e1, e2, e3⟩ | ⟨g', cap', cur', e1, hg', h1, h2, h3, h4, h5⟩
 ·omega
 ·injection e1 with e1 _ _
  refine ⟨g', cur', _, _, e1, hF g' (by simp [h5]), hg', [], cur'.toList.drop (ts.len * 14), ?_, by simp⟩
  rw [← h4, List.nil_append, List.take_append_drop]
def Trees.app : Trees → Trees → Trees
 | .nil, t => t
 | .cons h k r, t => .cons h k (r.app t)
theorem Trees.app_len : ∀ (a b : Trees), (a.app b).len = a.len + b.len
 | .nil, b => by simp [Trees.app, Trees.len]
 | .cons h k r, b => by simp [Trees.app, Trees.len, Trees.app_len r b]; omega
theorem Trees.app_nil : ∀ (a : Trees), a.app .nil = a
 | .nil => rfl
 | .cons h k r => by simp [Trees.app, Trees.app_nil r]
theorem Trees.app_cons : ∀ (a : Trees) (h : Hd) (k r : Trees), (a.app (.cons h k .nil)).app r = a.app (.cons h k r)
 | .nil, h, k, r => rfl
 | .cons _ _ a, h, k, r => by simp [Trees.app, Trees.app_cons a]
theorem OwnCells.snoc {w : World} : ∀ {ts : Trees} {cs : List Value} {F : List Nat}, OwnCells w ts cs F → ∀ {h : Hd} {k : Trees} {v : Value} {F' : List Nat}, h.ok → OwnV w k v F' → OwnCells w (ts.app (.cons h k .nil)) (cs ++ h.vals v) (F ++ F')
 | .nil, _, _, ⟨e, e'⟩, h, k, v, F', ok, ⟨cs1, G, F1, s, o, eF⟩ => by
  subst e e' eF
  exact ⟨v, [], cs1, G, F1, [], by simp, ok, s, o, ⟨rfl, rfl⟩, by simp⟩
 | .cons _ _ _, _, _, ⟨v0, cs', cs1, G, F1, F2, e, ok0, s, o1, o2, eF⟩, h, k, v, F', ok, ov => by
  subst e eF
  exact ⟨v0, cs' ++ h.vals v, cs1, G, F1, F2 ++ F', by simp, ok0, s, o1, o2.snoc ok ov, by simp⟩
def ownList (v : Value) : List Nat := match v.ownBlock with | some g => [g] | none => []
theorem mem_ownList {v : Value} {b : Nat} : b ∈ ownList v ↔ v.ownBlock = some b := by
 unfold ownList; cases h : v.ownBlock <;> simp [eq_comm]
theorem Slot.owns {w : World} {v : Value} {n : Nat} {cs : List Value} {G : List Nat} {base : Nat} (s : Slot w v n cs G) (hG : ∀ b ∈ G, base ≤ b) : w.ownsRow base 34 14 v n cs := by
 refine ⟨s.1, ?_⟩
 rcases s.2 with ⟨e1, e2, e3⟩ | ⟨g, cap, cur, e1, hg, h1, h2, h3, h4, h5⟩
 ·exact .inl ⟨e1, e2⟩
 ·exact .inr ⟨g, cap, cur, e1, hG g (by simp [h5]), hg, h1, h2, h3, h4⟩
theorem slot_of {w : World} {v : Value} {n : Nat} {cs : List Value} {base : Nat} (s : w.ownsRow base 34 14 v n cs) : Slot w v n cs (ownList v) := by
 refine ⟨s.1, ?_⟩
 rcases s.2 with ⟨e1, e2⟩ | ⟨g, cap, cur, e1, hb, hg, h1, h2, h3, h4⟩
 ·subst e1; exact .inl ⟨rfl, e2, rfl⟩
 ·subst e1; exact .inr ⟨g, cap, cur, rfl, hg, h1, h2, h3, h4, rfl⟩
theorem Slot.block {w : World} {v : Value} {n : Nat} {cs : List Value} {G : List Nat} (s : Slot w v n cs G) : G = ownList v := by
 rcases s.2 with ⟨rfl, _, rfl⟩ | ⟨g, cap, cur, rfl, _, _, _, _, _, rfl⟩ <;> rfl
structure Fresh (w : World) (b0 : Nat) (ts : Trees) (v : Value) (F : List Nat) : Prop where
 own : OwnV w ts v F
 once : F.Nodup
 new : ∀ b ∈ F, b0 ≤ b
 lt : ∀ b ∈ F, b < w.heap.size
theorem Fresh.step {wr w2 w3 : World} {b0 : Nat} {dn : Trees} {l v' v2 : Value} {cs : List Value} {F' F2 : List Nat} {h : Hd} {k : Trees} {O : Obj} (o : OwnCells wr dn cs F') (once : (ownList l ++ F').Nodup) (new : ∀ b ∈ ownList l ++ F', b0 ≤ b) (lt : ∀ b ∈ ownList l ++ F', b < wr.heap.size)
 (b2 : Below wr.heap.size wr w2) (f2 : Fresh w2 wr.heap.size k v2 F2) (ok : h.ok) (hb0 : b0 ≤ wr.heap.size) (hg : (w2.alloc O).grownBy w3 l.ownBlock) (hown : w3.ownsRow b0 34 14 v' (dn.len + 1) (cs ++ h.vals v2))
 (hloc : v'.ownBlock = l.ownBlock ∨ v'.ownBlock = some (w2.heap.size + 1)) : Fresh w3 b0 (dn.app (.cons h k .nil)) v' (ownList v' ++ (F' ++ F2)) := by
 have hsz := b2.size
 have hs3 : w2.heap.size + 1 ≤ w3.heap.size := by have := hg.size; simpa using this
 have same : ∀ b, b < w2.heap.size → l.ownBlock ≠ some b → w3.heap[b]? = w2.heap[b]? := fun b hb hne => by
  rw [hg.block b (by simp; omega) (fun e => hne e.symm), Below.heap_alloc _ _ _ hb]
 have hF' : ∀ b ∈ F', b < wr.heap.size ∧ l.ownBlock ≠ some b ∧ b0 ≤ b := fun b hb => by
  refine ⟨lt b (by simp [hb]), fun e => ?_, new b (by simp [hb])⟩
  have h1 := (List.nodup_append.1 once).2.2 b (mem_ownList.2 e) b hb
  exact h1 rfl
 have hL : ∀ b, l.ownBlock = some b → b < wr.heap.size := fun b hb => lt b (by simp [mem_ownList.2 hb])
 have o3 : OwnCells w3 dn cs F' := o.kept fun b hb => (same b (by have := (hF' b hb).1; omega) (hF' b hb).2.1).trans (b2.block b (hF' b hb).1)
 have ov3 : OwnV w3 k v2 F2 := f2.own.kept fun b hb => same b (f2.lt b hb) (fun e => by have := hL b e; have := f2.new b hb; omega)
 have s3 := slot_of hown
 refine ⟨⟨cs ++ h.vals v2, ownList v', F' ++ F2, ?_, o3.snoc ok ov3, rfl⟩, ?_, ?_, ?_⟩
 ·rw [Trees.app_len]; exact s3
 ·have hd : (F' ++ F2).Nodup := List.nodup_append.2 ⟨(List.nodup_append.1 once).2.1, f2.once, fun a ha b hb => by have := (hF' a ha).1; have := f2.new b hb; omega⟩
  refine List.nodup_append.2 ⟨by unfold ownList; split <;> simp, hd, fun a ha b hb => ?_⟩
  have ha' := mem_ownList.1 ha
  rcases hloc with e | e
  ·rw [e] at ha'
   rcases List.mem_append.1 hb with hb | hb
   ·intro e2; subst e2; exact (hF' a hb).2.1 ha'
   ·have := hL a ha'; have := f2.new b hb; omega
  ·rw [e] at ha'
   injection ha' with ha'
   rcases List.mem_append.1 hb with hb | hb
   ·have := (hF' b hb).1; omega
   ·have := f2.lt b hb; omega
 ·intro b hb
  rcases List.mem_append.1 hb with hb | hb
  ·exact (hown.lt b (mem_ownList.1 hb)).1
  ·rcases List.mem_append.1 hb with hb | hb
   ·exact (hF' b hb).2.2
   ·have := f2.new b hb; omega
 ·intro b hb
  rcases List.mem_append.1 hb with hb | hb
  ·exact (hown.lt b (mem_ownList.1 hb)).2
  ·rcases List.mem_append.1 hb with hb | hb
   ·have := (hF' b hb).1; omega
   ·have := f2.lt b hb; omega
end Go.Proofs.YtlmpiobdgkmmgaaGreatDoor
namespace Go.Proofs.YtlmpiobdgkmmgaaGreatDoor
open Go.RowKit
theorem infoExpr : (Tryz.prog.info? 34).map (fun i => (i.zero, i.size, i.bytes)) = some (some (.agg #[.int .i64 0, .int .i64 0, .int .i64 0, .string ⟨#[]⟩, .int .i64 0, .int .i64 0, .bool false, .bool false, .int .i64 0, .int .i64 0, .bool false, .bool false, .int .i64 0, .slice none 0 0]), 14, 120) := by kernel_rfl
theorem len_le_nodes : ∀ t : Trees, t.len ≤ t.nodes
 | .nil => Nat.le_refl _
 | .cons _ k r => by have := len_le_nodes r; simp only [Trees.len, Trees.nodes]; omega
theorem fine_nodes {h : Hd} {ks : Trees} (f : Fine h ks) : ks.nodes ≤ 100000 := by have := f.1; omega
theorem Fresh.sets {w w' : World} {b0 b1 : Nat} {ts : Trees} {v : Value} {F : List Nat} (f : Fresh w b0 ts v F) (h : ∀ b, b0 ≤ b → w'.heap[b]? = w.heap[b]?) (hb : b1 ≤ b0) (hs : w.heap.size ≤ w'.heap.size) : Fresh w' b1 ts v F :=
 ⟨f.own.kept fun b hb => h b (f.new b hb), f.once, fun b hm => Nat.le_trans hb (f.new b hm), fun b hm => Nat.lt_of_lt_of_le (f.lt b hm) hs⟩
theorem block_set {w : World} {b i : Nat} {cs : Array Value} {T : TypeId} {fr : Nat × Nat} (hb : w.heap[b]? = some (.cells cs T fr)) (v : Value) : (w.setCell ⟨b, i, none⟩ v).heap[b]? = some (.cells (cs.setIfInBounds i v) T fr) := by
 simp only [World.setCell, Array.getElem?_modify, if_true, hb, Option.map_some, Option.isSome_none, Bool.false_eq_true, if_false]
structure TwoBlocks (w w1 : World) (c c' : Array Value) (T T' : TypeId) : Prop where
 cell : ∀ o, w1.cell? ⟨w.heap.size + 1, o, none⟩ = c'[o]?
 free : ∀ o, w1.frozen? ⟨w.heap.size + 1, o, none⟩ = false
 below : Below w.heap.size w w1
 blocks : w1.heap[w.heap.size]? = some (.cells c T (0, 0)) ∧ w1.heap[w.heap.size + 1]? = some (.cells c' T' (0, 0))
theorem cells_of_block {w : World} {b : Nat} {cs : Array Value} {T : TypeId} {fr : Nat × Nat} (h : w.heap[b]? = some (.cells cs T fr)) : ∀ o, w.cell? ⟨b, o, none⟩ = cs[o]? := fun o => by
 simp [World.cell?, h]
theorem frees_of_block {w : World} {b : Nat} {cs : Array Value} {T : TypeId} (h : w.heap[b]? = some (.cells cs T (0, 0))) : ∀ o, w.frozen? ⟨b, o, none⟩ = false := fun o => by
 simp [World.frozen?, h]
theorem block_grown {wr w2 w3 : World} {U : Nat} {O : Obj} {obj : Obj} {l : Value} (hU : wr.heap[U]? = some obj) (b2 : Below wr.heap.size wr w2) (hg : (w2.alloc O).grownBy w3 l.ownBlock) (hne : l.ownBlock ≠ some U) : w3.heap[U]? = some obj := by
 have h1 := lt_of_block hU
 have h2 := b2.size
 rw [hg.block U (by simp; omega) (fun e => hne e.symm), Below.heap_alloc _ _ _ (by omega), b2.block _ h1]
 exact hU
theorem fresh_made {w1 : World} {b0 : Nat} {v : Value} (h : w1.ownsRow b0 34 14 v 0 []) : Fresh w1 b0 .nil v (ownList v) :=
 ⟨⟨[], ownList v, [], slot_of h, ⟨rfl, rfl⟩, by simp⟩, by unfold ownList; split <;> simp, fun b hb => (h.lt b (mem_ownList.1 hb)).1, fun b hb => (h.lt b (mem_ownList.1 hb)).2⟩
theorem two_blocks_grown {w w1 : World} {c c' : Array Value} {T T' : TypeId} (h : ((w.alloc (.cells c T)).alloc (.cells c' T')).grownBy w1 none) : TwoBlocks w w1 c c' T T' := by
 have h0 : w1.heap[w.heap.size]? = some (.cells c T (0, 0)) := by rw [h.block _ (by simp; omega) (by simp)]; exact (heap_alloc2_old _ _ _).trans rfl
 have h1 : w1.heap[w.heap.size + 1]? = some (.cells c' T' (0, 0)) := by rw [h.block _ (by simp) (by simp)]; exact heap_alloc2_new _ _ _
 refine ⟨cells_of_block h1, frees_of_block h1, ?_, h0, h1⟩
 exact (ext_alloc (ext_alloc (Below.refl _ _) _) _).grown h (by simp; omega) (by simp)
end Go.Proofs.YtlmpiobdgkmmgaaGreatDoor
namespace Go.Proofs.YtlmpiobdgkmmgaaGreatDoor
open Go.RowKit
theorem infoExprS : (Tryz.prog.info? 34).map (·.size) = some 14 := by kernel_rfl
theorem setCells_size : ∀ (vs : List Value) (o b : Nat) (w : World), (w.setCells b o vs).heap.size = w.heap.size
 | [], _, _, _ => rfl
 | v :: r, o, b, w => by rw [World.setCells, setCells_size r]; simp [World.setCell]
theorem setCells_other {b k : Nat} (hk : k ≠ b) : ∀ (vs : List Value) (o : Nat) (w : World), (w.setCells b o vs).heap[k]? = w.heap[k]?
 | [], _, _ => rfl
 | v :: r, o, w => by rw [World.setCells, setCells_other hk r]; exact Below.heap_setCell _ _ _ _ (by simpa using hk)
theorem setCells_below {B b : Nat} (hb : B ≤ b) {w0 : World} : ∀ (vs : List Value) (o : Nat) {w : World}, Below B w0 w → Below B w0 (w.setCells b o vs)
 | [], _, _, h => h
 | v :: r, o, _, h => setCells_below hb r (o + 1) (h.setCell (p := ⟨b, o, none⟩) hb v)
theorem setCells_blk {b : Nat} {T : TypeId} {fr : Nat × Nat} : ∀ (vs : List Value) (o : Nat) (w : World) (cs : Array Value), w.heap[b]? = some (.cells cs T fr) → o + vs.length ≤ cs.size →
 (w.setCells b o vs).heap[b]? = some (.cells (cs.toList.take o ++ (vs ++ cs.toList.drop (o + vs.length))).toArray T fr)
 | [], o, w, cs, h, _ => by simp only [World.setCells, List.nil_append, List.length_nil, Nat.add_zero, List.take_append_drop, Array.toArray_toList]; exact h
 | v :: r, o, w, cs, h, hl => by
  simp only [List.length_cons] at hl
  have h1 := block_set h (i := o) v
  rw [World.setCells, setCells_blk r (o + 1) _ _ h1 (by simp; omega)]
  congr 3
  have ho : o < cs.toList.length := by simp; omega
  simp only [Array.toList_setIfInBounds, List.length_cons]
  rw [List.take_succ_eq_append_getElem (by simpa using ho), List.getElem_set_self, List.take_set_of_le (Nat.le_refl o), List.drop_set_of_lt (by omega), List.append_assoc]
  simp only [List.cons_append, List.nil_append]
  rw [show o + 1 + r.length = o + (r.length + 1) by omega]
theorem setCells_all {b : Nat} {T : TypeId} {fr : Nat × Nat} {vs : List Value} {w : World} {cs : Array Value} (h : w.heap[b]? = some (.cells cs T fr)) (hl : cs.size = vs.length) : (w.setCells b 0 vs).heap[b]? = some (.cells vs.toArray T fr) := by
 rw [setCells_blk vs 0 w cs h (by omega)]
 simp [← hl]
theorem there_of_block {w : World} {b : Nat} {cs : Array Value} {T : TypeId} (h : w.heap[b]? = some (.cells cs T (0, 0))) (n : Nat) (hn : cs.size = n) : w.there b 0 n := fun j hj => by
 rw [cells_of_block h, frees_of_block h, Array.getElem?_eq_getElem (by omega)]; simp
theorem lt_same {w w' : World} {b : Nat} (hs : w'.heap[b]? = w.heap[b]?) (h : b < w.heap.size) : b < w'.heap.size := by
 rw [Array.getElem?_eq_getElem h] at hs
 exact (Array.getElem?_eq_some_iff.1 hs).1
theorem NodeAt.same {w w' : World} {b off : Nat} {h : Hd} {ks : Value} (n : NodeAt w b off h ks) (hs : w'.heap[b]? = w.heap[b]?) : NodeAt w' b off h ks :=
 ⟨lt_same hs n.1, fun j v hj => (World.cell?_of_block (a := ⟨b, off + j, none⟩) hs).trans (n.2 j v hj)⟩
def RowX (w : World) (ok : Nat → Prop) : Trees → Option Addr → Nat → Prop
 | .nil, _, _ => True
 | .cons h ks rest, a, i => (∃ b off ka kl kc, a = some ⟨b, off, none⟩ ∧ ok b ∧ NodeAt w b (off + i * 14) h (.slice ka kl kc) ∧ kl = ks.len ∧ kl ≤ 9223372036854775807 ∧ h.ok ∧ RowX w ok ks ka 0) ∧ RowX w ok rest a (i + 1)
theorem RowX.of {w : World} {B : Nat} {ok : Nat → Prop} (hok : ∀ b, b < B → ok b) : ∀ {ts : Trees} {a : Option Addr} {i : Nat}, RowIn w B ts a i → RowX w ok ts a i
 | .nil, _, _, _ => trivial
 | .cons _ _ _, _, _, ⟨⟨b, off, ka, kl, kc, e, lt, n, l, m, o, k⟩, r⟩ => ⟨⟨b, off, ka, kl, kc, e, hok b lt, n, l, m, o, RowX.of hok k⟩, RowX.of hok r⟩
theorem RowX.to {w : World} {B : Nat} {ok : Nat → Prop} (hok : ∀ b, ok b → b < B) : ∀ {ts : Trees} {a : Option Addr} {i : Nat}, RowX w ok ts a i → RowIn w B ts a i
 | .nil, _, _, _ => trivial
 | .cons _ _ _, _, _, ⟨⟨b, off, ka, kl, kc, e, lt, n, l, m, o, k⟩, r⟩ => ⟨⟨b, off, ka, kl, kc, e, hok b lt, n, l, m, o, RowX.to hok k⟩, RowX.to hok r⟩
theorem RowX.kept {w w' : World} {ok ok' : Nat → Prop} (hk : ∀ b, ok b → ok' b ∧ w'.heap[b]? = w.heap[b]?) : ∀ {ts : Trees} {a : Option Addr} {i : Nat}, RowX w ok ts a i → RowX w' ok' ts a i
 | .nil, _, _, _ => trivial
 | .cons _ _ _, _, _, ⟨⟨b, off, ka, kl, kc, e, lt, n, l, m, o, k⟩, r⟩ => ⟨⟨b, off, ka, kl, kc, e, (hk b lt).1, n.same (hk b lt).2, l, m, o, RowX.kept hk k⟩, RowX.kept hk r⟩
structure TreeX (w : World) (ok : Nat → Prop) (h : Hd) (ks : Trees) (ka : Option Addr) (kl : Nat) : Prop where
 len : kl = ks.len
 max : kl ≤ 9223372036854775807
 hok : h.ok
 row : RowX w ok ks ka 0
theorem TreeX.of {w : World} {B : Nat} {ok : Nat → Prop} {h : Hd} {ks : Trees} {ka : Option Addr} {kl : Nat} (t : TreeV w B h ks ka kl) (hok : ∀ b, b < B → ok b) : TreeX w ok h ks ka kl := ⟨t.len, t.max, t.ok, RowX.of hok t.row⟩
theorem TreeX.to {w : World} {B : Nat} {ok : Nat → Prop} {h : Hd} {ks : Trees} {ka : Option Addr} {kl : Nat} (t : TreeX w ok h ks ka kl) (hok : ∀ b, ok b → b < B) : TreeV w B h ks ka kl := ⟨t.len, t.max, t.hok, RowX.to hok t.row⟩
theorem TreeX.kept {w w' : World} {ok ok' : Nat → Prop} {h : Hd} {ks : Trees} {ka : Option Addr} {kl : Nat} (t : TreeX w ok h ks ka kl) (hk : ∀ b, ok b → ok' b ∧ w'.heap[b]? = w.heap[b]?) : TreeX w' ok' h ks ka kl := ⟨t.len, t.max, t.hok, RowX.kept hk t.row⟩
theorem node_in {w : World} {g : Nat} {cs : Array Value} {T : TypeId} {h : Hd} {v : Value} (i : Nat) (hb : w.heap[g]? = some (.cells cs T)) (pre post : List Value) (hc : cs.toList = pre ++ (h.vals v ++ post)) (hp : pre.length = i * 14) : NodeAt w g (0 + i * 14) h v := by
 refine ⟨lt_of_block hb, fun j u hj => ?_⟩
 have hl := (List.getElem?_eq_some_iff.1 hj).1
 rw [cells_of_block hb, ← Array.getElem?_toList, hc, Nat.zero_add, List.getElem?_append_right (by omega), hp, Nat.add_sub_cancel_left, List.getElem?_append_left hl]
 exact hj
end Go.Proofs.YtlmpiobdgkmmgaaGreatDoor
