/- Trees in memory of their own: every list of kids lies in a block that no other list has. -/
import Derived.Test.YtkjfeakbhfkldaaTreeE
import Derived.Maps.AppendAt
import Derived.OwnWalk
namespace Go.Proofs.Ytkjfeakbhfkldaa
open Go.RowKit

theorem kept_free2 {w w3 : World} {c c' : Array Value} {T T' : TypeId} (h : Below ((w.alloc (.cells c T)).alloc (.cells c' T')).heap.size ((w.alloc (.cells c T)).alloc (.cells c' T')) w3) :
    (∀ o, w3.frozen? ⟨w.heap.size, o, none⟩ = false) ∧ ∀ o, w3.frozen? ⟨w.heap.size + 1, o, none⟩ = false := by
  refine ⟨fun o => ?_, fun o => ?_⟩
  · rw [h.frozen (p := ⟨w.heap.size, o, none⟩) (by simp; omega), World.frozen?_alloc_past _ _ _ (by simp)]
    exact World.frozen?_alloc_at _ _ _ _ rfl
  · rw [h.frozen (p := ⟨w.heap.size + 1, o, none⟩) (by simp)]
    exact World.frozen?_alloc_at _ _ _ _ (by simp)
/-- A list of n nodes in a block of its own: its cells; G: that block. -/
def Slot (w : World) (v : Value) (n : Nat) (cs : List Value) (G : List Nat) : Prop :=
  cs.length = n * 14 ∧ ((v = .slice none 0 0 ∧ n = 0 ∧ G = []) ∨
  ∃ g cap cur, v = .slice (some ⟨g, 0, none⟩) n cap ∧ w.heap[g]? = some (.cells cur 29 (0, 0)) ∧ n ≤ cap ∧ cap ≤ maxLen ∧ cur.size = cap * 14 ∧ cur.toList.take (n * 14) = cs ∧ G = [g])
/-- Cells that hold a list of trees; F: the blocks of all that hangs on them. -/
def OwnCells (w : World) : Trees → List Value → List Nat → Prop
  | .nil, cs, F => cs = [] ∧ F = []
  | .cons h k r, cs, F => ∃ v cs' cs1 G F1 F2, cs = h.vals v ++ cs' ∧ h.ok ∧ Slot w v k.len cs1 G ∧ OwnCells w k cs1 F1 ∧ OwnCells w r cs' F2 ∧ F = (G ++ F1) ++ F2
def OwnV (w : World) (ts : Trees) (v : Value) (F : List Nat) : Prop := ∃ cs G F', Slot w v ts.len cs G ∧ OwnCells w ts cs F' ∧ F = G ++ F'

theorem Slot.kept {w w' : World} {v : Value} {n : Nat} {cs : List Value} {G : List Nat} (s : Slot w v n cs G) (h : ∀ b ∈ G, w'.heap[b]? = w.heap[b]?) : Slot w' v n cs G := by
  obtain ⟨l, s⟩ := s
  refine ⟨l, ?_⟩
  rcases s with s | ⟨g, cap, cur, e, hg, r⟩
  · exact .inl s
  · obtain ⟨r1, r2, r3, r4, r5⟩ := r
    exact .inr ⟨g, cap, cur, e, (h g (by simp [r5])).trans hg, r1, r2, r3, r4, r5⟩
theorem OwnCells.kept {w w' : World} : ∀ {ts : Trees} {cs : List Value} {F : List Nat}, OwnCells w ts cs F → (∀ b ∈ F, w'.heap[b]? = w.heap[b]?) → OwnCells w' ts cs F
  | .nil, _, _, o, _ => o
  | .cons _ _ _, _, _, ⟨v, cs', cs1, G, F1, F2, e, ok, s, o1, o2, eF⟩, h => by
    subst eF
    exact ⟨v, cs', cs1, G, F1, F2, e, ok, s.kept fun b hb => h b (by simp [hb]), o1.kept fun b hb => h b (by simp [hb]), o2.kept fun b hb => h b (by simp [hb]), rfl⟩
theorem OwnV.kept {w w' : World} {ts : Trees} {v : Value} {F : List Nat} (o : OwnV w ts v F) (h : ∀ b ∈ F, w'.heap[b]? = w.heap[b]?) : OwnV w' ts v F := by
  obtain ⟨cs, G, F', s, o, rfl⟩ := o
  exact ⟨cs, G, F', s.kept fun b hb => h b (by simp [hb]), o.kept fun b hb => h b (by simp [hb]), rfl⟩
theorem OwnV.ext {w w' : World} {ts : Trees} {v : Value} {F : List Nat} (o : OwnV w ts v F) (hF : ∀ b ∈ F, b < w.heap.size) (h : Below w.heap.size w w') : OwnV w' ts v F := o.kept fun b hb => h.block b (hF b hb)

theorem Hd.vals_len (h : Hd) (v : Value) : (h.vals v).length = 14 := rfl
theorem OwnCells.length {w : World} : ∀ {ts : Trees} {cs : List Value} {F : List Nat}, OwnCells w ts cs F → cs.length = ts.len * 14
  | .nil, _, _, ⟨e, _⟩ => by subst e; rfl
  | .cons _ _ _, _, _, ⟨v, cs', cs1, G, F1, F2, e, ok, s, o1, o2, eF⟩ => by
    subst e
    rw [List.length_append, Hd.vals_len, o2.length, Trees.len]; omega

/-- What Slot says of the value. -/
theorem Slot.slice {w : World} {v : Value} {n : Nat} {cs : List Value} {G : List Nat} (s : Slot w v n cs G) : ∃ a c, v = .slice a n c := by
  rcases s.2 with ⟨rfl, rfl, _⟩ | ⟨g, cap, cur, rfl, _⟩
  · exact ⟨none, 0, rfl⟩
  · exact ⟨_, cap, rfl⟩
theorem Slot.le {w : World} {v : Value} {n : Nat} {cs : List Value} {G : List Nat} (s : Slot w v n cs G) : n ≤ 9223372036854775807 := by
  rcases s.2 with ⟨rfl, rfl, _⟩ | ⟨g, cap, cur, rfl, _, h1, h2, _⟩
  · omega
  · have : maxLen = 9223372036854775807 := rfl
    omega

/-- Trees that are owned can be read. -/
theorem OwnCells.row {w : World} {B : Nat} (hB : B ≤ w.heap.size) : ∀ {ts : Trees} {cs : List Value} {F : List Nat}, OwnCells w ts cs F → (∀ b ∈ F, b < B) → ∀ (a : Option Addr) (i : Nat),
    (0 < ts.len → ∃ g cur t fr, a = some ⟨g, 0, none⟩ ∧ g < B ∧ w.heap[g]? = some (.cells cur t fr) ∧ ∃ pre post, cur.toList = pre ++ (cs ++ post) ∧ pre.length = i * 14) → RowIn w B ts a i
  | .nil, _, _, _, _, _, _, _ => trivial
  | .cons h k r, cs, F, ⟨v, cs', cs1, G, F1, F2, e, ok, s, o1, o2, eF⟩, hF, a, i, ha => by
    obtain ⟨g, cur, t, fr, rfl, hg, hcur, pre, post, hl, hp⟩ := ha (by simp [Trees.len])
    subst e eF
    obtain ⟨ka, kc, rfl⟩ := s.slice
    refine ⟨⟨g, 0, ka, k.len, kc, rfl, hg, ⟨Nat.lt_of_lt_of_le hg hB, fun j x hj => ?_⟩, rfl, s.le, ok, ?_⟩, ?_⟩
    · have hj14 : j < 14 := by rcases Nat.lt_or_ge j 14 with h1 | h1; exact h1; rw [List.getElem?_eq_none (by rw [Hd.vals_len]; exact h1)] at hj; cases hj
      simp only [World.cell?, hcur, Option.isSome_none, Bool.false_eq_true, if_false]
      rw [← Array.getElem?_toList, hl, List.getElem?_append_right (by omega), Nat.zero_add, hp, Nat.add_sub_cancel_left, List.append_assoc, List.getElem?_append_left (by rw [Hd.vals_len]; exact hj14)]
      exact hj
    · refine o1.row hB (fun b hb => hF b (by simp [hb])) ka 0 fun hk => ?_
      rcases s.2 with ⟨e1, e2, e3⟩ | ⟨g', cap', cur', e1, hg', h1, h2, h3, h4, h5⟩
      · omega
      · injection e1 with e1 _ _
        refine ⟨g', cur', _, _, e1, hF g' (by simp [h5]), hg', [], cur'.toList.drop (k.len * 14), ?_, by simp⟩
        rw [← h4, List.nil_append, List.take_append_drop]
    · refine o2.row hB (fun b hb => hF b (by simp [hb])) _ (i + 1) fun _ => ⟨g, cur, t, fr, rfl, hg, hcur, pre ++ h.vals (.slice ka k.len kc), post, ?_, ?_⟩
      · rw [hl]; simp only [List.append_assoc]
      · rw [List.length_append, Hd.vals_len, hp]; omega
theorem OwnV.tree {w : World} {B : Nat} (hB : B ≤ w.heap.size) {ts : Trees} {v : Value} {F : List Nat} (o : OwnV w ts v F) (hF : ∀ b ∈ F, b < B) {h : Hd} (ok : h.ok) : ∃ ka kc, v = .slice ka ts.len kc ∧ TreeV w B h ts ka ts.len := by
  obtain ⟨cs, G, F', s, o, rfl⟩ := o
  obtain ⟨ka, kc, rfl⟩ := s.slice
  refine ⟨ka, kc, rfl, rfl, s.le, ok, o.row hB (fun b hb => hF b (by simp [hb])) ka 0 fun hk => ?_⟩
  rcases s.2 with ⟨e1, e2, e3⟩ | ⟨g', cap', cur', e1, hg', h1, h2, h3, h4, h5⟩
  · omega
  · injection e1 with e1 _ _
    refine ⟨g', cur', _, _, e1, hF g' (by simp [h5]), hg', [], cur'.toList.drop (ts.len * 14), ?_, by simp⟩
    rw [← h4, List.nil_append, List.take_append_drop]

/-- One list behind another. -/
def Trees.app : Trees → Trees → Trees
  | .nil, t => t
  | .cons h k r, t => .cons h k (r.app t)
theorem Trees.app_len : ∀ (a b : Trees), (a.app b).len = a.len + b.len
  | .nil, b => by simp [Trees.app, Trees.len]
  | .cons h k r, b => by simp [Trees.app, Trees.len, Trees.app_len r b]; omega
theorem Trees.app_nil : ∀ (a : Trees), a.app .nil = a
  | .nil => rfl
  | .cons h k r => by simp [Trees.app, Trees.app_nil r]
theorem Trees.app_cons : ∀ (a : Trees) (h : Hd) (k r : Trees), (a.app (.cons h k .nil)).app r = a.app (.cons h k r)
  | .nil, h, k, r => rfl
  | .cons _ _ a, h, k, r => by simp [Trees.app, Trees.app_cons a]
theorem OwnCells.snoc {w : World} : ∀ {ts : Trees} {cs : List Value} {F : List Nat}, OwnCells w ts cs F → ∀ {h : Hd} {k : Trees} {v : Value} {F' : List Nat}, h.ok → OwnV w k v F' → OwnCells w (ts.app (.cons h k .nil)) (cs ++ h.vals v) (F ++ F')
  | .nil, _, _, ⟨e, e'⟩, h, k, v, F', ok, ⟨cs1, G, F1, s, o, eF⟩ => by
    subst e e' eF
    exact ⟨v, [], cs1, G, F1, [], by simp, ok, s, o, ⟨rfl, rfl⟩, by simp⟩
  | .cons _ _ _, _, _, ⟨v0, cs', cs1, G, F1, F2, e, ok0, s, o1, o2, eF⟩, h, k, v, F', ok, ov => by
    subst e eF
    exact ⟨v0, cs' ++ h.vals v, cs1, G, F1, F2 ++ F', by simp, ok0, s, o1, o2.snoc ok ov, by simp⟩

def ownList (v : Value) : List Nat := match v.ownBlock with | some g => [g] | none => []
theorem mem_ownList {v : Value} {b : Nat} : b ∈ ownList v ↔ v.ownBlock = some b := by
  unfold ownList; cases h : v.ownBlock <;> simp [eq_comm]
/-- Slot and the kit's word for a row that a call owns. -/
theorem Slot.owns {w : World} {v : Value} {n : Nat} {cs : List Value} {G : List Nat} {base : Nat} (s : Slot w v n cs G) (hG : ∀ b ∈ G, base ≤ b) : w.ownsRow base 29 14 v n cs := by
  refine ⟨s.1, ?_⟩
  rcases s.2 with ⟨e1, e2, e3⟩ | ⟨g, cap, cur, e1, hg, h1, h2, h3, h4, h5⟩
  · exact .inl ⟨e1, e2⟩
  · exact .inr ⟨g, cap, cur, e1, hG g (by simp [h5]), hg, h1, h2, h3, h4⟩
theorem slot_of {w : World} {v : Value} {n : Nat} {cs : List Value} {base : Nat} (s : w.ownsRow base 29 14 v n cs) : Slot w v n cs (ownList v) := by
  refine ⟨s.1, ?_⟩
  rcases s.2 with ⟨e1, e2⟩ | ⟨g, cap, cur, e1, hb, hg, h1, h2, h3, h4⟩
  · subst e1; exact .inl ⟨rfl, e2, rfl⟩
  · subst e1; exact .inr ⟨g, cap, cur, rfl, hg, h1, h2, h3, h4, rfl⟩
theorem Slot.block {w : World} {v : Value} {n : Nat} {cs : List Value} {G : List Nat} (s : Slot w v n cs G) : G = ownList v := by
  rcases s.2 with ⟨rfl, _, rfl⟩ | ⟨g, cap, cur, rfl, _, _, _, _, _, rfl⟩ <;> rfl

/-- A tree of the call's own: each block once, each laid since the heap had size b0. -/
structure Fresh (w : World) (b0 : Nat) (ts : Trees) (v : Value) (F : List Nat) : Prop where
  own : OwnV w ts v F
  once : F.Nodup
  new : ∀ b ∈ F, b0 ≤ b
  lt : ∀ b ∈ F, b < w.heap.size

/-- A further tree is appended to a list of the call's own. -/
theorem Fresh.step {wr w2 w3 : World} {b0 : Nat} {dn : Trees} {l v' v2 : Value} {cs : List Value} {F' F2 : List Nat} {h : Hd} {k : Trees} {O : Obj} (o : OwnCells wr dn cs F') (once : (ownList l ++ F').Nodup) (new : ∀ b ∈ ownList l ++ F', b0 ≤ b) (lt : ∀ b ∈ ownList l ++ F', b < wr.heap.size)
    (b2 : Below wr.heap.size wr w2) (f2 : Fresh w2 wr.heap.size k v2 F2) (ok : h.ok) (hb0 : b0 ≤ wr.heap.size) (hg : (w2.alloc O).grownBy w3 l.ownBlock) (hown : w3.ownsRow b0 29 14 v' (dn.len + 1) (cs ++ h.vals v2))
    (hloc : v'.ownBlock = l.ownBlock ∨ v'.ownBlock = some (w2.heap.size + 1)) : Fresh w3 b0 (dn.app (.cons h k .nil)) v' (ownList v' ++ (F' ++ F2)) := by
  have hsz := b2.size
  have hs3 : w2.heap.size + 1 ≤ w3.heap.size := by have := hg.size; simpa using this
  have same : ∀ b, b < w2.heap.size → l.ownBlock ≠ some b → w3.heap[b]? = w2.heap[b]? := fun b hb hne => by
    rw [hg.block b (by simp; omega) (fun e => hne e.symm), Below.heap_alloc _ _ _ hb]
  have hF' : ∀ b ∈ F', b < wr.heap.size ∧ l.ownBlock ≠ some b ∧ b0 ≤ b := fun b hb => by
    refine ⟨lt b (by simp [hb]), fun e => ?_, new b (by simp [hb])⟩
    have h1 := (List.nodup_append.1 once).2.2 b (mem_ownList.2 e) b hb
    exact h1 rfl
  have hL : ∀ b, l.ownBlock = some b → b < wr.heap.size := fun b hb => lt b (by simp [mem_ownList.2 hb])
  have o3 : OwnCells w3 dn cs F' := o.kept fun b hb => (same b (by have := (hF' b hb).1; omega) (hF' b hb).2.1).trans (b2.block b (hF' b hb).1)
  have ov3 : OwnV w3 k v2 F2 := f2.own.kept fun b hb => same b (f2.lt b hb) (fun e => by have := hL b e; have := f2.new b hb; omega)
  have s3 := slot_of hown
  refine ⟨⟨cs ++ h.vals v2, ownList v', F' ++ F2, ?_, o3.snoc ok ov3, rfl⟩, ?_, ?_, ?_⟩
  · rw [Trees.app_len]; exact s3
  · have hd : (F' ++ F2).Nodup := List.nodup_append.2 ⟨(List.nodup_append.1 once).2.1, f2.once, fun a ha b hb => by have := (hF' a ha).1; have := f2.new b hb; omega⟩
    refine List.nodup_append.2 ⟨by unfold ownList; split <;> simp, hd, fun a ha b hb => ?_⟩
    have ha' := mem_ownList.1 ha
    rcases hloc with e | e
    · rw [e] at ha'
      rcases List.mem_append.1 hb with hb | hb
      · intro e2; subst e2; exact (hF' a hb).2.1 ha'
      · have := hL a ha'; have := f2.new b hb; omega
    · rw [e] at ha'
      injection ha' with ha'
      rcases List.mem_append.1 hb with hb | hb
      · have := (hF' b hb).1; omega
      · have := f2.lt b hb; omega
  · intro b hb
    rcases List.mem_append.1 hb with hb | hb
    · exact (hown.lt b (mem_ownList.1 hb)).1
    · rcases List.mem_append.1 hb with hb | hb
      · exact (hF' b hb).2.2
      · have := f2.new b hb; omega
  · intro b hb
    rcases List.mem_append.1 hb with hb | hb
    · exact (hown.lt b (mem_ownList.1 hb)).2
    · rcases List.mem_append.1 hb with hb | hb
      · have := (hF' b hb).1; omega
      · have := f2.lt b hb; omega
end Go.Proofs.Ytkjfeakbhfkldaa
