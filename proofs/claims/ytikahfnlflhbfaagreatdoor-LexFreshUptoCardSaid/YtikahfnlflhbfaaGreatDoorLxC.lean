/- A formula's words: the cutter's own memory, and how a word is laid down. -/
import Derived.Test.YtikahfnlflhbfaaGreatDoorLxSe
import Derived.Test.YtikahfnlflhbfaaGreatDoorLxA
import Derived.Deep.AppendLies
import Derived.Laws.Rows
namespace Go.Proofs.YtikahfnlflhbfaaGreatDoor
open Go.RowKit Go.Lib

theorem blk_at8 {w : World} {b : Nat} {cs : Array Value} {T : TypeId} {fr : Nat × Nat} (h : w.heap[b]? = some (.cells cs T fr)) : ∀ o, w.cell? ⟨b, o, none⟩ = cs[o]? := fun o => by simp [World.cell?, h]
def WordL.vals (x : WordL) : List Value := [.int .i64 x.kind, .string (strB x.text), .int .i64 x.at_]
def wdCells : List WordL → List Value
  | [] => []
  | a :: r => a.vals ++ wdCells r
theorem wdCells_app : ∀ a b : List WordL, wdCells (a ++ b) = wdCells a ++ wdCells b
  | [], b => rfl
  | x :: a, b => by simp [wdCells, wdCells_app a b]
theorem wdCells_len : ∀ a : List WordL, (wdCells a).length = a.length * 3
  | [] => rfl
  | x :: a => by simp [wdCells, wdCells_len a, WordL.vals]; omega
/-- A row of words that a call owns. -/
def WdRow (b0 : Nat) (w : World) (l : List WordL) (v : Value) : Prop := w.ownsRow b0 34 3 v l.length (wdCells l)
theorem WdRow.nil (b0 : Nat) (w : World) : WdRow b0 w [] (.slice none 0 0) := World.ownsRow_nil w _ _ _
theorem infoWd : (Tryz.prog.info? 34).map (fun i => (i.zero, i.size, i.bytes)) = some (some (.agg #[.int .i64 0, .string ⟨#[]⟩, .int .i64 0]), 3, 32) := by kernel_rfl
theorem WdRow.kept {b0 : Nat} {w w' : World} {l : List WordL} {v : Value} (a : WdRow b0 w l v) (h : ∀ k, v.ownBlock = some k → w'.heap[k]? = w.heap[k]?) : WdRow b0 w' l v := by
  refine ⟨a.1, ?_⟩
  rcases a.2 with e | ⟨g, cap, cur, hv, hb, hg, r⟩
  · exact .inl e
  · exact .inr ⟨g, cap, cur, hv, hb, (h g (by rw [hv]; rfl)).trans hg, r⟩
theorem WdRow.lt {b0 : Nat} {w : World} {l : List WordL} {v : Value} (a : WdRow b0 w l v) : ∀ k, v.ownBlock = some k → b0 ≤ k ∧ k < w.heap.size := fun k hk => World.ownsRow.lt a k hk

/-- The cutter in block C, over a text, with some words; the place C + 1 is another's. -/
structure CutS (C : Nat) (s : ByteArray) (ws : List WordL) (w : World) : Prop where
  blk : ∃ v, w.heap[C]? = some (.cells #[.string s, v] 42 (0, 0)) ∧ WdRow (C + 2) w ws v
  lt : C + 1 < w.heap.size
/-- What stands ahead of the cutter, and the block behind it, are as they were. -/
structure Kp (C : Nat) (w w' : World) : Prop where
  bel : Below C w w'
  it : w'.heap[C + 1]? = w.heap[C + 1]?
  size : w.heap.size ≤ w'.heap.size
theorem Kp.refl (C : Nat) (w : World) : Kp C w w := ⟨Below.refl _ _, rfl, Nat.le_refl _⟩
theorem Kp.trans {C : Nat} {a b c : World} (h : Kp C a b) (k : Kp C b c) : Kp C a c := ⟨h.bel.trans k.bel, k.it.trans h.it, Nat.le_trans h.size k.size⟩
theorem Kp.of {C : Nat} {w w' : World} (h : Below w.heap.size w w') (hC : C + 1 < w.heap.size) : Kp C w w' := ⟨h.mono (by omega), h.block _ hC, h.size⟩
theorem CutS.kept {C : Nat} {s : ByteArray} {ws : List WordL} {w w' : World} (h : CutS C s ws w) (hb : Below w.heap.size w w') : CutS C s ws w' := by
  obtain ⟨⟨v, h1, h2⟩, h3⟩ := h
  refine ⟨⟨v, (hb.block C (by omega)).trans h1, h2.kept fun k hk => hb.block k (h2.lt k hk).2⟩, Nat.lt_of_lt_of_le h3 hb.size⟩
/-- The text, read. -/
theorem CutS.cells {C : Nat} {s : ByteArray} {ws : List WordL} {w : World} (h : CutS C s ws w) : w.cell? ⟨C, 0, none⟩ = some (.string s) := by
  obtain ⟨⟨v, h1, h2⟩, h3⟩ := h
  exact blk_at8 h1 0

def PutPost (C : Nat) (s : ByteArray) (ws : List WordL) (w : World) (nx err : Int) (e : Ending) (w' : World) : Prop := e = .returned (.tuple #[.int .i64 nx, .int .i64 err]) ∧ CutS C s ws w' ∧ Kp C w w'
set_option maxHeartbeats 1000000 in
theorem lxPut_any (C : Nat) (s : ByteArray) (ws : List WordL) (x : WordL) (nx : Int) (w : World) (hS : CutS C s ws w) (hn : ws.length ≤ 100000) :
    Calls Tryz.prog 26 #[.pointer (some ⟨C, 0, none⟩), .int .i64 x.kind, .string (strB x.text), .int .i64 x.at_, .int .i64 nx] w (PutPost C s (ws ++ [x]) w nx 0) := by
  obtain ⟨i0, hi, hz0, hz1, hz2⟩ := info_parts infoWd
  obtain ⟨⟨v, hB, hR⟩, hlt⟩ := hS
  have c0 := blk_at8 hB 0
  have c1 := blk_at8 hB 1
  have hRlt := hR.lt
  have HB := Lib.hid hB; have HR := Lib.hid hR; have HL := Lib.hid hRlt
  clear hB hR hRlt
  go_enter Tryz.func26, Tryz.ntmps26
  go_wp2_with (at_builtin; refine wpList_append_lies _ rfl _ _ 28 rfl (C + 2) 34 i0 _ 3 32 Tryz.underlying28 hi hz0 hz1 hz2 rfl (by decide) v ws.length (wdCells ws) rfl (World.ownsRow.alloc HR.out _) ⟨w.heap.size, 0, none⟩ 1 1 x.vals rfl rfl (World.news_of_block (heap_alloc_new w _)) (by simp [Value.oneCell', WordL.vals]) (by decide) (by unfold maxLen; omega) (by omega) (by simp; omega) _ rfl ?_)
  intro g cap w1 hown hgrow hat hlt1
  have hz : w.heap.size + 1 ≤ w1.heap.size := by have := hgrow.size; simpa using this
  have hgC : C + 2 ≤ g := by
    rcases hat with q | q
    · exact (HL.out g q).1
    · rw [q]; simp; omega
  have hb1 : ∀ k, k < C + 2 → w1.heap[k]? = w.heap[k]? := fun k hk => (hgrow.block k (by simp; omega) (fun e => by have := (HL.out k e.symm).1; omega)).trans (Below.heap_alloc _ _ _ (by omega))
  have hbel : Below C w w1 := ((Below.refl C w).alloc (by omega) _).grown hgrow (by simp; omega) (fun k hk => by have := (HL.out k hk).1; omega)
  have HBB := (hb1 C (by omega)).trans HB.out
  have k1 := blk_at8 HBB 1
  have f1 : w1.frozen? ⟨C, 1, none⟩ = false := by simp [World.frozen?, HBB]
  have HO := Lib.hid hown; have HG := Lib.hid hgrow; have HBL := Lib.hid hbel; have HB1 := Lib.hid hb1; have HK := Lib.hid HBB
  clear hown hgrow hbel hb1 HBB hat
  go_wp2
  go_ret2
  have e1 : (w1.setCell ⟨C, 1, none⟩ (.slice (some ⟨g, 0, none⟩) (ws.length + 1) cap)).heap[C]? = some (.cells #[.string s, .slice (some ⟨g, 0, none⟩) (ws.length + 1) cap] 42 (0, 0)) := by
    rw [heap_setCell_same _ _ _ _ _ _ HK.out]; rfl
  refine ⟨rfl, ⟨⟨_, e1, ?_⟩, ?_⟩, ⟨HBL.out.setCell (Nat.le_refl _) _, ?_, ?_⟩⟩
  · have q : WdRow (C + 2) w1 (ws ++ [x]) (.slice (some ⟨g, 0, none⟩) (ws.length + 1) cap) := by
      unfold WdRow
      rw [wdCells_app, List.length_append]
      simpa [wdCells] using HO.out
    exact q.kept fun k hk => heap_setCell_other _ _ _ _ (by have := (q.lt k hk).1; simp; omega)
  · simp [World.setCell]; omega
  · rw [heap_setCell_other _ _ _ _ (by simp)]; exact HB1.out _ (by omega)
  · simp [World.setCell]; omega
end Go.Proofs.YtikahfnlflhbfaaGreatDoor
