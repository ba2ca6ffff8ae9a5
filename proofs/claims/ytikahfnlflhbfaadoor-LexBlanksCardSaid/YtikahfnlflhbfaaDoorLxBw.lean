/- LexBlanks: what its rounds keep in memory. -/
import Derived.Test.YtikahfnlflhbfaaDoorLxBs
import Derived.Lib.AppendStr
namespace Go.Proofs.YtikahfnlflhbfaaDoor
open Go.RowKit Go.Lib

def gapStrs : Array Value := #[.string ⟨#[32]⟩, .string ⟨#[9]⟩, .string ⟨#[10]⟩, .string ⟨#[13]⟩, .string ⟨#[194, 160]⟩, .string ⟨#[227, 128, 128]⟩, .string ⟨#[32, 32]⟩, .string ⟨#[32, 194, 160, 9]⟩]
theorem gap_at {j : Nat} (h : j < 8) : ∃ g : ByteArray, gapStrs[j]? = some (.string g) ∧ g.data.toList ∈ gapTab ∧ g.size ≤ 4 := by
  have : j = 0 ∨ j = 1 ∨ j = 2 ∨ j = 3 ∨ j = 4 ∨ j = 5 ∨ j = 6 ∨ j = 7 := by omega
  rcases this with rfl | rfl | rfl | rfl | rfl | rfl | rfl | rfl <;> exact ⟨_, rfl, by decide, by decide⟩
theorem wd_set : ∀ (done : List WordL) (x : WordL) (r : List WordL) (p : Int), (wdCells (done ++ x :: r)).set (done.length * 3 + 2) (.int .i64 p) = wdCells (done ++ ⟨x.kind, x.text, p⟩ :: r)
  | [], x, r, p => by simp [wdCells, WordL.vals]
  | d :: done, x, r, p => by
    have := wd_set done x r p
    have e : (d :: done).length * 3 + 2 = done.length * 3 + 2 + 1 + 1 + 1 := by simp only [List.length_cons]; omega
    rw [e]
    simp only [List.cons_append, wdCells, WordL.vals, List.nil_append, List.set_cons_succ, this]
theorem WdRow.set {b0 g kc : Nat} {w : World} {done r : List WordL} {x : WordL} {p : Int} (h : WdRow b0 w (done ++ x :: r) (.slice (some ⟨g, 0, none⟩) (done ++ x :: r).length kc)) :
    WdRow b0 (w.setCell ⟨g, done.length * 3 + 2, none⟩ (.int .i64 p)) (done ++ ⟨x.kind, x.text, p⟩ :: r) (.slice (some ⟨g, 0, none⟩) (done ++ ⟨x.kind, x.text, p⟩ :: r).length kc) := by
  have hl : (done ++ (⟨x.kind, x.text, p⟩ : WordL) :: r).length = (done ++ x :: r).length := by simp
  unfold WdRow at h ⊢
  rw [hl]
  refine ⟨by rw [wdCells_len]; simp, ?_⟩
  rcases h.2 with ⟨e, h0⟩ | ⟨g', cap, cur, e, hb, hg, h1, h2, h3, h4⟩
  · simp at h0
  · simp only [Value.slice.injEq, Option.some.injEq, Addr.mk.injEq, and_true] at e
    obtain ⟨rfl, -, rfl⟩ := e
    refine .inr ⟨g, kc, _, rfl, hb, heap_setCell_same _ _ _ _ _ _ hg, h1, h2, by simpa using h3, ?_⟩
    rw [Array.toList_setIfInBounds, List.take_set, h4, wd_set]
theorem WdRow.get {b0 g n kc : Nat} {w : World} {l : List WordL} (h : WdRow b0 w l (.slice (some ⟨g, 0, none⟩) n kc)) {j : Nat} {x : WordL} (hj : l[j]? = some x) :
    w.cell? ⟨g, j * 3, none⟩ = some (.int .i64 x.kind) ∧ w.cell? ⟨g, j * 3 + 1, none⟩ = some (.string (strB x.text)) ∧ w.cell? ⟨g, j * 3 + 2, none⟩ = some (.int .i64 x.at_) := by
  obtain ⟨a, kc', e, A, -⟩ := h.at_
  obtain ⟨b, off, e2, -, -, c0, c1, c2⟩ := A.2 j x hj
  subst e2
  simp only [Value.slice.injEq, Option.some.injEq, Addr.mk.injEq, and_true] at e
  obtain ⟨⟨rfl, rfl⟩, -⟩ := e
  simp only [Nat.zero_add] at c0 c1 c2
  exact ⟨c0, c1, c2⟩
/-- What the rounds keep: the caller's memory, the words, the blanks, the bytes so far. -/
structure BlS (w1 : World) (Bl : Nat) (a : Option Addr) (kc : Nat) (ws : List WordL) (bb : List UInt8) (bv : Value) (W : World) : Prop where
  bel : Below w1.heap.size w1 W
  row : WdRow w1.heap.size W ws (.slice a ws.length kc)
  rlt : ∀ k, (Value.slice a ws.length kc).ownBlock = some k → k < Bl
  blk : ∀ o, W.cell? ⟨Bl, o, none⟩ = gapStrs[o]?
  own : W.ownsRow (Bl + 1) 5 1 bv bb.length (bytes8 bb)
  low : w1.heap.size ≤ Bl
  sz : Bl + 1 ≤ W.heap.size
variable {w1 W W' : World} {Bl kc : Nat} {a : Option Addr} {ws : List WordL} {bb bb' : List UInt8} {bv bv' : Value}
theorem BlS.grow (h : BlS w1 Bl a kc ws bb bv W) (hg : W.grownBy W' bv.ownBlock) (ho : W'.ownsRow (Bl + 1) 5 1 bv' bb'.length (bytes8 bb')) : BlS w1 Bl a kc ws bb' bv' W' := by
  have hne : ∀ k, k < Bl + 1 → some k ≠ bv.ownBlock := fun k hk e => by have := (World.ownsRow.lt h.own k e.symm).1; omega
  have hsz := hg.size
  have := h.sz
  refine ⟨h.bel.grown hg (by have := h.low; omega) (fun k hk => by have := (World.ownsRow.lt h.own k hk).1; have := h.low; omega), h.row.kept fun k hk => hg.block k (by have := h.rlt k hk; omega) (hne k (by have := h.rlt k hk; omega)), h.rlt, fun o => ?_, ho, h.low, by omega⟩
  exact (World.cell?_of_block (a := ⟨Bl, o, none⟩) (hg.block Bl (by omega) (hne Bl (by omega)))).trans (h.blk o)
theorem BlS.below (h : BlS w1 Bl a kc ws bb bv W) (hb : Below W.heap.size W W') : BlS w1 Bl a kc ws bb bv W' := by
  have := h.sz
  refine ⟨h.bel.trans (hb.mono (by have := h.low; omega)), h.row.kept fun k hk => hb.block k (by have := h.rlt k hk; omega), h.rlt, fun o => (hb.cell (p := ⟨Bl, o, none⟩) (show Bl < _ by omega)).trans (h.blk o), ?_, h.low, by have := hb.size; omega⟩
  refine ⟨h.own.1, ?_⟩
  rcases h.own.2 with e | ⟨g, cap, cur, hv, hbb, hg, r⟩
  · exact .inl e
  · exact .inr ⟨g, cap, cur, hv, hbb, (hb.block g (World.ownsRow.lt h.own g (by rw [hv]; rfl)).2).trans hg, r⟩
theorem BlS.set {g : Nat} {done r : List WordL} {x : WordL} {p : Int} (h : BlS w1 Bl (some ⟨g, 0, none⟩) kc (done ++ x :: r) bb bv W) :
    BlS w1 Bl (some ⟨g, 0, none⟩) kc (done ++ ⟨x.kind, x.text, p⟩ :: r) bb bv (W.setCell ⟨g, done.length * 3 + 2, none⟩ (.int .i64 p)) := by
  have hg : g < Bl := h.rlt g rfl
  have hg0 : w1.heap.size ≤ g := (h.row.lt g rfl).1
  have hoth : ∀ k, k ≠ g → (W.setCell ⟨g, done.length * 3 + 2, none⟩ (.int .i64 p)).heap[k]? = W.heap[k]? := fun k hk => heap_setCell_other _ _ _ _ (by simpa using hk)
  refine ⟨h.bel.setCell (p := ⟨g, _, none⟩) hg0 _, h.row.set, fun k hk => h.rlt k hk, fun o => ?_, ?_, h.low, by have := h.sz; simpa [World.setCell] using this⟩
  · exact (World.cell?_of_block (a := ⟨Bl, o, none⟩) (hoth Bl (by omega))).trans (h.blk o)
  · refine ⟨h.own.1, ?_⟩
    rcases h.own.2 with e | ⟨g', cap, cur, hv, hbb, hgg, r⟩
    · exact .inl e
    · exact .inr ⟨g', cap, cur, hv, hbb, (hoth g' (by omega)).trans hgg, r⟩
end Go.Proofs.YtikahfnlflhbfaaDoor
