/- Small things that all texts of this claim use: a runner for straight rows of operations; worlds that only grow; what a law's walk says. -/
import Derived.Test.YtlmpiobdgkmmgaaGreatDoorRows
import Derived.WalkKit
import Derived.WalkSpells
import Derived.WalkLawsBesides
import Derived.Lib.Hide
namespace Go.Proofs.YtlmpiobdgkmmgaaGreatDoor
open Go.RowKit
namespace Run

/-- A row of operations without guards that all hand back a value, run one behind the other. -/
def runL (P : Program) : List Oper → Act → World → Option (Act × World)
  | [], a, w => some (a, w)
  | o :: r, a, w =>
    match o.guard with
    | some _ => none
    | none => match (execOp a.eval o).run P w with
      | .ok (.value v) w' => runL P r (a.put o.dst v) w'
      | _ => none

theorem runL_wp {P : Program} {ops : Array Oper} {Q : Exit → Act → World → Prop} : ∀ (l : List Oper) (a : Act) (w : World) (a' : Act) (w' : World),
    runL P l a w = some (a', w') → Q .normal a' w' → wpList P ops Q l a w
  | [], a, w, a', w', h, hq => by
    simp only [runL, Option.some.injEq, Prod.mk.injEq] at h
    obtain ⟨rfl, rfl⟩ := h
    exact hq
  | o :: r, a, w, a', w', h, hq => by
    unfold runL at h
    split at h
    · cases h
    · rename_i hg
      split at h
      · rename_i v w1 hr
        refine wpList_plain hg fun K hK => ?_
        unfold Oper.wp
        rw [hr]
        exact hK _ _ (runL_wp r _ _ _ _ h hq)
      · cases h

theorem region_wp {P : Program} {Q : Exit → Act → World → Prop} {id : Nat} {ops : Array Oper} {a a' : Act} {w w' : World}
    (h : runL P ops.toList a w = some (a', w')) (hq : Q .normal a' w') : (Code.region id ops false).wp P Q a w :=
  wp_region_list (runL_wp _ _ _ _ _ h hq)

end Run

/-- All that was there is as it was. -/
theorem ext_trans {a b c : World} (h : Below a.heap.size a b) (k : Below b.heap.size b c) : Below a.heap.size a c := h.trans (k.mono h.size)
theorem ext_alloc {a b : World} (h : Below a.heap.size a b) (o : Obj) : Below a.heap.size a (b.alloc o) := h.alloc h.size o
/-- A block that the call laid ahead of a further call. -/
theorem kept_block {w w3 : World} {c : Array Value} {T : TypeId} (h : Below (w.alloc (.cells c T)).heap.size (w.alloc (.cells c T)) w3) :
    w.heap.size < w3.heap.size ∧ ∀ o, w3.cell? ⟨w.heap.size, o, none⟩ = c[o]? := by
  have h1 : w.heap.size < (w.alloc (.cells c T)).heap.size := by simp
  exact ⟨Nat.lt_of_lt_of_le h1 h.size, fun o => (h.cell (p := ⟨w.heap.size, o, none⟩) h1).trans (World.cell?_alloc_at _ _ _ _ rfl)⟩
theorem kept_block2 {w w3 : World} {c c' : Array Value} {T T' : TypeId} (h : Below ((w.alloc (.cells c T)).alloc (.cells c' T')).heap.size ((w.alloc (.cells c T)).alloc (.cells c' T')) w3) :
    w.heap.size + 1 < w3.heap.size ∧ (∀ o, w3.cell? ⟨w.heap.size, o, none⟩ = c[o]?) ∧ ∀ o, w3.cell? ⟨w.heap.size + 1, o, none⟩ = c'[o]? := by
  have h0 : (w.alloc (.cells c T)).heap.size = w.heap.size + 1 := by simp
  obtain ⟨h1, h2⟩ := kept_block h
  rw [h0] at h1 h2
  refine ⟨h1, fun o => ?_, h2⟩
  rw [h.cell (p := ⟨w.heap.size, o, none⟩) (by simp; omega), World.cell?_alloc_past _ _ _ (by simp)]
  exact World.cell?_alloc_at _ _ _ _ rfl
theorem bcell {W w1 : World} (hb : Below W.heap.size W w1) : (∀ b o, b < W.heap.size → w1.cell? ⟨b, o, none⟩ = W.cell? ⟨b, o, none⟩) ∧ (∀ b o, b < W.heap.size → w1.frozen? ⟨b, o, none⟩ = W.frozen? ⟨b, o, none⟩) :=
  ⟨fun b o h => hb.cell (p := ⟨b, o, none⟩) h, fun b o h => hb.frozen (p := ⟨b, o, none⟩) h⟩

/-- The call answers true; all that was there is as it was. -/
def TruePost (w : World) (e : Ending) (w' : World) : Prop := e = .returned (.bool true) ∧ Below w.heap.size w w'

end Go.Proofs.YtlmpiobdgkmmgaaGreatDoor
