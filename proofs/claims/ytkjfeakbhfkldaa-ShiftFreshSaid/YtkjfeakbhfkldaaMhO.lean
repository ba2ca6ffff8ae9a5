/- Shifting: the law's call. -/
import Derived.Test.YtkjfeakbhfkldaaMhM
import Derived.Deep.RegionHeld3
import Derived.BigRegion
namespace Go.Proofs.Ytkjfeakbhfkldaa
open Go.RowKit

/-- What a shift gives: the tree moved, or nothing. -/
def GX (m : Mv) (h : Hd) (ks : Trees) (g : Hd) (gk : Trees) : Prop := (shErr m h ks = 0 ∧ g = mvH m h ∧ gk = mvK m ks) ∨ (shErr m h ks ≠ 0 ∧ g = zeroH ∧ gk = .nil)
theorem fresh_kept {w w' : World} {b0 : Nat} {ks : Trees} {v : Value} {F : List Nat} (f : Fresh w b0 ks v F) (h : ∀ b, b0 ≤ b → b < w.heap.size → w'.heap[b]? = w.heap[b]?) (hs : w.heap.size ≤ w'.heap.size) : Fresh w' b0 ks v F :=
  ⟨f.own.kept fun b hb => h b (f.new b hb) (f.lt b hb), f.once, f.new, fun b hb => Nat.lt_of_lt_of_le (f.lt b hb) hs⟩
theorem fresh_nil {w : World} {b0 : Nat} : Fresh w b0 .nil (.slice none 0 0) [] := ⟨ownv_nil, List.nodup_nil, by simp, by simp⟩
theorem ShFPost.any {m : Mv} {h : Hd} {ks : Trees} {w w' : World} {e : Ending} (p : ShFPost m h ks w e w') :
    Below w.heap.size w w' ∧ ∃ (g : Hd) (gk : Trees) (ga : Option Addr) (gl gc : Nat) (F : List Nat), GX m h ks g gk ∧ e = .returned (.tuple #[.agg #[.int .i64 g.kind, .int .i64 g.op, .int .i64 g.num, .string ⟨g.text.toArray⟩, .int .i64 g.ref.row, .int .i64 g.ref.col, .bool g.ref.pr, .bool g.ref.pc, .int .i64 g.to.row, .int .i64 g.to.col, .bool g.to.pr, .bool g.to.pc, .int .i64 g.fn, .slice ga gl gc], .int .i64 (shErr m h ks)]) ∧ Fresh w' w.heap.size gk (.slice ga gl gc) F := by
  rcases p with ⟨b, ⟨s, xa, xl, xc, F, he, t⟩ | ⟨s, he⟩⟩
  · exact ⟨b, _, _, xa, xl, xc, F, .inl ⟨s, rfl, rfl⟩, by rw [he, s], t⟩
  · exact ⟨b, zeroH, .nil, none, 0, 0, [], .inr ⟨s, rfl, rfl⟩, he, fresh_nil⟩
theorem ShXPost.any {m : Mv} {h : Hd} {ks : Trees} {B : Nat} {w w' : World} {e : Ending} (p : ShXPost m h ks B w e w') :
    Below w.heap.size w w' ∧ ∃ (g : Hd) (gk : Trees) (ga : Option Addr) (gl gc : Nat), GX m h ks g gk ∧ e = .returned (.tuple #[.agg #[.int .i64 g.kind, .int .i64 g.op, .int .i64 g.num, .string ⟨g.text.toArray⟩, .int .i64 g.ref.row, .int .i64 g.ref.col, .bool g.ref.pr, .bool g.ref.pc, .int .i64 g.to.row, .int .i64 g.to.col, .bool g.to.pr, .bool g.to.pc, .int .i64 g.fn, .slice ga gl gc], .int .i64 (shErr m h ks)]) ∧ TreeX w' (OkR w B w') g gk ga gl := by
  rcases p with ⟨b, ⟨s, xa, xl, xc, he, t⟩ | ⟨s, he⟩⟩
  · exact ⟨b, _, _, xa, xl, xc, .inl ⟨s, rfl, rfl⟩, by rw [he, s], t⟩
  · exact ⟨b, zeroH, .nil, none, 0, 0, .inr ⟨s, rfl, rfl⟩, he, ⟨rfl, by omega, zero_ok, trivial⟩⟩
/-- A world got of another by single cells that were set in blocks of a kind. -/
structure Sets (P : Nat → Prop) (w w' : World) : Prop where
  size : w'.heap.size = w.heap.size
  same : ∀ b, ¬ P b → w'.heap[b]? = w.heap[b]?
  below : ∀ n w0, (∀ b, P b → n ≤ b) → Below n w0 w → Below n w0 w'
theorem Sets.refl {P : Nat → Prop} {w : World} : Sets P w w := ⟨rfl, fun _ _ => rfl, fun _ _ _ h => h⟩
theorem Sets.set {P : Nat → Prop} {w w' : World} (s : Sets P w w') {p : Addr} (hp : P p.block) (v : Value) : Sets P w (w'.setCell p v) :=
  ⟨by rw [← s.size]; simp [World.setCell], fun b hb => by rw [Below.heap_setCell _ _ _ _ (fun e => hb (by rw [e]; exact hp)), s.same b hb], fun n w0 hn h => (s.below n w0 hn h).setCell (hn _ hp) v⟩
theorem Sets.drew {P : Nat → Prop} {w w' : World} (s : Sets P w w') : Sets P w w'.drew := ⟨s.size, s.same, fun n w0 hn h => (s.below n w0 hn h).drew⟩

end Go.Proofs.Ytkjfeakbhfkldaa
