/- Trees: what is read: the pure law, rows of areas, the reference's reads. -/
import Derived.Test.YtkjfeakbhfkldaaTreeS
import Derived.Test.YtkjfeakbhfkldaaTreeO
import Derived.Deep.AppendLies
namespace Go.Proofs.Ytkjfeakbhfkldaa
open Go.RowKit

/-- What a node reads itself. -/
def readN (h : Hd) : List Ar := if h.kind = 5 then [arOf h.ref.row h.ref.col h.ref.row h.ref.col] else if h.kind = 6 then [arOf h.ref.row h.ref.col h.to.row h.to.col] else []
/-- What a list of trees reads. -/
def readsL : Trees → List Ar
  | .nil => []
  | .cons h k r => readN h ++ (readsL k ++ readsL r)
def readsT (h : Hd) (ks : Trees) : List Ar := readN h ++ readsL ks
theorem readN_le (h : Hd) : (readN h).length ≤ 1 := by unfold readN; split <;> (try split) <;> simp
theorem readsL_le : ∀ t : Trees, (readsL t).length ≤ t.nodes
  | .nil => Nat.le_refl _
  | .cons h k r => by have := readN_le h; have := readsL_le k; have := readsL_le r; simp only [readsL, Trees.nodes, List.length_append]; omega
theorem readsT_le (h : Hd) (ks : Trees) : (readsT h ks).length ≤ 1 + ks.nodes := by
  have := readN_le h; have := readsL_le ks; simp only [readsT, List.length_append]; omega
/-- A walk in the order of the nodes reads just so. -/
theorem fold_reads : ∀ (t : Trees) (s : List Ar), t.pre.foldl (fun s x => s ++ readN x.1) s = s ++ readsL t
  | .nil, s => by simp [Trees.pre, readsL]
  | .cons h k r, s => by
    rw [Trees.pre, List.foldl_cons, List.foldl_append, fold_reads k, fold_reads r, readsL]
    simp only [List.append_assoc]
theorem fold_readsT (h : Hd) (ks : Trees) (s : List Ar) : ((h, ks.len) :: ks.pre).foldl (fun s x => s ++ readN x.1) s = s ++ readsT h ks := by
  rw [List.foldl_cons, fold_reads, readsT, List.append_assoc]

def Ar.vals (a : Ar) : List Value := [.int .i64 a.top, .int .i64 a.left, .int .i64 a.bottom, .int .i64 a.right]
def arCells : List Ar → List Value
  | [] => []
  | a :: r => a.vals ++ arCells r
theorem arCells_app : ∀ a b : List Ar, arCells (a ++ b) = arCells a ++ arCells b
  | [], b => rfl
  | x :: a, b => by simp [arCells, arCells_app a b]
/-- A row of areas that a call owns. -/
def ArRow (b0 : Nat) (w : World) (l : List Ar) (v : Value) : Prop := w.ownsRow b0 47 4 v l.length (arCells l)
theorem ArRow.nil (b0 : Nat) (w : World) : ArRow b0 w [] (.slice none 0 0) := World.ownsRow_nil w _ _ _
theorem infoAr : (Try.prog.info? 47).map (fun i => (i.zero, i.size, i.bytes)) = some (some (.agg #[.int .i64 0, .int .i64 0, .int .i64 0, .int .i64 0]), 4, 32) := by kernel_rfl
end Go.Proofs.Ytkjfeakbhfkldaa
