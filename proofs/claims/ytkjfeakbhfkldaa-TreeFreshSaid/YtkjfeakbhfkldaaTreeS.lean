/- Areas of two places, and what a node reads. -/
import Derived.Test.YtkjfeakbhfkldaaTreeE
namespace Go.Proofs.Ytkjfeakbhfkldaa
open Go.RowKit

/-- An area's four numbers. -/
structure Ar where
  top : Int
  left : Int
  bottom : Int
  right : Int
deriving DecidableEq
def arOf (a b c d : Int) : Ar := ⟨min a c, min b d, max a c, max b d⟩
def OfPost (a b c d : Int) (w : World) (e : Ending) (w' : World) : Prop := e = .returned (.agg #[.int .i64 (arOf a b c d).top, .int .i64 (arOf a b c d).left, .int .i64 (arOf a b c d).bottom, .int .i64 (arOf a b c d).right]) ∧ Below w.heap.size w w'

theorem ag4 {x y z t x' y' z' t' : Int} (h1 : x = x') (h2 : y = y') (h3 : z = z') (h4 : t = t') : Ending.returned (.agg #[.int .i64 x, .int .i64 y, .int .i64 z, .int .i64 t]) = .returned (.agg #[.int .i64 x', .int .i64 y', .int .i64 z', .int .i64 t']) := by subst h1 h2 h3 h4; rfl

set_option maxRecDepth 100000 in
set_option maxHeartbeats 1000000 in
theorem areaOf_any (a b c d : Int) (w : World) : Calls Try.prog 56 #[.agg #[.int .i64 a, .int .i64 b], .agg #[.int .i64 c, .int .i64 d]] w (OfPost a b c d w) := by
  go_enter Try.func56, Try.ntmps56
  go_wp2
  all_goals
    refine bodyPost_ret (by simp [results, Try.results56, go_sem]; rfl) rfl ?_
    refine ⟨ag4 ?_ ?_ ?_ ?_, ?_⟩
    · simp only [arOf]; omega
    · simp only [arOf]; omega
    · simp only [arOf]; omega
    · simp only [arOf]; omega
    · exact ext_alloc (ext_alloc (ext_alloc (Below.refl _ _) _) _) _
set_option maxRecDepth 100000 in
set_option maxHeartbeats 1000000 in
theorem refOf_any (a b c d : Int) (w : World) : Calls Try.prog 82 #[.agg #[.int .i64 a, .int .i64 b], .agg #[.int .i64 c, .int .i64 d]] w (OfPost a b c d w) := by
  go_enter Try.func82, Try.ntmps82
  go_wp2
  all_goals
    refine bodyPost_ret (by simp [results, Try.results82, go_sem]; rfl) rfl ?_
    refine ⟨ag4 ?_ ?_ ?_ ?_, ?_⟩
    · simp only [arOf]; omega
    · simp only [arOf]; omega
    · simp only [arOf]; omega
    · simp only [arOf]; omega
    · exact ext_alloc (ext_alloc (ext_alloc (Below.refl _ _) _) _) _
end Go.Proofs.Ytkjfeakbhfkldaa
