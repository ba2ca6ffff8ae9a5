/- Trees: the small functions that look at one node. -/
import Derived.Test.YtkjfeakbhfkldaaTreeM
import Derived.Test.YtkjfeakbhfkldaaListA
import Derived.BigQuiet
import Derived.Deep.QuietTactic
namespace Go.Proofs.Ytkjfeakbhfkldaa
open Go.RowKit
theorem ret_bool {a b : Bool} (h : a = b) : Ending.returned (.bool a) = .returned (.bool b) := by rw [h]
theorem infoV_eq (n : Int) : infoV n = .tuple #[.agg #[.string ⟨(infoRow n).name.toArray⟩, .int .i64 (infoRow n).cls, .int .i64 (infoRow n).min, .int .i64 (infoRow n).max], .int .i64 (infoErr n)] := rfl

set_option maxRecDepth 100000 in
set_option maxHeartbeats 1000000 in
theorem place_any (r : RefT) (w : World) : Calls Try.prog 94 #[.agg #[.int .i64 r.row, .int .i64 r.col, .bool r.pr, .bool r.pc]] w fun e w' =>
    e = .returned (.bool (placeB r)) ∧ Below w.heap.size w w' := by
  obtain ⟨row, col, pr, pc⟩ := r
  go_enter Try.func94, Try.ntmps94
  go_wp2
  all_goals
    go_ret
    exact ⟨ret_bool (by rw [Bool.eq_iff_iff]; simp [placeB]; try omega), ext_alloc (Below.refl _ _) _⟩

/-- Two references as '==' tells them apart: one word, so that a walk does not part on each field. -/
def refEq (a b : Int) (c d : Bool) (a' b' : Int) (c' d' : Bool) : Bool := decide ((⟨a, b, c, d⟩ : RefT) = ⟨a', b', c', d'⟩)
theorem refEq_of (r s : RefT) : refEq r.row r.col r.pr r.pc s.row s.col s.pr s.pc = decide (r = s) := rfl
@[go_sem ↓ high] theorem run_eql_ref (a b : Int) (c d : Bool) (a' b' : Int) (c' d' : Bool) (w : World) :
    (binOp .eql 26 (.agg #[.int .i64 a, .int .i64 b, .bool c, .bool d]) (.agg #[.int .i64 a', .int .i64 b', .bool c', .bool d'])).run Try.prog w = .ok (.bool (refEq a b c d a' b' c' d')) w := by
  by_cases h1 : a = a' <;> by_cases h2 : b = b' <;> by_cases h3 : c = c' <;> by_cases h4 : d = d' <;> simp [go_sem, refEq, h1, h2, h3, h4]

def fitsV (h : Hd) (n : Nat) : Bool := fitsB h n (infoRow h.fn).min (infoRow h.fn).max
end Go.Proofs.Ytkjfeakbhfkldaa
