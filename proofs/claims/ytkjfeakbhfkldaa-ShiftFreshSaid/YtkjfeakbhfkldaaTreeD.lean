/- Trees: is a node as the document says? (told) -/
import Derived.Test.YtkjfeakbhfkldaaTreeC
import Derived.Test.YtkjfeakbhfkldaaTreeR
import Derived.BigRegion
import Derived.BigQuiet
import Derived.Deep.QuietTactic
namespace Go.Proofs.Ytkjfeakbhfkldaa
open Go.RowKit

set_option maxRecDepth 100000 in
set_option maxHeartbeats 1000000 in
theorem spotMay_any (row col : Int) (w : World) : Calls Try.prog 90 #[.agg #[.int .i64 row, .int .i64 col]] w fun e w' =>
    e = .returned (.bool (placeB ⟨row, col, false, false⟩)) ∧ Below w.heap.size w w' := by
  go_enter Try.func90, Try.ntmps90
  go_wp2
  all_goals
    go_ret
    exact ⟨ret_bool (by rw [Bool.eq_iff_iff]; simp [placeB]; try omega), ext_alloc (Below.refl _ _) _⟩
set_option maxRecDepth 100000 in
set_option maxHeartbeats 1000000 in
theorem on_any (r : RefT) (w : World) : Calls Try.prog 80 #[.agg #[.int .i64 r.row, .int .i64 r.col, .bool r.pr, .bool r.pc]] w fun e w' =>
    e = .returned (.bool (placeB r)) ∧ Below w.heap.size w w' := by
  obtain ⟨row, col, pr, pc⟩ := r
  go_enter Try.func80, Try.ntmps80
  go_wp2_with (go_at_call 90; refine (spotMay_any _ _ _).mono ?_; rintro e w1 ⟨rfl, b1⟩)
  go_ret
  exact ⟨rfl, ext_trans (ext_alloc (Below.refl _ _) _) b1⟩

theorem fits_bare {h : Hd} {n : Nat} {lo hi : Int} (hb : bareB h n = false) : fitsB h n lo hi = false := by
  obtain ⟨kind, op, num, text, ref, to, fn⟩ := h
  have hx : ¬ (bareB ⟨kind, op, num, text, ref, to, fn⟩ n = true) := by rw [hb]; decide
  apply Bool.eq_false_iff.2
  intro hf
  apply hx
  simp only [fitsB, bareB, Bool.and_eq_true, Bool.or_eq_true, decide_eq_true_eq] at hf ⊢
  obtain ⟨⟨⟨⟨⟨⟨⟨h1, h2⟩, h3⟩, h4⟩, h5⟩, h6⟩, h7⟩, h8⟩ := hf
  refine ⟨⟨⟨⟨⟨⟨?_, ?_⟩, ?_⟩, ?_⟩, ?_⟩, ?_⟩, ?_⟩
  · rcases h1 with (h1 | h1) | h1
    · exact .inl (.inl h1)
    · exact .inl (.inr h1.1.1)
    · exact .inr h1.1.1
  · by_cases k1 : kind = 1
    · simp [k1]
    · by_cases k3 : kind = 3
      · simp [k3]
      · by_cases k4 : kind = 4
        · simp [k4]
        · simp [k1, k3, k4] at h3 ⊢; exact h3
  · exact h4.symm
  · by_cases k : kind = 5 ∨ kind = 6
    · rcases k with k | k <;> simp [k]
    · rw [if_neg k] at h5; simp at h5; exact .inl (.inl h5)
  · by_cases k : kind = 6
    · simp [k]
    · rw [if_neg k] at h6; simp at h6; exact .inl h6
  · by_cases k : kind = 9
    · simp [k]
    · rw [if_neg k] at h7; simp only [Bool.and_eq_true, decide_eq_true_eq] at h7; exact .inl h7.1
  · by_cases k : kind = 9
    · simp [k]
    · rw [if_neg k] at h7; simp only [Bool.and_eq_true, decide_eq_true_eq] at h7; exact .inl h7.2

/-- What is left to ask of a node whose other fields are zero. -/
def kindB (h : Hd) (n : Nat) (lo hi : Int) : Bool :=
  if h.kind = 1 then decide (0 ≤ h.num) else if h.kind = 2 then true else if h.kind = 3 then decide (h.num = 0) || decide (h.num = 1)
  else if h.kind = 4 then decide (1 ≤ h.num) && decide (h.num ≤ 6) else if h.kind = 5 then placeB h.ref else if h.kind = 6 then placeB h.ref && placeB h.to
  else if h.kind = 7 then decide (1 ≤ h.op) && decide (h.op ≤ 3) else if h.kind = 8 then decide (1 ≤ h.op) && decide (h.op ≤ 12)
  else if h.kind = 9 then decide (1 ≤ h.fn) && decide (h.fn ≤ 76) && decide (lo ≤ n) && (decide (hi < 0) || decide (n ≤ hi)) else false
theorem fits_kind {h : Hd} {n : Nat} {lo hi : Int} (hb : bareB h n = true) : fitsB h n lo hi = kindB h n lo hi := by
  obtain ⟨kind, op, num, text, ref, to, fn⟩ := h
  rw [Bool.eq_iff_iff]
  by_cases h1 : kind < 1 ∨ 9 < kind
  · have : kindB ⟨kind, op, num, text, ref, to, fn⟩ n lo hi = false := by
      simp only [kindB]
      repeat rw [if_neg (by omega)]
    rw [this]
    simp [fitsB]
    omega
  · have h2 : kind = 1 ∨ kind = 2 ∨ kind = 3 ∨ kind = 4 ∨ kind = 5 ∨ kind = 6 ∨ kind = 7 ∨ kind = 8 ∨ kind = 9 := by omega
    rcases h2 with h2 | h2 | h2 | h2 | h2 | h2 | h2 | h2 | h2 <;> subst h2 <;> simp_all [fitsB, bareB, kindB] <;> omega
end Go.Proofs.Ytkjfeakbhfkldaa
