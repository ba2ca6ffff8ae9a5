/- Trees: is a node as the document says? -/
import Derived.Test.YtlmpiobdgkmmgaaGreatDoorKcB
import Derived.Test.YtlmpiobdgkmmgaaGreatDoorKcA
import Derived.BigRegion
import Derived.BigQuiet
import Derived.Deep.QuietTactic
set_option maxRecDepth 1000000
set_option maxHeartbeats 16000000
namespace Go.Proofs.YtlmpiobdgkmmgaaGreatDoor
open Go.RowKit
theorem spotMay_any (row col : Int) (w : World) : Calls Tryz.prog 76 #[.agg #[.int .i64 row, .int .i64 col]] w fun e w' =>
 e = .returned (.bool (placeB ⟨row, col, false, false⟩)) ∧ Below w.heap.size w w' := by
 go_enter Tryz.func76, Tryz.ntmps76
 go_wp2
 all_goals
  go_ret
  exact ⟨ret_bool (by rw [Bool.eq_iff_iff]; simp [placeB]; try omega), ext_alloc (Below.refl _ _) _⟩
theorem on_any (r : RefT) (w : World) : Calls Tryz.prog 70 #[.agg #[.int .i64 r.row, .int .i64 r.col, .bool r.pr, .bool r.pc]] w fun e w' =>
 e = .returned (.bool (placeB r)) ∧ Below w.heap.size w w' := by
 obtain ⟨row, col, pr, pc⟩ := r
 go_enter Tryz.func70, Tryz.ntmps70
 go_wp2_with (go_at_call 76; refine (spotMay_any _ _ _).mono ?_; rintro e w1 ⟨rfl, b1⟩)
 go_ret
 exact ⟨rfl, ext_trans (ext_alloc (Below.refl _ _) _) b1⟩
theorem fits_bare {h : Hd} {n : Nat} {lo hi : Int} (hb : bareB h n = false) : fitsB h n lo hi = false := by
 obtain ⟨kind, op, num, text, ref, to, fn⟩ := h
 have hx : ¬ (bareB ⟨kind, op, num, text, ref, to, fn⟩ n = true) := by rw [hb]; decide
 apply Bool.eq_false_iff.2
 intro hf
 apply hx
 simp only [fitsB, bareB, Bool.and_eq_true, Bool.or_eq_true, decide_eq_true_eq] at hf ⊢
 obtain ⟨⟨⟨⟨⟨⟨⟨h1, h2⟩, h3⟩, h4⟩, h5⟩, h6⟩, h7⟩, h8⟩ := hf
 refine ⟨⟨⟨⟨⟨⟨?_, ?_⟩, ?_⟩, ?_⟩, ?_⟩, ?_⟩, ?_⟩
 ·rcases h1 with (h1 | h1) | h1
  ·exact .inl (.inl h1)
  ·exact .inl (.inr h1.1.1)
  ·exact .inr h1.1.1
 ·by_cases k1 : kind = 1
  ·simp [k1]
  ·by_cases k3 : kind = 3
   ·simp [k3]
   ·by_cases k4 : kind = 4
    ·simp [k4]
    ·simp [k1, k3, k4] at h3 ⊢; exact h3
 ·exact h4.symm
 ·by_cases k : kind = 5 ∨ kind = 6
  ·rcases k with k | k <;> simp [k]
  ·rw [if_neg k] at h5; simp at h5; exact .inl (.inl h5)
 ·by_cases k : kind = 6
  ·simp [k]
  ·rw [if_neg k] at h6; simp at h6; exact .inl h6
 ·by_cases k : kind = 9
  ·simp [k]
  ·rw [if_neg k] at h7; simp only [Bool.and_eq_true, decide_eq_true_eq] at h7; exact .inl h7.1
 ·by_cases k : kind = 9
  ·simp [k]
  ·rw [if_neg k] at h7; simp only [Bool.and_eq_true, decide_eq_true_eq] at h7; exact .inl h7.2
def kindB (h : Hd) (n : Nat) (lo hi : Int) : Bool :=
 if h.kind = 1 then decide (0 ≤ h.num) else if h.kind = 2 then true else if h.kind = 3 then decide (h.num = 0) || decide (h.num = 1)
 else if h.kind = 4 then decide (1 ≤ h.num) && decide (h.num ≤ 6) else if h.kind = 5 then placeB h.ref else if h.kind = 6 then placeB h.ref && placeB h.to
 else if h.kind = 7 then decide (1 ≤ h.op) && decide (h.op ≤ 3) else if h.kind = 8 then decide (1 ≤ h.op) && decide (h.op ≤ 12)
 else if h.kind = 9 then decide (1 ≤ h.fn) && decide (h.fn ≤ 76) && decide (lo ≤ n) && (decide (hi < 0) || decide (n ≤ hi)) else false
theorem fits_kind {h : Hd} {n : Nat} {lo hi : Int} (hb : bareB h n = true) : fitsB h n lo hi = kindB h n lo hi := by
 obtain ⟨kind, op, num, text, ref, to, fn⟩ := h
 rw [Bool.eq_iff_iff]
 by_cases h1 : kind < 1 ∨ 9 < kind
 ·have : kindB ⟨kind, op, num, text, ref, to, fn⟩ n lo hi = false := by
   simp only [kindB]
   repeat rw [if_neg (by omega)]
  rw [this]
  simp [fitsB]
  omega
 ·have h2 : kind = 1 ∨ kind = 2 ∨ kind = 3 ∨ kind = 4 ∨ kind = 5 ∨ kind = 6 ∨ kind = 7 ∨ kind = 8 ∨ kind = 9 := by omega
  rcases h2 with h2 | h2 | h2 | h2 | h2 | h2 | h2 | h2 | h2 <;> subst h2 <;> simp_all [fitsB, bareB, kindB] <;> omega
end Go.Proofs.YtlmpiobdgkmmgaaGreatDoor
namespace Go.Proofs.YtlmpiobdgkmmgaaGreatDoor
open Go.RowKit
theorem told_k1 (h : Hd) (b off : Nat) (ka : Option Addr) (kl kc : Nat) (w : World) (N : NodeAt w b off h (.slice ka kl kc)) (hb : bareB h kl = true) (hk : h.kind = 1) : Calls Tryz.prog 43 #[.pointer (some ⟨b, off, none⟩)] w fun e w' =>
 e = .returned (.bool (kindB h kl (infoRow h.fn).min (infoRow h.fn).max)) ∧ Below w.heap.size w w' := by
 have B := bare_any h b off ka kl kc w N
 rw [hb] at B
 clear hb
 have HB := Lib.hid B; clear B
 obtain ⟨kind, op, num, text, ⟨rr, rc, rpr, rpc⟩, ⟨tr, tc, tpr, tpc⟩, fn⟩ := h
 simp only at hk
 subst hk
 skip
 all_goals
  go_enter Tryz.func43, Tryz.ntmps43
  go_wp2_with fail
  refine HB.out.mono ?_; rintro e w1 ⟨rfl, b1⟩
  have N1 := N.kept b1 N.1
  obtain ⟨hlt1, c0, c1, c2, c3, c4, c5, c6, c7, c8, c9, c10, c11, c12, c13, d5, d6, d7, d9, d10, d11⟩ := N1.facts
  simp only at c0 c1 c2 c3 c4 c5 c6 c7 c8 c9 c10 c11 c12 c13 d5 d6 d7 d9 d10 d11
  go_wp2
  all_goals
   clear c0 c1 c2 c3 c4 c5 c6 c7 c8 c9 c10 c11 c12 c13 d5 d6 d7 d9 d10 d11
   go_ret
   refine ⟨ret_bool ?_, b1⟩
   rw [Bool.eq_iff_iff]
   simp_all [kindB] <;> omega
theorem told_k2 (h : Hd) (b off : Nat) (ka : Option Addr) (kl kc : Nat) (w : World) (N : NodeAt w b off h (.slice ka kl kc)) (hb : bareB h kl = true) (hk : h.kind = 2) : Calls Tryz.prog 43 #[.pointer (some ⟨b, off, none⟩)] w fun e w' =>
 e = .returned (.bool (kindB h kl (infoRow h.fn).min (infoRow h.fn).max)) ∧ Below w.heap.size w w' := by
 have B := bare_any h b off ka kl kc w N
 rw [hb] at B
 clear hb
 have HB := Lib.hid B; clear B
 obtain ⟨kind, op, num, text, ⟨rr, rc, rpr, rpc⟩, ⟨tr, tc, tpr, tpc⟩, fn⟩ := h
 simp only at hk
 subst hk
 skip
 all_goals
  go_enter Tryz.func43, Tryz.ntmps43
  go_wp2_with fail
  refine HB.out.mono ?_; rintro e w1 ⟨rfl, b1⟩
  have N1 := N.kept b1 N.1
  obtain ⟨hlt1, c0, c1, c2, c3, c4, c5, c6, c7, c8, c9, c10, c11, c12, c13, d5, d6, d7, d9, d10, d11⟩ := N1.facts
  simp only at c0 c1 c2 c3 c4 c5 c6 c7 c8 c9 c10 c11 c12 c13 d5 d6 d7 d9 d10 d11
  go_wp2
  all_goals
   clear c0 c1 c2 c3 c4 c5 c6 c7 c8 c9 c10 c11 c12 c13 d5 d6 d7 d9 d10 d11
   go_ret
   refine ⟨ret_bool ?_, b1⟩
   rw [Bool.eq_iff_iff]
   simp_all [kindB] <;> omega
theorem told_k3 (h : Hd) (b off : Nat) (ka : Option Addr) (kl kc : Nat) (w : World) (N : NodeAt w b off h (.slice ka kl kc)) (hb : bareB h kl = true) (hk : h.kind = 3) : Calls Tryz.prog 43 #[.pointer (some ⟨b, off, none⟩)] w fun e w' =>
 e = .returned (.bool (kindB h kl (infoRow h.fn).min (infoRow h.fn).max)) ∧ Below w.heap.size w w' := by
 have B := bare_any h b off ka kl kc w N
 rw [hb] at B
 clear hb
 have HB := Lib.hid B; clear B
 obtain ⟨kind, op, num, text, ⟨rr, rc, rpr, rpc⟩, ⟨tr, tc, tpr, tpc⟩, fn⟩ := h
 simp only at hk
 subst hk
 skip
 all_goals
  go_enter Tryz.func43, Tryz.ntmps43
  go_wp2_with fail
  refine HB.out.mono ?_; rintro e w1 ⟨rfl, b1⟩
  have N1 := N.kept b1 N.1
  obtain ⟨hlt1, c0, c1, c2, c3, c4, c5, c6, c7, c8, c9, c10, c11, c12, c13, d5, d6, d7, d9, d10, d11⟩ := N1.facts
  simp only at c0 c1 c2 c3 c4 c5 c6 c7 c8 c9 c10 c11 c12 c13 d5 d6 d7 d9 d10 d11
  go_wp2
  all_goals
   clear c0 c1 c2 c3 c4 c5 c6 c7 c8 c9 c10 c11 c12 c13 d5 d6 d7 d9 d10 d11
   go_ret
   refine ⟨ret_bool ?_, b1⟩
   rw [Bool.eq_iff_iff]
   simp_all [kindB] <;> omega
theorem told_k4 (h : Hd) (b off : Nat) (ka : Option Addr) (kl kc : Nat) (w : World) (N : NodeAt w b off h (.slice ka kl kc)) (hb : bareB h kl = true) (hk : h.kind = 4) : Calls Tryz.prog 43 #[.pointer (some ⟨b, off, none⟩)] w fun e w' =>
 e = .returned (.bool (kindB h kl (infoRow h.fn).min (infoRow h.fn).max)) ∧ Below w.heap.size w w' := by
 have B := bare_any h b off ka kl kc w N
 rw [hb] at B
 clear hb
 have HB := Lib.hid B; clear B
 obtain ⟨kind, op, num, text, ⟨rr, rc, rpr, rpc⟩, ⟨tr, tc, tpr, tpc⟩, fn⟩ := h
 simp only at hk
 subst hk
 skip
 all_goals
  go_enter Tryz.func43, Tryz.ntmps43
  go_wp2_with fail
  refine HB.out.mono ?_; rintro e w1 ⟨rfl, b1⟩
  have N1 := N.kept b1 N.1
  obtain ⟨hlt1, c0, c1, c2, c3, c4, c5, c6, c7, c8, c9, c10, c11, c12, c13, d5, d6, d7, d9, d10, d11⟩ := N1.facts
  simp only at c0 c1 c2 c3 c4 c5 c6 c7 c8 c9 c10 c11 c12 c13 d5 d6 d7 d9 d10 d11
  go_wp2
  all_goals
   clear c0 c1 c2 c3 c4 c5 c6 c7 c8 c9 c10 c11 c12 c13 d5 d6 d7 d9 d10 d11
   go_ret
   refine ⟨ret_bool ?_, b1⟩
   rw [Bool.eq_iff_iff]
   simp_all [kindB] <;> omega
theorem told_k5 (h : Hd) (b off : Nat) (ka : Option Addr) (kl kc : Nat) (w : World) (N : NodeAt w b off h (.slice ka kl kc)) (hb : bareB h kl = true) (hk : h.kind = 5) : Calls Tryz.prog 43 #[.pointer (some ⟨b, off, none⟩)] w fun e w' =>
 e = .returned (.bool (kindB h kl (infoRow h.fn).min (infoRow h.fn).max)) ∧ Below w.heap.size w w' := by
 have B := bare_any h b off ka kl kc w N
 rw [hb] at B
 clear hb
 have HB := Lib.hid B; clear B
 obtain ⟨kind, op, num, text, ⟨rr, rc, rpr, rpc⟩, ⟨tr, tc, tpr, tpc⟩, fn⟩ := h
 simp only at hk
 subst hk
 skip
 all_goals
  go_enter Tryz.func43, Tryz.ntmps43
  go_wp2_with fail
  refine HB.out.mono ?_; rintro e w1 ⟨rfl, b1⟩
  have N1 := N.kept b1 N.1
  obtain ⟨hlt1, c0, c1, c2, c3, c4, c5, c6, c7, c8, c9, c10, c11, c12, c13, d5, d6, d7, d9, d10, d11⟩ := N1.facts
  simp only at c0 c1 c2 c3 c4 c5 c6 c7 c8 c9 c10 c11 c12 c13 d5 d6 d7 d9 d10 d11
  go_wp2_with (go_at_call 70; refine (on_any ⟨_, _, _, _⟩ _).mono ?_; rintro e w2 ⟨rfl, b2⟩)
  all_goals
   clear c0 c1 c2 c3 c4 c5 c6 c7 c8 c9 c10 c11 c12 c13 d5 d6 d7 d9 d10 d11
   go_ret
   refine ⟨ret_bool ?_, ext_trans b1 b2⟩
   rw [Bool.eq_iff_iff]
   simp_all [kindB] <;> omega
end Go.Proofs.YtlmpiobdgkmmgaaGreatDoor
namespace Go.Proofs.YtlmpiobdgkmmgaaGreatDoor
open Go.RowKit
theorem told_k6 (h : Hd) (b off : Nat) (ka : Option Addr) (kl kc : Nat) (w : World) (N : NodeAt w b off h (.slice ka kl kc)) (hb : bareB h kl = true) (hk : h.kind = 6) : Calls Tryz.prog 43 #[.pointer (some ⟨b, off, none⟩)] w fun e w' =>
 e = .returned (.bool (kindB h kl (infoRow h.fn).min (infoRow h.fn).max)) ∧ Below w.heap.size w w' := by
 have B := bare_any h b off ka kl kc w N
 rw [hb] at B
 clear hb
 have HB := Lib.hid B; clear B
 obtain ⟨kind, op, num, text, ⟨rr, rc, rpr, rpc⟩, ⟨tr, tc, tpr, tpc⟩, fn⟩ := h
 simp only at hk
 subst hk
 skip
 all_goals
  go_enter Tryz.func43, Tryz.ntmps43
  go_wp2_with fail
  refine HB.out.mono ?_; rintro e w1 ⟨rfl, b1⟩
  have N1 := N.kept b1 N.1
  obtain ⟨hlt1, c0, c1, c2, c3, c4, c5, c6, c7, c8, c9, c10, c11, c12, c13, d5, d6, d7, d9, d10, d11⟩ := N1.facts
  simp only at c0 c1 c2 c3 c4 c5 c6 c7 c8 c9 c10 c11 c12 c13 d5 d6 d7 d9 d10 d11
  go_wp2_with fail
  refine (on_any ⟨_, _, _, _⟩ _).mono ?_; rintro e w2 ⟨rfl, b2⟩
  clear c0 c1 c2 c3 c4 c5 c6 c7 c8 c9 c10 c11 c12 c13 d5 d6 d7 d9 d10 d11
  have N2 := N1.kept b2 N1.1
  obtain ⟨hlt2, c0, c1, c2, c3, c4, c5, c6, c7, c8, c9, c10, c11, c12, c13, d5, d6, d7, d9, d10, d11⟩ := N2.facts
  simp only at c0 c1 c2 c3 c4 c5 c6 c7 c8 c9 c10 c11 c12 c13 d5 d6 d7 d9 d10 d11
  cases hp : placeB ⟨rr, rc, rpr, rpc⟩
  ·go_wp2
   clear c0 c1 c2 c3 c4 c5 c6 c7 c8 c9 c10 c11 c12 c13 d5 d6 d7 d9 d10 d11
   go_ret
   refine ⟨ret_bool ?_, ext_trans b1 b2⟩
   rw [Bool.eq_iff_iff]
   simp_all [kindB] <;> omega
  ·go_wp2_with (go_at_call 70; refine (on_any ⟨_, _, _, _⟩ _).mono ?_; rintro e w3 ⟨rfl, b3⟩)
   clear c0 c1 c2 c3 c4 c5 c6 c7 c8 c9 c10 c11 c12 c13 d5 d6 d7 d9 d10 d11
   go_ret
   refine ⟨ret_bool ?_, ext_trans (ext_trans b1 b2) b3⟩
   rw [Bool.eq_iff_iff]
   simp_all [kindB] <;> omega
theorem told_k7 (h : Hd) (b off : Nat) (ka : Option Addr) (kl kc : Nat) (w : World) (N : NodeAt w b off h (.slice ka kl kc)) (hb : bareB h kl = true) (hk : h.kind = 7) : Calls Tryz.prog 43 #[.pointer (some ⟨b, off, none⟩)] w fun e w' =>
 e = .returned (.bool (kindB h kl (infoRow h.fn).min (infoRow h.fn).max)) ∧ Below w.heap.size w w' := by
 have B := bare_any h b off ka kl kc w N
 rw [hb] at B
 clear hb
 have HB := Lib.hid B; clear B
 obtain ⟨kind, op, num, text, ⟨rr, rc, rpr, rpc⟩, ⟨tr, tc, tpr, tpc⟩, fn⟩ := h
 simp only at hk
 subst hk
 skip
 all_goals
  go_enter Tryz.func43, Tryz.ntmps43
  go_wp2_with fail
  refine HB.out.mono ?_; rintro e w1 ⟨rfl, b1⟩
  have N1 := N.kept b1 N.1
  obtain ⟨hlt1, c0, c1, c2, c3, c4, c5, c6, c7, c8, c9, c10, c11, c12, c13, d5, d6, d7, d9, d10, d11⟩ := N1.facts
  simp only at c0 c1 c2 c3 c4 c5 c6 c7 c8 c9 c10 c11 c12 c13 d5 d6 d7 d9 d10 d11
  go_wp2
  all_goals
   clear c0 c1 c2 c3 c4 c5 c6 c7 c8 c9 c10 c11 c12 c13 d5 d6 d7 d9 d10 d11
   go_ret
   refine ⟨ret_bool ?_, b1⟩
   rw [Bool.eq_iff_iff]
   simp_all [kindB] <;> omega
theorem told_k8 (h : Hd) (b off : Nat) (ka : Option Addr) (kl kc : Nat) (w : World) (N : NodeAt w b off h (.slice ka kl kc)) (hb : bareB h kl = true) (hk : h.kind = 8) : Calls Tryz.prog 43 #[.pointer (some ⟨b, off, none⟩)] w fun e w' =>
 e = .returned (.bool (kindB h kl (infoRow h.fn).min (infoRow h.fn).max)) ∧ Below w.heap.size w w' := by
 have B := bare_any h b off ka kl kc w N
 rw [hb] at B
 clear hb
 have HB := Lib.hid B; clear B
 obtain ⟨kind, op, num, text, ⟨rr, rc, rpr, rpc⟩, ⟨tr, tc, tpr, tpc⟩, fn⟩ := h
 simp only at hk
 subst hk
 skip
 all_goals
  go_enter Tryz.func43, Tryz.ntmps43
  go_wp2_with fail
  refine HB.out.mono ?_; rintro e w1 ⟨rfl, b1⟩
  have N1 := N.kept b1 N.1
  obtain ⟨hlt1, c0, c1, c2, c3, c4, c5, c6, c7, c8, c9, c10, c11, c12, c13, d5, d6, d7, d9, d10, d11⟩ := N1.facts
  simp only at c0 c1 c2 c3 c4 c5 c6 c7 c8 c9 c10 c11 c12 c13 d5 d6 d7 d9 d10 d11
  go_wp2
  all_goals
   clear c0 c1 c2 c3 c4 c5 c6 c7 c8 c9 c10 c11 c12 c13 d5 d6 d7 d9 d10 d11
   go_ret
   refine ⟨ret_bool ?_, b1⟩
   rw [Bool.eq_iff_iff]
   simp_all [kindB] <;> omega
theorem told_k9 (h : Hd) (b off : Nat) (ka : Option Addr) (kl kc : Nat) (w : World) (N : NodeAt w b off h (.slice ka kl kc)) (hb : bareB h kl = true) (hk : h.kind = 9) : Calls Tryz.prog 43 #[.pointer (some ⟨b, off, none⟩)] w fun e w' =>
 e = .returned (.bool (kindB h kl (infoRow h.fn).min (infoRow h.fn).max)) ∧ Below w.heap.size w w' := by
 have B := bare_any h b off ka kl kc w N
 rw [hb] at B
 clear hb
 have HB := Lib.hid B; clear B
 obtain ⟨kind, op, num, text, ⟨rr, rc, rpr, rpc⟩, ⟨tr, tc, tpr, tpc⟩, fn⟩ := h
 simp only at hk
 subst hk
 skip
 all_goals
  go_enter Tryz.func43, Tryz.ntmps43
  go_wp2_with fail
  refine HB.out.mono ?_; rintro e w1 ⟨rfl, b1⟩
  have N1 := N.kept b1 N.1
  obtain ⟨hlt1, c0, c1, c2, c3, c4, c5, c6, c7, c8, c9, c10, c11, c12, c13, d5, d6, d7, d9, d10, d11⟩ := N1.facts
  simp only at c0 c1 c2 c3 c4 c5 c6 c7 c8 c9 c10 c11 c12 c13 d5 d6 d7 d9 d10 d11
  go_wp2_with fail
  refine (info_any _ _).mono ?_; rintro e w2 ⟨rfl, b2⟩; rw [infoV_eq]
  clear c0 c1 c2 c3 c4 c5 c6 c7 c8 c9 c10 c11 c12 c13 d5 d6 d7 d9 d10 d11
  have N2 := N1.kept b2 N1.1
  obtain ⟨hlt2, c0, c1, c2, c3, c4, c5, c6, c7, c8, c9, c10, c11, c12, c13, d5, d6, d7, d9, d10, d11⟩ := N2.facts
  simp only at c0 c1 c2 c3 c4 c5 c6 c7 c8 c9 c10 c11 c12 c13 d5 d6 d7 d9 d10 d11
  generalize hR : infoRow fn = R at *
  have HR := Lib.hid hR; clear hR
  generalize hE : infoErr fn = E at *
  have HE := Lib.hid hE; clear hE
  have g1 : (E == 0) = false ∨ E = 0 := by by_cases h : E = 0 <;> simp [h]
  have HN := Lib.hid N2; clear N2
  rcases g1 with g1 | g1
  ·have hd : (E == 0) = false := g1
   go_wp2
   go_quiet (fail)
   go_wp2
   clear c0 c1 c2 c3 c4 c5 c6 c7 c8 c9 c10 c11 c12 c13 d5 d6 d7 d9 d10 d11
   go_ret
   refine ⟨ret_bool ?_, ext_drewN (ext_alloc (ext_trans b1 b2) _) _⟩
   have hr := HR.out; have he := HE.out
   clear HR HE HN HB
   subst hr
   rw [Bool.eq_iff_iff]
   unfold infoErr at he
   by_cases hf : 1 ≤ fn ∧ fn ≤ 76 <;> simp_all [kindB] <;> first | omega | (intros; omega) | grind
  ·subst g1
   by_cases g2 : R.min ≤ (kl : Int)
   ·have hd2 : decide (R.min ≤ (kl : Int)) = true := by simpa using g2
    by_cases g3 : R.max < 0
    ·go_wp2
     go_quiet (fail)
     go_wp2
     clear c0 c1 c2 c3 c4 c5 c6 c7 c8 c9 c10 c11 c12 c13 d5 d6 d7 d9 d10 d11
     go_ret
     refine ⟨ret_bool ?_, ext_drewN (ext_alloc (ext_trans b1 b2) _) _⟩
     have hr := HR.out; have he := HE.out
     clear HR HE HN HB
     subst hr
     rw [Bool.eq_iff_iff]
     unfold infoErr at he
     by_cases hf : 1 ≤ fn ∧ fn ≤ 76 <;> simp_all [kindB] <;> first | omega | (intros; omega) | grind
    ·have hd3 : decide (R.max < 0) = false := by simpa using g3
     go_wp2
     go_quiet (fail)
     go_wp2
     clear c0 c1 c2 c3 c4 c5 c6 c7 c8 c9 c10 c11 c12 c13 d5 d6 d7 d9 d10 d11
     go_ret
     refine ⟨ret_bool ?_, ext_drewN (ext_alloc (ext_trans b1 b2) _) _⟩
     have hr := HR.out; have he := HE.out
     clear HR HE HN HB
     subst hr
     rw [Bool.eq_iff_iff]
     unfold infoErr at he
     by_cases hf : 1 ≤ fn ∧ fn ≤ 76 <;> simp_all [kindB] <;> first | omega | (intros; omega) | grind
   ·have hd2 : decide (R.min ≤ (kl : Int)) = false := by simpa using g2
    go_wp2
    go_quiet (fail)
    go_wp2
    clear c0 c1 c2 c3 c4 c5 c6 c7 c8 c9 c10 c11 c12 c13 d5 d6 d7 d9 d10 d11
    go_ret
    refine ⟨ret_bool ?_, ext_drewN (ext_alloc (ext_trans b1 b2) _) _⟩
    have hr := HR.out; have he := HE.out
    clear HR HE HN HB
    subst hr
    rw [Bool.eq_iff_iff]
    unfold infoErr at he
    by_cases hf : 1 ≤ fn ∧ fn ≤ 76 <;> simp_all [kindB] <;> first | omega | (intros; omega) | grind
theorem told_k10 (h : Hd) (b off : Nat) (ka : Option Addr) (kl kc : Nat) (w : World) (N : NodeAt w b off h (.slice ka kl kc)) (hb : bareB h kl = true) (hk : h.kind < 1 ∨ 9 < h.kind) : Calls Tryz.prog 43 #[.pointer (some ⟨b, off, none⟩)] w fun e w' =>
 e = .returned (.bool (kindB h kl (infoRow h.fn).min (infoRow h.fn).max)) ∧ Below w.heap.size w w' := by
 have B := bare_any h b off ka kl kc w N
 rw [hb] at B
 clear hb
 have HB := Lib.hid B; clear B
 obtain ⟨kind, op, num, text, ⟨rr, rc, rpr, rpc⟩, ⟨tr, tc, tpr, tpc⟩, fn⟩ := h
 simp only at hk
 skip
 rcases hk with hk | hk
 all_goals
  go_enter Tryz.func43, Tryz.ntmps43
  go_wp2_with fail
  refine HB.out.mono ?_; rintro e w1 ⟨rfl, b1⟩
  have N1 := N.kept b1 N.1
  obtain ⟨hlt1, c0, c1, c2, c3, c4, c5, c6, c7, c8, c9, c10, c11, c12, c13, d5, d6, d7, d9, d10, d11⟩ := N1.facts
  simp only at c0 c1 c2 c3 c4 c5 c6 c7 c8 c9 c10 c11 c12 c13 d5 d6 d7 d9 d10 d11
  go_wp2
  all_goals
   clear c0 c1 c2 c3 c4 c5 c6 c7 c8 c9 c10 c11 c12 c13 d5 d6 d7 d9 d10 d11
   go_ret
   refine ⟨ret_bool ?_, b1⟩
   rw [Bool.eq_iff_iff]
   simp_all [kindB] <;> omega
end Go.Proofs.YtlmpiobdgkmmgaaGreatDoor
namespace Go.Proofs.YtlmpiobdgkmmgaaGreatDoor
open Go.RowKit
theorem told_any (h : Hd) (b off : Nat) (ka : Option Addr) (kl kc : Nat) (w : World) (N : NodeAt w b off h (.slice ka kl kc)) : Calls Tryz.prog 43 #[.pointer (some ⟨b, off, none⟩)] w fun e w' =>
 e = .returned (.bool (fitsV h kl)) ∧ Below w.heap.size w w' := by
 cases hb : bareB h kl
 ·have hf : fitsV h kl = false := fits_bare hb
  rw [hf]
  have B := bare_any h b off ka kl kc w N
  rw [hb] at B
  have HB := Lib.hid B
  clear hb hf B N
  go_enter Tryz.func43, Tryz.ntmps43
  go_wp2_with fail
  refine HB.out.mono ?_; rintro e w1 ⟨rfl, b1⟩
  go_wp2
  go_ret
  exact ⟨rfl, b1⟩
 ·have hf : fitsV h kl = kindB h kl (infoRow h.fn).min (infoRow h.fn).max := fits_kind hb
  rw [hf]
  by_cases h1 : h.kind < 1 ∨ 9 < h.kind
  ·exact told_k10 h b off ka kl kc w N hb h1
  ·have h2 : h.kind = 1 ∨ h.kind = 2 ∨ h.kind = 3 ∨ h.kind = 4 ∨ h.kind = 5 ∨ h.kind = 6 ∨ h.kind = 7 ∨ h.kind = 8 ∨ h.kind = 9 := by omega
   rcases h2 with h2 | h2 | h2 | h2 | h2 | h2 | h2 | h2 | h2
   ·exact told_k1 h b off ka kl kc w N hb h2
   ·exact told_k2 h b off ka kl kc w N hb h2
   ·exact told_k3 h b off ka kl kc w N hb h2
   ·exact told_k4 h b off ka kl kc w N hb h2
   ·exact told_k5 h b off ka kl kc w N hb h2
   ·exact told_k6 h b off ka kl kc w N hb h2
   ·exact told_k7 h b off ka kl kc w N hb h2
   ·exact told_k8 h b off ka kl kc w N hb h2
   ·exact told_k9 h b off ka kl kc w N hb h2
end Go.Proofs.YtlmpiobdgkmmgaaGreatDoor
