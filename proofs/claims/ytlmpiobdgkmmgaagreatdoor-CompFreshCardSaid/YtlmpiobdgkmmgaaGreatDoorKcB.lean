/- Trees: the looks at one node, whatever its kind. -/
import Derived.Test.YtlmpiobdgkmmgaaGreatDoorKcA
import Derived.BigQuiet
import Derived.Deep.QuietTactic
import Derived.BigRegion
set_option maxRecDepth 1000000
set_option maxHeartbeats 16000000
namespace Go.Proofs.YtlmpiobdgkmmgaaGreatDoor
open Go.RowKit
theorem ret_bool {a b : Bool} (h : a = b) : Ending.returned (.bool a) = .returned (.bool b) := by rw [h]
theorem infoV_eq (n : Int) : infoV n = .tuple #[.agg #[.string ⟨(infoRow n).name.toArray⟩, .int .i64 (infoRow n).cls, .int .i64 (infoRow n).min, .int .i64 (infoRow n).max], .int .i64 (infoErr n)] := rfl
theorem place_any (r : RefT) (w : World) : Calls Tryz.prog 121 #[.agg #[.int .i64 r.row, .int .i64 r.col, .bool r.pr, .bool r.pc]] w fun e w' =>
 e = .returned (.bool (placeB r)) ∧ Below w.heap.size w w' := by
 obtain ⟨row, col, pr, pc⟩ := r
 go_enter Tryz.func121, Tryz.ntmps121
 go_wp2
 all_goals
  go_ret
  exact ⟨ret_bool (by rw [Bool.eq_iff_iff]; simp [placeB]; try omega), ext_alloc (Below.refl _ _) _⟩
def refEq (a b : Int) (c d : Bool) (a' b' : Int) (c' d' : Bool) : Bool := decide ((⟨a, b, c, d⟩ : RefT) = ⟨a', b', c', d'⟩)
theorem refEq_of (r s : RefT) : refEq r.row r.col r.pr r.pc s.row s.col s.pr s.pc = decide (r = s) := rfl
@[go_sem ↓ high] theorem run_eql_ref (a b : Int) (c d : Bool) (a' b' : Int) (c' d' : Bool) (w : World) :
 (binOp .eql 32 (.agg #[.int .i64 a, .int .i64 b, .bool c, .bool d]) (.agg #[.int .i64 a', .int .i64 b', .bool c', .bool d'])).run Tryz.prog w = .ok (.bool (refEq a b c d a' b' c' d')) w := by
 by_cases h1 : a = a' <;> by_cases h2 : b = b' <;> by_cases h3 : c = c' <;> by_cases h4 : d = d' <;> simp [go_sem, refEq, h1, h2, h3, h4]
def fitsV (h : Hd) (n : Nat) : Bool := fitsB h n (infoRow h.fn).min (infoRow h.fn).max
end Go.Proofs.YtlmpiobdgkmmgaaGreatDoor
namespace Go.Proofs.YtlmpiobdgkmmgaaGreatDoor
open Go.RowKit
theorem fits_k1 (h : Hd) (ka : Option Addr) (kl kc : Nat) (w : World) (hk : h.kind = 1) : Calls Tryz.prog 100 #[.agg (h.vals (.slice ka kl kc)).toArray] w fun e w' =>
 e = .returned (.bool (fitsV h kl)) ∧ Below w.heap.size w w' := by
 obtain ⟨kind, op, num, text, ⟨rr, rc, rpr, rpc⟩, ⟨tr, tc, tpr, tpc⟩, fn⟩ := h
 simp only at hk
 subst hk
 skip
 all_goals
  unfold Hd.vals
  go_enter Tryz.func100, Tryz.ntmps100
  go_wp2
  all_goals
   go_ret
   refine ⟨ret_bool ?_, ?_⟩
   ·rw [Bool.eq_iff_iff]
    simp_all [fitsV, fitsB, refEq, RefT.zero] <;> omega
   ·exact ext_alloc (ext_alloc (Below.refl _ _) _) _
theorem fits_k2 (h : Hd) (ka : Option Addr) (kl kc : Nat) (w : World) (hk : h.kind = 2) : Calls Tryz.prog 100 #[.agg (h.vals (.slice ka kl kc)).toArray] w fun e w' =>
 e = .returned (.bool (fitsV h kl)) ∧ Below w.heap.size w w' := by
 obtain ⟨kind, op, num, text, ⟨rr, rc, rpr, rpc⟩, ⟨tr, tc, tpr, tpc⟩, fn⟩ := h
 simp only at hk
 subst hk
 skip
 all_goals
  unfold Hd.vals
  go_enter Tryz.func100, Tryz.ntmps100
  go_wp2
  all_goals
   go_ret
   refine ⟨ret_bool ?_, ?_⟩
   ·rw [Bool.eq_iff_iff]
    simp_all [fitsV, fitsB, refEq, RefT.zero] <;> omega
   ·exact ext_alloc (ext_alloc (Below.refl _ _) _) _
theorem fits_k3 (h : Hd) (ka : Option Addr) (kl kc : Nat) (w : World) (hk : h.kind = 3) : Calls Tryz.prog 100 #[.agg (h.vals (.slice ka kl kc)).toArray] w fun e w' =>
 e = .returned (.bool (fitsV h kl)) ∧ Below w.heap.size w w' := by
 obtain ⟨kind, op, num, text, ⟨rr, rc, rpr, rpc⟩, ⟨tr, tc, tpr, tpc⟩, fn⟩ := h
 simp only at hk
 subst hk
 skip
 all_goals
  unfold Hd.vals
  go_enter Tryz.func100, Tryz.ntmps100
  go_wp2
  all_goals
   go_ret
   refine ⟨ret_bool ?_, ?_⟩
   ·rw [Bool.eq_iff_iff]
    simp_all [fitsV, fitsB, refEq, RefT.zero] <;> omega
   ·exact ext_alloc (ext_alloc (Below.refl _ _) _) _
theorem fits_k4 (h : Hd) (ka : Option Addr) (kl kc : Nat) (w : World) (hk : h.kind = 4) : Calls Tryz.prog 100 #[.agg (h.vals (.slice ka kl kc)).toArray] w fun e w' =>
 e = .returned (.bool (fitsV h kl)) ∧ Below w.heap.size w w' := by
 obtain ⟨kind, op, num, text, ⟨rr, rc, rpr, rpc⟩, ⟨tr, tc, tpr, tpc⟩, fn⟩ := h
 simp only at hk
 subst hk
 skip
 all_goals
  unfold Hd.vals
  go_enter Tryz.func100, Tryz.ntmps100
  go_wp2
  all_goals
   go_ret
   refine ⟨ret_bool ?_, ?_⟩
   ·rw [Bool.eq_iff_iff]
    simp_all [fitsV, fitsB, refEq, RefT.zero] <;> omega
   ·exact ext_alloc (ext_alloc (Below.refl _ _) _) _
theorem fits_k5 (h : Hd) (ka : Option Addr) (kl kc : Nat) (w : World) (hk : h.kind = 5) : Calls Tryz.prog 100 #[.agg (h.vals (.slice ka kl kc)).toArray] w fun e w' =>
 e = .returned (.bool (fitsV h kl)) ∧ Below w.heap.size w w' := by
 obtain ⟨kind, op, num, text, ⟨rr, rc, rpr, rpc⟩, ⟨tr, tc, tpr, tpc⟩, fn⟩ := h
 simp only at hk
 subst hk
 skip
 all_goals
  unfold Hd.vals
  go_enter Tryz.func100, Tryz.ntmps100
  go_wp2_with (go_at_call 121; refine (place_any ⟨_, _, _, _⟩ _).mono ?_; rintro e w1 ⟨rfl, b1⟩; obtain ⟨z1, c1, -⟩ := kept_block2 b1)
  all_goals
   go_ret
   refine ⟨ret_bool ?_, ?_⟩
   ·rw [Bool.eq_iff_iff]
    simp_all [fitsV, fitsB, refEq, RefT.zero] <;> omega
   ·exact ext_trans (ext_alloc (ext_alloc (Below.refl _ _) _) _) b1
end Go.Proofs.YtlmpiobdgkmmgaaGreatDoor
namespace Go.Proofs.YtlmpiobdgkmmgaaGreatDoor
open Go.RowKit
theorem fits_k6 (h : Hd) (ka : Option Addr) (kl kc : Nat) (w : World) (hk : h.kind = 6) : Calls Tryz.prog 100 #[.agg (h.vals (.slice ka kl kc)).toArray] w fun e w' =>
 e = .returned (.bool (fitsV h kl)) ∧ Below w.heap.size w w' := by
 obtain ⟨kind, op, num, text, ⟨rr, rc, rpr, rpc⟩, ⟨tr, tc, tpr, tpc⟩, fn⟩ := h
 simp only at hk
 subst hk
 skip
 all_goals
  unfold Hd.vals
  go_enter Tryz.func100, Tryz.ntmps100
  go_wp2_with fail
  refine (place_any ⟨_, _, _, _⟩ _).mono ?_; rintro e w1 ⟨rfl, b1⟩; obtain ⟨z1, c1, -⟩ := kept_block2 b1
  go_wp2_with fail
  refine (place_any ⟨_, _, _, _⟩ _).mono ?_; rintro e w2 ⟨rfl, b2⟩
  go_wp2
  all_goals
   go_ret
   refine ⟨ret_bool ?_, ?_⟩
   ·rw [Bool.eq_iff_iff]
    simp_all [fitsV, fitsB] <;> omega
   ·exact ext_trans (ext_trans (ext_alloc (ext_alloc (Below.refl _ _) _) _) b1) b2
theorem fits_k7 (h : Hd) (ka : Option Addr) (kl kc : Nat) (w : World) (hm : kl ≤ 9223372036854775807) (hk : h.kind = 7) : Calls Tryz.prog 100 #[.agg (h.vals (.slice ka kl kc)).toArray] w fun e w' =>
 e = .returned (.bool (fitsV h kl)) ∧ Below w.heap.size w w' := by
 obtain ⟨kind, op, num, text, ⟨rr, rc, rpr, rpc⟩, ⟨tr, tc, tpr, tpc⟩, fn⟩ := h
 simp only at hk
 subst hk
 skip
 all_goals
  unfold Hd.vals
  go_enter Tryz.func100, Tryz.ntmps100
  go_wp2
  all_goals
   go_ret
   refine ⟨ret_bool ?_, ?_⟩
   ·rw [Bool.eq_iff_iff]
    by_cases hn : kl = 1
    ·subst hn
     simp_all [fitsV, fitsB, refEq, RefT.zero] <;> omega
    ·have hn2 : ¬ ((kl : Int) - 1 = 0) := by omega
     simp_all [fitsV, fitsB, refEq, RefT.zero] <;> omega
   ·exact ext_alloc (ext_alloc (Below.refl _ _) _) _
theorem fits_k8 (h : Hd) (ka : Option Addr) (kl kc : Nat) (w : World) (hm : kl ≤ 9223372036854775807) (hk : h.kind = 8) : Calls Tryz.prog 100 #[.agg (h.vals (.slice ka kl kc)).toArray] w fun e w' =>
 e = .returned (.bool (fitsV h kl)) ∧ Below w.heap.size w w' := by
 obtain ⟨kind, op, num, text, ⟨rr, rc, rpr, rpc⟩, ⟨tr, tc, tpr, tpc⟩, fn⟩ := h
 simp only at hk
 subst hk
 skip
 all_goals
  unfold Hd.vals
  go_enter Tryz.func100, Tryz.ntmps100
  go_wp2
  all_goals
   go_ret
   refine ⟨ret_bool ?_, ?_⟩
   ·rw [Bool.eq_iff_iff]
    by_cases hn : kl = 2
    ·subst hn
     simp_all [fitsV, fitsB, refEq, RefT.zero] <;> omega
    ·have hn2 : ¬ ((kl : Int) - 2 = 0) := by omega
     simp_all [fitsV, fitsB, refEq, RefT.zero] <;> omega
   ·exact ext_alloc (ext_alloc (Below.refl _ _) _) _
theorem fits_k9 (h : Hd) (ka : Option Addr) (kl kc : Nat) (w : World) (hk : h.kind = 9) : Calls Tryz.prog 100 #[.agg (h.vals (.slice ka kl kc)).toArray] w fun e w' =>
 e = .returned (.bool (fitsV h kl)) ∧ Below w.heap.size w w' := by
 obtain ⟨kind, op, num, text, ⟨rr, rc, rpr, rpc⟩, ⟨tr, tc, tpr, tpc⟩, fn⟩ := h
 simp only at hk
 subst hk
 skip
 all_goals
  unfold Hd.vals
  go_enter Tryz.func100, Tryz.ntmps100
  go_wp2_with (go_at_call 122; refine (refInfo_any _ _).mono ?_; rintro e w1 ⟨rfl, b1⟩; obtain ⟨z1, c1, -⟩ := kept_block2 b1; rw [infoV_eq])
  all_goals
   go_ret
   refine ⟨ret_bool ?_, ?_⟩
   ·rw [Bool.eq_iff_iff]
    by_cases hf : 1 ≤ fn ∧ fn ≤ 76
    all_goals simp_all [fitsV, fitsB, refEq, RefT.zero, infoErr]
    all_goals omega
   ·exact ext_alloc (ext_trans (ext_alloc (ext_alloc (Below.refl _ _) _) _) b1) _
theorem fits_k10 (h : Hd) (ka : Option Addr) (kl kc : Nat) (w : World) (hk : h.kind < 1 ∨ 9 < h.kind) : Calls Tryz.prog 100 #[.agg (h.vals (.slice ka kl kc)).toArray] w fun e w' =>
 e = .returned (.bool (fitsV h kl)) ∧ Below w.heap.size w w' := by
 obtain ⟨kind, op, num, text, ⟨rr, rc, rpr, rpc⟩, ⟨tr, tc, tpr, tpc⟩, fn⟩ := h
 simp only at hk
 skip
 rcases hk with hk | hk
 all_goals
  unfold Hd.vals
  go_enter Tryz.func100, Tryz.ntmps100
  go_wp2
  all_goals
   go_ret
   refine ⟨ret_bool ?_, ?_⟩
   ·rw [Bool.eq_iff_iff]
    simp_all [fitsV, fitsB, RefT.zero] <;> omega
   ·exact ext_alloc (ext_alloc (Below.refl _ _) _) _
end Go.Proofs.YtlmpiobdgkmmgaaGreatDoor
namespace Go.Proofs.YtlmpiobdgkmmgaaGreatDoor
open Go.RowKit
theorem bare_k1 (h : Hd) (b off : Nat) (ka : Option Addr) (kl kc : Nat) (w : World) (N : NodeAt w b off h (.slice ka kl kc)) (hk : h.kind = 1) : Calls Tryz.prog 69 #[.pointer (some ⟨b, off, none⟩)] w fun e w' =>
 e = .returned (.bool (bareB h kl)) ∧ Below w.heap.size w w' := by
 obtain ⟨hlt, c0, c1, c2, c3, c4, c5, c6, c7, c8, c9, c10, c11, c12, c13, d5, d6, d7, d9, d10, d11⟩ := N.facts
 clear N
 obtain ⟨kind, op, num, text, ⟨rr, rc, rpr, rpc⟩, ⟨tr, tc, tpr, tpc⟩, fn⟩ := h
 simp only at *
 subst hk
 skip
 all_goals
  go_enter Tryz.func69, Tryz.ntmps69
  go_wp2
  all_goals
   clear c0 c1 c2 c3 c4 c5 c6 c7 c8 c9 c10 c11 c12 c13 d5 d6 d7 d9 d10 d11
   go_ret
   refine ⟨ret_bool ?_, ?_⟩
   ·by_cases hn : kl = 0
    all_goals
     rw [Bool.eq_iff_iff]
     simp_all [bareB, refEq, RefT.zero] <;> omega
   ·repeat (first | exact ext_alloc (Below.refl _ _) _ | exact Below.refl _ _ | refine Below.drew ?_ | refine Below.setCell ?_ (by simp) _ | refine ext_alloc ?_ _)
theorem bare_k2 (h : Hd) (b off : Nat) (ka : Option Addr) (kl kc : Nat) (w : World) (N : NodeAt w b off h (.slice ka kl kc)) (hk : h.kind = 2) : Calls Tryz.prog 69 #[.pointer (some ⟨b, off, none⟩)] w fun e w' =>
 e = .returned (.bool (bareB h kl)) ∧ Below w.heap.size w w' := by
 obtain ⟨hlt, c0, c1, c2, c3, c4, c5, c6, c7, c8, c9, c10, c11, c12, c13, d5, d6, d7, d9, d10, d11⟩ := N.facts
 clear N
 obtain ⟨kind, op, num, text, ⟨rr, rc, rpr, rpc⟩, ⟨tr, tc, tpr, tpc⟩, fn⟩ := h
 simp only at *
 subst hk
 skip
 all_goals
  go_enter Tryz.func69, Tryz.ntmps69
  go_wp2
  all_goals
   clear c0 c1 c2 c3 c4 c5 c6 c7 c8 c9 c10 c11 c12 c13 d5 d6 d7 d9 d10 d11
   go_ret
   refine ⟨ret_bool ?_, ?_⟩
   ·by_cases hn : kl = 0
    all_goals
     rw [Bool.eq_iff_iff]
     simp_all [bareB, refEq, RefT.zero] <;> omega
   ·repeat (first | exact ext_alloc (Below.refl _ _) _ | exact Below.refl _ _ | refine Below.drew ?_ | refine Below.setCell ?_ (by simp) _ | refine ext_alloc ?_ _)
theorem bare_k3 (h : Hd) (b off : Nat) (ka : Option Addr) (kl kc : Nat) (w : World) (N : NodeAt w b off h (.slice ka kl kc)) (hk : h.kind = 3) : Calls Tryz.prog 69 #[.pointer (some ⟨b, off, none⟩)] w fun e w' =>
 e = .returned (.bool (bareB h kl)) ∧ Below w.heap.size w w' := by
 obtain ⟨hlt, c0, c1, c2, c3, c4, c5, c6, c7, c8, c9, c10, c11, c12, c13, d5, d6, d7, d9, d10, d11⟩ := N.facts
 clear N
 obtain ⟨kind, op, num, text, ⟨rr, rc, rpr, rpc⟩, ⟨tr, tc, tpr, tpc⟩, fn⟩ := h
 simp only at *
 subst hk
 skip
 all_goals
  go_enter Tryz.func69, Tryz.ntmps69
  go_wp2
  all_goals
   clear c0 c1 c2 c3 c4 c5 c6 c7 c8 c9 c10 c11 c12 c13 d5 d6 d7 d9 d10 d11
   go_ret
   refine ⟨ret_bool ?_, ?_⟩
   ·by_cases hn : kl = 0
    all_goals
     rw [Bool.eq_iff_iff]
     simp_all [bareB, refEq, RefT.zero] <;> omega
   ·repeat (first | exact ext_alloc (Below.refl _ _) _ | exact Below.refl _ _ | refine Below.drew ?_ | refine Below.setCell ?_ (by simp) _ | refine ext_alloc ?_ _)
theorem bare_k4 (h : Hd) (b off : Nat) (ka : Option Addr) (kl kc : Nat) (w : World) (N : NodeAt w b off h (.slice ka kl kc)) (hk : h.kind = 4) : Calls Tryz.prog 69 #[.pointer (some ⟨b, off, none⟩)] w fun e w' =>
 e = .returned (.bool (bareB h kl)) ∧ Below w.heap.size w w' := by
 obtain ⟨hlt, c0, c1, c2, c3, c4, c5, c6, c7, c8, c9, c10, c11, c12, c13, d5, d6, d7, d9, d10, d11⟩ := N.facts
 clear N
 obtain ⟨kind, op, num, text, ⟨rr, rc, rpr, rpc⟩, ⟨tr, tc, tpr, tpc⟩, fn⟩ := h
 simp only at *
 subst hk
 skip
 all_goals
  go_enter Tryz.func69, Tryz.ntmps69
  go_wp2
  all_goals
   clear c0 c1 c2 c3 c4 c5 c6 c7 c8 c9 c10 c11 c12 c13 d5 d6 d7 d9 d10 d11
   go_ret
   refine ⟨ret_bool ?_, ?_⟩
   ·by_cases hn : kl = 0
    all_goals
     rw [Bool.eq_iff_iff]
     simp_all [bareB, refEq, RefT.zero] <;> omega
   ·repeat (first | exact ext_alloc (Below.refl _ _) _ | exact Below.refl _ _ | refine Below.drew ?_ | refine Below.setCell ?_ (by simp) _ | refine ext_alloc ?_ _)
theorem bare_k5 (h : Hd) (b off : Nat) (ka : Option Addr) (kl kc : Nat) (w : World) (N : NodeAt w b off h (.slice ka kl kc)) (hk : h.kind = 5) : Calls Tryz.prog 69 #[.pointer (some ⟨b, off, none⟩)] w fun e w' =>
 e = .returned (.bool (bareB h kl)) ∧ Below w.heap.size w w' := by
 obtain ⟨hlt, c0, c1, c2, c3, c4, c5, c6, c7, c8, c9, c10, c11, c12, c13, d5, d6, d7, d9, d10, d11⟩ := N.facts
 clear N
 obtain ⟨kind, op, num, text, ⟨rr, rc, rpr, rpc⟩, ⟨tr, tc, tpr, tpc⟩, fn⟩ := h
 simp only at *
 subst hk
 skip
 all_goals
  go_enter Tryz.func69, Tryz.ntmps69
  go_wp2
  all_goals
   clear c0 c1 c2 c3 c4 c5 c6 c7 c8 c9 c10 c11 c12 c13 d5 d6 d7 d9 d10 d11
   go_ret
   refine ⟨ret_bool ?_, ?_⟩
   ·by_cases hn : kl = 0
    all_goals
     rw [Bool.eq_iff_iff]
     simp_all [bareB, refEq, RefT.zero] <;> omega
   ·repeat (first | exact ext_alloc (Below.refl _ _) _ | exact Below.refl _ _ | refine Below.drew ?_ | refine Below.setCell ?_ (by simp) _ | refine ext_alloc ?_ _)
end Go.Proofs.YtlmpiobdgkmmgaaGreatDoor
namespace Go.Proofs.YtlmpiobdgkmmgaaGreatDoor
open Go.RowKit
theorem bare_k6 (h : Hd) (b off : Nat) (ka : Option Addr) (kl kc : Nat) (w : World) (N : NodeAt w b off h (.slice ka kl kc)) (hk : h.kind = 6) : Calls Tryz.prog 69 #[.pointer (some ⟨b, off, none⟩)] w fun e w' =>
 e = .returned (.bool (bareB h kl)) ∧ Below w.heap.size w w' := by
 obtain ⟨hlt, c0, c1, c2, c3, c4, c5, c6, c7, c8, c9, c10, c11, c12, c13, d5, d6, d7, d9, d10, d11⟩ := N.facts
 clear N
 obtain ⟨kind, op, num, text, ⟨rr, rc, rpr, rpc⟩, ⟨tr, tc, tpr, tpc⟩, fn⟩ := h
 simp only at *
 subst hk
 skip
 all_goals
  go_enter Tryz.func69, Tryz.ntmps69
  go_wp2
  all_goals
   clear c0 c1 c2 c3 c4 c5 c6 c7 c8 c9 c10 c11 c12 c13 d5 d6 d7 d9 d10 d11
   go_ret
   refine ⟨ret_bool ?_, ?_⟩
   ·by_cases hn : kl = 0
    all_goals
     rw [Bool.eq_iff_iff]
     simp_all [bareB, refEq, RefT.zero] <;> omega
   ·repeat (first | exact ext_alloc (Below.refl _ _) _ | exact Below.refl _ _ | refine Below.drew ?_ | refine Below.setCell ?_ (by simp) _ | refine ext_alloc ?_ _)
theorem bare_k7 (h : Hd) (b off : Nat) (ka : Option Addr) (kl kc : Nat) (w : World) (N : NodeAt w b off h (.slice ka kl kc)) (hk : h.kind = 7) : Calls Tryz.prog 69 #[.pointer (some ⟨b, off, none⟩)] w fun e w' =>
 e = .returned (.bool (bareB h kl)) ∧ Below w.heap.size w w' := by
 obtain ⟨hlt, c0, c1, c2, c3, c4, c5, c6, c7, c8, c9, c10, c11, c12, c13, d5, d6, d7, d9, d10, d11⟩ := N.facts
 clear N
 obtain ⟨kind, op, num, text, ⟨rr, rc, rpr, rpc⟩, ⟨tr, tc, tpr, tpc⟩, fn⟩ := h
 simp only at *
 subst hk
 skip
 all_goals
  go_enter Tryz.func69, Tryz.ntmps69
  go_wp2
  all_goals
   clear c0 c1 c2 c3 c4 c5 c6 c7 c8 c9 c10 c11 c12 c13 d5 d6 d7 d9 d10 d11
   go_ret
   refine ⟨ret_bool ?_, ?_⟩
   ·by_cases hn : kl = 1
    all_goals
     rw [Bool.eq_iff_iff]
     simp_all [bareB, refEq, RefT.zero] <;> omega
   ·repeat (first | exact ext_alloc (Below.refl _ _) _ | exact Below.refl _ _ | refine Below.drew ?_ | refine Below.setCell ?_ (by simp) _ | refine ext_alloc ?_ _)
theorem bare_k8 (h : Hd) (b off : Nat) (ka : Option Addr) (kl kc : Nat) (w : World) (N : NodeAt w b off h (.slice ka kl kc)) (hk : h.kind = 8) : Calls Tryz.prog 69 #[.pointer (some ⟨b, off, none⟩)] w fun e w' =>
 e = .returned (.bool (bareB h kl)) ∧ Below w.heap.size w w' := by
 obtain ⟨hlt, c0, c1, c2, c3, c4, c5, c6, c7, c8, c9, c10, c11, c12, c13, d5, d6, d7, d9, d10, d11⟩ := N.facts
 clear N
 obtain ⟨kind, op, num, text, ⟨rr, rc, rpr, rpc⟩, ⟨tr, tc, tpr, tpc⟩, fn⟩ := h
 simp only at *
 subst hk
 skip
 all_goals
  go_enter Tryz.func69, Tryz.ntmps69
  go_wp2
  all_goals
   clear c0 c1 c2 c3 c4 c5 c6 c7 c8 c9 c10 c11 c12 c13 d5 d6 d7 d9 d10 d11
   go_ret
   refine ⟨ret_bool ?_, ?_⟩
   ·by_cases hn : kl = 2
    all_goals
     rw [Bool.eq_iff_iff]
     simp_all [bareB, refEq, RefT.zero] <;> omega
   ·repeat (first | exact ext_alloc (Below.refl _ _) _ | exact Below.refl _ _ | refine Below.drew ?_ | refine Below.setCell ?_ (by simp) _ | refine ext_alloc ?_ _)
theorem bare_k9 (h : Hd) (b off : Nat) (ka : Option Addr) (kl kc : Nat) (w : World) (N : NodeAt w b off h (.slice ka kl kc)) (hk : h.kind = 9) : Calls Tryz.prog 69 #[.pointer (some ⟨b, off, none⟩)] w fun e w' =>
 e = .returned (.bool (bareB h kl)) ∧ Below w.heap.size w w' := by
 obtain ⟨hlt, c0, c1, c2, c3, c4, c5, c6, c7, c8, c9, c10, c11, c12, c13, d5, d6, d7, d9, d10, d11⟩ := N.facts
 clear N
 obtain ⟨kind, op, num, text, ⟨rr, rc, rpr, rpc⟩, ⟨tr, tc, tpr, tpc⟩, fn⟩ := h
 simp only at *
 subst hk
 skip
 all_goals
  go_enter Tryz.func69, Tryz.ntmps69
  go_wp2
  go_region
  all_goals go_wp2
  all_goals
   clear c0 c1 c2 c3 c4 c5 c6 c7 c8 c9 c10 c11 c12 c13 d5 d6 d7 d9 d10 d11
   go_ret
   refine ⟨ret_bool ?_, ?_⟩
   ·by_cases hn : kl = 0
    all_goals
     rw [Bool.eq_iff_iff]
     simp_all [bareB, refEq, RefT.zero] <;> omega
   ·repeat (first | exact ext_alloc (Below.refl _ _) _ | exact Below.refl _ _ | refine Below.drew ?_ | refine Below.setCell ?_ (by simp) _ | refine ext_alloc ?_ _)
theorem bare_k10 (h : Hd) (b off : Nat) (ka : Option Addr) (kl kc : Nat) (w : World) (N : NodeAt w b off h (.slice ka kl kc)) (hk : h.kind < 1 ∨ 9 < h.kind) : Calls Tryz.prog 69 #[.pointer (some ⟨b, off, none⟩)] w fun e w' =>
 e = .returned (.bool (bareB h kl)) ∧ Below w.heap.size w w' := by
 obtain ⟨hlt, c0, c1, c2, c3, c4, c5, c6, c7, c8, c9, c10, c11, c12, c13, d5, d6, d7, d9, d10, d11⟩ := N.facts
 clear N
 obtain ⟨kind, op, num, text, ⟨rr, rc, rpr, rpc⟩, ⟨tr, tc, tpr, tpc⟩, fn⟩ := h
 simp only at *
 skip
 rcases hk with hk | hk
 all_goals
  go_enter Tryz.func69, Tryz.ntmps69
  go_wp2
  all_goals
   clear c0 c1 c2 c3 c4 c5 c6 c7 c8 c9 c10 c11 c12 c13 d5 d6 d7 d9 d10 d11
   go_ret
   refine ⟨ret_bool ?_, ?_⟩
   ·by_cases hn : kl = 0
    all_goals
     rw [Bool.eq_iff_iff]
     simp_all [bareB, refEq, RefT.zero] <;> omega
   ·repeat (first | exact ext_alloc (Below.refl _ _) _ | exact Below.refl _ _ | refine Below.drew ?_ | refine Below.setCell ?_ (by simp) _ | refine ext_alloc ?_ _)
end Go.Proofs.YtlmpiobdgkmmgaaGreatDoor
namespace Go.Proofs.YtlmpiobdgkmmgaaGreatDoor
open Go.RowKit
theorem fits_any (h : Hd) (ka : Option Addr) (kl kc : Nat) (w : World) (hm : kl ≤ 9223372036854775807) : Calls Tryz.prog 100 #[.agg (h.vals (.slice ka kl kc)).toArray] w fun e w' =>
 e = .returned (.bool (fitsV h kl)) ∧ Below w.heap.size w w' := by
 by_cases h1 : h.kind < 1 ∨ 9 < h.kind
 ·exact fits_k10 h ka kl kc w h1
 ·have h2 : h.kind = 1 ∨ h.kind = 2 ∨ h.kind = 3 ∨ h.kind = 4 ∨ h.kind = 5 ∨ h.kind = 6 ∨ h.kind = 7 ∨ h.kind = 8 ∨ h.kind = 9 := by omega
  rcases h2 with h2 | h2 | h2 | h2 | h2 | h2 | h2 | h2 | h2
  ·exact fits_k1 h ka kl kc w h2
  ·exact fits_k2 h ka kl kc w h2
  ·exact fits_k3 h ka kl kc w h2
  ·exact fits_k4 h ka kl kc w h2
  ·exact fits_k5 h ka kl kc w h2
  ·exact fits_k6 h ka kl kc w h2
  ·exact fits_k7 h ka kl kc w hm h2
  ·exact fits_k8 h ka kl kc w hm h2
  ·exact fits_k9 h ka kl kc w h2
theorem bare_any (h : Hd) (b off : Nat) (ka : Option Addr) (kl kc : Nat) (w : World) (N : NodeAt w b off h (.slice ka kl kc)) : Calls Tryz.prog 69 #[.pointer (some ⟨b, off, none⟩)] w fun e w' =>
 e = .returned (.bool (bareB h kl)) ∧ Below w.heap.size w w' := by
 by_cases h1 : h.kind < 1 ∨ 9 < h.kind
 ·exact bare_k10 h b off ka kl kc w N h1
 ·have h2 : h.kind = 1 ∨ h.kind = 2 ∨ h.kind = 3 ∨ h.kind = 4 ∨ h.kind = 5 ∨ h.kind = 6 ∨ h.kind = 7 ∨ h.kind = 8 ∨ h.kind = 9 := by omega
  rcases h2 with h2 | h2 | h2 | h2 | h2 | h2 | h2 | h2 | h2
  ·exact bare_k1 h b off ka kl kc w N h2
  ·exact bare_k2 h b off ka kl kc w N h2
  ·exact bare_k3 h b off ka kl kc w N h2
  ·exact bare_k4 h b off ka kl kc w N h2
  ·exact bare_k5 h b off ka kl kc w N h2
  ·exact bare_k6 h b off ka kl kc w N h2
  ·exact bare_k7 h b off ka kl kc w N h2
  ·exact bare_k8 h b off ka kl kc w N h2
  ·exact bare_k9 h b off ka kl kc w N h2
end Go.Proofs.YtlmpiobdgkmmgaaGreatDoor
