/- Trees: the reference's look at one node, kind by kind. -/
import Derived.Test.YtkjfeakbhfkldaaTreeA
namespace Go.Proofs.Ytkjfeakbhfkldaa
open Go.RowKit
set_option maxRecDepth 100000 in
set_option maxHeartbeats 4000000 in
theorem fits_k6 (h : Hd) (ka : Option Addr) (kl kc : Nat) (w : World) (hk : h.kind = 6) : Calls Try.prog 89 #[.agg (h.vals (.slice ka kl kc)).toArray] w fun e w' =>
    e = .returned (.bool (fitsV h kl)) ∧ Below w.heap.size w w' := by
  obtain ⟨kind, op, num, text, ⟨rr, rc, rpr, rpc⟩, ⟨tr, tc, tpr, tpc⟩, fn⟩ := h
  simp only at hk
  subst hk
  skip
  all_goals
    unfold Hd.vals
    go_enter Try.func89, Try.ntmps89
    go_wp2_with fail
    refine (place_any ⟨_, _, _, _⟩ _).mono ?_; rintro e w1 ⟨rfl, b1⟩; obtain ⟨z1, c1, -⟩ := kept_block2 b1
    go_wp2_with fail
    refine (place_any ⟨_, _, _, _⟩ _).mono ?_; rintro e w2 ⟨rfl, b2⟩
    go_wp2
    all_goals
      go_ret
      refine ⟨ret_bool ?_, ?_⟩
      · rw [Bool.eq_iff_iff]
        simp_all [fitsV, fitsB] <;> omega
      · exact ext_trans (ext_trans (ext_alloc (ext_alloc (Below.refl _ _) _) _) b1) b2
set_option maxRecDepth 100000 in
set_option maxHeartbeats 4000000 in
theorem fits_k7 (h : Hd) (ka : Option Addr) (kl kc : Nat) (w : World) (hm : kl ≤ 9223372036854775807) (hk : h.kind = 7) : Calls Try.prog 89 #[.agg (h.vals (.slice ka kl kc)).toArray] w fun e w' =>
    e = .returned (.bool (fitsV h kl)) ∧ Below w.heap.size w w' := by
  obtain ⟨kind, op, num, text, ⟨rr, rc, rpr, rpc⟩, ⟨tr, tc, tpr, tpc⟩, fn⟩ := h
  simp only at hk
  subst hk
  skip
  all_goals
    unfold Hd.vals
    go_enter Try.func89, Try.ntmps89
    go_wp2
    all_goals
      go_ret
      refine ⟨ret_bool ?_, ?_⟩
      · rw [Bool.eq_iff_iff]
        by_cases hn : kl = 1
        · subst hn
          simp_all [fitsV, fitsB, refEq, RefT.zero] <;> omega
        · have hn2 : ¬ ((kl : Int) - 1 = 0) := by omega
          simp_all [fitsV, fitsB, refEq, RefT.zero] <;> omega
      · exact ext_alloc (ext_alloc (Below.refl _ _) _) _
set_option maxRecDepth 100000 in
set_option maxHeartbeats 4000000 in
theorem fits_k8 (h : Hd) (ka : Option Addr) (kl kc : Nat) (w : World) (hm : kl ≤ 9223372036854775807) (hk : h.kind = 8) : Calls Try.prog 89 #[.agg (h.vals (.slice ka kl kc)).toArray] w fun e w' =>
    e = .returned (.bool (fitsV h kl)) ∧ Below w.heap.size w w' := by
  obtain ⟨kind, op, num, text, ⟨rr, rc, rpr, rpc⟩, ⟨tr, tc, tpr, tpc⟩, fn⟩ := h
  simp only at hk
  subst hk
  skip
  all_goals
    unfold Hd.vals
    go_enter Try.func89, Try.ntmps89
    go_wp2
    all_goals
      go_ret
      refine ⟨ret_bool ?_, ?_⟩
      · rw [Bool.eq_iff_iff]
        by_cases hn : kl = 2
        · subst hn
          simp_all [fitsV, fitsB, refEq, RefT.zero] <;> omega
        · have hn2 : ¬ ((kl : Int) - 2 = 0) := by omega
          simp_all [fitsV, fitsB, refEq, RefT.zero] <;> omega
      · exact ext_alloc (ext_alloc (Below.refl _ _) _) _
set_option maxRecDepth 100000 in
set_option maxHeartbeats 4000000 in
theorem fits_k9 (h : Hd) (ka : Option Addr) (kl kc : Nat) (w : World) (hk : h.kind = 9) : Calls Try.prog 89 #[.agg (h.vals (.slice ka kl kc)).toArray] w fun e w' =>
    e = .returned (.bool (fitsV h kl)) ∧ Below w.heap.size w w' := by
  obtain ⟨kind, op, num, text, ⟨rr, rc, rpr, rpc⟩, ⟨tr, tc, tpr, tpc⟩, fn⟩ := h
  simp only at hk
  subst hk
  skip
  all_goals
    unfold Hd.vals
    go_enter Try.func89, Try.ntmps89
    go_wp2_with (go_at_call 95; refine (refInfo_any _ _).mono ?_; rintro e w1 ⟨rfl, b1⟩; obtain ⟨z1, c1, -⟩ := kept_block2 b1; rw [infoV_eq])
    all_goals
      go_ret
      refine ⟨ret_bool ?_, ?_⟩
      · rw [Bool.eq_iff_iff]
        by_cases hf : 1 ≤ fn ∧ fn ≤ 76
        all_goals simp_all [fitsV, fitsB, refEq, RefT.zero, infoErr]
        all_goals omega
      · exact ext_alloc (ext_trans (ext_alloc (ext_alloc (Below.refl _ _) _) _) b1) _
set_option maxRecDepth 100000 in
set_option maxHeartbeats 4000000 in
theorem fits_k10 (h : Hd) (ka : Option Addr) (kl kc : Nat) (w : World) (hk : h.kind < 1 ∨ 9 < h.kind) : Calls Try.prog 89 #[.agg (h.vals (.slice ka kl kc)).toArray] w fun e w' =>
    e = .returned (.bool (fitsV h kl)) ∧ Below w.heap.size w w' := by
  obtain ⟨kind, op, num, text, ⟨rr, rc, rpr, rpc⟩, ⟨tr, tc, tpr, tpc⟩, fn⟩ := h
  simp only at hk
  skip
  rcases hk with hk | hk
  all_goals
    unfold Hd.vals
    go_enter Try.func89, Try.ntmps89
    go_wp2
    all_goals
      go_ret
      refine ⟨ret_bool ?_, ?_⟩
      · rw [Bool.eq_iff_iff]
        simp_all [fitsV, fitsB, RefT.zero] <;> omega
      · exact ext_alloc (ext_alloc (Below.refl _ _) _) _
end Go.Proofs.Ytkjfeakbhfkldaa
