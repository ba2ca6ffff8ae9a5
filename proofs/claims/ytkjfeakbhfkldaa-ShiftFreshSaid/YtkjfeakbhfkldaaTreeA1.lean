/- Trees: the reference's look at one node, kind by kind. -/
import Derived.Test.YtkjfeakbhfkldaaTreeA
namespace Go.Proofs.Ytkjfeakbhfkldaa
open Go.RowKit
set_option maxRecDepth 100000 in
set_option maxHeartbeats 4000000 in
theorem fits_k1 (h : Hd) (ka : Option Addr) (kl kc : Nat) (w : World) (hk : h.kind = 1) : Calls Try.prog 89 #[.agg (h.vals (.slice ka kl kc)).toArray] w fun e w' =>
    e = .returned (.bool (fitsV h kl)) ∧ Below w.heap.size w w' := by
  obtain ⟨kind, op, num, text, ⟨rr, rc, rpr, rpc⟩, ⟨tr, tc, tpr, tpc⟩, fn⟩ := h
  simp only at hk
  subst hk
  skip
  all_goals
    unfold Hd.vals
    go_enter Try.func89, Try.ntmps89
    go_wp2
    all_goals
      go_ret
      refine ⟨ret_bool ?_, ?_⟩
      · rw [Bool.eq_iff_iff]
        simp_all [fitsV, fitsB, refEq, RefT.zero] <;> omega
      · exact ext_alloc (ext_alloc (Below.refl _ _) _) _
set_option maxRecDepth 100000 in
set_option maxHeartbeats 4000000 in
theorem fits_k2 (h : Hd) (ka : Option Addr) (kl kc : Nat) (w : World) (hk : h.kind = 2) : Calls Try.prog 89 #[.agg (h.vals (.slice ka kl kc)).toArray] w fun e w' =>
    e = .returned (.bool (fitsV h kl)) ∧ Below w.heap.size w w' := by
  obtain ⟨kind, op, num, text, ⟨rr, rc, rpr, rpc⟩, ⟨tr, tc, tpr, tpc⟩, fn⟩ := h
  simp only at hk
  subst hk
  skip
  all_goals
    unfold Hd.vals
    go_enter Try.func89, Try.ntmps89
    go_wp2
    all_goals
      go_ret
      refine ⟨ret_bool ?_, ?_⟩
      · rw [Bool.eq_iff_iff]
        simp_all [fitsV, fitsB, refEq, RefT.zero] <;> omega
      · exact ext_alloc (ext_alloc (Below.refl _ _) _) _
set_option maxRecDepth 100000 in
set_option maxHeartbeats 4000000 in
theorem fits_k3 (h : Hd) (ka : Option Addr) (kl kc : Nat) (w : World) (hk : h.kind = 3) : Calls Try.prog 89 #[.agg (h.vals (.slice ka kl kc)).toArray] w fun e w' =>
    e = .returned (.bool (fitsV h kl)) ∧ Below w.heap.size w w' := by
  obtain ⟨kind, op, num, text, ⟨rr, rc, rpr, rpc⟩, ⟨tr, tc, tpr, tpc⟩, fn⟩ := h
  simp only at hk
  subst hk
  skip
  all_goals
    unfold Hd.vals
    go_enter Try.func89, Try.ntmps89
    go_wp2
    all_goals
      go_ret
      refine ⟨ret_bool ?_, ?_⟩
      · rw [Bool.eq_iff_iff]
        simp_all [fitsV, fitsB, refEq, RefT.zero] <;> omega
      · exact ext_alloc (ext_alloc (Below.refl _ _) _) _
set_option maxRecDepth 100000 in
set_option maxHeartbeats 4000000 in
theorem fits_k4 (h : Hd) (ka : Option Addr) (kl kc : Nat) (w : World) (hk : h.kind = 4) : Calls Try.prog 89 #[.agg (h.vals (.slice ka kl kc)).toArray] w fun e w' =>
    e = .returned (.bool (fitsV h kl)) ∧ Below w.heap.size w w' := by
  obtain ⟨kind, op, num, text, ⟨rr, rc, rpr, rpc⟩, ⟨tr, tc, tpr, tpc⟩, fn⟩ := h
  simp only at hk
  subst hk
  skip
  all_goals
    unfold Hd.vals
    go_enter Try.func89, Try.ntmps89
    go_wp2
    all_goals
      go_ret
      refine ⟨ret_bool ?_, ?_⟩
      · rw [Bool.eq_iff_iff]
        simp_all [fitsV, fitsB, refEq, RefT.zero] <;> omega
      · exact ext_alloc (ext_alloc (Below.refl _ _) _) _
set_option maxRecDepth 100000 in
set_option maxHeartbeats 4000000 in
theorem fits_k5 (h : Hd) (ka : Option Addr) (kl kc : Nat) (w : World) (hk : h.kind = 5) : Calls Try.prog 89 #[.agg (h.vals (.slice ka kl kc)).toArray] w fun e w' =>
    e = .returned (.bool (fitsV h kl)) ∧ Below w.heap.size w w' := by
  obtain ⟨kind, op, num, text, ⟨rr, rc, rpr, rpc⟩, ⟨tr, tc, tpr, tpc⟩, fn⟩ := h
  simp only at hk
  subst hk
  skip
  all_goals
    unfold Hd.vals
    go_enter Try.func89, Try.ntmps89
    go_wp2_with (go_at_call 94; refine (place_any ⟨_, _, _, _⟩ _).mono ?_; rintro e w1 ⟨rfl, b1⟩; obtain ⟨z1, c1, -⟩ := kept_block2 b1)
    all_goals
      go_ret
      refine ⟨ret_bool ?_, ?_⟩
      · rw [Bool.eq_iff_iff]
        simp_all [fitsV, fitsB, refEq, RefT.zero] <;> omega
      · exact ext_trans (ext_alloc (ext_alloc (Below.refl _ _) _) _) b1
end Go.Proofs.Ytkjfeakbhfkldaa
