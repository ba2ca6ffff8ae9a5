/- Trees: the fields that a kind does not have, kind by kind. -/
import Derived.Test.YtkjfeakbhfkldaaTreeA
import Derived.Test.YtkjfeakbhfkldaaTreeN
import Derived.BigRegion
namespace Go.Proofs.Ytkjfeakbhfkldaa
open Go.RowKit
set_option maxRecDepth 100000 in
set_option maxHeartbeats 4000000 in
theorem bare_k6 (h : Hd) (b off : Nat) (ka : Option Addr) (kl kc : Nat) (w : World) (N : NodeAt w b off h (.slice ka kl kc)) (hk : h.kind = 6) : Calls Try.prog 79 #[.pointer (some ⟨b, off, none⟩)] w fun e w' =>
    e = .returned (.bool (bareB h kl)) ∧ Below w.heap.size w w' := by
  obtain ⟨hlt, c0, c1, c2, c3, c4, c5, c6, c7, c8, c9, c10, c11, c12, c13, d5, d6, d7, d9, d10, d11⟩ := N.facts
  clear N
  obtain ⟨kind, op, num, text, ⟨rr, rc, rpr, rpc⟩, ⟨tr, tc, tpr, tpc⟩, fn⟩ := h
  simp only at *
  subst hk
  skip
  all_goals
    go_enter Try.func79, Try.ntmps79
    go_wp2
    all_goals
      clear c0 c1 c2 c3 c4 c5 c6 c7 c8 c9 c10 c11 c12 c13 d5 d6 d7 d9 d10 d11
      go_ret
      refine ⟨ret_bool ?_, ?_⟩
      · by_cases hn : kl = 0
        all_goals
          rw [Bool.eq_iff_iff]
          simp_all [bareB, refEq, RefT.zero] <;> omega
      · repeat (first | exact ext_alloc (Below.refl _ _) _ | exact Below.refl _ _ | refine Below.drew ?_ | refine Below.setCell ?_ (by simp) _ | refine ext_alloc ?_ _)
set_option maxRecDepth 100000 in
set_option maxHeartbeats 4000000 in
theorem bare_k7 (h : Hd) (b off : Nat) (ka : Option Addr) (kl kc : Nat) (w : World) (N : NodeAt w b off h (.slice ka kl kc)) (hk : h.kind = 7) : Calls Try.prog 79 #[.pointer (some ⟨b, off, none⟩)] w fun e w' =>
    e = .returned (.bool (bareB h kl)) ∧ Below w.heap.size w w' := by
  obtain ⟨hlt, c0, c1, c2, c3, c4, c5, c6, c7, c8, c9, c10, c11, c12, c13, d5, d6, d7, d9, d10, d11⟩ := N.facts
  clear N
  obtain ⟨kind, op, num, text, ⟨rr, rc, rpr, rpc⟩, ⟨tr, tc, tpr, tpc⟩, fn⟩ := h
  simp only at *
  subst hk
  skip
  all_goals
    go_enter Try.func79, Try.ntmps79
    go_wp2
    all_goals
      clear c0 c1 c2 c3 c4 c5 c6 c7 c8 c9 c10 c11 c12 c13 d5 d6 d7 d9 d10 d11
      go_ret
      refine ⟨ret_bool ?_, ?_⟩
      · by_cases hn : kl = 1
        all_goals
          rw [Bool.eq_iff_iff]
          simp_all [bareB, refEq, RefT.zero] <;> omega
      · repeat (first | exact ext_alloc (Below.refl _ _) _ | exact Below.refl _ _ | refine Below.drew ?_ | refine Below.setCell ?_ (by simp) _ | refine ext_alloc ?_ _)
set_option maxRecDepth 100000 in
set_option maxHeartbeats 4000000 in
theorem bare_k8 (h : Hd) (b off : Nat) (ka : Option Addr) (kl kc : Nat) (w : World) (N : NodeAt w b off h (.slice ka kl kc)) (hk : h.kind = 8) : Calls Try.prog 79 #[.pointer (some ⟨b, off, none⟩)] w fun e w' =>
    e = .returned (.bool (bareB h kl)) ∧ Below w.heap.size w w' := by
  obtain ⟨hlt, c0, c1, c2, c3, c4, c5, c6, c7, c8, c9, c10, c11, c12, c13, d5, d6, d7, d9, d10, d11⟩ := N.facts
  clear N
  obtain ⟨kind, op, num, text, ⟨rr, rc, rpr, rpc⟩, ⟨tr, tc, tpr, tpc⟩, fn⟩ := h
  simp only at *
  subst hk
  skip
  all_goals
    go_enter Try.func79, Try.ntmps79
    go_wp2
    all_goals
      clear c0 c1 c2 c3 c4 c5 c6 c7 c8 c9 c10 c11 c12 c13 d5 d6 d7 d9 d10 d11
      go_ret
      refine ⟨ret_bool ?_, ?_⟩
      · by_cases hn : kl = 2
        all_goals
          rw [Bool.eq_iff_iff]
          simp_all [bareB, refEq, RefT.zero] <;> omega
      · repeat (first | exact ext_alloc (Below.refl _ _) _ | exact Below.refl _ _ | refine Below.drew ?_ | refine Below.setCell ?_ (by simp) _ | refine ext_alloc ?_ _)
set_option maxRecDepth 100000 in
set_option maxHeartbeats 4000000 in
theorem bare_k9 (h : Hd) (b off : Nat) (ka : Option Addr) (kl kc : Nat) (w : World) (N : NodeAt w b off h (.slice ka kl kc)) (hk : h.kind = 9) : Calls Try.prog 79 #[.pointer (some ⟨b, off, none⟩)] w fun e w' =>
    e = .returned (.bool (bareB h kl)) ∧ Below w.heap.size w w' := by
  obtain ⟨hlt, c0, c1, c2, c3, c4, c5, c6, c7, c8, c9, c10, c11, c12, c13, d5, d6, d7, d9, d10, d11⟩ := N.facts
  clear N
  obtain ⟨kind, op, num, text, ⟨rr, rc, rpr, rpc⟩, ⟨tr, tc, tpr, tpc⟩, fn⟩ := h
  simp only at *
  subst hk
  skip
  all_goals
    go_enter Try.func79, Try.ntmps79
    go_wp2
    go_region
    all_goals go_wp2
    all_goals
      clear c0 c1 c2 c3 c4 c5 c6 c7 c8 c9 c10 c11 c12 c13 d5 d6 d7 d9 d10 d11
      go_ret
      refine ⟨ret_bool ?_, ?_⟩
      · by_cases hn : kl = 0
        all_goals
          rw [Bool.eq_iff_iff]
          simp_all [bareB, refEq, RefT.zero] <;> omega
      · repeat (first | exact ext_alloc (Below.refl _ _) _ | exact Below.refl _ _ | refine Below.drew ?_ | refine Below.setCell ?_ (by simp) _ | refine ext_alloc ?_ _)
set_option maxRecDepth 100000 in
set_option maxHeartbeats 4000000 in
theorem bare_k10 (h : Hd) (b off : Nat) (ka : Option Addr) (kl kc : Nat) (w : World) (N : NodeAt w b off h (.slice ka kl kc)) (hk : h.kind < 1 ∨ 9 < h.kind) : Calls Try.prog 79 #[.pointer (some ⟨b, off, none⟩)] w fun e w' =>
    e = .returned (.bool (bareB h kl)) ∧ Below w.heap.size w w' := by
  obtain ⟨hlt, c0, c1, c2, c3, c4, c5, c6, c7, c8, c9, c10, c11, c12, c13, d5, d6, d7, d9, d10, d11⟩ := N.facts
  clear N
  obtain ⟨kind, op, num, text, ⟨rr, rc, rpr, rpc⟩, ⟨tr, tc, tpr, tpc⟩, fn⟩ := h
  simp only at *
  skip
  rcases hk with hk | hk
  all_goals
    go_enter Try.func79, Try.ntmps79
    go_wp2
    all_goals
      clear c0 c1 c2 c3 c4 c5 c6 c7 c8 c9 c10 c11 c12 c13 d5 d6 d7 d9 d10 d11
      go_ret
      refine ⟨ret_bool ?_, ?_⟩
      · by_cases hn : kl = 0
        all_goals
          rw [Bool.eq_iff_iff]
          simp_all [bareB, refEq, RefT.zero] <;> omega
      · repeat (first | exact ext_alloc (Below.refl _ _) _ | exact Below.refl _ _ | refine Below.drew ?_ | refine Below.setCell ?_ (by simp) _ | refine ext_alloc ?_ _)
end Go.Proofs.Ytkjfeakbhfkldaa
