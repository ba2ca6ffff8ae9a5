/- Trees: told, kind by kind. -/
import Derived.Test.YtkjfeakbhfkldaaTreeD
namespace Go.Proofs.Ytkjfeakbhfkldaa
open Go.RowKit
set_option maxRecDepth 100000 in
set_option maxHeartbeats 4000000 in
theorem told_k1 (h : Hd) (b off : Nat) (ka : Option Addr) (kl kc : Nat) (w : World) (N : NodeAt w b off h (.slice ka kl kc)) (hb : bareB h kl = true) (hk : h.kind = 1) : Calls Try.prog 58 #[.pointer (some ⟨b, off, none⟩)] w fun e w' =>
    e = .returned (.bool (kindB h kl (infoRow h.fn).min (infoRow h.fn).max)) ∧ Below w.heap.size w w' := by
  have B := bare_any h b off ka kl kc w N
  rw [hb] at B
  clear hb
  have HB := Lib.hid B; clear B
  obtain ⟨kind, op, num, text, ⟨rr, rc, rpr, rpc⟩, ⟨tr, tc, tpr, tpc⟩, fn⟩ := h
  simp only at hk
  subst hk
  skip
  all_goals
    go_enter Try.func58, Try.ntmps58
    go_wp2_with fail
    refine HB.out.mono ?_; rintro e w1 ⟨rfl, b1⟩
    have N1 := N.kept b1 N.1
    obtain ⟨hlt1, c0, c1, c2, c3, c4, c5, c6, c7, c8, c9, c10, c11, c12, c13, d5, d6, d7, d9, d10, d11⟩ := N1.facts
    simp only at c0 c1 c2 c3 c4 c5 c6 c7 c8 c9 c10 c11 c12 c13 d5 d6 d7 d9 d10 d11
    go_wp2
    all_goals
      clear c0 c1 c2 c3 c4 c5 c6 c7 c8 c9 c10 c11 c12 c13 d5 d6 d7 d9 d10 d11
      go_ret
      refine ⟨ret_bool ?_, b1⟩
      rw [Bool.eq_iff_iff]
      simp_all [kindB] <;> omega
set_option maxRecDepth 100000 in
set_option maxHeartbeats 4000000 in
theorem told_k2 (h : Hd) (b off : Nat) (ka : Option Addr) (kl kc : Nat) (w : World) (N : NodeAt w b off h (.slice ka kl kc)) (hb : bareB h kl = true) (hk : h.kind = 2) : Calls Try.prog 58 #[.pointer (some ⟨b, off, none⟩)] w fun e w' =>
    e = .returned (.bool (kindB h kl (infoRow h.fn).min (infoRow h.fn).max)) ∧ Below w.heap.size w w' := by
  have B := bare_any h b off ka kl kc w N
  rw [hb] at B
  clear hb
  have HB := Lib.hid B; clear B
  obtain ⟨kind, op, num, text, ⟨rr, rc, rpr, rpc⟩, ⟨tr, tc, tpr, tpc⟩, fn⟩ := h
  simp only at hk
  subst hk
  skip
  all_goals
    go_enter Try.func58, Try.ntmps58
    go_wp2_with fail
    refine HB.out.mono ?_; rintro e w1 ⟨rfl, b1⟩
    have N1 := N.kept b1 N.1
    obtain ⟨hlt1, c0, c1, c2, c3, c4, c5, c6, c7, c8, c9, c10, c11, c12, c13, d5, d6, d7, d9, d10, d11⟩ := N1.facts
    simp only at c0 c1 c2 c3 c4 c5 c6 c7 c8 c9 c10 c11 c12 c13 d5 d6 d7 d9 d10 d11
    go_wp2
    all_goals
      clear c0 c1 c2 c3 c4 c5 c6 c7 c8 c9 c10 c11 c12 c13 d5 d6 d7 d9 d10 d11
      go_ret
      refine ⟨ret_bool ?_, b1⟩
      rw [Bool.eq_iff_iff]
      simp_all [kindB] <;> omega
set_option maxRecDepth 100000 in
set_option maxHeartbeats 4000000 in
theorem told_k3 (h : Hd) (b off : Nat) (ka : Option Addr) (kl kc : Nat) (w : World) (N : NodeAt w b off h (.slice ka kl kc)) (hb : bareB h kl = true) (hk : h.kind = 3) : Calls Try.prog 58 #[.pointer (some ⟨b, off, none⟩)] w fun e w' =>
    e = .returned (.bool (kindB h kl (infoRow h.fn).min (infoRow h.fn).max)) ∧ Below w.heap.size w w' := by
  have B := bare_any h b off ka kl kc w N
  rw [hb] at B
  clear hb
  have HB := Lib.hid B; clear B
  obtain ⟨kind, op, num, text, ⟨rr, rc, rpr, rpc⟩, ⟨tr, tc, tpr, tpc⟩, fn⟩ := h
  simp only at hk
  subst hk
  skip
  all_goals
    go_enter Try.func58, Try.ntmps58
    go_wp2_with fail
    refine HB.out.mono ?_; rintro e w1 ⟨rfl, b1⟩
    have N1 := N.kept b1 N.1
    obtain ⟨hlt1, c0, c1, c2, c3, c4, c5, c6, c7, c8, c9, c10, c11, c12, c13, d5, d6, d7, d9, d10, d11⟩ := N1.facts
    simp only at c0 c1 c2 c3 c4 c5 c6 c7 c8 c9 c10 c11 c12 c13 d5 d6 d7 d9 d10 d11
    go_wp2
    all_goals
      clear c0 c1 c2 c3 c4 c5 c6 c7 c8 c9 c10 c11 c12 c13 d5 d6 d7 d9 d10 d11
      go_ret
      refine ⟨ret_bool ?_, b1⟩
      rw [Bool.eq_iff_iff]
      simp_all [kindB] <;> omega
set_option maxRecDepth 100000 in
set_option maxHeartbeats 4000000 in
theorem told_k4 (h : Hd) (b off : Nat) (ka : Option Addr) (kl kc : Nat) (w : World) (N : NodeAt w b off h (.slice ka kl kc)) (hb : bareB h kl = true) (hk : h.kind = 4) : Calls Try.prog 58 #[.pointer (some ⟨b, off, none⟩)] w fun e w' =>
    e = .returned (.bool (kindB h kl (infoRow h.fn).min (infoRow h.fn).max)) ∧ Below w.heap.size w w' := by
  have B := bare_any h b off ka kl kc w N
  rw [hb] at B
  clear hb
  have HB := Lib.hid B; clear B
  obtain ⟨kind, op, num, text, ⟨rr, rc, rpr, rpc⟩, ⟨tr, tc, tpr, tpc⟩, fn⟩ := h
  simp only at hk
  subst hk
  skip
  all_goals
    go_enter Try.func58, Try.ntmps58
    go_wp2_with fail
    refine HB.out.mono ?_; rintro e w1 ⟨rfl, b1⟩
    have N1 := N.kept b1 N.1
    obtain ⟨hlt1, c0, c1, c2, c3, c4, c5, c6, c7, c8, c9, c10, c11, c12, c13, d5, d6, d7, d9, d10, d11⟩ := N1.facts
    simp only at c0 c1 c2 c3 c4 c5 c6 c7 c8 c9 c10 c11 c12 c13 d5 d6 d7 d9 d10 d11
    go_wp2
    all_goals
      clear c0 c1 c2 c3 c4 c5 c6 c7 c8 c9 c10 c11 c12 c13 d5 d6 d7 d9 d10 d11
      go_ret
      refine ⟨ret_bool ?_, b1⟩
      rw [Bool.eq_iff_iff]
      simp_all [kindB] <;> omega
set_option maxRecDepth 100000 in
set_option maxHeartbeats 4000000 in
theorem told_k5 (h : Hd) (b off : Nat) (ka : Option Addr) (kl kc : Nat) (w : World) (N : NodeAt w b off h (.slice ka kl kc)) (hb : bareB h kl = true) (hk : h.kind = 5) : Calls Try.prog 58 #[.pointer (some ⟨b, off, none⟩)] w fun e w' =>
    e = .returned (.bool (kindB h kl (infoRow h.fn).min (infoRow h.fn).max)) ∧ Below w.heap.size w w' := by
  have B := bare_any h b off ka kl kc w N
  rw [hb] at B
  clear hb
  have HB := Lib.hid B; clear B
  obtain ⟨kind, op, num, text, ⟨rr, rc, rpr, rpc⟩, ⟨tr, tc, tpr, tpc⟩, fn⟩ := h
  simp only at hk
  subst hk
  skip
  all_goals
    go_enter Try.func58, Try.ntmps58
    go_wp2_with fail
    refine HB.out.mono ?_; rintro e w1 ⟨rfl, b1⟩
    have N1 := N.kept b1 N.1
    obtain ⟨hlt1, c0, c1, c2, c3, c4, c5, c6, c7, c8, c9, c10, c11, c12, c13, d5, d6, d7, d9, d10, d11⟩ := N1.facts
    simp only at c0 c1 c2 c3 c4 c5 c6 c7 c8 c9 c10 c11 c12 c13 d5 d6 d7 d9 d10 d11
    go_wp2_with (go_at_call 80; refine (on_any ⟨_, _, _, _⟩ _).mono ?_; rintro e w2 ⟨rfl, b2⟩)
    all_goals
      clear c0 c1 c2 c3 c4 c5 c6 c7 c8 c9 c10 c11 c12 c13 d5 d6 d7 d9 d10 d11
      go_ret
      refine ⟨ret_bool ?_, ext_trans b1 b2⟩
      rw [Bool.eq_iff_iff]
      simp_all [kindB] <;> omega
end Go.Proofs.Ytkjfeakbhfkldaa
