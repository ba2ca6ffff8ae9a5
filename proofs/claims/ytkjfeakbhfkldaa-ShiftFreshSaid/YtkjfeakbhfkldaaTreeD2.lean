/- Trees: told, kind by kind. -/
import Derived.Test.YtkjfeakbhfkldaaTreeD
namespace Go.Proofs.Ytkjfeakbhfkldaa
open Go.RowKit
set_option maxRecDepth 100000 in
set_option maxHeartbeats 4000000 in
theorem told_k6 (h : Hd) (b off : Nat) (ka : Option Addr) (kl kc : Nat) (w : World) (N : NodeAt w b off h (.slice ka kl kc)) (hb : bareB h kl = true) (hk : h.kind = 6) : Calls Try.prog 58 #[.pointer (some ⟨b, off, none⟩)] w fun e w' =>
    e = .returned (.bool (kindB h kl (infoRow h.fn).min (infoRow h.fn).max)) ∧ Below w.heap.size w w' := by
  have B := bare_any h b off ka kl kc w N
  rw [hb] at B
  clear hb
  have HB := Lib.hid B; clear B
  obtain ⟨kind, op, num, text, ⟨rr, rc, rpr, rpc⟩, ⟨tr, tc, tpr, tpc⟩, fn⟩ := h
  simp only at hk
  subst hk
  skip
  all_goals
    go_enter Try.func58, Try.ntmps58
    go_wp2_with fail
    refine HB.out.mono ?_; rintro e w1 ⟨rfl, b1⟩
    have N1 := N.kept b1 N.1
    obtain ⟨hlt1, c0, c1, c2, c3, c4, c5, c6, c7, c8, c9, c10, c11, c12, c13, d5, d6, d7, d9, d10, d11⟩ := N1.facts
    simp only at c0 c1 c2 c3 c4 c5 c6 c7 c8 c9 c10 c11 c12 c13 d5 d6 d7 d9 d10 d11
    go_wp2_with fail
    refine (on_any ⟨_, _, _, _⟩ _).mono ?_; rintro e w2 ⟨rfl, b2⟩
    clear c0 c1 c2 c3 c4 c5 c6 c7 c8 c9 c10 c11 c12 c13 d5 d6 d7 d9 d10 d11
    have N2 := N1.kept b2 N1.1
    obtain ⟨hlt2, c0, c1, c2, c3, c4, c5, c6, c7, c8, c9, c10, c11, c12, c13, d5, d6, d7, d9, d10, d11⟩ := N2.facts
    simp only at c0 c1 c2 c3 c4 c5 c6 c7 c8 c9 c10 c11 c12 c13 d5 d6 d7 d9 d10 d11
    cases hp : placeB ⟨rr, rc, rpr, rpc⟩
    · go_wp2
      clear c0 c1 c2 c3 c4 c5 c6 c7 c8 c9 c10 c11 c12 c13 d5 d6 d7 d9 d10 d11
      go_ret
      refine ⟨ret_bool ?_, ext_trans b1 b2⟩
      rw [Bool.eq_iff_iff]
      simp_all [kindB] <;> omega
    · go_wp2_with (go_at_call 80; refine (on_any ⟨_, _, _, _⟩ _).mono ?_; rintro e w3 ⟨rfl, b3⟩)
      clear c0 c1 c2 c3 c4 c5 c6 c7 c8 c9 c10 c11 c12 c13 d5 d6 d7 d9 d10 d11
      go_ret
      refine ⟨ret_bool ?_, ext_trans (ext_trans b1 b2) b3⟩
      rw [Bool.eq_iff_iff]
      simp_all [kindB] <;> omega
set_option maxRecDepth 100000 in
set_option maxHeartbeats 4000000 in
theorem told_k7 (h : Hd) (b off : Nat) (ka : Option Addr) (kl kc : Nat) (w : World) (N : NodeAt w b off h (.slice ka kl kc)) (hb : bareB h kl = true) (hk : h.kind = 7) : Calls Try.prog 58 #[.pointer (some ⟨b, off, none⟩)] w fun e w' =>
    e = .returned (.bool (kindB h kl (infoRow h.fn).min (infoRow h.fn).max)) ∧ Below w.heap.size w w' := by
  have B := bare_any h b off ka kl kc w N
  rw [hb] at B
  clear hb
  have HB := Lib.hid B; clear B
  obtain ⟨kind, op, num, text, ⟨rr, rc, rpr, rpc⟩, ⟨tr, tc, tpr, tpc⟩, fn⟩ := h
  simp only at hk
  subst hk
  skip
  all_goals
    go_enter Try.func58, Try.ntmps58
    go_wp2_with fail
    refine HB.out.mono ?_; rintro e w1 ⟨rfl, b1⟩
    have N1 := N.kept b1 N.1
    obtain ⟨hlt1, c0, c1, c2, c3, c4, c5, c6, c7, c8, c9, c10, c11, c12, c13, d5, d6, d7, d9, d10, d11⟩ := N1.facts
    simp only at c0 c1 c2 c3 c4 c5 c6 c7 c8 c9 c10 c11 c12 c13 d5 d6 d7 d9 d10 d11
    go_wp2
    all_goals
      clear c0 c1 c2 c3 c4 c5 c6 c7 c8 c9 c10 c11 c12 c13 d5 d6 d7 d9 d10 d11
      go_ret
      refine ⟨ret_bool ?_, b1⟩
      rw [Bool.eq_iff_iff]
      simp_all [kindB] <;> omega
set_option maxRecDepth 100000 in
set_option maxHeartbeats 4000000 in
theorem told_k8 (h : Hd) (b off : Nat) (ka : Option Addr) (kl kc : Nat) (w : World) (N : NodeAt w b off h (.slice ka kl kc)) (hb : bareB h kl = true) (hk : h.kind = 8) : Calls Try.prog 58 #[.pointer (some ⟨b, off, none⟩)] w fun e w' =>
    e = .returned (.bool (kindB h kl (infoRow h.fn).min (infoRow h.fn).max)) ∧ Below w.heap.size w w' := by
  have B := bare_any h b off ka kl kc w N
  rw [hb] at B
  clear hb
  have HB := Lib.hid B; clear B
  obtain ⟨kind, op, num, text, ⟨rr, rc, rpr, rpc⟩, ⟨tr, tc, tpr, tpc⟩, fn⟩ := h
  simp only at hk
  subst hk
  skip
  all_goals
    go_enter Try.func58, Try.ntmps58
    go_wp2_with fail
    refine HB.out.mono ?_; rintro e w1 ⟨rfl, b1⟩
    have N1 := N.kept b1 N.1
    obtain ⟨hlt1, c0, c1, c2, c3, c4, c5, c6, c7, c8, c9, c10, c11, c12, c13, d5, d6, d7, d9, d10, d11⟩ := N1.facts
    simp only at c0 c1 c2 c3 c4 c5 c6 c7 c8 c9 c10 c11 c12 c13 d5 d6 d7 d9 d10 d11
    go_wp2
    all_goals
      clear c0 c1 c2 c3 c4 c5 c6 c7 c8 c9 c10 c11 c12 c13 d5 d6 d7 d9 d10 d11
      go_ret
      refine ⟨ret_bool ?_, b1⟩
      rw [Bool.eq_iff_iff]
      simp_all [kindB] <;> omega
set_option maxRecDepth 100000 in
set_option maxHeartbeats 4000000 in
theorem told_k9 (h : Hd) (b off : Nat) (ka : Option Addr) (kl kc : Nat) (w : World) (N : NodeAt w b off h (.slice ka kl kc)) (hb : bareB h kl = true) (hk : h.kind = 9) : Calls Try.prog 58 #[.pointer (some ⟨b, off, none⟩)] w fun e w' =>
    e = .returned (.bool (kindB h kl (infoRow h.fn).min (infoRow h.fn).max)) ∧ Below w.heap.size w w' := by
  have B := bare_any h b off ka kl kc w N
  rw [hb] at B
  clear hb
  have HB := Lib.hid B; clear B
  obtain ⟨kind, op, num, text, ⟨rr, rc, rpr, rpc⟩, ⟨tr, tc, tpr, tpc⟩, fn⟩ := h
  simp only at hk
  subst hk
  skip
  all_goals
    go_enter Try.func58, Try.ntmps58
    go_wp2_with fail
    refine HB.out.mono ?_; rintro e w1 ⟨rfl, b1⟩
    have N1 := N.kept b1 N.1
    obtain ⟨hlt1, c0, c1, c2, c3, c4, c5, c6, c7, c8, c9, c10, c11, c12, c13, d5, d6, d7, d9, d10, d11⟩ := N1.facts
    simp only at c0 c1 c2 c3 c4 c5 c6 c7 c8 c9 c10 c11 c12 c13 d5 d6 d7 d9 d10 d11
    go_wp2_with fail
    refine (info_any _ _).mono ?_; rintro e w2 ⟨rfl, b2⟩; rw [infoV_eq]
    clear c0 c1 c2 c3 c4 c5 c6 c7 c8 c9 c10 c11 c12 c13 d5 d6 d7 d9 d10 d11
    have N2 := N1.kept b2 N1.1
    obtain ⟨hlt2, c0, c1, c2, c3, c4, c5, c6, c7, c8, c9, c10, c11, c12, c13, d5, d6, d7, d9, d10, d11⟩ := N2.facts
    simp only at c0 c1 c2 c3 c4 c5 c6 c7 c8 c9 c10 c11 c12 c13 d5 d6 d7 d9 d10 d11
    generalize hR : infoRow fn = R at *
    have HR := Lib.hid hR; clear hR
    generalize hE : infoErr fn = E at *
    have HE := Lib.hid hE; clear hE
    have g1 : (E == 0) = false ∨ E = 0 := by by_cases h : E = 0 <;> simp [h]
    have HN := Lib.hid N2; clear N2
    rcases g1 with g1 | g1
    · have hd : (E == 0) = false := g1
      go_wp2
      go_quiet (fail)
      go_wp2
      clear c0 c1 c2 c3 c4 c5 c6 c7 c8 c9 c10 c11 c12 c13 d5 d6 d7 d9 d10 d11
      go_ret
      refine ⟨ret_bool ?_, ext_drewN (ext_alloc (ext_trans b1 b2) _) _⟩
      have hr := HR.out; have he := HE.out
      clear HR HE HN HB
      subst hr
      rw [Bool.eq_iff_iff]
      unfold infoErr at he
      by_cases hf : 1 ≤ fn ∧ fn ≤ 76 <;> simp_all [kindB] <;> first | omega | (intros; omega) | grind
    · subst g1
      by_cases g2 : R.min ≤ (kl : Int)
      · have hd2 : decide (R.min ≤ (kl : Int)) = true := by simpa using g2
        by_cases g3 : R.max < 0
        · go_wp2
          go_quiet (fail)
          go_wp2
          clear c0 c1 c2 c3 c4 c5 c6 c7 c8 c9 c10 c11 c12 c13 d5 d6 d7 d9 d10 d11
          go_ret
          refine ⟨ret_bool ?_, ext_drewN (ext_alloc (ext_trans b1 b2) _) _⟩
          have hr := HR.out; have he := HE.out
          clear HR HE HN HB
          subst hr
          rw [Bool.eq_iff_iff]
          unfold infoErr at he
          by_cases hf : 1 ≤ fn ∧ fn ≤ 76 <;> simp_all [kindB] <;> first | omega | (intros; omega) | grind
        · have hd3 : decide (R.max < 0) = false := by simpa using g3
          go_wp2
          go_quiet (fail)
          go_wp2
          clear c0 c1 c2 c3 c4 c5 c6 c7 c8 c9 c10 c11 c12 c13 d5 d6 d7 d9 d10 d11
          go_ret
          refine ⟨ret_bool ?_, ext_drewN (ext_alloc (ext_trans b1 b2) _) _⟩
          have hr := HR.out; have he := HE.out
          clear HR HE HN HB
          subst hr
          rw [Bool.eq_iff_iff]
          unfold infoErr at he
          by_cases hf : 1 ≤ fn ∧ fn ≤ 76 <;> simp_all [kindB] <;> first | omega | (intros; omega) | grind
      · have hd2 : decide (R.min ≤ (kl : Int)) = false := by simpa using g2
        go_wp2
        go_quiet (fail)
        go_wp2
        clear c0 c1 c2 c3 c4 c5 c6 c7 c8 c9 c10 c11 c12 c13 d5 d6 d7 d9 d10 d11
        go_ret
        refine ⟨ret_bool ?_, ext_drewN (ext_alloc (ext_trans b1 b2) _) _⟩
        have hr := HR.out; have he := HE.out
        clear HR HE HN HB
        subst hr
        rw [Bool.eq_iff_iff]
        unfold infoErr at he
        by_cases hf : 1 ≤ fn ∧ fn ≤ 76 <;> simp_all [kindB] <;> first | omega | (intros; omega) | grind
set_option maxRecDepth 100000 in
set_option maxHeartbeats 4000000 in
theorem told_k10 (h : Hd) (b off : Nat) (ka : Option Addr) (kl kc : Nat) (w : World) (N : NodeAt w b off h (.slice ka kl kc)) (hb : bareB h kl = true) (hk : h.kind < 1 ∨ 9 < h.kind) : Calls Try.prog 58 #[.pointer (some ⟨b, off, none⟩)] w fun e w' =>
    e = .returned (.bool (kindB h kl (infoRow h.fn).min (infoRow h.fn).max)) ∧ Below w.heap.size w w' := by
  have B := bare_any h b off ka kl kc w N
  rw [hb] at B
  clear hb
  have HB := Lib.hid B; clear B
  obtain ⟨kind, op, num, text, ⟨rr, rc, rpr, rpc⟩, ⟨tr, tc, tpr, tpc⟩, fn⟩ := h
  simp only at hk
  skip
  rcases hk with hk | hk
  all_goals
    go_enter Try.func58, Try.ntmps58
    go_wp2_with fail
    refine HB.out.mono ?_; rintro e w1 ⟨rfl, b1⟩
    have N1 := N.kept b1 N.1
    obtain ⟨hlt1, c0, c1, c2, c3, c4, c5, c6, c7, c8, c9, c10, c11, c12, c13, d5, d6, d7, d9, d10, d11⟩ := N1.facts
    simp only at c0 c1 c2 c3 c4 c5 c6 c7 c8 c9 c10 c11 c12 c13 d5 d6 d7 d9 d10 d11
    go_wp2
    all_goals
      clear c0 c1 c2 c3 c4 c5 c6 c7 c8 c9 c10 c11 c12 c13 d5 d6 d7 d9 d10 d11
      go_ret
      refine ⟨ret_bool ?_, b1⟩
      rw [Bool.eq_iff_iff]
      simp_all [kindB] <;> omega
end Go.Proofs.Ytkjfeakbhfkldaa
