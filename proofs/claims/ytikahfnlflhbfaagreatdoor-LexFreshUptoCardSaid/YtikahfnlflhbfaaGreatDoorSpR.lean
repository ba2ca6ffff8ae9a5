/- References' texts: what is written is read as itself. No program in sight. -/
import Derived.Test.YtikahfnlflhbfaaGreatDoorSpQ
namespace Go.Proofs.YtikahfnlflhbfaaGreatDoor
open Go.RowKit Go.Lib

def capB (c : UInt8) : Bool := decide (65 ≤ c.toNat) && decide (c.toNat ≤ 90)
theorem capB_let {c : UInt8} (h : capB c = true) : letB c = true ∧ lowB c = false ∧ letN c = (c.toNat : Int) - 65 := by
  simp only [capB, Bool.and_eq_true, decide_eq_true_eq] at h
  refine ⟨?_, ?_, ?_⟩
  · simp only [letB, Bool.or_eq_true, Bool.and_eq_true, decide_eq_true_eq]; omega
  · simp only [lowB, Bool.and_eq_false_iff, decide_eq_false_iff_not]; omega
  · rw [letN, if_pos h]
theorem ofNat_toNat {n : Nat} (h : n < 256) : (UInt8.ofNat n).toNat = n := by rw [UInt8.toNat_ofNat']; exact Nat.mod_eq_of_lt h
theorem lettersL_facts {c : Int} (h0 : 0 ≤ c) (h1 : c < 702) : (lettersL c).all capB = true ∧ colN (lettersL c) = c ∧ lettersL c ≠ [] := by
  unfold lettersL
  split
  · rename_i q
    have e := ofNat_toNat (n := 65 + c.toNat) (by omega)
    have hc : capB (UInt8.ofNat (65 + c.toNat)) = true := by simp only [capB, e, Bool.and_eq_true, decide_eq_true_eq]; omega
    refine ⟨by simp only [List.all_cons, List.all_nil, hc, Bool.and_self], ?_, by simp⟩
    simp only [colN]
    rw [(capB_let hc).2.2, e]; omega
  · rename_i q
    have e1 := ofNat_toNat (n := 65 + ((c - 26) / 26).toNat) (by omega)
    have e2 := ofNat_toNat (n := 65 + ((c - 26) % 26).toNat) (by omega)
    have hc1 : capB (UInt8.ofNat (65 + ((c - 26) / 26).toNat)) = true := by simp only [capB, e1, Bool.and_eq_true, decide_eq_true_eq]; omega
    have hc2 : capB (UInt8.ofNat (65 + ((c - 26) % 26).toNat)) = true := by simp only [capB, e2, Bool.and_eq_true, decide_eq_true_eq]; omega
    refine ⟨by simp only [List.all_cons, List.all_nil, hc1, hc2, Bool.and_self], ?_, by simp⟩
    simp only [colN]
    rw [(capB_let hc1).2.2, (capB_let hc2).2.2, e1, e2]; omega
theorem digV_app (a b : List UInt8) : ∀ acc, digV acc (a ++ b) = digV (digV acc a) b := by
  induction a with
  | nil => intro acc; rfl
  | cons c r ih => intro acc; exact ih _
theorem decDigits_facts : ∀ (n : Nat), (decDigits n).all digB = true ∧ digV 0 (decDigits n) = n ∧ decDigits n ≠ [] ∧ (0 < n → (decDigits n).head? ≠ some 48) := by
  intro n
  induction n using Nat.strongRecOn with
  | ind n ih =>
    rw [decDigits]
    split
    · rename_i h
      have e := ofNat_toNat (n := 48 + n) (by omega)
      have hd : digB (UInt8.ofNat (48 + n)) = true := by simp only [digB, e, Bool.and_eq_true, decide_eq_true_eq]; omega
      refine ⟨by simp only [List.all_cons, List.all_nil, hd, Bool.and_self], ?_, by simp, fun h0 hh => ?_⟩
      · show 0 * 10 + ((UInt8.ofNat (48 + n)).toNat - 48) = n
        rw [e]; omega
      simp only [List.head?_cons, Option.some.injEq] at hh
      have := congrArg UInt8.toNat hh
      rw [e] at this
      have e2 : (48 : UInt8).toNat = 48 := rfl
      omega
    · rename_i h
      obtain ⟨i1, i2, i3, i4⟩ := ih (n / 10) (by omega)
      have e := ofNat_toNat (n := 48 + n % 10) (by omega)
      have hd : digB (UInt8.ofNat (48 + n % 10)) = true := by simp only [digB, e, Bool.and_eq_true, decide_eq_true_eq]; omega
      refine ⟨by rw [List.all_append, i1]; simp only [List.all_cons, List.all_nil, hd, Bool.and_self], ?_, by simp, fun _ => ?_⟩
      · rw [digV_app, i2]
        show n / 10 * 10 + ((UInt8.ofNat (48 + n % 10)).toNat - 48) = n
        rw [e]; omega
      · obtain ⟨c, r, hr⟩ := List.exists_cons_of_ne_nil i3
        have := i4 (by omega)
        rw [hr] at this ⊢
        simpa using this
theorem all_cap {l : List UInt8} (h : l.all capB = true) : l.all letB = true ∧ l.any lowB = false := by
  refine ⟨List.all_eq_true.2 fun c hc => (capB_let (List.all_eq_true.1 h c hc)).1, ?_⟩
  rw [List.any_eq_false]
  intro c hc e
  rw [(capB_let (List.all_eq_true.1 h c hc)).2.1] at e; cases e
theorem refText_parts {r : RefT} (h : placeB r = true) : refTextL r = pinL r.pc ++ (lettersL r.col ++ (pinL r.pr ++ (decDigits (r.row + 1).toNat ++ []))) ∧
    Parts (refTextL r) ⟨(refTextL r).length, r.col, r.row, r.pc, r.pr⟩ (lettersL r.col) (decDigits (r.row + 1).toNat) [] := by
  have e : refTextL r = pinL r.pc ++ (lettersL r.col ++ (pinL r.pr ++ (decDigits (r.row + 1).toNat ++ []))) := by
    rw [refTextL, if_pos h]; simp
  have hp : 0 ≤ r.row ∧ r.row < 65536 ∧ 0 ≤ r.col ∧ r.col < 702 := by simp [placeB] at h; omega
  obtain ⟨l1, l2, l3⟩ := lettersL_facts hp.2.2.1 hp.2.2.2
  obtain ⟨d1, d2, d3, d4⟩ := decDigits_facts (r.row + 1).toNat
  refine ⟨e, e, (all_cap l1).1, d1, l3, d3, d4 (by omega), by simp, l2.symm, ?_, ?_⟩
  · show r.row = rowN _
    rw [rowN, d2, if_neg (by omega)]; omega
  · show (refTextL r).length = _
    rw [e]; simp only [List.length_append, List.length_nil]; omega
/-- A reference's text, read, is the reference. -/
theorem refAns_text {r : RefT} (h : placeB r = true) : refAns (refTextL r) = ⟨r, (refTextL r).length, 0⟩ := by
  have hp : 0 ≤ r.row ∧ r.row < 65536 ∧ 0 ≤ r.col ∧ r.col < 702 := by simp [placeB] at h; omega
  unfold refAns
  rw [parts_form (refText_parts h).2]
  simp only
  rw [if_pos ⟨hp.2.2.2, hp.2.1⟩]
theorem any_low {r : RefT} (h : placeB r = true) : (refTextL r).any lowB = false := by
  have hp : 0 ≤ r.row ∧ r.row < 65536 ∧ 0 ≤ r.col ∧ r.col < 702 := by simp [placeB] at h; omega
  rw [(refText_parts h).1, List.any_append, List.any_append, List.any_append, List.any_append, (all_cap (lettersL_facts hp.2.2.1 hp.2.2.2).1).2, any_of_all (decDigits_facts (r.row + 1).toNat).1 (fun c hc => (digB_lt hc).2.2.2.2)]
  have : ∀ b : Bool, (pinL b).any lowB = false := fun b => by cases b <;> rfl
  simp [this]
theorem spotAns_text {r : RefT} (h : placeB r = true) : spotAns (refTextL r) = if (r.pc || r.pr) = true then (0, 0, 20) else (r.row, r.col, 0) := by
  have hp : 0 ≤ r.row ∧ r.row < 65536 ∧ 0 ≤ r.col ∧ r.col < 702 := by simp [placeB] at h; omega
  unfold spotAns
  rw [parts_form (refText_parts h).2]
  simp only [any_low h]
  cases r.pc <;> cases r.pr <;> simp [hp.2.2.2, hp.2.1]
theorem dollars_text {r : RefT} (h : placeB r = true) : (refTextL r).count 36 = (pinL r.pc).length + (pinL r.pr).length ∧ (refTextL r).length = (pinL r.pc).length + (pinL r.pr).length + (refTextL ⟨r.row, r.col, false, false⟩).length ∧ ((refTextL r).head? = some 36 ↔ r.pc = true) := by
  have hp : 0 ≤ r.row ∧ r.row < 65536 ∧ 0 ≤ r.col ∧ r.col < 702 := by simp [placeB] at h; omega
  have h2 : placeB ⟨r.row, r.col, false, false⟩ = true := h
  obtain ⟨l1, l2, l3⟩ := lettersL_facts hp.2.2.1 hp.2.2.2
  have c1 : (lettersL r.col).count 36 = 0 := by
    rw [List.count_eq_zero]; intro hm
    exact (letB_lt (List.all_eq_true.1 (all_cap l1).1 36 hm)).2.1 rfl
  have c2 : (decDigits (r.row + 1).toNat).count 36 = 0 := by
    rw [List.count_eq_zero]; intro hm
    exact (digB_lt (List.all_eq_true.1 (decDigits_facts _).1 36 hm)).2.1 rfl
  have cp : ∀ b : Bool, (pinL b).count 36 = (pinL b).length := fun b => by cases b <;> rfl
  refine ⟨?_, ?_, ?_⟩
  · rw [(refText_parts h).1]
    simp only [List.count_append, c1, c2, cp, List.count_nil]; omega
  · rw [(refText_parts h).1, (refText_parts h2).1]
    simp only [List.length_append, pinL, List.length_nil]
    simp; omega
  · rw [(refText_parts h).1]
    obtain ⟨c, q, hq⟩ := List.exists_cons_of_ne_nil l3
    cases hpc : r.pc
    · rw [hq]
      simp only [pinL, Bool.false_eq_true, if_false, List.nil_append, List.cons_append, List.head?_cons, Option.some.injEq, iff_false]
      intro e
      have : c ∈ lettersL r.col := by rw [hq]; simp
      exact (letB_lt (List.all_eq_true.1 (all_cap l1).1 c this)).2.1 e
    · simp [pinL]
end Go.Proofs.YtikahfnlflhbfaaGreatDoor
