/- References' texts: what a text that begins with a reference looks like. No program in sight. -/
import Derived.Test.YtikahfnlflhbfaaGreatDoorSpP
namespace Go.Proofs.YtikahfnlflhbfaaGreatDoor
open Go.RowKit Go.Lib

theorem letB_lt {c : UInt8} (h : letB c = true) : c.toNat < 128 ∧ c ≠ 36 ∧ digB c = false ∧ c ≠ 58 := by
  simp only [letB, Bool.or_eq_true, Bool.and_eq_true, decide_eq_true_eq] at h
  refine ⟨by omega, fun e => by subst e; simp at h, ?_, fun e => by subst e; simp at h⟩
  simp only [digB, Bool.and_eq_false_iff, decide_eq_false_iff_not]; omega
theorem digB_lt {c : UInt8} (h : digB c = true) : c.toNat < 128 ∧ c ≠ 36 ∧ letB c = false ∧ c ≠ 58 ∧ lowB c = false := by
  simp only [digB, Bool.and_eq_true, decide_eq_true_eq] at h
  refine ⟨by omega, fun e => by subst e; simp at h, ?_, fun e => by subst e; simp at h, ?_⟩
  · simp only [letB, Bool.or_eq_false_iff, Bool.and_eq_false_iff, decide_eq_false_iff_not]; omega
  · simp only [lowB, Bool.and_eq_false_iff, decide_eq_false_iff_not]; omega
/-- The parts of a text that begins with a reference. -/
structure Parts (l : List UInt8) (f : Fm) (ws ds rest : List UInt8) : Prop where
  eq : l = pinL f.pc ++ (ws ++ (pinL f.pr ++ (ds ++ rest)))
  w : ws.all letB = true
  d : ds.all digB = true
  w0 : ws ≠ []
  d0 : ds ≠ []
  z : ds.head? ≠ some 48
  r : ∀ c, rest.head? = some c → digB c = false
  col : f.col = colN ws
  row : f.row = rowN ds
  n : f.n = (pinL f.pc).length + ws.length + (pinL f.pr).length + ds.length
theorem pinL_dol (l : List UInt8) (i : Nat) : (pinL (decide (dol l i = 1))).length = dol l i := by
  unfold dol; split <;> simp [pinL]
theorem drop_pin (l : List UInt8) (i : Nat) : l.drop i = pinL (decide (dol l i = 1)) ++ l.drop (i + dol l i) := by
  unfold dol
  split
  · rename_i h
    have hi := (List.getElem?_eq_some_iff.1 h).1
    rw [List.drop_eq_getElem_cons hi]
    have : l[i] = 36 := by rw [List.getElem?_eq_getElem hi] at h; exact Option.some.inj h
    simp [pinL, this]
  · simp [pinL]
theorem drop_wh (p : UInt8 → Bool) (l : List UInt8) (i : Nat) : l.drop i = (l.drop i).take (wh p (l.drop i)) ++ l.drop (i + wh p (l.drop i)) := by
  rw [← List.drop_drop, List.take_append_drop]
theorem form_parts {l : List UInt8} {f : Fm} (h : form l = some f) : ∃ ws ds rest, Parts l f ws ds rest := by
  unfold form at h
  simp only at h
  split at h
  · cases h
  · rename_i q
    simp only [not_or] at q
    obtain ⟨q1, q2, q3⟩ := q
    injection h with h
    subst h
    refine ⟨(l.drop (dol l 0)).take (wh letB (l.drop (dol l 0))), (l.drop (dol l 0 + wh letB (l.drop (dol l 0)) + dol l (dol l 0 + wh letB (l.drop (dol l 0))))).take (wh digB (l.drop (dol l 0 + wh letB (l.drop (dol l 0)) + dol l (dol l 0 + wh letB (l.drop (dol l 0)))))), l.drop (dol l 0 + wh letB (l.drop (dol l 0)) + dol l (dol l 0 + wh letB (l.drop (dol l 0))) + wh digB (l.drop (dol l 0 + wh letB (l.drop (dol l 0)) + dol l (dol l 0 + wh letB (l.drop (dol l 0)))))), ?_, wh_all _ _, wh_all _ _, ?_, ?_, ?_, ?_, rfl, rfl, ?_⟩
    · conv => lhs; rw [show l = l.drop 0 from rfl, drop_pin l 0, Nat.zero_add, drop_wh letB l (dol l 0), drop_pin l (dol l 0 + wh letB (l.drop (dol l 0))), drop_wh digB l (dol l 0 + wh letB (l.drop (dol l 0)) + dol l (dol l 0 + wh letB (l.drop (dol l 0))))]
    · intro e
      have := congrArg List.length e
      rw [List.length_take, List.length_nil] at this
      have := wh_le letB (l.drop (dol l 0)); omega
    · intro e
      have := congrArg List.length e
      rw [List.length_take, List.length_nil] at this
      have := wh_le digB (l.drop (dol l 0 + wh letB (l.drop (dol l 0)) + dol l (dol l 0 + wh letB (l.drop (dol l 0))))); omega
    · intro e
      rw [List.head?_take, if_neg q2, List.head?_drop] at e
      exact q3 e
    · intro c hc
      rw [List.head?_drop] at hc
      refine wh_next digB (l.drop (dol l 0 + wh letB (l.drop (dol l 0)) + dol l (dol l 0 + wh letB (l.drop (dol l 0))))) c ?_
      rw [List.getElem?_drop]; exact hc
    · have e1 := wh_le letB (l.drop (dol l 0))
      have e2 := wh_le digB (l.drop (dol l 0 + wh letB (l.drop (dol l 0)) + dol l (dol l 0 + wh letB (l.drop (dol l 0)))))
      simp only [pinL_dol, List.length_take]
      omega
theorem wh_app (p : UInt8 → Bool) : ∀ (ws r : List UInt8), ws.all p = true → (∀ c, r.head? = some c → p c = false) → wh p (ws ++ r) = ws.length
  | [], r, _, h => by
    cases r with
    | nil => rfl
    | cons c r => have := h c rfl; simp [wh, this]
  | c :: ws, r, ha, h => by
    simp only [List.all_cons, Bool.and_eq_true] at ha
    have := wh_app p ws r ha.2 h
    simp only [wh] at this ⊢
    rw [List.cons_append, List.takeWhile_cons_of_pos ha.1, List.length_cons, List.length_cons, this]
theorem dol_head {l : List UInt8} (h : l.head? ≠ some 36) : dol l 0 = 0 := by unfold dol; rw [← List.head?_eq_getElem?, if_neg h]
theorem dol_pin (b : Bool) (l : List UInt8) (h : l.head? ≠ some 36) : dol (pinL b ++ l) 0 = (pinL b).length ∧ decide (dol (pinL b ++ l) 0 = 1) = b := by
  cases b
  · have := dol_head h; simp [pinL, this]
  · simp [pinL, dol]
theorem dolAt (l : List UInt8) (k : Nat) : dol (l.drop k) 0 = dol l k := by unfold dol; rw [List.getElem?_drop, Nat.add_zero]
theorem parts_form {l : List UInt8} {f : Fm} {ws ds rest : List UInt8} (P : Parts l f ws ds rest) : form l = some f := by
  obtain ⟨eq, w, d, w0, d0, z, r, col, row, n⟩ := P
  obtain ⟨c, ws', rfl⟩ := List.exists_cons_of_ne_nil w0
  obtain ⟨e, ds', rfl⟩ := List.exists_cons_of_ne_nil d0
  have hc : letB c = true := by simp only [List.all_cons, Bool.and_eq_true] at w; exact w.1
  have he : digB e = true := by simp only [List.all_cons, Bool.and_eq_true] at d; exact d.1
  have a1 := dol_pin f.pc ((c :: ws') ++ (pinL f.pr ++ ((e :: ds') ++ rest))) (by simpa using (letB_lt hc).2.1)
  rw [← eq] at a1
  have l1 : l.drop (dol l 0) = (c :: ws') ++ (pinL f.pr ++ ((e :: ds') ++ rest)) := by
    rw [a1.1]; conv => lhs; rw [eq]
    exact List.drop_left
  have n1 : wh letB (l.drop (dol l 0)) = (c :: ws').length := by
    rw [l1]
    refine wh_app letB _ _ w fun x hx => ?_
    cases hp : f.pr with
    | true => rw [hp] at hx; simp [pinL] at hx; subst hx; decide
    | false => rw [hp] at hx; simp [pinL] at hx; subst hx; exact (digB_lt he).2.2.1
  have l2 : l.drop (dol l 0 + (c :: ws').length) = pinL f.pr ++ ((e :: ds') ++ rest) := by
    rw [← List.drop_drop, l1]; exact List.drop_left
  have a2 := dol_pin f.pr ((e :: ds') ++ rest) (by simpa using (digB_lt he).2.1)
  rw [← l2, dolAt] at a2
  have l3 : l.drop (dol l 0 + (c :: ws').length + dol l (dol l 0 + (c :: ws').length)) = (e :: ds') ++ rest := by
    rw [← List.drop_drop, l2, a2.1]; exact List.drop_left
  have n3 : wh digB (l.drop (dol l 0 + (c :: ws').length + dol l (dol l 0 + (c :: ws').length))) = (e :: ds').length := by
    rw [l3]; exact wh_app digB _ _ d r
  unfold form
  simp only [n1, n3]
  rw [if_neg]
  · congr 1
    obtain ⟨fn, fc, fr, fpc, fpr⟩ := f
    simp only at *
    rw [l1, l3, List.take_left, List.take_left, a1.2, a2.2, a2.1, a1.1, n, col, row]
  · rintro (h | h | h)
    · simp at h
    · simp at h
    · rw [← List.head?_drop, l3] at h
      exact z (by simpa using h)
theorem digV_ge (l : List UInt8) : ∀ acc, acc ≤ digV acc l := by
  induction l with
  | nil => intro acc; exact Nat.le_refl _
  | cons c r ih => intro acc; exact Nat.le_trans (by omega : acc ≤ acc * 10 + (c.toNat - 48)) (ih _)
theorem digV_pos {ds : List UInt8} (hd : ds.all digB = true) (h0 : ds ≠ []) (hz : ds.head? ≠ some 48) : 1 ≤ digV 0 ds := by
  obtain ⟨c, r, rfl⟩ := List.exists_cons_of_ne_nil h0
  have h1 : 0 * 10 + (c.toNat - 48) ≤ digV 0 (c :: r) := digV_ge r _
  have h2 : digB c = true := by simp only [List.all_cons, Bool.and_eq_true] at hd; exact hd.1
  simp only [digB, Bool.and_eq_true, decide_eq_true_eq] at h2
  have h3 : c.toNat ≠ 48 := fun e => hz (by simp; exact UInt8.toNat_inj.1 e)
  omega
theorem colN_ge {ws : List UInt8} (hw : ws.all letB = true) : 0 ≤ colN ws := by
  match ws with
  | [] => simp [colN]
  | [a] => have := letN_of (c := a) (by simpa using hw); simp only [colN]; omega
  | [a, b] =>
    simp only [List.all_cons, List.all_nil, Bool.and_true, Bool.and_eq_true] at hw
    have := letN_of hw.1; have := letN_of hw.2; simp only [colN]; omega
  | a :: b :: c :: r => simp [colN]
theorem refAns_facts (l : List UInt8) : (refAns l).n ≤ l.length ∧ 0 ≤ (refAns l).ref.row ∧ (refAns l).ref.row ≤ 65535 ∧ 0 ≤ (refAns l).ref.col ∧ (refAns l).ref.col ≤ 701 ∧ ((refAns l).n = 0 ↔ (refAns l).e = 20) ∧ ((refAns l).e = 0 ∨ (refAns l).e = 10 ∨ (refAns l).e = 20) := by
  unfold refAns
  cases hf : form l with
  | none => simp [RefT.zero]
  | some f =>
    obtain ⟨ws, ds, rest, P⟩ := form_parts hf
    have h1 := P.n
    have h2 := congrArg List.length P.eq
    simp only [List.length_append] at h2
    have h3 := List.length_pos_iff.2 P.w0
    have h4 := digV_pos P.d P.d0 P.z
    have h5 := colN_ge P.w
    simp only
    split
    · rename_i q
      have hr : f.row = (digV 0 ds : Int) - 1 := by
        rw [P.row, rowN, if_neg]
        intro e
        have := q.2; rw [P.row, rowN, if_pos e] at this; omega
      refine ⟨by show f.n ≤ l.length; omega, by show 0 ≤ f.row; omega, by have := q.2; show f.row ≤ 65535; omega, by show 0 ≤ f.col; rw [P.col]; exact h5, by have := q.1; show f.col ≤ 701; omega, ⟨fun e => by simp only at e; omega, fun e => by simp at e⟩, .inl rfl⟩
    · exact ⟨by show f.n ≤ l.length; omega, by simp [RefT.zero], by simp [RefT.zero], by simp [RefT.zero], by simp [RefT.zero], ⟨fun e => by simp only at e; omega, fun e => by simp at e⟩, .inr (.inl rfl)⟩
theorem any_of_all {p q : UInt8 → Bool} {l : List UInt8} (h : l.all p = true) (hpq : ∀ c, p c = true → q c = false) : l.any q = false := by
  rw [List.any_eq_false]
  intro c hc e
  have := hpq c (List.all_eq_true.1 h c hc)
  rw [this] at e; cases e
theorem pin_any (b : Bool) : (pinL b).any (· == 36) = b := by cases b <;> simp [pinL]
theorem whole_facts {l : List UInt8} {f : Fm} (h : form l = some f) (hn : f.n = l.length) : l.any (· == 36) = (f.pc || f.pr) ∧ ∀ c ∈ l, c.toNat < 128 := by
  obtain ⟨ws, ds, rest, P⟩ := form_parts h
  have hr : rest = [] := by
    have h1 := P.n
    have h2 := congrArg List.length P.eq
    simp only [List.length_append] at h2
    exact List.length_eq_zero_iff.1 (by omega)
  have e := P.eq
  rw [hr, List.append_nil] at e
  constructor
  · rw [e, List.any_append, List.any_append, List.any_append, pin_any, pin_any, any_of_all P.w (fun c hc => by simpa using (letB_lt hc).2.1), any_of_all P.d (fun c hc => by simpa using (digB_lt hc).2.1)]
    simp
  · intro c hc
    rw [e] at hc
    have pin : ∀ b : Bool, c ∈ pinL b → c.toNat < 128 := fun b hb => by cases b <;> simp [pinL] at hb; subst hb; decide
    simp only [List.mem_append] at hc
    rcases hc with hc | hc | hc | hc
    · exact pin _ hc
    · exact (letB_lt (List.all_eq_true.1 P.w c hc)).1
    · exact pin _ hc
    · exact (digB_lt (List.all_eq_true.1 P.d c hc)).1
theorem spotAns_eq (l : List UInt8) : spotAns l = if (refAns l).e = 20 ∨ (refAns l).n ≠ l.length ∨ l.any (· == 36) = true ∨ l.any lowB = true then (0, 0, 20) else ((refAns l).ref.row, (refAns l).ref.col, (refAns l).e) := by
  unfold spotAns refAns
  cases hf : form l with
  | none => simp
  | some f =>
    simp only
    by_cases q : f.col < 702 ∧ f.row < 65536
    · rw [if_pos q, if_pos q]
      by_cases hn : f.n = l.length
      · rw [(whole_facts hf hn).1]
        simp only [hn, Bool.or_eq_true]
        simp only [ne_eq, not_true_eq_false, false_or]
        have : ¬ ((0 : Int) = 20) := by decide
        simp only [this, false_or, or_assoc]
      · simp [hn]
    · rw [if_neg q, if_neg q]
      by_cases hn : f.n = l.length
      · rw [(whole_facts hf hn).1]
        simp only [hn, Bool.or_eq_true]
        simp only [ne_eq, not_true_eq_false, false_or]
        have : ¬ ((10 : Int) = 20) := by decide
        simp only [this, false_or, or_assoc, RefT.zero]
      · simp [hn]
end Go.Proofs.YtikahfnlflhbfaaGreatDoor
