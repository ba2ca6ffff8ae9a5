/- What a reference at a text's beginning tells: its own bytes alone, in capitals. No program in sight. -/
import Derived.Test.YtnhgeojcelegbaaDoorSpR2
namespace Go.Proofs.YtnhgeojcelegbaaDoor
open Go.RowKit Go.Lib

theorem upper_let {c : UInt8} (h : letB c = true) : capB (upperB c) = true ∧ letN (upperB c) = letN c := by
  obtain ⟨h1, h2, h3⟩ := letN_of h
  have hc : capB (upperB c) = true := by simp only [capB, Bool.and_eq_true, decide_eq_true_eq]; omega
  refine ⟨hc, ?_⟩
  rw [(capB_let hc).2.2]; omega
theorem upper_dig {c : UInt8} (h : digB c = true) : upperB c = c := by
  simp only [digB, Bool.and_eq_true, decide_eq_true_eq] at h
  unfold upperB isLowerB
  have e : (decide (97 ≤ c) && decide (c ≤ 122)) = false := by
    rw [Bool.and_eq_false_iff]; left; simp only [decide_eq_false_iff_not, UInt8.le_iff_toNat_le]; simp; omega
  simp only [e, Bool.false_eq_true, if_false]
def capsL (l : List UInt8) : List UInt8 := l.map upperB
theorem caps_app (a b : List UInt8) : capsL (a ++ b) = capsL a ++ capsL b := List.map_append
theorem caps_pin (b : Bool) : capsL (pinL b) = pinL b := by cases b <;> rfl
theorem caps_len (l : List UInt8) : (capsL l).length = l.length := List.length_map _
theorem caps_dig : ∀ (ds : List UInt8), ds.all digB = true → capsL ds = ds
  | [], _ => rfl
  | c :: r, h => by
    simp only [List.all_cons, Bool.and_eq_true] at h
    have := caps_dig r h.2
    simp only [capsL, List.map_cons] at this ⊢
    rw [upper_dig h.1, this]
theorem caps_let {ws : List UInt8} (h : ws.all letB = true) : (capsL ws).all capB = true := by
  rw [List.all_eq_true]
  intro c hc
  obtain ⟨d, hd, rfl⟩ := List.mem_map.1 hc
  exact (upper_let (List.all_eq_true.1 h d hd)).1
theorem caps_col {ws : List UInt8} (h : ws.all letB = true) : colN (capsL ws) = colN ws := by
  match ws with
  | [] => rfl
  | [a] => simp only [capsL, List.map_cons, List.map_nil, colN]; exact (upper_let (by simpa using h)).2
  | [a, b] =>
    simp only [List.all_cons, List.all_nil, Bool.and_true, Bool.and_eq_true] at h
    simp only [capsL, List.map_cons, List.map_nil, colN]
    rw [(upper_let h.1).2, (upper_let h.2).2]
  | a :: b :: c :: r => rfl
theorem Parts.take {l : List UInt8} {f : Fm} {ws ds rest : List UInt8} (P : Parts l f ws ds rest) : l.take f.n = pinL f.pc ++ (ws ++ (pinL f.pr ++ ds)) ∧ l.drop f.n = rest := by
  have e : l = (pinL f.pc ++ (ws ++ (pinL f.pr ++ ds))) ++ rest := by conv => lhs; rw [P.eq]
                                                                      simp only [List.append_assoc]
  have n : f.n = (pinL f.pc ++ (ws ++ (pinL f.pr ++ ds))).length := by rw [P.n]; simp only [List.length_append]; omega
  rw [n]
  constructor
  · conv => lhs; rw [e]
    exact List.take_left
  · conv => lhs; rw [e]
    exact List.drop_left
theorem Parts.caps {l : List UInt8} {f : Fm} {ws ds rest more : List UInt8} (P : Parts l f ws ds rest) (hm : ∀ c, more.head? = some c → digB c = false) : Parts (capsL (l.take f.n) ++ more) f (capsL ws) ds more := by
  refine ⟨?_, (all_cap (caps_let P.w)).1, P.d, ?_, P.d0, P.z, hm, by rw [caps_col P.w]; exact P.col, P.row, by rw [caps_len]; exact P.n⟩
  · rw [P.take.1, caps_app, caps_app, caps_app, caps_pin, caps_pin, caps_dig ds P.d]
    simp only [List.append_assoc]
  · intro e
    have := congrArg List.length e
    rw [caps_len] at this
    exact P.w0 (List.length_eq_zero_iff.1 this)
theorem refAns_parts {l : List UInt8} {f : Fm} {ws ds rest : List UInt8} (P : Parts l f ws ds rest) : refAns l = if f.col < 702 ∧ f.row < 65536 then ⟨⟨f.row, f.col, f.pr, f.pc⟩, f.n, 0⟩ else ⟨.zero, f.n, 10⟩ := by
  unfold refAns
  rw [parts_form P]
theorem refAns_n {l : List UInt8} {f : Fm} {ws ds rest : List UInt8} (P : Parts l f ws ds rest) : (refAns l).n = f.n := by
  rw [refAns_parts P]; split <;> rfl
theorem refAns_has {l : List UInt8} (h : (refAns l).n ≠ 0) : ∃ f ws ds rest, Parts l f ws ds rest := by
  unfold refAns at h
  cases hf : form l with
  | none => rw [hf] at h; exact absurd rfl h
  | some f => obtain ⟨ws, ds, rest, P⟩ := form_parts hf; exact ⟨f, ws, ds, rest, P⟩
/-- What stands behind changes nothing, but for a digit. -/
theorem begins_more {l : List UInt8} (h : (refAns l).n ≠ 0) (more : List UInt8) (hm : ∀ c, more.head? = some c → digB c = false) : refAns (capsL (l.take (refAns l).n) ++ more) = refAns l := by
  obtain ⟨f, ws, ds, rest, P⟩ := refAns_has h
  rw [refAns_n P, refAns_parts (P.caps hm), refAns_parts P]
theorem begins_next {l : List UInt8} (h : (refAns l).n ≠ 0) : ∀ c, l[(refAns l).n]? = some c → digB c = false := by
  obtain ⟨f, ws, ds, rest, P⟩ := refAns_has h
  intro c hc
  rw [refAns_n P] at hc
  refine P.r c ?_
  rw [← P.take.2, List.head?_drop]; exact hc
theorem begins_last {l : List UInt8} (h : (refAns l).n ≠ 0) : ∃ c, l[(refAns l).n - 1]? = some c ∧ digB c = true := by
  obtain ⟨f, ws, ds, rest, P⟩ := refAns_has h
  rw [refAns_n P]
  have hd := List.length_pos_iff.2 P.d0
  have n := P.n
  have hl : l[f.n - 1]? = ds[ds.length - 1]? := by
    have e : l = (pinL f.pc ++ (ws ++ pinL f.pr)) ++ (ds ++ rest) := by conv => lhs; rw [P.eq]
                                                                        simp only [List.append_assoc]
    have hx : (pinL f.pc ++ (ws ++ pinL f.pr)).length = f.n - ds.length := by rw [n]; simp only [List.length_append]; omega
    rw [show l[f.n - 1]? = ((pinL f.pc ++ (ws ++ pinL f.pr)) ++ (ds ++ rest))[f.n - 1]? from congrArg (fun x : List UInt8 => x[f.n - 1]?) e]
    rw [List.getElem?_append_right (by omega), List.getElem?_append_left (by omega), hx]
    congr 1; omega
  refine ⟨ds[ds.length - 1], by rw [hl, List.getElem?_eq_getElem], ?_⟩
  exact List.all_eq_true.1 P.d _ (List.getElem_mem _)
theorem dec_of (n : Nat) : ∀ (ds : List UInt8), ds.length = n → ds.all digB = true → ds ≠ [] → ds.head? ≠ some 48 → decDigits (digV 0 ds) = ds := by
  induction n with
  | zero => intro ds h _ h0; exact absurd (List.length_eq_zero_iff.1 h) h0
  | succ n ih =>
    intro ds h hd h0 hz
    obtain ⟨c, e⟩ : ∃ c, ds = ds.dropLast ++ [c] := ⟨ds.getLast h0, (List.dropLast_concat_getLast h0).symm⟩
    obtain ⟨D, hD⟩ : ∃ D, D = ds.dropLast := ⟨_, rfl⟩
    rw [← hD] at e
    clear hD
    subst e
    rw [List.all_append, Bool.and_eq_true] at hd
    obtain ⟨hd1, hd2⟩ := hd
    have hc : 48 ≤ c.toNat ∧ c.toNat ≤ 57 := by simpa [digB] using hd2
    have hv : digV 0 (D ++ [c]) = digV 0 D * 10 + (c.toNat - 48) := by rw [digV_app]; rfl
    rw [hv]
    cases D with
    | nil =>
      rw [show digV 0 [] = 0 from rfl, decDigits, dif_pos (by omega), List.nil_append]
      congr 1
      apply UInt8.toNat_inj.1
      rw [ofNat_toNat (by omega)]; omega
    | cons d r =>
      have hz' : (d :: r).head? ≠ some 48 := by simpa using hz
      have := digV_pos hd1 (by simp) hz'
      rw [decDigits, dif_neg (by omega)]
      have e1 : (digV 0 (d :: r) * 10 + (c.toNat - 48)) / 10 = digV 0 (d :: r) := by omega
      have e2 : (digV 0 (d :: r) * 10 + (c.toNat - 48)) % 10 = c.toNat - 48 := by omega
      rw [e1, e2, ih (d :: r) (by simpa using h) hd1 (by simp) hz']
      congr 2
      apply UInt8.toNat_inj.1
      rw [ofNat_toNat (by omega)]; omega
theorem letters_of {ws : List UInt8} (h : ws.all letB = true) (h0 : ws ≠ []) (h1 : colN ws < 702) : lettersL (colN ws) = capsL ws := by
  have at1 : ∀ c : UInt8, letB c = true → UInt8.ofNat (65 + (letN c).toNat) = upperB c := fun c hc => by
    obtain ⟨a1, a2, a3⟩ := letN_of hc
    apply UInt8.toNat_inj.1
    rw [ofNat_toNat (by omega)]; omega
  match ws with
  | [] => exact absurd rfl h0
  | [a] =>
    have ha : letB a = true := by simpa using h
    have := letN_of ha
    show lettersL (letN a) = [upperB a]
    unfold lettersL
    split
    · rw [at1 a ha]
    · omega
  | [a, b] =>
    simp only [List.all_cons, List.all_nil, Bool.and_true, Bool.and_eq_true] at h
    have ha := letN_of h.1
    have hb := letN_of h.2
    show lettersL (26 + 26 * letN a + letN b) = [upperB a, upperB b]
    unfold lettersL
    split
    · omega
    rw [show (26 + 26 * letN a + letN b - 26) / 26 = letN a by omega, show (26 + 26 * letN a + letN b - 26) % 26 = letN b by omega, at1 a h.1, at1 b h.2]
  | a :: b :: c :: r => simp [colN] at h1
/-- A reference that there is, written, is its bytes in capitals. -/
theorem begins_text {l : List UInt8} (h : (refAns l).e = 0) : refTextE (refAns l).ref = 0 ∧ refTextL (refAns l).ref = capsL (l.take (refAns l).n) := by
  have hn : (refAns l).n ≠ 0 := fun e => by have := (refAns_facts l).2.2.2.2.2.1.1 e; omega
  obtain ⟨f, ws, ds, rest, P⟩ := refAns_has hn
  rw [refAns_n P, P.take.1, caps_app, caps_app, caps_app, caps_pin, caps_pin, caps_dig ds P.d]
  rw [refAns_parts P] at h ⊢
  split at h
  · rename_i q
    rw [if_pos q]
    obtain ⟨q1, q2⟩ := q
    have h4 := digV_pos P.d P.d0 P.z
    have h5 := colN_ge P.w
    have hr : f.row = (digV 0 ds : Int) - 1 := by
      rw [P.row, rowN, if_neg]
      intro e
      rw [P.row, rowN, if_pos e] at q2; omega
    have hp : placeB ⟨f.row, f.col, f.pr, f.pc⟩ = true := by
      have := P.col
      simp [placeB]; omega
    refine ⟨by simp only [refTextE, hp, if_true], ?_⟩
    simp only [refTextL, hp, if_true]
    rw [P.col, letters_of P.w P.w0 (by rw [← P.col]; exact q1), hr, show ((digV 0 ds : Int) - 1 + 1).toNat = digV 0 ds by omega, dec_of _ ds rfl P.d P.d0 P.z]
    simp only [List.append_assoc]
  · simp at h
theorem begins_zero {l : List UInt8} (h : (refAns l).e ≠ 0) : (refAns l).ref = .zero := by
  unfold refAns at h ⊢
  cases hf : form l with
  | none => rfl
  | some f =>
    rw [hf] at h
    simp only at h ⊢
    by_cases q : f.col < 702 ∧ f.row < 65536
    · rw [if_pos q] at h; exact absurd rfl h
    · rw [if_neg q]
end Go.Proofs.YtnhgeojcelegbaaDoor
