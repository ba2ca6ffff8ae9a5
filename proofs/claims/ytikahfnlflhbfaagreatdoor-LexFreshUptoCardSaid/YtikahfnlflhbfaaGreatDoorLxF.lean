/- whole.Read at a row of digits without leading zeros. -/
import Derived.Test.YtikahfnlflhbfaaGreatDoorLxE
import Derived.Test.YtikahfnlflhbfaaGreatDoorLxQ
namespace Go.Proofs.YtikahfnlflhbfaaGreatDoor
open Go.RowKit Go.Lib

theorem parseM_digits (l : List UInt8) : ∀ (acc : Nat), l.all digB = true → (parseUintM (2 ^ 64 - 1) acc l = .ok (digV acc l)) ∨ (parseUintM (2 ^ 64 - 1) acc l = .range ∧ 9223372036854775807 < digV acc l) := by
  induction l with
  | nil => intro acc _; exact .inl rfl
  | cons c r ih =>
    intro acc h
    simp only [List.all_cons, Bool.and_eq_true] at h
    have hd : 48 ≤ c.toNat ∧ c.toNat ≤ 57 := by simpa [digB] using h.1
    simp only [parseUintM, if_pos hd]
    have hg : acc * 10 + (c.toNat - 48) ≤ digV acc (c :: r) := digV_ge r _
    by_cases h1 : 1844674407370955162 ≤ acc
    · rw [if_pos h1]; exact .inr ⟨rfl, Nat.lt_of_lt_of_le (by omega) hg⟩
    · rw [if_neg h1]
      by_cases h2 : 2 ^ 64 - 1 < acc * 10 + (c.toNat - 48)
      · rw [if_pos h2]; exact .inr ⟨rfl, Nat.lt_of_lt_of_le (by omega) hg⟩
      · rw [if_neg h2]; exact ih _ h.2
theorem parse64_digits {l : List UInt8} (h : l.all digB = true) (hn : l ≠ []) : parseIntB 64 l = if 9223372036854775807 < digV 0 l then .range else .ok (digV 0 l : Int) := by
  cases l with
  | nil => exact absurd rfl hn
  | cons c r =>
    have hc : 48 ≤ c.toNat ∧ c.toNat ≤ 57 := by simp only [List.all_cons, Bool.and_eq_true] at h; simpa [digB] using h.1
    have h43 : ¬ (c.toNat = 43 ∨ c.toNat = 45) := by omega
    have h45 : ¬ c.toNat = 45 := by omega
    simp only [parseIntB, if_neg h43, parseUintB, if_neg hn]
    rcases parseM_digits (c :: r) 0 h with e | ⟨e, q⟩
    · rw [e]
      simp only [h45, not_false_eq_true, true_and, false_and, if_false]
      by_cases q : 9223372036854775807 < digV 0 (c :: r)
      · rw [if_pos q, if_pos (by omega)]
      · rw [if_neg q, if_neg (by omega)]
    · rw [e, if_pos q]
theorem dig_int {c : UInt8} (h : digB c = true) : ((c.toNat : Int) == 45) = false ∧ ¬ ((c.toNat : Int) < 48) ∧ ¬ (57 < (c.toNat : Int)) := by
  simp only [digB, Bool.and_eq_true, decide_eq_true_eq] at h
  refine ⟨by rw [beq_eq_false_iff_ne]; omega, by omega, by omega⟩
set_option maxHeartbeats 1000000 in
/-- A number that fits, or does not. -/
theorem wholeRead_any (s : ByteArray) (w : World) (L : LaidX w) (hs : s.size ≤ 65535) (h0 : 0 < s.size) (ha : s.data.toList.all digB = true) (hz : s = ⟨#[48]⟩ ∨ s.data.toList[0]? ≠ some 48) (q : Bool) (hq : Hid (decide (9223372036854775807 < digV 0 s.data.toList) = q)) :
    Calls Tryz.prog 37 #[.string s] w fun e w' => (∃ v, e = .returned (.tuple #[.int .i64 v, .int .i64 (if q then 13 else 0)])) ∧ Below w.heap.size w w' := by
  have hne : s.data.toList ≠ [] := fun e => by have := congrArg List.length e; rw [← Lib.size_eq, List.length_nil] at this; omega
  have hP := parse64_digits ha hne
  have HA : Hid (∀ (j : Nat) (hj : j < s.size), digB s[j] = true) := Lib.hid fun j hj => List.all_eq_true.1 ha _ (List.mem_of_getElem? (l := s.data.toList) (i := j) (by rw [List.getElem?_eq_getElem (by simpa using hj)]; rfl))
  obtain ⟨f1, f2, f3⟩ := strE_facts h0
  obtain ⟨d1, d2, d3⟩ := dig_int (HA.out 0 h0)
  have HP : Hid (parseIntB 64 s.data.toList = if q then .range else .ok (digV 0 s.data.toList : Int)) := Lib.hid (by rw [hP, ← hq.out]; simp)
  have HL := Lib.hid L
  have hz2 : ((s[0].toNat : Int) == 48) = false ∨ ((s.toList == [48]) = true ∧ ((s[0].toNat : Int) == 48) = true) := by
    rcases hz with rfl | hz
    · right; exact ⟨by rw [Lib.toList_data]; decide, by show (((48 : UInt8).toNat : Int) == 48) = true; decide⟩
    · left
      rw [beq_eq_false_iff_ne]
      intro e
      refine hz ?_
      rw [List.getElem?_eq_getElem (by simpa using h0)]
      congr 1
      apply UInt8.toNat_inj.1
      show s[0].toNat = 48
      omega
  have CP : Hid (∀ W : World, LaidX W → Calls Tryz.prog 50 #[.string s, .int .i64 10, .int .i64 64] W fun e w' => (if q then ∃ v tp p, e = .returned (.tuple #[.int .i64 v, .iface tp p]) else ∃ v, e = .returned (.tuple #[.int .i64 v, .nilIface])) ∧ Below W.heap.size W w') := Lib.hid fun W LW => by
    cases q
    · refine (Tryz.strconv_ParseInt_10_at64_ok s (by omega) _ HP.out W).mono ?_
      rintro e w' ⟨rfl, hw⟩
      refine ⟨⟨_, rfl⟩, ?_⟩
      rcases hw with rfl | ⟨t, rfl⟩
      · exact Below.refl _ _
      · exact Joins.below_bytesWorld _ _ _ _ (Nat.le_refl _)
    · obtain ⟨tp, p, hv⟩ := LW.lw.er
      refine (Tryz.strconv_ParseInt_10_at64_range_var s (by omega) HP.out tp p W hv).mono ?_
      rintro e w' ⟨N, rfl, -, -, hb⟩
      exact ⟨⟨_, _, _, rfl⟩, hb⟩
  clear hne hP ha hz L HP hq
  go_enter Tryz.func37, Tryz.ntmps37
  rcases hz2 with hz2 | ⟨hz2, hz3⟩
  all_goals
    go_wp2
    go_loop [31] (fun i => ∃ k : Nat, i = .int .i64 k ∧ k ≤ s.size) (fun i => s.size - (intOf i).toNat)
    case atStart => exact ⟨0, rfl, Nat.zero_le _⟩
    case round =>
      obtain ⟨k, rfl, hk⟩ := hrel
      by_cases hlt : k < s.size
      · obtain ⟨e1, e2, e3⟩ := dig_int (HA.out k hlt)
        go_wp2
        go_round
        case rel => exact ⟨k + 1, by go_num, by omega⟩
        case measure => simp [intOf]; omega
      · cases q
        · have CC := Lib.hid (CP.out w HL.out)
          go_wp2_with (go_at_call 50; refine (CC.out).mono ?_; rintro e w' ⟨⟨v, rfl⟩, hb⟩)
          go_ret2
          exact ⟨⟨v, rfl⟩, hb⟩
        · have CC := Lib.hid (CP.out w HL.out)
          go_wp2_with (go_at_call 50; refine (CC.out).mono ?_; rintro e w' ⟨⟨v, tp, p, rfl⟩, hb⟩)
          go_ret2
          exact ⟨⟨0, rfl⟩, hb⟩
end Go.Proofs.YtikahfnlflhbfaaGreatDoor
