/- References' texts: the dollar, the letters' column, the digits' row. -/
import Derived.Test.YtikahfnlflhbfaaGreatDoorLxSa
import Derived.Test.YtikahfnlflhbfaaGreatDoorLxSh
import Derived.Test.YtikahfnlflhbfaaGreatDoorSpQ
import Derived.Lib.SmallJoins
namespace Go.Proofs.YtikahfnlflhbfaaGreatDoor
open Go.RowKit Go.Lib

/-- What the library's variables hold. -/
structure LaidW (w : World) : Prop where
  tab : Lib.TabIs Tryz.prog w "internal/strconv.uint64pow10" .u64 Lib.pow10Tab
  er : ∃ tp p, w.var? Tryz.prog "strconv.ErrRange" = some #[.iface tp p]
theorem var_kept {P : Program} {w w' : World} {n : String} {cs : Array Value} (hb : Below w.heap.size w w') (h : w.var? P n = some cs) : w'.var? P n = some cs := by
  unfold World.var? at h ⊢
  cases hg : P.globalNamed n with
  | none => rw [hg] at h; exact h
  | some g =>
    rw [hg] at h
    simp only [Option.bind_some] at h ⊢
    have hlt : g < w.heap.size := by
      rcases Nat.lt_or_ge g w.heap.size with q | q
      · exact q
      · rw [Array.getElem?_eq_none q] at h; cases h
    rw [hb.block g hlt]; exact h
theorem LaidW.kept {w w' : World} (h : LaidW w) (hb : Below w.heap.size w w') : LaidW w' := by
  obtain ⟨tp, p, e⟩ := h.er
  exact ⟨var_kept hb h.tab, tp, p, var_kept hb e⟩

theorem cutDol_any (s : ByteArray) (w : World) : Calls Tryz.prog 51 #[.string s, .string ⟨#[36]⟩] w fun e w' => ∃ r : ByteArray, e = .returned (.tuple #[.string r, .bool (decide (dol s.data.toList 0 = 1))]) ∧ r.data.toList = s.data.toList.drop (dol s.data.toList 0) ∧ w = w' := by
  refine (Tryz.strings_CutPrefix s ⟨#[36]⟩ w).mono ?_
  rintro e w' ⟨rfl, rfl⟩
  have e1 : hasPrefix s.data.toList [36] = decide (dol s.data.toList 0 = 1) := by
    unfold hasPrefix dol
    cases s.data.toList with
    | nil => rfl
    | cons a r =>
      by_cases h : a = 36
      · subst h; simp
      · simp [List.isPrefixOf, h, Ne.symm h]
  refine ⟨⟨(trimPrefix s.data.toList [36]).toArray⟩, by rw [show (#[36] : Array UInt8).toList = [36] from rfl, e1], ?_, rfl⟩
  unfold trimPrefix
  rw [e1]
  unfold dol
  split <;> simp

theorem parse_digits (l : List UInt8) : ∀ (acc : Nat), l.all digB = true → (∃ u, parseUint10 acc l = .ok u ∧ u = digV acc l) ∨ (parseUint10 acc l = .range ∧ 65536 * 200000000000000 ≤ digV acc l) := by
  induction l with
  | nil => intro acc _; exact .inl ⟨acc, rfl, rfl⟩
  | cons c r ih =>
    intro acc h
    simp only [List.all_cons, Bool.and_eq_true] at h
    have hd : 48 ≤ c.toNat ∧ c.toNat ≤ 57 := by simpa [digB] using h.1
    simp only [parseUint10, if_pos hd]
    have hg : acc * 10 + (c.toNat - 48) ≤ digV acc (c :: r) := digV_ge r _
    by_cases h1 : 1844674407370955162 ≤ acc
    · rw [if_pos h1]; exact .inr ⟨rfl, Nat.le_trans (by omega) hg⟩
    · rw [if_neg h1]
      by_cases h2 : 18446744073709551616 ≤ acc * 10 + (c.toNat - 48)
      · rw [if_pos h2]; exact .inr ⟨rfl, Nat.le_trans (by omega) hg⟩
      · rw [if_neg h2]; exact ih _ h.2
theorem atoi_digits (l : List UInt8) (h : l.all digB = true) (hn : l ≠ []) : (atoiAll l = .ok (digV 0 l : Int)) ∨ (atoiAll l = .range ∧ 65536 < digV 0 l) := by
  cases l with
  | nil => exact absurd rfl hn
  | cons c r =>
    have hd : 48 ≤ c.toNat ∧ c.toNat ≤ 57 := by simp only [List.all_cons, Bool.and_eq_true] at h; simpa [digB] using h.1
    have hc : ¬ (c.toNat = 43 ∨ c.toNat = 45) := by omega
    have hc2 : ¬ c.toNat = 45 := by omega
    simp only [atoiAll, if_neg hc, parseMag, if_neg (List.cons_ne_nil c r)]
    rcases parse_digits (c :: r) 0 h with ⟨u, e1, e2⟩ | ⟨e1, e2⟩
    · rw [e1]
      simp only [hc2, not_false_eq_true, true_and, false_and, if_false]
      by_cases q : 9223372036854775808 ≤ u
      · rw [if_pos q]; exact .inr ⟨rfl, by omega⟩
      · rw [if_neg q, e2]; exact .inl rfl
    · rw [e1]; exact .inr ⟨rfl, by omega⟩

/-- Atoi of digits: the row's number, or an error where it is far too great. -/
def AtoiPost (l : List UInt8) (w : World) (e : Ending) (w' : World) : Prop :=
  (e = .returned (.tuple #[.int .i64 (digV 0 l : Int), .nilIface]) ∨ ∃ x tp p, e = .returned (.tuple #[.int .i64 x, .iface tp p]) ∧ 65536 < digV 0 l) ∧ Below w.heap.size w w'
theorem atoi_any (s : ByteArray) (w : World) (L : LaidW w) (hs : s.size ≤ 140737488355328) (h : s.data.toList.all digB = true) (hn : s.data.toList ≠ []) : Calls Tryz.prog 56 #[.string s] w (AtoiPost s.data.toList w) := by
  rcases atoi_digits _ h hn with q | ⟨q, q2⟩
  · refine (Tryz.strconv_Atoi_ok s (by omega) _ q w).mono ?_
    rintro e w' ⟨rfl, hw⟩
    refine ⟨.inl rfl, ?_⟩
    rcases hw with rfl | ⟨t, rfl⟩
    · exact Below.refl _ _
    · exact Joins.below_bytesWorld _ _ _ _ (Nat.le_refl _)
  · obtain ⟨tp, p, hv⟩ := L.er
    refine (Tryz.strconv_Atoi_range_var s (by omega) q tp p w hv).mono ?_
    rintro e w' ⟨N, rfl, -, -, hb⟩
    exact ⟨.inr ⟨_, _, _, rfl, q2⟩, hb⟩
end Go.Proofs.YtikahfnlflhbfaaGreatDoor
