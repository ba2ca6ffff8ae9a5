/- The document's own answer for references: its small functions. -/
import Derived.Test.YtikahfnlflhbfaaGreatDoorLxSe
namespace Go.Proofs.YtikahfnlflhbfaaGreatDoor
open Go.RowKit Go.Lib

theorem abc_cut (k : Nat) (h : k < 26) : (⟨#[65, 66, 67, 68, 69, 70, 71, 72, 73, 74, 75, 76, 77, 78, 79, 80, 81, 82, 83, 84, 85, 86, 87, 88, 89, 90]⟩ : ByteArray).extract k (k + 1) = strB [UInt8.ofNat (65 + k)] := by
  match k, h with
  | 0, _ => exact rfl
  | 1, _ => exact rfl
  | 2, _ => exact rfl
  | 3, _ => exact rfl
  | 4, _ => exact rfl
  | 5, _ => exact rfl
  | 6, _ => exact rfl
  | 7, _ => exact rfl
  | 8, _ => exact rfl
  | 9, _ => exact rfl
  | 10, _ => exact rfl
  | 11, _ => exact rfl
  | 12, _ => exact rfl
  | 13, _ => exact rfl
  | 14, _ => exact rfl
  | 15, _ => exact rfl
  | 16, _ => exact rfl
  | 17, _ => exact rfl
  | 18, _ => exact rfl
  | 19, _ => exact rfl
  | 20, _ => exact rfl
  | 21, _ => exact rfl
  | 22, _ => exact rfl
  | 23, _ => exact rfl
  | 24, _ => exact rfl
  | 25, _ => exact rfl
  | k + 26, h => exact absurd h (by omega)
def digL (k : Nat) : List UInt8 := [UInt8.ofNat (48 + k)]
theorem ten_cut (k : Nat) (h : k < 10) : (⟨#[48, 49, 50, 51, 52, 53, 54, 55, 56, 57]⟩ : ByteArray).extract k (k + 1) = strB (digL k) := by
  match k, h with
  | 0, _ => exact rfl
  | 1, _ => exact rfl
  | 2, _ => exact rfl
  | 3, _ => exact rfl
  | 4, _ => exact rfl
  | 5, _ => exact rfl
  | 6, _ => exact rfl
  | 7, _ => exact rfl
  | 8, _ => exact rfl
  | 9, _ => exact rfl
  | k + 10, h => exact absurd h (by omega)
theorem rfMay_any (a b : Int) (w : World) : Calls Tryz.prog 43 #[.agg #[.int .i64 a, .int .i64 b]] w fun e w' => e = .returned (.bool (placeB ⟨a, b, false, false⟩)) ∧ Below w.heap.size w w' := by
  by_cases h1 : 0 ≤ a <;> by_cases h2 : a < 65536 <;> by_cases h3 : 0 ≤ b <;> by_cases h4 : b < 702
  all_goals first
    | (exfalso; omega)
    | (go_enter Tryz.func43, Tryz.ntmps43
       go_wp2
       go_ret
       exact ⟨by simp [placeB, *] <;> omega, ext_alloc (Below.refl _ _) _⟩)
theorem rfLetter_any (c : UInt8) (w : World) : Calls Tryz.prog 61 #[.int .u8 c.toNat] w fun e w' => e = .returned (.int .i64 (letN c)) ∧ w = w' := by
  have hc := c.toNat_lt
  by_cases h1 : 65 ≤ c.toNat <;> by_cases h2 : c.toNat ≤ 90 <;> by_cases h3 : 97 ≤ c.toNat <;> by_cases h4 : c.toNat ≤ 122
  all_goals first
    | (exfalso; omega)
    | (go_enter Tryz.func61, Tryz.ntmps61
       go_wp2
       go_ret
       exact ⟨by simp [letN, *] <;> omega, rfl⟩)
theorem rfDigit_any (c : UInt8) (w : World) : Calls Tryz.prog 62 #[.int .u8 c.toNat] w fun e w' => e = .returned (.bool (digB c)) ∧ w = w' := by
  have hc := c.toNat_lt
  by_cases h1 : 48 ≤ c.toNat <;> by_cases h2 : c.toNat ≤ 57
  all_goals first
    | (exfalso; omega)
    | (go_enter Tryz.func62, Tryz.ntmps62
       go_wp2
       go_ret
       exact ⟨by simp [digB, *] <;> omega, rfl⟩)
theorem digV_step (l : List UInt8) (k : Nat) (c : UInt8) (h : l[k]? = some c) (m : Nat) : digV m (l.drop k) = digV (m * 10 + (c.toNat - 48)) (l.drop (k + 1)) := by
  obtain ⟨hk, e⟩ := List.getElem?_eq_some_iff.1 h
  rw [List.drop_eq_getElem_cons hk, e]; rfl
set_option maxHeartbeats 1000000 in
theorem rfRow_any (s : ByteArray) (w : World) (hs : s.size ≤ 140737488355328) (h : s.data.toList.all digB = true) : Calls Tryz.prog 64 #[.string s] w fun e w' => e = .returned (.int .i64 (rowN s.data.toList)) ∧ w = w' := by
  have hall : ∀ (j : Nat) (hj : j < s.size), 48 ≤ (s[j]'hj).toNat ∧ (s[j]'hj).toNat ≤ 57 := fun j hj => by
    have := List.all_eq_true.1 h (s[j]'hj) (List.mem_of_getElem? (i := j) (by rw [List.getElem?_eq_getElem (by simpa using hj)]; rfl))
    simpa [digB] using this
  have HA := Lib.hid hall
  clear hall h
  go_enter Tryz.func64, Tryz.ntmps64
  go_wp2
  go_loop [3, 4] (fun n i => ∃ k m : Nat, i = .int .i64 k ∧ n = .int .i64 m ∧ k ≤ s.size ∧ m ≤ 655379 ∧ Hid (digV m (s.data.toList.drop k) = digV 0 s.data.toList)) (fun n i => s.size - (intOf i).toNat)
  case atStart => exact ⟨0, 0, rfl, rfl, Nat.zero_le _, by omega, Lib.hid rfl⟩
  case round =>
    obtain ⟨k, m, rfl, rfl, hk, hm, H⟩ := hrel
    by_cases hlt : k < s.size
    · by_cases hb : m ≤ 65536
      · have hbI : (m : Int) ≤ 65536 := by omega
        have hd1 := (HA.out k hlt).1
        have hd2 := (HA.out k hlt).2
        have hg : s.data.toList[k]? = some s[k] := by rw [List.getElem?_eq_getElem (by simpa using hlt)]; rfl
        have H2 := (digV_step _ k _ hg m).symm.trans H.out
        have HH := Lib.hid H2
        clear hg H2
        go_wp2
        go_round
        case rel => exact ⟨k + 1, m * 10 + (s[k].toNat - 48), by go_num, congrArg (Value.int IntKind.i64) (by omega), by omega, by omega, HH⟩
        case measure => simp [intOf]; omega
      · have HR := Lib.hid (show rowN s.data.toList = 65536 by
          have := digV_ge (s.data.toList.drop k) m
          rw [H.out] at this
          rw [rowN, if_pos (by omega)])
        have hbI : 65536 < (m : Int) := by omega
        have hbJ : ¬ (m : Int) ≤ 65536 := by omega
        go_wp2
        go_ret
        exact ⟨by rw [HR.out]; rfl, rfl⟩
    · have HR := Lib.hid (show digV 0 s.data.toList = m by
        rw [← H.out, List.drop_eq_nil_of_le (by rw [← Lib.size_eq]; omega)]; rfl)
      by_cases hb : 65536 < m
      · have hbI : 65536 < (m : Int) := by omega
        have hbJ : ¬ (m : Int) ≤ 65536 := by omega
        go_wp2
        go_ret
        exact ⟨by rw [rowN, HR.out, if_pos hb]; rfl, rfl⟩
      · have hbI : ¬ 65536 < (m : Int) := by omega
        have hbJ : (m : Int) ≤ 65536 := by omega
        go_wp2
        go_ret
        exact ⟨by rw [rowN, HR.out, if_neg hb]; rfl, rfl⟩
theorem below_drewN {B : Nat} {a w : World} (h : Below B a w) (n : Nat) : Below B a (w.drewN n) := ⟨h.os, h.tape, h.output, h.size, h.block⟩
theorem letN_in (c : UInt8) : -1 ≤ letN c ∧ letN c ≤ 25 := by
  unfold letN
  split
  · omega
  · split <;> omega
set_option maxRecDepth 10000 in
set_option maxHeartbeats 1000000 in
theorem rfColumn_any (s : ByteArray) (w : World) (hs : s.size ≤ 140737488355328) : Calls Tryz.prog 63 #[.string s] w fun e w' => e = .returned (.int .i64 (colN s.data.toList)) ∧ Below w.heap.size w w' := by
  by_cases h1 : s.size = 1
  · have h0 : 0 < s.size := by omega
    have hc : colN s.data.toList = letN (s[0]'h0) := by
      have hl : s.data.toList.length = 1 := by rw [← Lib.size_eq]; exact h1
      match h : s.data.toList, hl with
      | [a], _ =>
        have : s.data.toList[0]? = some (s[0]'h0) := by rw [List.getElem?_eq_getElem (by simpa using h0)]; rfl
        rw [h] at this
        have := Option.some.inj this
        simp only [colN]; rw [← this]
    have HC := Lib.hid hc
    have hb1 : ((s.size : Int) == 1) = true := by rw [beq_iff_eq]; omega
    clear hc h1
    go_enter Tryz.func63, Tryz.ntmps63
    go_wp2_with (go_at_call 61; refine (rfLetter_any _ _).mono ?_; rintro e w' ⟨rfl, rfl⟩)
    go_ret
    exact ⟨by rw [HC.out]; rfl, Below.refl _ _⟩
  · have hb1 : ((s.size : Int) == 1) = false := by rw [beq_eq_false_iff_ne]; omega
    by_cases h2 : s.size = 2
    · have h0 : 0 < s.size := by omega
      have h1' : 1 < s.size := by omega
      have hc : colN s.data.toList = 26 + 26 * letN (s[0]'h0) + letN (s[1]'h1') := by
        have hl : s.data.toList.length = 2 := by rw [← Lib.size_eq]; exact h2
        match h : s.data.toList, hl with
        | [a, b], _ =>
          have e0 : s.data.toList[0]? = some (s[0]'h0) := by rw [List.getElem?_eq_getElem (by simpa using h0)]; rfl
          have e1 : s.data.toList[1]? = some (s[1]'h1') := by rw [List.getElem?_eq_getElem (by simpa using h1')]; rfl
          rw [h] at e0 e1
          have e0 := Option.some.inj e0
          have e1 := Option.some.inj e1
          simp only [colN]; rw [← e0, ← e1]; rfl
      have HC := Lib.hid hc
      have hb2 : ((s.size : Int) == 2) = true := by rw [beq_iff_eq]; omega
      obtain ⟨x, hx⟩ : ∃ x, letN (s[0]'h0) = x := ⟨_, rfl⟩
      obtain ⟨y, hy⟩ : ∃ y, letN (s[1]'h1') = y := ⟨_, rfl⟩
      obtain ⟨x1, x2⟩ : -1 ≤ x ∧ x ≤ 25 := by rw [← hx]; exact letN_in _
      obtain ⟨y1, y2⟩ : -1 ≤ y ∧ y ≤ 25 := by rw [← hy]; exact letN_in _
      have HX := Lib.hid hx; have HY := Lib.hid hy
      clear hc h1 h2 hx hy
      have cx : ∀ W, Calls Tryz.prog 61 #[.int .u8 (s[0]'h0).toNat] W fun e w' => e = .returned (.int .i64 x) ∧ w' = W := fun W => by rw [← HX.out]; exact (rfLetter_any _ _).mono fun _ _ h => ⟨h.1, h.2.symm⟩
      have cy : ∀ W, Calls Tryz.prog 61 #[.int .u8 (s[1]'h1').toNat] W fun e w' => e = .returned (.int .i64 y) ∧ w' = W := fun W => by rw [← HY.out]; exact (rfLetter_any _ _).mono fun _ _ h => ⟨h.1, h.2.symm⟩
      have hI1 : (1 : Int) < (s.size : Int) := by omega
      have hw1 : IntKind.i64.wrap (26 * x) = 26 * x := IntWalk.i64_in _ (by omega)
      have hw2 : IntKind.i64.wrap (26 + 26 * x) = 26 + 26 * x := IntWalk.i64_in _ (by omega)
      have hw3 : IntKind.i64.wrap (26 + 26 * x + y) = 26 + 26 * x + y := IntWalk.i64_in _ (by omega)
      have CX := Lib.hid cx; have CY := Lib.hid cy
      clear cx cy
      go_enter Tryz.func63, Tryz.ntmps63
      go_upto_region 5 with (fail)
      go_quiet (first
        | (go_at_call 61
           with_reducible refine Calls.quiet_of_same (CX.out _))
        | (go_at_call 61
           with_reducible refine Calls.quiet_of_same (CY.out _)))
      all_goals
        go_wp2
        go_ret
        exact ⟨by rw [HC.out, HX.out, HY.out]; rfl, below_drewN (Below.refl _ _) _⟩
    · have hb2 : ((s.size : Int) == 2) = false := by rw [beq_eq_false_iff_ne]; omega
      have hc : colN s.data.toList = 702 := by
        rw [Lib.size_eq] at h1 h2
        match h : s.data.toList with
        | [] => rfl
        | [a] => rw [h] at h1; simp at h1
        | [a, b] => rw [h] at h2; simp at h2
        | a :: b :: c :: r => rfl
      have HC := Lib.hid hc
      clear hc h1 h2
      go_enter Tryz.func63, Tryz.ntmps63
      go_wp2
      go_ret
      exact ⟨by rw [HC.out]; rfl, Below.refl _ _⟩
def DigR (n k : Nat) (t : List UInt8) : Prop := (k < 10 → decDigits n = t) ∧ (10 ≤ k → decDigits n = decDigits (k / 10) ++ t)
theorem digR_zero (n : Nat) : DigR n n (digL (n % 10)) := by
  constructor
  · intro h
    rw [decDigits, dif_pos h, Nat.mod_eq_of_lt h]; rfl
  · intro h
    conv => lhs; rw [decDigits, dif_neg (by omega)]
    rfl
theorem digR_step {n k : Nat} {t : List UInt8} (h : 10 ≤ k) (r : DigR n k t) : DigR n (k / 10) (digL (k / 10 % 10) ++ t) := by
  have e := r.2 h
  constructor
  · intro q
    rw [e, decDigits, dif_pos q, Nat.mod_eq_of_lt q]; rfl
  · intro q
    rw [e]
    conv => lhs; rw [decDigits, dif_neg (by omega)]
    simp [digL]
end Go.Proofs.YtikahfnlflhbfaaGreatDoor
