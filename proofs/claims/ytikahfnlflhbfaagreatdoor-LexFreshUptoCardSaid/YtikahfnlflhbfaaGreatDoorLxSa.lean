/- References' texts: the small functions: letters, digits, how many there are. -/
import Derived.Test.YtikahfnlflhbfaaGreatDoorSpP
import Derived.Test.YtikahfnlflhbfaaGreatDoorBase
import Derived.IntWalk
import Derived.BigQuiet
import Derived.Deep.QuietTactic
namespace Go.Proofs.YtikahfnlflhbfaaGreatDoor
open Go.RowKit Go.Lib

theorem spLetter_any (c : UInt8) (w : World) : Calls Tryz.prog 53 #[.int .u8 c.toNat] w fun e w' => e = .returned (.bool (letB c)) ∧ w = w' := by
  have hc := c.toNat_lt
  by_cases h1 : 65 ≤ c.toNat <;> by_cases h2 : c.toNat ≤ 90 <;> by_cases h3 : 97 ≤ c.toNat <;> by_cases h4 : c.toNat ≤ 122
  all_goals first
    | (exfalso; omega)
    | (go_enter Tryz.func53, Tryz.ntmps53
       go_wp2
       go_ret
       exact ⟨by simp [letB, *] <;> omega, rfl⟩)
theorem spDigit_any (c : UInt8) (w : World) : Calls Tryz.prog 54 #[.int .u8 c.toNat] w fun e w' => e = .returned (.bool (digB c)) ∧ w = w' := by
  have hc := c.toNat_lt
  by_cases h1 : 48 ≤ c.toNat <;> by_cases h2 : c.toNat ≤ 57
  all_goals first
    | (exfalso; omega)
    | (go_enter Tryz.func54, Tryz.ntmps54
       go_wp2
       go_ret
       exact ⟨by simp [digB, *] <;> omega, rfl⟩)

set_option maxHeartbeats 1000000 in
theorem whLetter_any (s : ByteArray) (w : World) (hs : s.size ≤ 9223372036854775807) : Calls Tryz.prog 52 #[.string s, .func (.func 53) #[] #[]] w fun e w' => e = .returned (.int .i64 (wh letB s.data.toList)) ∧ w = w' := by
  go_enter Tryz.func52, Tryz.ntmps52
  go_wp2
  go_loop [5] (fun i => ∃ k : Nat, i = .int .i64 k ∧ k ≤ s.size ∧ Hid ((s.data.toList.take k).all letB = true)) (fun i => s.size - (intOf i).toNat)
  case atStart => exact ⟨0, rfl, Nat.zero_le _, Lib.hid rfl⟩
  case round =>
    obtain ⟨k, rfl, hk, H⟩ := hrel
    by_cases hlt : k < s.size
    · have hg : s.data.toList[k]? = some s[k] := by rw [List.getElem?_eq_getElem (by simpa using hlt)]; rfl
      have HG := Lib.hid hg
      clear hg
      obtain ⟨b, hb⟩ : ∃ b, letB s[k] = b := ⟨_, rfl⟩
      have HB := Lib.hid hb
      clear hb
      cases b
      · go_wp2_with (go_at_call 53; refine (spLetter_any _ _).mono ?_; rintro e w' ⟨rfl, rfl⟩; rw [HB.out])
        go_ret
        exact ⟨by rw [wh_stop letB s.data.toList k H.out (fun d hd => by rw [HG.out] at hd; injection hd with hd; rw [← hd]; exact HB.out) (by simpa using hk)]; rfl, rfl⟩
      · go_wp2_with (go_at_call 53; refine (spLetter_any _ _).mono ?_; rintro e w' ⟨rfl, rfl⟩; rw [HB.out])
        go_round
        case rel => exact ⟨k + 1, by go_num, by omega, Lib.hid (by rw [List.take_add_one, HG.out]; simp [H.out, HB.out])⟩
        case measure => simp [intOf]; omega
    · go_wp2
      go_ret
      exact ⟨by rw [wh_stop letB s.data.toList k H.out (fun d hd => by have := (List.getElem?_eq_some_iff.1 hd).1; simp at this; exact absurd this hlt) (by simpa using hk)]; rfl, rfl⟩

set_option maxHeartbeats 1000000 in
theorem whDigit_any (s : ByteArray) (w : World) (hs : s.size ≤ 9223372036854775807) : Calls Tryz.prog 52 #[.string s, .func (.func 54) #[] #[]] w fun e w' => e = .returned (.int .i64 (wh digB s.data.toList)) ∧ w = w' := by
  go_enter Tryz.func52, Tryz.ntmps52
  go_wp2
  go_loop [5] (fun i => ∃ k : Nat, i = .int .i64 k ∧ k ≤ s.size ∧ Hid ((s.data.toList.take k).all digB = true)) (fun i => s.size - (intOf i).toNat)
  case atStart => exact ⟨0, rfl, Nat.zero_le _, Lib.hid rfl⟩
  case round =>
    obtain ⟨k, rfl, hk, H⟩ := hrel
    by_cases hlt : k < s.size
    · have hg : s.data.toList[k]? = some s[k] := by rw [List.getElem?_eq_getElem (by simpa using hlt)]; rfl
      have HG := Lib.hid hg
      clear hg
      obtain ⟨b, hb⟩ : ∃ b, digB s[k] = b := ⟨_, rfl⟩
      have HB := Lib.hid hb
      clear hb
      cases b
      · go_wp2_with (go_at_call 54; refine (spDigit_any _ _).mono ?_; rintro e w' ⟨rfl, rfl⟩; rw [HB.out])
        go_ret
        exact ⟨by rw [wh_stop digB s.data.toList k H.out (fun d hd => by rw [HG.out] at hd; injection hd with hd; rw [← hd]; exact HB.out) (by simpa using hk)]; rfl, rfl⟩
      · go_wp2_with (go_at_call 54; refine (spDigit_any _ _).mono ?_; rintro e w' ⟨rfl, rfl⟩; rw [HB.out])
        go_round
        case rel => exact ⟨k + 1, by go_num, by omega, Lib.hid (by rw [List.take_add_one, HG.out]; simp [H.out, HB.out])⟩
        case measure => simp [intOf]; omega
    · go_wp2
      go_ret
      exact ⟨by rw [wh_stop digB s.data.toList k H.out (fun d hd => by have := (List.getElem?_eq_some_iff.1 hd).1; simp at this; exact absurd this hlt) (by simpa using hk)]; rfl, rfl⟩

end Go.Proofs.YtikahfnlflhbfaaGreatDoor
