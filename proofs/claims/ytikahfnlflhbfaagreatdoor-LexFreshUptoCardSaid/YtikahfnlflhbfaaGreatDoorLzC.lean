/- The document's own answer for words: its small functions. -/
import Derived.Test.YtikahfnlflhbfaaGreatDoorLzO
import Derived.Deep.CutRange
namespace Go.Proofs.YtikahfnlflhbfaaGreatDoor
open Go.RowKit Go.Lib

theorem rf8Letter_any (c : UInt8) (w : World) : Calls Tryz.prog 18 #[.int .u8 c.toNat] w fun e w' => e = .returned (.bool (letB c)) ∧ w = w' := by
  have hc := c.toNat_lt
  by_cases h1 : 65 ≤ c.toNat <;> by_cases h2 : c.toNat ≤ 90 <;> by_cases h3 : 97 ≤ c.toNat <;> by_cases h4 : c.toNat ≤ 122
  all_goals first
    | (exfalso; omega)
    | (go_enter Tryz.func18, Tryz.ntmps18
       go_wp2
       go_ret
       exact ⟨by simp [letB, *] <;> omega, rfl⟩)
theorem rf8Digit_any (c : UInt8) (w : World) : Calls Tryz.prog 15 #[.int .u8 c.toNat] w fun e w' => e = .returned (.bool (digB c)) ∧ w = w' := by
  have hc := c.toNat_lt
  by_cases h1 : 48 ≤ c.toNat <;> by_cases h2 : c.toNat ≤ 57
  all_goals first
    | (exfalso; omega)
    | (go_enter Tryz.func15, Tryz.ntmps15
       go_wp2
       go_ret
       exact ⟨by simp [digB, *] <;> omega, rfl⟩)

theorem rf8Letter_is (c : UInt8) (b : Bool) (h : Hid (letB c = b)) (w : World) : Calls Tryz.prog 18 #[.int .u8 c.toNat] w fun e w' => e = .returned (.bool b) ∧ w = w' := by rw [← h.out]; exact rf8Letter_any c w
theorem rf8Digit_is (c : UInt8) (b : Bool) (h : Hid (digB c = b)) (w : World) : Calls Tryz.prog 15 #[.int .u8 c.toNat] w fun e w' => e = .returned (.bool b) ∧ w = w' := by rw [← h.out]; exact rf8Digit_any c w
theorem byte_is {c : UInt8} {n : Nat} (hn : n < 256) : ((c.toNat : Int) == (n : Int)) = (c == UInt8.ofNat n) := by
  rw [Bool.eq_iff_iff, beq_iff_eq, beq_iff_eq, ← UInt8.toNat_inj]
  have : (UInt8.ofNat n).toNat = n := by simp; omega
  rw [this]; omega
set_option maxRecDepth 100000 in
set_option maxHeartbeats 4000000 in
theorem rf8Run_any (s : ByteArray) (p : Nat) (w : World) (hp : p ≤ s.size) (hs : s.size ≤ 65535) : Calls Tryz.prog 28 #[.string s, .int .i64 p] w fun e w' => e = .returned (.int .i64 ((p + wh inB (s.data.toList.drop p) : Nat) : Int)) ∧ w = w' := by
  have hlen : s.data.toList.length = s.size := (Lib.size_eq s).symm
  have hnl := wh_le inB (s.data.toList.drop p)
  rw [List.length_drop, hlen] at hnl
  obtain ⟨q, hq⟩ : ∃ q, q = p + wh inB (s.data.toList.drop p) := ⟨_, rfl⟩
  have hq1 : p ≤ q := by omega
  have hq2 : q ≤ s.size := by omega
  have HIN : Hid (∀ (k : Nat) (hk : k < s.size), p ≤ k → k < q → inB s[k] = true) := Lib.hid fun k hk h1 h2 => wh_in8 inB s.data.toList p k h1 (by omega) _ (get8 hk)
  have HOUT : Hid (∀ hk : q < s.size, inB s[q] = false) := Lib.hid fun hk => wh_out8 inB s.data.toList p _ (by rw [← hq]; exact get8 hk)
  rw [← hq]
  clear hlen hnl hq
  go_enter Tryz.func28, Tryz.ntmps28
  go_wp2
  go_loop [1] (fun i => ∃ k : Nat, i = .int .i64 k ∧ p ≤ k ∧ k ≤ q) (fun i => s.size - (intOf i).toNat)
  case atStart => exact ⟨p, rfl, Nat.le_refl _, by omega⟩
  case round =>
    obtain ⟨k, rfl, hk1, hk2⟩ := hrel
    go_upto_region 1 with (fail)
    go_cut [32] from 5 to 34 (fun v W => v = .bool (decide (k < q)) ∧ W = w)
    case first =>
      by_cases hlt : k < s.size
      · obtain ⟨lb, hlb⟩ : ∃ b, letB s[k] = b := ⟨_, rfl⟩
        obtain ⟨db, hdb⟩ : ∃ b, digB s[k] = b := ⟨_, rfl⟩
        obtain ⟨ab, hab⟩ : ∃ b, (s[k] == 36) = b := ⟨_, rfl⟩
        obtain ⟨ub, hub⟩ : ∃ b, (s[k] == 95) = b := ⟨_, rfl⟩
        have hor : (lb || db || ab || ub) = decide (k < q) := by
          rw [← hlb, ← hdb, ← hab, ← hub]
          by_cases hin : k < q
          · rw [decide_eq_true hin]; exact HIN.out k hlt hk1 hin
          · have hkq : k = q := by omega
            subst hkq
            rw [decide_eq_false hin]; exact HOUT.out hlt
        have HOR := Lib.hid hor
        have HLB := Lib.hid hlb; have HDB := Lib.hid hdb
        have a1 : ((s[k].toNat : Int) == 36) = ab := by rw [← hab]; exact byte_is (n := 36) (by decide)
        have a2 : ((s[k].toNat : Int) == 95) = ub := by rw [← hub]; exact byte_is (n := 95) (by decide)
        clear hor hlb hdb hab hub
        cases lb <;> cases db <;> cases ab <;> cases ub
        all_goals
          go_wp2_with (first | (go_at_call 18; refine (rf8Letter_is _ _ HLB _).mono ?_; rintro e w' ⟨rfl, rfl⟩) | (go_at_call 15; refine (rf8Digit_is _ _ HDB _).mono ?_; rintro e w' ⟨rfl, rfl⟩))
          go_meet
          case rel => exact ⟨by rw [← HOR.out]; rfl, rfl⟩
      · have HK := Lib.hid (decide_eq_false (show ¬ k < q by omega))
        go_wp2_with fail
        go_meet
        case rel => exact ⟨by rw [HK.out], rfl⟩
    case rest =>
      obtain ⟨rfl, hwc⟩ := hcut
      obtain rfl := hwc.symm
      by_cases hin : k < q
      · rw [decide_eq_true hin]
        go_wp2_with fail
        go_round
        case rel => exact ⟨k + 1, by go_num, by omega, by omega⟩
        case measure => simp [intOf]; omega
      · obtain rfl : q = k := by omega
        rw [decide_eq_false hin]
        go_wp2_with fail
        go_ret
        exact ⟨rfl, rfl⟩
set_option maxHeartbeats 1000000 in
theorem rf8Name_any (s : ByteArray) (w : World) (h0 : 0 < s.size) (hs : s.size ≤ 65535) (b : Bool) (hb : Hid (nameB s.data.toList = b)) : Calls Tryz.prog 30 #[.string s] w fun e w' => e = .returned (.bool b) ∧ w = w' := by
  have HBB : Hid ((s.data.toList.all alnB && letB s[0]) = b) := Lib.hid (by rw [← nameB_eq h0]; exact hb.out)
  go_enter Tryz.func30, Tryz.ntmps30
  go_wp2
  go_loop [3] (fun i => ∃ k : Nat, i = .int .i64 k ∧ k ≤ s.size ∧ Hid ((s.data.toList.take k).all alnB = true)) (fun i => s.size - (intOf i).toNat)
  case atStart => exact ⟨0, rfl, Nat.zero_le _, Lib.hid rfl⟩
  case round =>
    obtain ⟨k, rfl, hk, H⟩ := hrel
    by_cases hlt : k < s.size
    · have HG := Lib.hid (get8 hlt)
      obtain ⟨lb, hlb⟩ : ∃ b, letB s[k] = b := ⟨_, rfl⟩
      obtain ⟨db, hdb⟩ : ∃ b, digB s[k] = b := ⟨_, rfl⟩
      have HA : Hid (alnB s[k] = (lb || db)) := Lib.hid (by unfold alnB; rw [hlb, hdb])
      have HLB := Lib.hid hlb; have HDB := Lib.hid hdb
      clear hlb hdb
      cases lb <;> cases db
      · have hq : b = false := by
          rw [← HBB.out, Bool.and_eq_false_iff]; left
          rw [List.all_eq_false]
          exact ⟨_, List.mem_of_getElem? HG.out, by rw [HA.out]; simp⟩
        have HQ := Lib.hid hq
        clear hq
        go_wp2_with (first | (go_at_call 18; refine (rf8Letter_is _ _ HLB _).mono ?_; rintro e w' ⟨rfl, rfl⟩) | (go_at_call 15; refine (rf8Digit_is _ _ HDB _).mono ?_; rintro e w' ⟨rfl, rfl⟩))
        go_ret
        exact ⟨by rw [HQ.out]; rfl, rfl⟩
      all_goals
        go_wp2_with (first | (go_at_call 18; refine (rf8Letter_is _ _ HLB _).mono ?_; rintro e w' ⟨rfl, rfl⟩) | (go_at_call 15; refine (rf8Digit_is _ _ HDB _).mono ?_; rintro e w' ⟨rfl, rfl⟩))
        go_round
        case rel => exact ⟨k + 1, by go_num, by omega, Lib.hid (by rw [List.take_add_one, HG.out]; simp [H.out, HA.out])⟩
        case measure => simp [intOf]; omega
    · have hq : b = letB s[0] := by
        rw [← HBB.out]
        have : s.data.toList.all alnB = true := by rw [← H.out, List.take_of_length_le (by rw [← Lib.size_eq]; omega)]
        rw [this]; simp
      have HQ : Hid (letB s[0] = b) := Lib.hid hq.symm
      clear hq
      go_wp2_with (go_at_call 18; refine (rf8Letter_is _ _ HQ _).mono ?_; rintro e w' ⟨rfl, rfl⟩)
      go_ret
      exact ⟨rfl, rfl⟩
end Go.Proofs.YtikahfnlflhbfaaGreatDoor
