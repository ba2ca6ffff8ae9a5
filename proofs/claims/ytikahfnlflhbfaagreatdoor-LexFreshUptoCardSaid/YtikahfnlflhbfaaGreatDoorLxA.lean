/- A formula's words: the small functions on runes. -/
import Derived.Test.YtikahfnlflhbfaaGreatDoorLxQ
import Derived.Test.YtikahfnlflhbfaaGreatDoorBase
import Derived.IntWalk
namespace Go.Proofs.YtikahfnlflhbfaaGreatDoor
open Go.RowKit Go.Lib

def smallI (r : Int) : Bool := decide (97 ≤ r) && decide (r ≤ 122)
def letterI (r : Int) : Bool := smallI r || (decide (65 ≤ r) && decide (r ≤ 90))
def digitI (r : Int) : Bool := decide (48 ≤ r) && decide (r ≤ 57)
def withinI (r : Int) : Bool := letterI r || digitI r || r == 36 || r == 95
def blankI (r : Int) : Bool := r == 9 || r == 10 || r == 13 || r == 32 || r == 160 || r == 12288
theorem letterI_of (c : UInt8) : letterI (c.toNat : Int) = letB c := by
  have e1 : ∀ a : Nat, decide ((a : Int) ≤ (c.toNat : Int)) = decide (a ≤ c.toNat) := fun a => decide_eq_decide.2 (by omega)
  have e2 : ∀ a : Nat, decide ((c.toNat : Int) ≤ (a : Int)) = decide (c.toNat ≤ a) := fun a => decide_eq_decide.2 (by omega)
  unfold letterI smallI letB
  rw [Bool.or_comm]
  congr 1
  · congr 1
    · exact e1 65
    · exact e2 90
  · congr 1
    · exact e1 97
    · exact e2 122
theorem digitI_of (c : UInt8) : digitI (c.toNat : Int) = digB c := by
  unfold digitI digB
  congr 1 <;> exact decide_eq_decide.2 (by omega)
theorem withinI_of (c : UInt8) : withinI (c.toNat : Int) = inB c := by
  unfold withinI inB
  rw [letterI_of, digitI_of]
  congr 1
  · congr 1
    rw [Bool.eq_iff_iff, beq_iff_eq, beq_iff_eq, ← UInt8.toNat_inj]
    show _ ↔ c.toNat = 36
    omega
  · rw [Bool.eq_iff_iff, beq_iff_eq, beq_iff_eq, ← UInt8.toNat_inj]
    show _ ↔ c.toNat = 95
    omega

theorem lxSmall_any (r : Int) (w : World) : Calls Tryz.prog 32 #[.int .i32 r] w fun e w' => e = .returned (.bool (smallI r)) ∧ w = w' := by
  obtain ⟨b, hb⟩ : ∃ b, smallI r = b := ⟨_, rfl⟩
  rw [hb]
  have hb' := hb
  unfold smallI at hb'
  have HB := Lib.hid hb'; clear hb hb'
  by_cases h1 : 97 ≤ r <;> by_cases h2 : r ≤ 122
  all_goals
    go_enter Tryz.func32, Tryz.ntmps32
    go_wp2
    go_ret
    exact ⟨by rw [← HB.out]; simp [h1, h2], rfl⟩
theorem lxDigit_any (r : Int) (w : World) : Calls Tryz.prog 21 #[.int .i32 r] w fun e w' => e = .returned (.bool (digitI r)) ∧ w = w' := by
  obtain ⟨b, hb⟩ : ∃ b, digitI r = b := ⟨_, rfl⟩
  rw [hb]
  have hb' := hb
  unfold digitI at hb'
  have HB := Lib.hid hb'; clear hb hb'
  by_cases h1 : 48 ≤ r <;> by_cases h2 : r ≤ 57
  all_goals
    go_enter Tryz.func21, Tryz.ntmps21
    go_wp2
    go_ret
    exact ⟨by rw [← HB.out]; simp [h1, h2], rfl⟩
theorem lxSmall_is (r : Int) (b : Bool) (hb : Hid (smallI r = b)) (w : World) : Calls Tryz.prog 32 #[.int .i32 r] w fun e w' => e = .returned (.bool b) ∧ w = w' := by rw [← hb.out]; exact lxSmall_any r w
theorem lxDigit_is (r : Int) (b : Bool) (hb : Hid (digitI r = b)) (w : World) : Calls Tryz.prog 21 #[.int .i32 r] w fun e w' => e = .returned (.bool b) ∧ w = w' := by rw [← hb.out]; exact lxDigit_any r w
theorem lxLetter_any (r : Int) (w : World) : Calls Tryz.prog 22 #[.int .i32 r] w fun e w' => e = .returned (.bool (letterI r)) ∧ w = w' := by
  obtain ⟨b, hb⟩ : ∃ b, letterI r = b := ⟨_, rfl⟩
  rw [hb]
  obtain ⟨s, hs⟩ : ∃ s, smallI r = s := ⟨_, rfl⟩
  have hb' := hb
  unfold letterI at hb'
  rw [hs] at hb'
  have HB := Lib.hid hb'; have HS := Lib.hid hs; clear hb hb' hs
  cases s <;> by_cases h1 : 65 ≤ r <;> by_cases h2 : r ≤ 90
  all_goals first
    | (exfalso; omega)
    | skip
  all_goals
    go_enter Tryz.func22, Tryz.ntmps22
    go_wp2_with (go_at_call 32; refine (lxSmall_is _ _ HS _).mono ?_; rintro e w' ⟨rfl, rfl⟩)
    go_ret
    exact ⟨by rw [← HB.out]; simp [h1, h2], rfl⟩
theorem lxLetter_is (r : Int) (b : Bool) (hb : Hid (letterI r = b)) (w : World) : Calls Tryz.prog 22 #[.int .i32 r] w fun e w' => e = .returned (.bool b) ∧ w = w' := by rw [← hb.out]; exact lxLetter_any r w
theorem lxWithin_any (r : Int) (w : World) : Calls Tryz.prog 33 #[.int .i32 r] w fun e w' => e = .returned (.bool (withinI r)) ∧ w = w' := by
  obtain ⟨b, hb⟩ : ∃ b, withinI r = b := ⟨_, rfl⟩
  rw [hb]
  obtain ⟨s, hs⟩ : ∃ s, letterI r = s := ⟨_, rfl⟩
  obtain ⟨d, hd⟩ : ∃ d, digitI r = d := ⟨_, rfl⟩
  have hb' := hb
  unfold withinI at hb'
  rw [hs, hd] at hb'
  have HB := Lib.hid hb'; have HS := Lib.hid hs; have HD := Lib.hid hd; clear hb hb' hs hd
  cases s <;> cases d
  all_goals
    cases h1 : r == 36 <;> cases h2 : r == 95
    all_goals
      go_enter Tryz.func33, Tryz.ntmps33
      go_wp2_with (first | (go_at_call 22; refine (lxLetter_is _ _ HS _).mono ?_; rintro e w' ⟨rfl, rfl⟩) | (go_at_call 21; refine (lxDigit_is _ _ HD _).mono ?_; rintro e w' ⟨rfl, rfl⟩))
      go_ret
      exact ⟨by rw [← HB.out]; simp [h1, h2], rfl⟩
theorem lxWithin_is (r : Int) (b : Bool) (hb : Hid (withinI r = b)) (w : World) : Calls Tryz.prog 33 #[.int .i32 r] w fun e w' => e = .returned (.bool b) ∧ w = w' := by rw [← hb.out]; exact lxWithin_any r w
theorem lxBlank_any (r : Int) (w : World) : Calls Tryz.prog 13 #[.int .i32 r] w fun e w' => e = .returned (.bool (blankI r)) ∧ w = w' := by
  obtain ⟨b, hb⟩ : ∃ b, blankI r = b := ⟨_, rfl⟩
  rw [hb]
  have hb' := hb
  unfold blankI at hb'
  have HB := Lib.hid hb'; clear hb hb'
  cases h1 : r == 9
  · cases h2 : r == 10
    · cases h3 : r == 13
      · cases h4 : r == 32
        · cases h5 : r == 160
          · cases h6 : r == 12288
            all_goals
              go_enter Tryz.func13, Tryz.ntmps13
              go_wp2
              go_ret
              exact ⟨by rw [← HB.out]; simp [h1, h2, h3, h4, h5, h6], rfl⟩
          · go_enter Tryz.func13, Tryz.ntmps13
            go_wp2
            go_ret
            exact ⟨by rw [← HB.out]; simp [h5], rfl⟩
        · go_enter Tryz.func13, Tryz.ntmps13
          go_wp2
          go_ret
          exact ⟨by rw [← HB.out]; simp [h4], rfl⟩
      · go_enter Tryz.func13, Tryz.ntmps13
        go_wp2
        go_ret
        exact ⟨by rw [← HB.out]; simp [h3], rfl⟩
    · go_enter Tryz.func13, Tryz.ntmps13
      go_wp2
      go_ret
      exact ⟨by rw [← HB.out]; simp [h2], rfl⟩
  · go_enter Tryz.func13, Tryz.ntmps13
    go_wp2
    go_ret
    exact ⟨by rw [← HB.out]; simp [h1], rfl⟩
theorem lxBlank_is (r : Int) (b : Bool) (hb : Hid (blankI r = b)) (w : World) : Calls Tryz.prog 13 #[.int .i32 r] w fun e w' => e = .returned (.bool b) ∧ w = w' := by rw [← hb.out]; exact lxBlank_any r w
def alnI (r : Int) : Bool := letterI r || digitI r
theorem alnI_of (c : UInt8) : alnI (c.toNat : Int) = alnB c := by unfold alnI alnB; rw [letterI_of, digitI_of]
theorem lxAln_any (r : Int) (w : World) : Calls Tryz.prog 38 #[.int .i32 r] w fun e w' => e = .returned (.bool (alnI r)) ∧ w = w' := by
  obtain ⟨b, hb⟩ : ∃ b, alnI r = b := ⟨_, rfl⟩
  rw [hb]
  obtain ⟨s, hs⟩ : ∃ s, letterI r = s := ⟨_, rfl⟩
  obtain ⟨d, hd⟩ : ∃ d, digitI r = d := ⟨_, rfl⟩
  have hb' := hb
  unfold alnI at hb'
  rw [hs, hd] at hb'
  have HB := Lib.hid hb'; have HS := Lib.hid hs; have HD := Lib.hid hd; clear hb hb' hs hd
  cases s <;> cases d
  all_goals
    go_enter Tryz.func38, Tryz.ntmps38
    go_wp2_with (first | (go_at_call 22; refine (lxLetter_is _ _ HS _).mono ?_; rintro e w' ⟨rfl, rfl⟩) | (go_at_call 21; refine (lxDigit_is _ _ HD _).mono ?_; rintro e w' ⟨rfl, rfl⟩))
    go_ret
    exact ⟨by rw [← HB.out]; rfl, rfl⟩
def upI (r : Int) : Int := if smallI r then r - 32 else r
theorem lxUp_any (r : Int) (w : World) : Calls Tryz.prog 45 #[.int .i32 r] w fun e w' => e = .returned (.int .i32 (upI r)) ∧ w = w' := by
  obtain ⟨b, hb⟩ : ∃ b, upI r = b := ⟨_, rfl⟩
  rw [hb]
  obtain ⟨s, hs⟩ : ∃ s, smallI r = s := ⟨_, rfl⟩
  have hr : s = true → 97 ≤ r ∧ r ≤ 122 := by
    rintro rfl
    simpa [smallI] using hs
  have hb' := hb
  unfold upI at hb'
  rw [hs] at hb'
  have HB := Lib.hid hb'; have HS := Lib.hid hs; clear hb hb' hs
  cases s
  · clear hr
    go_enter Tryz.func45, Tryz.ntmps45
    go_wp2_with (go_at_call 32; refine (lxSmall_is _ _ HS _).mono ?_; rintro e w' ⟨rfl, rfl⟩)
    go_ret
    exact ⟨by rw [← HB.out]; rfl, rfl⟩
  · obtain ⟨h1, h2⟩ := hr rfl
    clear hr
    go_enter Tryz.func45, Tryz.ntmps45
    go_wp2_with (go_at_call 32; refine (lxSmall_is _ _ HS _).mono ?_; rintro e w' ⟨rfl, rfl⟩)
    go_ret
    exact ⟨by rw [← HB.out]; simp; omega, rfl⟩
end Go.Proofs.YtikahfnlflhbfaaGreatDoor
