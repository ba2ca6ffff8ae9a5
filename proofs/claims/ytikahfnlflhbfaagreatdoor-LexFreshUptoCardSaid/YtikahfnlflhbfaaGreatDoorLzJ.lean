/- The document's own answer for words: the blank at a place; the word at a place. -/
import Derived.Test.YtikahfnlflhbfaaGreatDoorLzI
import Derived.Laws.RangeString
namespace Go.Proofs.YtikahfnlflhbfaaGreatDoor
open Go.RowKit Go.Lib

set_option maxRecDepth 100000 in
set_option maxHeartbeats 4000000 in
theorem rf8Blank_any (s : ByteArray) (p : Nat) (w : World) (hp : p < s.size) (hs : s.size ≤ 65535) : Calls Tryz.prog 11 #[.string s, .int .i64 p] w fun e w' => e = .returned (.int .i64 (blankL (s.data.toList.drop p) : Nat)) ∧ Below w.heap.size w w' := by
  obtain ⟨t, ht⟩ : ∃ t, t = s.extract p s.size := ⟨_, rfl⟩
  have htz : t.size = s.size - p := by rw [ht, ByteArray.size_extract]; omega
  have htl : t.data.toList = s.data.toList.drop p := by rw [ht, ext_list, List.take_of_length_le (by rw [List.length_drop, ← Lib.size_eq]; omega)]
  have h0 : 0 < t.size := by omega
  have hd1 := decode_pos t 0
  have hd2 := decode_end t 0 h0
  have hb := blank_decode t 0 h0
  have hnx0 : ∀ ty, (Instr.next (.pointer (some ⟨w.heap.size, 0, none⟩)) true ty).run Tryz.prog (w.iter t 0) = .ok (.tuple #[.bool true, .int .i64 (0 : Nat), .int .i32 (Utf8.decode t 0).1]) (w.iter t (0 + (Utf8.decode t 0).2)) := fun ty => run_next_any w t 0 ty h0
  rw [List.drop_zero, htl] at hb
  obtain ⟨x, hx⟩ : ∃ x, (Utf8.decode t 0).1 = x := ⟨_, rfl⟩
  obtain ⟨m, hm⟩ : ∃ m, (Utf8.decode t 0).2 = m := ⟨_, rfl⟩
  rw [hx, hm] at hb hnx0
  rw [hm] at hd1 hd2
  rw [Nat.zero_add] at hnx0 hd2
  have HB := Lib.hid hb
  have HT := Lib.hid ht
  have HTZ := Lib.hid htz
  have HN0 := Lib.hid hnx0
  have BA : Hid (∀ k, Below w.heap.size w (w.iter t k)) := Lib.hid fun k => ext_alloc (Below.refl _ _) _
  have hts : t.size ≤ 65535 := by omega
  have HX := Lib.hid hx
  have hsz : s.size - p = t.size := htz.symm
  have hni : ((s.size : Int) - (p : Int)) = (t.size : Int) := by omega
  have HNI := Lib.hid hni
  clear ht htz htl hb hx hm hnx0 hni hsz
  go_enter Tryz.func11, Tryz.ntmps11
  go_upto_region 3 with (fail)
  rw [HNI.out]
  go_wp2_with fail
  rw [← HT.out]
  go_loopw [5, 6] (fun f n wr => n = .int .i64 t.size ∧ ((wr = w.iter t 0 ∧ f = .int .i32 0) ∨ (wr = w.iter t m ∧ f = .int .i32 x))) (fun _ _ wr => t.size - wr.iterPos w.heap.size)
  case atStart => exact ⟨rfl, Or.inl ⟨rfl, rfl⟩⟩
  case round =>
    obtain ⟨rfl, ⟨rfl, rfl⟩ | ⟨rfl, rfl⟩⟩ := hrel
    · have hnx := HN0.out
      go_wp2_with fail
      go_roundw
      case rel => exact ⟨rfl, Or.inr ⟨trivial, rfl⟩⟩
      case measure => simp; omega
    · by_cases hm : m < t.size
      · have hnx : ∀ ty, (Instr.next (.pointer (some ⟨w.heap.size, 0, none⟩)) true ty).run Tryz.prog (w.iter t m) = .ok (.tuple #[.bool true, .int .i64 m, .int .i32 (Utf8.decode t m).1]) (w.iter t (m + (Utf8.decode t m).2)) := fun ty => run_next_any w t m ty hm
        obtain ⟨x2, hx2⟩ : ∃ x2, (Utf8.decode t m).1 = x2 := ⟨_, rfl⟩
        rw [hx2] at hnx
        clear hx2
        have hm0 : 0 < m := by omega
        by_cases x9 : x = 9
        · subst x9
          have hr := (HB.out).1 rfl
          have HBL := Lib.hid hr
          clear hr HX
          go_wp2_with fail
          go_ret
          exact ⟨by rw [HBL.out]; rfl, BA.out _⟩
        by_cases x10 : x = 10
        · subst x10
          have hr := (HB.out).1 rfl
          have HBL := Lib.hid hr
          clear hr HX
          go_wp2_with fail
          go_ret
          exact ⟨by rw [HBL.out]; rfl, BA.out _⟩
        by_cases x13 : x = 13
        · subst x13
          have hr := (HB.out).1 rfl
          have HBL := Lib.hid hr
          clear hr HX
          go_wp2_with fail
          go_ret
          exact ⟨by rw [HBL.out]; rfl, BA.out _⟩
        by_cases x32 : x = 32
        · subst x32
          have hr := (HB.out).1 rfl
          have HBL := Lib.hid hr
          clear hr HX
          go_wp2_with fail
          go_ret
          exact ⟨by rw [HBL.out]; rfl, BA.out _⟩
        by_cases x160 : x = 160
        · subst x160
          have hr := (HB.out).1 rfl
          have HBL := Lib.hid hr
          clear hr HX
          go_wp2_with fail
          go_ret
          exact ⟨by rw [HBL.out]; rfl, BA.out _⟩
        by_cases x12288 : x = 12288
        · subst x12288
          have hr := (HB.out).1 rfl
          have HBL := Lib.hid hr
          clear hr HX
          go_wp2_with fail
          go_ret
          exact ⟨by rw [HBL.out]; rfl, BA.out _⟩
        have hr := (HB.out).2 (by simp [blankN, x9, x10, x13, x32, x160, x12288])
        have HBL := Lib.hid hr
        have y9 : ((x : Int) == 9) = false := by rw [beq_eq_false_iff_ne]; omega
        have y10 : ((x : Int) == 10) = false := by rw [beq_eq_false_iff_ne]; omega
        have y13 : ((x : Int) == 13) = false := by rw [beq_eq_false_iff_ne]; omega
        have y32 : ((x : Int) == 32) = false := by rw [beq_eq_false_iff_ne]; omega
        have y160 : ((x : Int) == 160) = false := by rw [beq_eq_false_iff_ne]; omega
        have y12288 : ((x : Int) == 12288) = false := by rw [beq_eq_false_iff_ne]; omega
        clear hr HX x9 x10 x13 x32 x160 x12288
        go_wp2_with fail
        go_ret
        exact ⟨by rw [HBL.out]; rfl, BA.out _⟩
      · have hnx : ∀ ty, (Instr.next (.pointer (some ⟨w.heap.size, 0, none⟩)) true ty).run Tryz.prog (w.iter t m) = _ := fun ty => run_next_end w t m ty hm
        obtain rfl : m = t.size := by omega
        by_cases x9 : x = 9
        · subst x9
          have hr := (HB.out).1 rfl
          have HBL := Lib.hid hr
          clear hr HX
          go_wp2_with fail
          go_ret
          exact ⟨by rw [HBL.out]; rfl, BA.out _⟩
        by_cases x10 : x = 10
        · subst x10
          have hr := (HB.out).1 rfl
          have HBL := Lib.hid hr
          clear hr HX
          go_wp2_with fail
          go_ret
          exact ⟨by rw [HBL.out]; rfl, BA.out _⟩
        by_cases x13 : x = 13
        · subst x13
          have hr := (HB.out).1 rfl
          have HBL := Lib.hid hr
          clear hr HX
          go_wp2_with fail
          go_ret
          exact ⟨by rw [HBL.out]; rfl, BA.out _⟩
        by_cases x32 : x = 32
        · subst x32
          have hr := (HB.out).1 rfl
          have HBL := Lib.hid hr
          clear hr HX
          go_wp2_with fail
          go_ret
          exact ⟨by rw [HBL.out]; rfl, BA.out _⟩
        by_cases x160 : x = 160
        · subst x160
          have hr := (HB.out).1 rfl
          have HBL := Lib.hid hr
          clear hr HX
          go_wp2_with fail
          go_ret
          exact ⟨by rw [HBL.out]; rfl, BA.out _⟩
        by_cases x12288 : x = 12288
        · subst x12288
          have hr := (HB.out).1 rfl
          have HBL := Lib.hid hr
          clear hr HX
          go_wp2_with fail
          go_ret
          exact ⟨by rw [HBL.out]; rfl, BA.out _⟩
        have hr := (HB.out).2 (by simp [blankN, x9, x10, x13, x32, x160, x12288])
        have HBL := Lib.hid hr
        have y9 : ((x : Int) == 9) = false := by rw [beq_eq_false_iff_ne]; omega
        have y10 : ((x : Int) == 10) = false := by rw [beq_eq_false_iff_ne]; omega
        have y13 : ((x : Int) == 13) = false := by rw [beq_eq_false_iff_ne]; omega
        have y32 : ((x : Int) == 32) = false := by rw [beq_eq_false_iff_ne]; omega
        have y160 : ((x : Int) == 160) = false := by rw [beq_eq_false_iff_ne]; omega
        have y12288 : ((x : Int) == 12288) = false := by rw [beq_eq_false_iff_ne]; omega
        clear hr HX x9 x10 x13 x32 x160 x12288
        go_wp2_with fail
        go_ret
        exact ⟨by rw [HBL.out]; rfl, BA.out _⟩
end Go.Proofs.YtikahfnlflhbfaaGreatDoor
