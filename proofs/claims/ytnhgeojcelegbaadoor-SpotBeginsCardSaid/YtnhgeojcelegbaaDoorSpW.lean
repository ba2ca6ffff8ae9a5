/- SpotBegins: a reference at a text's beginning is what its own bytes are. -/
import Derived.Test.YtnhgeojcelegbaaDoorSpV
namespace Go.Proofs.YtnhgeojcelegbaaDoor
open Go.RowKit Go.Lib

theorem ext_take (s : ByteArray) (n : Nat) : (s.extract 0 n).data.toList = s.data.toList.take n := by
  rw [ByteArray.data_extract, Array.toList_extract, List.extract_eq_take_drop]; simp
set_option maxRecDepth 100000 in
set_option maxHeartbeats 8000000 in
theorem spotBegins_any (s more : ByteArray) (w : World) (L : LaidW w) : Calls Tryd.prog 7 #[.string s, .string more] w (TruePost w) := by
  have HL := Lib.hid L
  clear L
  go_enter Tryd.func7, Tryd.ntmps7
  go_wp2_with fail
  refine (begun2_any w HL.out).mono ?_
  rintro e w1 ⟨rfl, b1⟩
  have B1 := Lib.hid b1
  clear b1
  by_cases hbig : 1048576 < s.size
  · go_wp2
    go_ret
    exact ⟨rfl, B1.out⟩
  by_cases hbig2 : 1048576 < more.size
  · go_wp2
    go_ret
    exact ⟨rfl, B1.out⟩
  have hs1 : s.size ≤ 1048576 := by omega
  have hm1 : more.size ≤ 1048576 := by omega
  clear hbig hbig2
  go_wp2_with fail
  refine (readRef_any s w1 (HL.out.kept B1.out) (by omega)).mono ?_
  rintro e w2 ⟨he, b2⟩
  have F1 := refAns_facts s.data.toList
  have Z1 := begins_zero (l := s.data.toList)
  have T1 := begins_text (l := s.data.toList)
  have M1 := fun h more hm => begins_more (l := s.data.toList) h more hm
  have N1 := begins_next (l := s.data.toList)
  have L1 := begins_last (l := s.data.toList)
  obtain ⟨⟨⟨rr, rc, rp, rq⟩, n, ee⟩, hA⟩ : ∃ a, refAns s.data.toList = a := ⟨_, rfl⟩
  rw [hA] at he F1 Z1 T1 M1 N1 L1
  clear hA
  simp only [RefVal] at he F1 Z1 T1 M1 N1 L1
  subst he
  obtain ⟨f1, f2, f3, f4, f5, f6, f7⟩ := F1
  have hn : n ≤ s.size := by rw [Lib.size_eq]; exact f1
  have B2 := Lib.hid (ext_alloc (B1.out.trans (b2.mono B1.out.size)) (.cells #[.int .i64 rr, .int .i64 rc, .bool rp, .bool rq] 28))
  have a2 := newA (A := #[.int .i64 rr, .int .i64 rc, .bool rp, .bool rq]) (T := 28) w2
  have z2 : w.heap.size ≤ w2.heap.size := Nat.le_trans B1.out.size b2.size
  clear b2 f1
  rcases f7 with rfl | rfl | rfl
  rotate_right
  · have h0 : n = 0 := f6.2 rfl
    have hz := Z1 (by decide)
    simp only [RefT.zero, RefT.mk.injEq] at hz
    obtain ⟨rfl, rfl, rfl, rfl⟩ := hz
    subst h0
    clear Z1 T1 M1 N1 L1 f6
    go_wp2
    go_ret
    exact ⟨rfl, B2.out⟩
  all_goals
    have hn0 : n ≠ 0 := fun e => by have := f6.1 e; omega
    obtain ⟨m, rfl⟩ : ∃ m, n = m + 1 := ⟨n - 1, by omega⟩
    have hms : m < s.size := by omega
    obtain ⟨cl, hcl, hdl⟩ := L1 hn0
    rw [Nat.add_sub_cancel] at hcl
    have hcm : s[m]'hms = cl := by
      rw [List.getElem?_eq_getElem (by simpa using hms)] at hcl
      exact Option.some.inj hcl
    have hdg : 48 ≤ (s[m]'hms).toNat ∧ (s[m]'hms).toNat ≤ 57 := by rw [hcm]; simpa [digB] using hdl
    obtain ⟨hdg1, hdg2⟩ := hdg
    have NX := Lib.hid (N1 hn0)
    have MO := Lib.hid (M1 hn0)
    obtain ⟨vC, hvC⟩ : ∃ v : ByteArray, v = strB (capsL (s.data.toList.take (m + 1))) := ⟨_, rfl⟩
    have hvs : vC.size = m + 1 := by rw [hvC, strB_size, caps_len, List.length_take, ← Lib.size_eq]; omega
    have VL := Lib.hid (show ∀ more : ByteArray, (vC ++ more).data.toList = capsL (s.data.toList.take (m + 1)) ++ more.data.toList from fun more => by rw [hvC]; simp [strB])
    have VM := Lib.hid (show (vC ++ more).size ≤ 140737488355328 by rw [ByteArray.size_append]; omega)
    have EX := Lib.hid (ext_take s (m + 1))
    have SX := Lib.hid (show (s.extract 0 (m + 1)).size ≤ 1099511627776 by rw [ByteArray.size_extract]; omega)
    have hvm : vC.size ≤ 1048576 := by omega
    have q1 : (9223372036854775807 < vC.size + more.size) = False := eq_false (by omega)
    have HVC := Lib.hid hvC
    clear hvC hvs hcl hdl hcm N1 M1 L1 f2 f3 f4 f5 f6 hn0
  · have tx := T1 rfl
    have TXE := Lib.hid tx.1
    have TXL := Lib.hid tx.2
    clear tx T1 Z1
    have hb0 : (((m + 1 : Nat) : Int) == 0) = false := by rw [beq_eq_false_iff_ne]; omega
    have hb1 : (((m : Nat) : Int) + 1 == 0) = false := by rw [beq_eq_false_iff_ne]; omega
    go_upto_region 10 with (fail)
    go_cut [96] from 67 (fun v W => v = .bool false ∧ W = (w2.alloc (.cells #[.int .i64 rr, .int .i64 rc, .bool rp, .bool rq] 28)))
    case first =>
      by_cases hlt : m + 1 < s.size
      · have hgt : s.data.toList[m + 1]? = some (s[m + 1]'hlt) := by rw [List.getElem?_eq_getElem (by simpa using hlt)]; rfl
        have hnd := NX.out _ hgt
        have hdd : (s[m + 1]'hlt).toNat < 48 ∨ 57 < (s[m + 1]'hlt).toNat := by
          have : ¬ (48 ≤ (s[m + 1]'hlt).toNat ∧ (s[m + 1]'hlt).toNat ≤ 57) := by simpa [digB] using hnd
          omega
        clear hgt hnd
        have hlI : ((m : Int) + 1 < (s.size : Int)) := by omega
        have hi3 : (48 : Int) ≤ (((s[m]'hms).toNat : Int)) := by omega
        have hi4 : ¬ (((s[m]'hms).toNat : Int)) < 48 := by omega
        have hi5 : (((s[m]'hms).toNat : Int)) ≤ 57 := by omega
        have hi6 : ¬ (57 : Int) < (((s[m]'hms).toNat : Int)) := by omega
        rcases hdd with hdx | hdx
        · have hi1 : (((s[m + 1]'hlt).toNat : Int)) < 48 := by omega
          have hi2 : ¬ (48 : Int) ≤ (((s[m + 1]'hlt).toNat : Int)) := by omega
          go_wp2_with fail
          go_meet
          case rel => exact ⟨(by first | rfl | exact congrArg Value.bool (by simp; omega)), rfl⟩
        · have hi1 : ¬ (((s[m + 1]'hlt).toNat : Int)) ≤ 57 := by omega
          have hi2 : (48 : Int) ≤ (((s[m + 1]'hlt).toNat : Int)) := by omega
          go_wp2_with fail
          go_meet
          case rel => exact ⟨(by first | rfl | exact congrArg Value.bool (by simp; omega)), rfl⟩
      · have hme : m + 1 = s.size := by omega
        go_wp2_with fail
        go_meet
        case rel => exact ⟨(by first | rfl | exact congrArg Value.bool (by simp; omega)), rfl⟩
    case rest =>
      obtain ⟨rfl, rfl⟩ := hcut
      clear hb0 hb1 hdg1 hdg2
      go_wp2_with fail
      refine (refText_any ⟨rr, rc, rp, rq⟩ _ (HL.out.kept B2.out)).mono ?_
      rintro e w3 ⟨he, b3⟩
      rw [TXE.out, TXL.out, ← HVC.out] at he
      subst he
      have z3 : w2.heap.size < w3.heap.size := (kept_block b3).1
      have a3 := keepC b3 (by first | omega | (simp; done) | (simp; omega)) a2
      have B3 := Lib.hid (B2.out.trans (b3.mono B2.out.size))
      clear b3
      go_wp2_with fail
      refine (capitals_any (s.extract 0 (m + 1)) _ SX.out).mono ?_
      rintro e w4 ⟨he, b4⟩
      rw [EX.out, ← HVC.out] at he
      subst he
      have z4 : w2.heap.size < w4.heap.size := Nat.lt_of_lt_of_le z3 b4.size
      have a4 := keepC b4 (by first | omega | (simp; done) | (simp; omega)) a3
      have B4 := Lib.hid (B3.out.trans (b4.mono B3.out.size))
      clear b4
      have hss : (vC.toList == vC.toList) = true := beq_self_eq_true _
      go_upto_region 16 with (fail)
      by_cases hq : ∃ h : 0 < more.size, digB (more[0]'h) = true
      · obtain ⟨hm0, hd0⟩ := hq
        have hdd : 48 ≤ (more[0]'hm0).toNat ∧ (more[0]'hm0).toNat ≤ 57 := by simpa [digB] using hd0
        obtain ⟨hdd1, hdd2⟩ := hdd
        clear hd0
        go_wp2
        go_ret
        exact ⟨rfl, B4.out⟩
      · have hmo : ∀ c, more.data.toList.head? = some c → digB c = false := fun c hc => by
          rw [List.head?_eq_getElem?] at hc
          obtain ⟨h1, h2⟩ := List.getElem?_eq_some_iff.1 hc
          have hm0 : 0 < more.size := by simpa using h1
          have h3 : more[0]'hm0 = c := h2
          rw [← h3]
          cases hd : digB (more[0]'hm0) with
          | false => rfl
          | true => exact absurd ⟨hm0, hd⟩ hq
        have HMO := Lib.hid hmo
        go_cut [126] from 114 (fun v W => v = .bool false ∧ W = w4)
        case first =>
          by_cases hm0 : 0 < more.size
          · have hdd : (more[0]'hm0).toNat < 48 ∨ 57 < (more[0]'hm0).toNat := by
              have : ¬ (48 ≤ (more[0]'hm0).toNat ∧ (more[0]'hm0).toNat ≤ 57) := fun h => hq ⟨hm0, by simpa [digB] using h⟩
              omega
            clear hq hmo
            rcases hdd with hdd | hdd
            all_goals
              go_wp2_with fail
              go_meet
              case rel => exact ⟨(by first | rfl | exact congrArg Value.bool (by simp; omega)), rfl⟩
          · clear hq hmo
            go_wp2_with fail
            go_meet
            case rel => exact ⟨rfl, rfl⟩
        case rest =>
          obtain ⟨rfl, rfl⟩ := hcut
          clear hq hmo
          go_wp2_with fail
          refine (capitals_any (s.extract 0 (m + 1)) _ SX.out).mono ?_
          rintro e w5 ⟨he, b5⟩
          rw [EX.out, ← HVC.out] at he
          subst he
          have z5 : w2.heap.size < w5.heap.size := Nat.lt_of_lt_of_le (by first | omega | (simp; done) | (simp; omega)) b5.size
          have a5 := keepC b5 (by first | omega | (simp; done) | (simp; omega)) a4
          have B5 := Lib.hid (B4.out.trans (b5.mono B4.out.size))
          clear b5
          go_wp2_with fail
          refine (readRef_any (vC ++ more) w5 (HL.out.kept B5.out) VM.out).mono ?_
          rintro e w6 ⟨he, b6⟩
          rw [VL.out more, MO.out more.data.toList HMO.out] at he
          simp only [RefVal] at he
          subst he
          have z6 : w2.heap.size < w6.heap.size := Nat.lt_of_lt_of_le z5 b6.size
          have a6 := keepA (.cells #[.int .i64 rr, .int .i64 rc, .bool rp, .bool rq] 28) (by first | omega | (simp; done) | (simp; omega)) (keepC b6 (by first | omega | (simp; done) | (simp; omega)) a5)
          have d6 := newA (A := #[.int .i64 rr, .int .i64 rc, .bool rp, .bool rq]) (T := 28) w6
          have B6 := Lib.hid (ext_alloc (B5.out.trans (b6.mono B5.out.size)) (.cells #[.int .i64 rr, .int .i64 rc, .bool rp, .bool rq] 28))
          clear b6 a5
          go_wp2
          go_ret
          exact ⟨rfl, B6.out⟩
  · have hz := Z1 (by decide)
    simp only [RefT.zero, RefT.mk.injEq] at hz
    obtain ⟨rfl, rfl, rfl, rfl⟩ := hz
    clear Z1 T1
    have hb0 : (((m + 1 : Nat) : Int) == 0) = false := by rw [beq_eq_false_iff_ne]; omega
    have hb1 : (((m : Nat) : Int) + 1 == 0) = false := by rw [beq_eq_false_iff_ne]; omega
    go_upto_region 10 with (fail)
    go_cut [96] from 67 (fun v W => v = .bool false ∧ W = (w2.alloc (.cells #[.int .i64 0, .int .i64 0, .bool false, .bool false] 28)))
    case first =>
      by_cases hlt : m + 1 < s.size
      · have hgt : s.data.toList[m + 1]? = some (s[m + 1]'hlt) := by rw [List.getElem?_eq_getElem (by simpa using hlt)]; rfl
        have hnd := NX.out _ hgt
        have hdd : (s[m + 1]'hlt).toNat < 48 ∨ 57 < (s[m + 1]'hlt).toNat := by
          have : ¬ (48 ≤ (s[m + 1]'hlt).toNat ∧ (s[m + 1]'hlt).toNat ≤ 57) := by simpa [digB] using hnd
          omega
        clear hgt hnd
        have hlI : ((m : Int) + 1 < (s.size : Int)) := by omega
        have hi3 : (48 : Int) ≤ (((s[m]'hms).toNat : Int)) := by omega
        have hi4 : ¬ (((s[m]'hms).toNat : Int)) < 48 := by omega
        have hi5 : (((s[m]'hms).toNat : Int)) ≤ 57 := by omega
        have hi6 : ¬ (57 : Int) < (((s[m]'hms).toNat : Int)) := by omega
        rcases hdd with hdx | hdx
        · have hi1 : (((s[m + 1]'hlt).toNat : Int)) < 48 := by omega
          have hi2 : ¬ (48 : Int) ≤ (((s[m + 1]'hlt).toNat : Int)) := by omega
          go_wp2_with fail
          go_meet
          case rel => exact ⟨(by first | rfl | exact congrArg Value.bool (by simp; omega)), rfl⟩
        · have hi1 : ¬ (((s[m + 1]'hlt).toNat : Int)) ≤ 57 := by omega
          have hi2 : (48 : Int) ≤ (((s[m + 1]'hlt).toNat : Int)) := by omega
          go_wp2_with fail
          go_meet
          case rel => exact ⟨(by first | rfl | exact congrArg Value.bool (by simp; omega)), rfl⟩
      · have hme : m + 1 = s.size := by omega
        go_wp2_with fail
        go_meet
        case rel => exact ⟨(by first | rfl | exact congrArg Value.bool (by simp; omega)), rfl⟩
    case rest =>
      obtain ⟨rfl, rfl⟩ := hcut
      clear hb0 hb1 hdg1 hdg2
      go_upto_region 16 with (fail)
      by_cases hq : ∃ h : 0 < more.size, digB (more[0]'h) = true
      · obtain ⟨hm0, hd0⟩ := hq
        have hdd : 48 ≤ (more[0]'hm0).toNat ∧ (more[0]'hm0).toNat ≤ 57 := by simpa [digB] using hd0
        obtain ⟨hdd1, hdd2⟩ := hdd
        clear hd0
        go_wp2
        go_ret
        exact ⟨rfl, B2.out⟩
      · have hmo : ∀ c, more.data.toList.head? = some c → digB c = false := fun c hc => by
          rw [List.head?_eq_getElem?] at hc
          obtain ⟨h1, h2⟩ := List.getElem?_eq_some_iff.1 hc
          have hm0 : 0 < more.size := by simpa using h1
          have h3 : more[0]'hm0 = c := h2
          rw [← h3]
          cases hd : digB (more[0]'hm0) with
          | false => rfl
          | true => exact absurd ⟨hm0, hd⟩ hq
        have HMO := Lib.hid hmo
        go_cut [126] from 114 (fun v W => v = .bool false ∧ W = (w2.alloc (.cells #[.int .i64 0, .int .i64 0, .bool false, .bool false] 28)))
        case first =>
          by_cases hm0 : 0 < more.size
          · have hdd : (more[0]'hm0).toNat < 48 ∨ 57 < (more[0]'hm0).toNat := by
              have : ¬ (48 ≤ (more[0]'hm0).toNat ∧ (more[0]'hm0).toNat ≤ 57) := fun h => hq ⟨hm0, by simpa [digB] using h⟩
              omega
            clear hq hmo
            rcases hdd with hdd | hdd
            all_goals
              go_wp2_with fail
              go_meet
              case rel => exact ⟨(by first | rfl | exact congrArg Value.bool (by simp; omega)), rfl⟩
          · clear hq hmo
            go_wp2_with fail
            go_meet
            case rel => exact ⟨rfl, rfl⟩
        case rest =>
          obtain ⟨rfl, rfl⟩ := hcut
          clear hq hmo
          go_wp2_with fail
          refine (capitals_any (s.extract 0 (m + 1)) _ SX.out).mono ?_
          rintro e w5 ⟨he, b5⟩
          rw [EX.out, ← HVC.out] at he
          subst he
          have z5 : w2.heap.size < w5.heap.size := Nat.lt_of_lt_of_le (by first | omega | (simp; done) | (simp; omega)) b5.size
          have a5 := keepC b5 (by first | omega | (simp; done) | (simp; omega)) a2
          have B5 := Lib.hid (B2.out.trans (b5.mono B2.out.size))
          clear b5
          go_wp2_with fail
          refine (readRef_any (vC ++ more) w5 (HL.out.kept B5.out) VM.out).mono ?_
          rintro e w6 ⟨he, b6⟩
          rw [VL.out more, MO.out more.data.toList HMO.out] at he
          simp only [RefVal] at he
          subst he
          have z6 : w2.heap.size < w6.heap.size := Nat.lt_of_lt_of_le z5 b6.size
          have a6 := keepA (.cells #[.int .i64 0, .int .i64 0, .bool false, .bool false] 28) (by first | omega | (simp; done) | (simp; omega)) (keepC b6 (by first | omega | (simp; done) | (simp; omega)) a5)
          have d6 := newA (A := #[.int .i64 0, .int .i64 0, .bool false, .bool false]) (T := 28) w6
          have B6 := Lib.hid (ext_alloc (B5.out.trans (b6.mono B5.out.size)) (.cells #[.int .i64 0, .int .i64 0, .bool false, .bool false] 28))
          clear b6 a5
          go_wp2
          go_ret
          exact ⟨rfl, B6.out⟩
end Go.Proofs.YtnhgeojcelegbaaDoor
