/- The document's own answer for references: the reference that a text begins with. -/
import Derived.Test.YtikahfnlflhbfaaGreatDoorLzX
import Derived.Test.YtikahfnlflhbfaaGreatDoorLxSf
import Derived.Deep.Cut
import Derived.Deep.CutRange
namespace Go.Proofs.YtikahfnlflhbfaaGreatDoor
open Go.RowKit Go.Lib

theorem wh_in (p : UInt8 → Bool) (l : List UInt8) (a k : Nat) (h1 : a ≤ k) (h2 : k < a + wh p (l.drop a)) (c : UInt8) (hc : l[k]? = some c) : p c = true := by
  have h := wh_all p (l.drop a)
  rw [List.all_eq_true] at h
  refine h c (List.mem_of_getElem? (i := k - a) ?_)
  rw [List.getElem?_take, if_pos (by omega), List.getElem?_drop, show a + (k - a) = k by omega]
  exact hc
theorem wh_out (p : UInt8 → Bool) (l : List UInt8) (a : Nat) (c : UInt8) (hc : l[a + wh p (l.drop a)]? = some c) : p c = false :=
  wh_next p (l.drop a) c (by rw [List.getElem?_drop]; exact hc)
def FmVal (l : List UInt8) : Value := match form l with
  | none => .agg #[.int .i64 0, .int .i64 0, .int .i64 0, .bool false, .bool false]
  | some x => .agg #[.int .i64 x.n, .int .i64 x.col, .int .i64 x.row, .bool x.pc, .bool x.pr]
def FmPost (l : List UInt8) (w : World) (e : Ending) (w' : World) : Prop := e = .returned (FmVal l) ∧ Below w.heap.size w w'
set_option maxRecDepth 10000 in
set_option maxHeartbeats 4000000 in
theorem rfForm_any (s : ByteArray) (w : World) (hs : s.size ≤ 140737488355328) : Calls Tryz.prog 42 #[.string s] w (FmPost s.data.toList w) := by
  obtain ⟨a, ha⟩ : ∃ a, dol s.data.toList 0 = a := ⟨_, rfl⟩
  obtain ⟨n, hn⟩ : ∃ n, wh letB (s.data.toList.drop a) = n := ⟨_, rfl⟩
  obtain ⟨b, hb⟩ : ∃ b, dol s.data.toList (a + n) = b := ⟨_, rfl⟩
  obtain ⟨m, hm⟩ : ∃ m, wh digB (s.data.toList.drop (a + n + b)) = m := ⟨_, rfl⟩
  have FE := Lib.hid (form_eq s.data.toList ha hn hb hm)
  have ha1 : a ≤ 1 := by rw [← ha]; unfold dol; split <;> omega
  have hb1 : b ≤ 1 := by rw [← hb]; unfold dol; split <;> omega
  have ha2 : a ≤ s.size := by
    rw [← ha, Lib.size_eq]; unfold dol; split
    · rename_i h; have := (List.getElem?_eq_some_iff.1 h).1; omega
    · omega
  have hn2 : a + n ≤ s.size := by
    have := wh_le letB (s.data.toList.drop a)
    rw [hn, List.length_drop, ← Lib.size_eq] at this; omega
  have hb2 : a + n + b ≤ s.size := by
    rw [← hb, Lib.size_eq]; rw [Lib.size_eq] at hn2; unfold dol; split
    · rename_i h; have := (List.getElem?_eq_some_iff.1 h).1; omega
    · omega
  have hm2 : a + n + b + m ≤ s.size := by
    have := wh_le digB (s.data.toList.drop (a + n + b))
    rw [hm, List.length_drop, ← Lib.size_eq] at this; omega
  obtain ⟨p, hp⟩ : ∃ p, p = a + n := ⟨_, rfl⟩
  obtain ⟨q, hq⟩ : ∃ q, q = p + b := ⟨_, rfl⟩
  obtain ⟨r, hr⟩ : ∃ r, r = q + m := ⟨_, rfl⟩
  have Rp := Lib.hid (show a + wh letB (s.data.toList.drop a) = p by rw [hn, hp])
  have Rr := Lib.hid (show q + wh digB (s.data.toList.drop q) = r by rw [hr, hq, hp, hm])
  have Ha := Lib.hid ha
  have Hb := Lib.hid (show dol s.data.toList p = b by rw [hp]; exact hb)
  have Hp := Lib.hid hp; have Hq := Lib.hid hq; have Hr := Lib.hid hr
  have y1 : a ≤ p := by omega
  have y2 : p ≤ q := by omega
  have y3 : q ≤ r := by omega
  have y4 : r ≤ s.size := by omega
  clear ha hn hb hm hp hq hr hn2 hb2 hm2
  go_enter Tryz.func42, Tryz.ntmps42
  go_upto_region 3 with (fail)
  go_cut [17] from 8 (fun v W => v = .bool (decide (a = 1)) ∧ W = ((w.alloc (.cells #[.int .i64 0, .int .i64 0, .int .i64 0, .bool false, .bool false] 64)).alloc (.cells #[.int .i64 0, .int .i64 0, .int .i64 0, .bool false, .bool false] 64)))
  case first =>
    by_cases hlt : 0 < s.size
    · have hg : s.data.toList[0]? = some (s[0]'hlt) := by rw [List.getElem?_eq_getElem (by simpa using hlt)]; rfl
      by_cases h36 : (s[0]'hlt) = 36
      · have hk1 : a = 1 := by rw [← Ha.out]; unfold dol; rw [hg, h36, if_pos rfl]
        have hb : (((s[0]'hlt).toNat : Int) == 36) = true := by rw [h36]; rfl
        have HK := Lib.hid hk1
        clear hk1 hg h36
        go_wp2_with fail
        go_meet
        case rel => exact ⟨by rw [HK.out]; rfl, rfl⟩
      · have hk1 : a = 0 := by rw [← Ha.out]; unfold dol; rw [hg, if_neg (fun e => h36 (Option.some.inj e))]
        have hb : (((s[0]'hlt).toNat : Int) == 36) = false := by
          rw [beq_eq_false_iff_ne]
          intro e
          exact h36 (UInt8.toNat_inj.1 (by have : (36 : UInt8).toNat = 36 := rfl; omega))
        have HK := Lib.hid hk1
        clear hk1 hg h36
        go_wp2_with fail
        go_meet
        case rel => exact ⟨by rw [HK.out]; rfl, rfl⟩
    · have hk1 : a = 0 := by rw [← Ha.out]; unfold dol; rw [List.getElem?_eq_none (by rw [← Lib.size_eq]; omega), if_neg (by simp)]
      have HK := Lib.hid hk1
      clear hk1
      go_wp2_with fail
      go_meet
      case rel => exact ⟨by rw [HK.out]; rfl, rfl⟩
  case rest =>
    obtain ⟨rfl, rfl⟩ := hcut
    go_upto_if 17 with (fail)
    go_cut [4] from 18 (fun v W => v = .int .i64 (a : Int) ∧ W = ((w.alloc (.cells #[.int .i64 0, .int .i64 0, .int .i64 0, .bool false, .bool false] 64)).alloc (.cells #[.int .i64 0, .int .i64 0, .int .i64 0, .bool (decide (a = 1)), .bool false] 64)))
    case first =>
      rcases (show a = 0 ∨ a = 1 by omega) with hk1 | hk1
      · subst hk1
        go_wp2_with fail
        go_meet
        case rel => exact ⟨congrArg (Value.int IntKind.i64) (by omega), rfl⟩
      · subst hk1
        go_wp2_with fail
        go_meet
        case rel => exact ⟨congrArg (Value.int IntKind.i64) (by omega), rfl⟩
    case rest =>
      obtain ⟨rfl, rfl⟩ := hcut
      obtain ⟨pc, hpc⟩ : ∃ pc, pc = decide (a = 1) := ⟨_, rfl⟩
      have HPC := Lib.hid hpc
      rw [← hpc]
      clear hpc
      go_wp2_with fail
      go_loop [4] (fun i => ∃ k : Nat, i = .int .i64 k ∧ a ≤ k ∧ k ≤ p) (fun i => s.size - (intOf i).toNat)
      case atStart => exact ⟨a, rfl, Nat.le_refl _, (by omega)⟩
      case round =>
        obtain ⟨k, rfl, hk1, hk2⟩ := hrel
        go_upto_region 7 with (fail)
        go_cut [32] from 22 to 34 (fun v W => v = .bool (decide (k < p)) ∧ W = ((w.alloc (.cells #[.int .i64 0, .int .i64 0, .int .i64 0, .bool false, .bool false] 64)).alloc (.cells #[.int .i64 0, .int .i64 0, .int .i64 0, .bool pc, .bool false] 64)))
        case first =>
          by_cases hlt : k < s.size
          · have hg : s.data.toList[k]? = some (s[k]'hlt) := by rw [List.getElem?_eq_getElem (by simpa using hlt)]; rfl
            by_cases hin : k < p
            · have hp : letB (s[k]'hlt) = true := wh_in letB s.data.toList a k hk1 (by rw [Rp.out]; exact hin) _ hg
              have HIN := Lib.hid (decide_eq_true hin)
              obtain ⟨x, hx⟩ : ∃ x, x = letN (s[k]'hlt) := ⟨_, rfl⟩
              have hx0 : 0 ≤ x := by rw [hx]; exact (letN_of hp).1
              have HV := Lib.hid hx.symm
              clear hx
              clear hg hin hp
              go_wp2_with (go_at_call 61; refine (rfLetter_any _ _).mono ?_; rintro e w' ⟨rfl, rfl⟩; rw [HV.out])
              go_meet
              case rel => exact ⟨by rw [HIN.out], rfl⟩
            · have hke : k = p := by omega
              have hp : letB (s[k]'hlt) = false := wh_out letB s.data.toList a _ (by rw [Rp.out, ← hke]; exact hg)
              have HIN := Lib.hid (decide_eq_false hin)
              have HV := Lib.hid (letN_not hp)
              clear hg hin hp hke
              go_wp2_with (go_at_call 61; refine (rfLetter_any _ _).mono ?_; rintro e w' ⟨rfl, rfl⟩; rw [HV.out])
              go_meet
              case rel => exact ⟨by rw [HIN.out], rfl⟩
          · have HIN := Lib.hid (decide_eq_false (show ¬ k < p by omega))
            go_wp2_with fail
            go_meet
            case rel => exact ⟨by rw [HIN.out], rfl⟩
        case rest =>
          obtain ⟨rfl, rfl⟩ := hcut
          by_cases hin : k < p
          · rw [decide_eq_true hin]
            go_wp2_with fail
            go_round
            case rel => exact ⟨k + 1, by go_num, by omega, by omega⟩
            case measure => simp [intOf]; omega
          · obtain rfl : p = k := by omega
            rw [decide_eq_false hin]
            clear hin hk1 hk2
            go_upto_region 10 with (fail)
            go_cut [48] from 39 (fun v W => v = .bool (decide (b = 1)) ∧ W = ((w.alloc (.cells #[.int .i64 0, .int .i64 0, .int .i64 0, .bool false, .bool false] 64)).alloc (.cells #[.int .i64 0, .int .i64 0, .int .i64 0, .bool pc, .bool false] 64)))
            case first =>
              by_cases hlt : p < s.size
              · have hg : s.data.toList[p]? = some (s[p]'hlt) := by rw [List.getElem?_eq_getElem (by simpa using hlt)]; rfl
                by_cases h36 : (s[p]'hlt) = 36
                · have hk1 : b = 1 := by rw [← Hb.out]; unfold dol; rw [hg, h36, if_pos rfl]
                  have hb : (((s[p]'hlt).toNat : Int) == 36) = true := by rw [h36]; rfl
                  have HK := Lib.hid hk1
                  clear hk1 hg h36
                  go_wp2_with fail
                  go_meet
                  case rel => exact ⟨by rw [HK.out]; rfl, rfl⟩
                · have hk1 : b = 0 := by rw [← Hb.out]; unfold dol; rw [hg, if_neg (fun e => h36 (Option.some.inj e))]
                  have hb : (((s[p]'hlt).toNat : Int) == 36) = false := by
                    rw [beq_eq_false_iff_ne]
                    intro e
                    exact h36 (UInt8.toNat_inj.1 (by have : (36 : UInt8).toNat = 36 := rfl; omega))
                  have HK := Lib.hid hk1
                  clear hk1 hg h36
                  go_wp2_with fail
                  go_meet
                  case rel => exact ⟨by rw [HK.out]; rfl, rfl⟩
              · have hk1 : b = 0 := by rw [← Hb.out]; unfold dol; rw [List.getElem?_eq_none (by rw [← Lib.size_eq]; omega), if_neg (by simp)]
                have HK := Lib.hid hk1
                clear hk1
                go_wp2_with fail
                go_meet
                case rel => exact ⟨by rw [HK.out]; rfl, rfl⟩
            case rest =>
              obtain ⟨rfl, rfl⟩ := hcut
              go_upto_if 48 with (fail)
              go_cut [4] from 49 (fun v W => v = .int .i64 (q : Int) ∧ W = ((w.alloc (.cells #[.int .i64 0, .int .i64 0, .int .i64 0, .bool false, .bool false] 64)).alloc (.cells #[.int .i64 0, .int .i64 0, .int .i64 0, .bool pc, .bool (decide (b = 1))] 64)))
              case first =>
                rcases (show b = 0 ∨ b = 1 by omega) with hk1 | hk1
                · subst hk1
                  go_wp2_with fail
                  go_meet
                  case rel => exact ⟨congrArg (Value.int IntKind.i64) (by have := Hq.out; omega), rfl⟩
                · subst hk1
                  go_wp2_with fail
                  go_meet
                  case rel => exact ⟨congrArg (Value.int IntKind.i64) (by have := Hq.out; omega), rfl⟩
              case rest =>
                obtain ⟨rfl, rfl⟩ := hcut
                obtain ⟨pr, hpr⟩ : ∃ pr, pr = decide (b = 1) := ⟨_, rfl⟩
                have HPR := Lib.hid hpr
                rw [← hpr]
                clear hpr
                go_wp2_with fail
                go_loop [4] (fun i => ∃ k : Nat, i = .int .i64 k ∧ q ≤ k ∧ k ≤ r) (fun i => s.size - (intOf i).toNat)
                case atStart => exact ⟨q, rfl, Nat.le_refl _, (by omega)⟩
                case round =>
                  obtain ⟨k, rfl, hk1, hk2⟩ := hrel
                  go_upto_region 14 with (fail)
                  go_cut [62] from 53 to 64 (fun v W => v = .bool (decide (k < r)) ∧ W = ((w.alloc (.cells #[.int .i64 0, .int .i64 0, .int .i64 0, .bool false, .bool false] 64)).alloc (.cells #[.int .i64 0, .int .i64 0, .int .i64 0, .bool pc, .bool pr] 64)))
                  case first =>
                    by_cases hlt : k < s.size
                    · have hg : s.data.toList[k]? = some (s[k]'hlt) := by rw [List.getElem?_eq_getElem (by simpa using hlt)]; rfl
                      by_cases hin : k < r
                      · have hp : digB (s[k]'hlt) = true := wh_in digB s.data.toList q k hk1 (by rw [Rr.out]; exact hin) _ hg
                        have HIN := Lib.hid (decide_eq_true hin)
                        have HV := Lib.hid hp
                        clear hg hin hp
                        go_wp2_with (go_at_call 62; refine (rfDigit_any _ _).mono ?_; rintro e w' ⟨rfl, rfl⟩; rw [HV.out])
                        go_meet
                        case rel => exact ⟨by rw [HIN.out], rfl⟩
                      · have hke : k = r := by omega
                        have hp : digB (s[k]'hlt) = false := wh_out digB s.data.toList q _ (by rw [Rr.out, ← hke]; exact hg)
                        have HIN := Lib.hid (decide_eq_false hin)
                        have HV := Lib.hid hp
                        clear hg hin hp hke
                        go_wp2_with (go_at_call 62; refine (rfDigit_any _ _).mono ?_; rintro e w' ⟨rfl, rfl⟩; rw [HV.out])
                        go_meet
                        case rel => exact ⟨by rw [HIN.out], rfl⟩
                    · have HIN := Lib.hid (decide_eq_false (show ¬ k < r by omega))
                      go_wp2_with fail
                      go_meet
                      case rel => exact ⟨by rw [HIN.out], rfl⟩
                  case rest =>
                    obtain ⟨rfl, rfl⟩ := hcut
                    by_cases hin : k < r
                    · rw [decide_eq_true hin]
                      go_wp2_with fail
                      go_round
                      case rel => exact ⟨k + 1, by go_num, by omega, by omega⟩
                      case measure => simp [intOf]; omega
                    · obtain rfl : r = k := by omega
                      rw [decide_eq_false hin]
                      clear hin hk1 hk2
                      go_upto_region 17 with (fail)
                      have ew : (s.extract a p).data.toList = (s.data.toList.drop a).take n := by
                        rw [Lib.extract_data, show p - a = n by have := Hp.out; omega]
                      have ed : (s.extract q r).data.toList = (s.data.toList.drop (a + n + b)).take m := by
                        rw [Lib.extract_data, show r - q = m by have := Hr.out; omega, show a + n + b = q by have := Hq.out; have := Hp.out; omega]
                      have zw : (s.extract a p).size = p - a := by rw [ByteArray.size_extract]; omega
                      have zd : (s.extract q r).size = r - q := by rw [ByteArray.size_extract]; omega
                      have aw : (s.extract a p).data.toList.all letB = true := by rw [ew, show n = wh letB (s.data.toList.drop a) by have := Rp.out; have := Hp.out; omega]; exact wh_all _ _
                      have ad : (s.extract q r).data.toList.all digB = true := by rw [ed, show a + n + b = q by have := Hq.out; have := Hp.out; omega, show m = wh digB (s.data.toList.drop q) by have := Rr.out; have := Hr.out; omega]; exact wh_all _ _
                      have hz : ∀ h : 0 < (s.extract q r).size, s.data.toList[a + n + b]? = some ((s.extract q r)[0]'h) := fun h => by
                        have h1 : (s.extract q r).data.toList[0]? = some ((s.extract q r)[0]'h) := by rw [List.getElem?_eq_getElem (by have := h; rw [Lib.size_eq] at this; exact this)]; rfl
                        rw [ed, List.getElem?_take, if_pos (by have := Hr.out; omega), List.getElem?_drop, Nat.add_zero] at h1
                        exact h1
                      generalize s.extract a p = ws at ew zw aw ⊢
                      generalize s.extract q r = ds at ed zd ad hz ⊢
                      have fe := FE.out
                      rw [← ew, ← ed] at fe
                      have nw : n = ws.size := by have := Hp.out; omega
                      have nd : m = ds.size := by have := Hr.out; omega
                      rw [show a + n + b + m = r by have := Hp.out; have := Hq.out; have := Hr.out; omega, ← HPC.out, ← HPR.out] at fe
                      have FE2 := Lib.hid fe
                      have HZ := Lib.hid hz; have NW := Lib.hid nw; have ND := Lib.hid nd; have AW := Lib.hid aw; have AD := Lib.hid ad
                      clear FE ew ed zw zd aw ad hz fe nw nd
                      by_cases hw : ws.size = 0
                      · have hw0 : ws.toList = [] := by rw [ByteArray.toList_eq]; exact List.length_eq_zero_iff.1 (by rw [← Lib.size_eq]; exact hw)
                        have HF := Lib.hid (show FmVal s.data.toList = .agg #[.int .i64 0, .int .i64 0, .int .i64 0, .bool false, .bool false] by unfold FmVal; rw [FE2.out, if_pos (.inl (by rw [NW.out]; exact hw))])
                        clear hw
                        go_wp2
                        exact bodyPost_ret (v := .agg #[.int .i64 0, .int .i64 0, .int .i64 0, .bool false, .bool false]) (by simp [results, Tryz.results42, go_sem]) rfl ⟨by rw [HF.out], ext_alloc (ext_alloc (Below.refl _ _) _) _⟩
                      · have hw1 : ws.toList ≠ [] := fun e => by rw [ByteArray.toList_eq] at e; exact hw (by rw [Lib.size_eq, e]; rfl)
                        have hw2 : ws.toList.isEmpty = false := by cases h : ws.toList with | nil => exact absurd h hw1 | cons _ _ => rfl
                        by_cases hd : ds.size = 0
                        · have hd0 : ds.toList = [] := by rw [ByteArray.toList_eq]; exact List.length_eq_zero_iff.1 (by rw [← Lib.size_eq]; exact hd)
                          have HF := Lib.hid (show FmVal s.data.toList = .agg #[.int .i64 0, .int .i64 0, .int .i64 0, .bool false, .bool false] by unfold FmVal; rw [FE2.out, if_pos (.inr (.inl (by rw [ND.out]; exact hd)))])
                          clear hw hd
                          go_wp2
                          exact bodyPost_ret (v := .agg #[.int .i64 0, .int .i64 0, .int .i64 0, .bool false, .bool false]) (by simp [results, Tryz.results42, go_sem]) rfl ⟨by rw [HF.out], ext_alloc (ext_alloc (Below.refl _ _) _) _⟩
                        · have hd1 : ds.toList ≠ [] := fun e => by rw [ByteArray.toList_eq] at e; exact hd (by rw [Lib.size_eq, e]; rfl)
                          have hd2 : ds.toList.isEmpty = false := by cases h : ds.toList with | nil => exact absurd h hd1 | cons _ _ => rfl
                          have hd3 : 0 < ds.size := by omega
                          by_cases h48 : (ds[0]'hd3) = 48
                          · have hb48 : (((ds[0]'hd3).toNat : Int) == 48) = true := by rw [h48]; rfl
                            have HF := Lib.hid (show FmVal s.data.toList = .agg #[.int .i64 0, .int .i64 0, .int .i64 0, .bool false, .bool false] by unfold FmVal; rw [FE2.out, if_pos (.inr (.inr (by rw [HZ.out hd3, h48])))])
                            clear hw hd h48
                            go_wp2
                            exact bodyPost_ret (v := .agg #[.int .i64 0, .int .i64 0, .int .i64 0, .bool false, .bool false]) (by simp [results, Tryz.results42, go_sem]) rfl ⟨by rw [HF.out], ext_alloc (ext_alloc (Below.refl _ _) _) _⟩
                          · have hb48 : (((ds[0]'hd3).toNat : Int) == 48) = false := by
                              rw [beq_eq_false_iff_ne]
                              intro e
                              exact h48 (UInt8.toNat_inj.1 (by have : (48 : UInt8).toNat = 48 := rfl; omega))
                            obtain ⟨cv, hcv⟩ : ∃ cv, colN ws.data.toList = cv := ⟨_, rfl⟩
                            obtain ⟨rv, hrv⟩ : ∃ rv, rowN ds.data.toList = rv := ⟨_, rfl⟩
                            have HF := Lib.hid (show FmVal s.data.toList = .agg #[.int .i64 r, .int .i64 cv, .int .i64 rv, .bool pc, .bool pr] by
                              unfold FmVal
                              rw [FE2.out, if_neg (by
                                rintro (h | h | h)
                                · exact hw (by rw [← NW.out]; exact h)
                                · exact hd (by rw [← ND.out]; exact h)
                                · rw [HZ.out hd3] at h; exact h48 (Option.some.inj h)), hcv, hrv])
                            have zws : ws.size ≤ 140737488355328 := by have := NW.out; have := Hp.out; omega
                            have zds : ds.size ≤ 140737488355328 := by have := ND.out; have := Hr.out; omega
                            have cc := fun W => rfColumn_any ws W zws
                            have cr := fun W => rfRow_any ds W zds AD.out
                            rw [hcv] at cc
                            rw [hrv] at cr
                            have CC := Lib.hid cc; have CR := Lib.hid cr
                            clear hw hd h48 hcv hrv cc cr
                            go_wp2_with fail
                            refine (CC.out _).mono ?_
                            rintro e w2 ⟨he, b2⟩
                            subst he
                            obtain ⟨z0, k0, k1⟩ := kept_block2 b2
                            obtain ⟨f0, f1⟩ := kept_free2 b2
                            have BB := Lib.hid ((ext_alloc (ext_alloc (Below.refl w.heap.size w) (.cells #[.int .i64 0, .int .i64 0, .int .i64 0, .bool false, .bool false] 64)) (.cells #[.int .i64 r, .int .i64 0, .int .i64 0, .bool pc, .bool pr] 64)).trans (b2.mono (by simp; omega)))
                            clear b2
                            go_wp2_with fail
                            refine (CR.out _).mono ?_
                            rintro e w' ⟨rfl, rfl⟩
                            go_wp2
                            exact bodyPost_ret (v := .agg #[.int .i64 r, .int .i64 cv, .int .i64 rv, .bool pc, .bool pr]) (by simp [results, Tryz.results42, go_sem, k0]) rfl ⟨by rw [HF.out], (by repeat (first | (with_reducible exact BB.out) | (with_reducible refine Below.setCell ?_ (by first | exact Nat.le_refl _ | exact Nat.le_succ _) _)))⟩
end Go.Proofs.YtikahfnlflhbfaaGreatDoor
