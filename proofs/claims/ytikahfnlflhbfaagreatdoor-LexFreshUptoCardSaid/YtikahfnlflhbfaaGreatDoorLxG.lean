/- A formula's words: a run that begins with a digit. -/
import Derived.Test.YtikahfnlflhbfaaGreatDoorLxF
import Derived.Test.YtikahfnlflhbfaaGreatDoorLxD
import Derived.Deep.CutRange
import Derived.Deep.Cut
namespace Go.Proofs.YtikahfnlflhbfaaGreatDoor
open Go.RowKit Go.Lib

theorem wh_in8 (p : UInt8 → Bool) (l : List UInt8) (a k : Nat) (h1 : a ≤ k) (h2 : k < a + wh p (l.drop a)) (c : UInt8) (hc : l[k]? = some c) : p c = true := by
  have h := wh_all p (l.drop a)
  have hk : ((l.drop a).take (wh p (l.drop a)))[k - a]? = some c := by
    rw [List.getElem?_take, if_pos (by omega), List.getElem?_drop, show a + (k - a) = k by omega]; exact hc
  exact List.all_eq_true.1 h c (List.mem_of_getElem? hk)
theorem wh_out8 (p : UInt8 → Bool) (l : List UInt8) (a : Nat) (c : UInt8) (hc : l[a + wh p (l.drop a)]? = some c) : p c = false :=
  wh_next p (l.drop a) c (by rw [List.getElem?_drop]; exact hc)
theorem in_lt8 {c : UInt8} (h : inB c = true) : ((c.toNat : Int) < 128) ∧ c.toNat < 128 := by
  have h1 : c.toNat < 128 := by
    unfold inB letB digB at h
    simp only [Bool.or_eq_true, Bool.and_eq_true, decide_eq_true_eq, beq_iff_eq] at h
    rcases h with ((h | h) | h) | h
    · omega
    · omega
    · subst h; decide
    · subst h; decide
  exact ⟨by omega, h1⟩
theorem ext_list (s : ByteArray) (p q : Nat) : (s.extract p q).data.toList = (s.data.toList.drop p).take (q - p) := by
  rw [Lib.extract_data]
theorem dec_ret {c : Bool} {b : Bool} (h : c = b) : Value.bool c = Value.bool b := by rw [h]
theorem strip_drop : ∀ (l : List UInt8), l ≠ [] → stripZ l = if l.dropWhile (· == 48) = [] then [48] else l.dropWhile (· == 48)
  | [], h => absurd rfl h
  | [c], _ => by
    by_cases hc : c = 48
    · subst hc; rfl
    · have e : [c].dropWhile (· == 48) = [c] := List.dropWhile_cons_of_neg (by simpa using hc)
      rw [e, if_neg (by simp)]; rfl
  | c :: d :: r, _ => by
    by_cases hc : c = 48
    · subst hc
      rw [List.dropWhile_cons_of_pos (by rfl)]
      rw [← strip_drop (d :: r) (by simp)]
      simp only [stripZ, if_true]
    · have e : (c :: d :: r).dropWhile (· == 48) = c :: d :: r := List.dropWhile_cons_of_neg (by simpa using hc)
      rw [e, if_neg (by simp)]
      simp only [stripZ, if_neg hc]
theorem strip_facts : ∀ (l : List UInt8), l ≠ [] → l.all digB = true → stripZ l ≠ [] ∧ (stripZ l).all digB = true ∧ (stripZ l = [48] ∨ (stripZ l)[0]? ≠ some 48) ∧ digV 0 (stripZ l) = digV 0 l ∧ (stripZ l).length ≤ l.length
  | [], h, _ => absurd rfl h
  | [c], _, ha => by
    refine ⟨by simp [stripZ], by simpa [stripZ] using ha, ?_, rfl, by simp [stripZ]⟩
    by_cases hc : c = 48
    · left; subst hc; rfl
    · right; simpa [stripZ] using hc
  | c :: d :: r, _, ha => by
    by_cases hc : c = 48
    · subst hc
      simp only [List.all_cons, Bool.and_eq_true] at ha
      obtain ⟨h1, h2, h3, h4, h5⟩ := strip_facts (d :: r) (by simp) (by simp only [List.all_cons, Bool.and_eq_true]; exact ha.2)
      have e : stripZ (48 :: d :: r) = stripZ (d :: r) := by simp only [stripZ, if_true]
      rw [e]
      refine ⟨h1, h2, h3, ?_, by simp only [List.length_cons] at h5 ⊢; omega⟩
      rw [h4]; rfl
    · have e : stripZ (c :: d :: r) = c :: d :: r := by simp only [stripZ, if_neg hc]
      rw [e]
      exact ⟨by simp, ha, Or.inr (by simpa using hc), rfl, Nat.le_refl _⟩
set_option maxRecDepth 100000 in
set_option maxHeartbeats 4000000 in
theorem lxRun_num (C : Nat) (s : ByteArray) (ws : List WordL) (p : Nat) (y : Int) (w : World) (hS : CutS C s ws w) (L : LaidX w) (hp : p < s.size) (hs : s.size ≤ 65535) (hn : ws.length ≤ 100000) (hy : Hid (y = (s[p].toNat : Int))) (hi : inB s[p] = true) (hd : digB s[p] = true) :
    Calls Tryz.prog 23 #[.pointer (some ⟨C, 0, none⟩), .int .i64 p, .int .i32 y] w (WordPost C s ws w p (numberL (s.data.toList.drop p))) := by
  have c0 := hS.cells
  have HS := Lib.hid hS
  have HL := Lib.hid L
  have hlen : s.data.toList.length = s.size := (Lib.size_eq s).symm
  have HD : Hid (digitI y = true) := Lib.hid (by rw [hy.out, digitI_of, hd])
  have hnl := wh_le inB (s.data.toList.drop p)
  have hn1 : 1 ≤ wh inB (s.data.toList.drop p) := by
    rw [List.drop_eq_getElem_cons (by rw [hlen]; exact hp)]
    exact wh_pos hi
  rw [List.length_drop, hlen] at hnl
  obtain ⟨q, hq⟩ : ∃ q, q = p + wh inB (s.data.toList.drop p) := ⟨_, rfl⟩
  have hq1 : p + 1 ≤ q := by omega
  have hq2 : q ≤ s.size := by omega
  have HIN : Hid (∀ (k : Nat) (hk : k < s.size), p ≤ k → k < q → inB s[k] = true) := Lib.hid fun k hk h1 h2 => wh_in8 inB s.data.toList p k h1 (by omega) _ (get8 hk)
  have HOUT : Hid (∀ hk : q < s.size, inB s[q] = false) := Lib.hid fun hk => wh_out8 inB s.data.toList p _ (by rw [← hq]; exact get8 hk)
  obtain ⟨u, hu⟩ : ∃ u, u = s.extract p q := ⟨_, rfl⟩
  have hul : u.data.toList = (s.data.toList.drop p).take (wh inB (s.data.toList.drop p)) := by rw [hu, ext_list s p q, show q - p = wh inB (s.data.toList.drop p) by omega]
  have hus : u.size = q - p := by rw [Lib.size_eq, hul, take_len (by rw [List.length_drop]; omega)]; omega
  have hall := wh_all inB (s.data.toList.drop p)
  rw [← hul] at hall
  obtain ⟨cal, hcal⟩ : ∃ cal, cal = decide (s.data.toList[q]? = some 40) := ⟨_, rfl⟩
  have HCL := Lib.hid hcal
  have HU := Lib.hid hu
  obtain ⟨G, hG⟩ : ∃ G, numberL (s.data.toList.drop p) = G := ⟨_, rfl⟩
  rw [hG]
  unfold numberL at hG
  simp only at hG
  rw [← hul] at hG
  have hwn : wh inB (s.data.toList.drop p) = q - p := by omega
  rw [hwn] at hG
  have hhd : ((s.data.toList.drop p).drop (q - p)).head? = s.data.toList[q]? := by rw [List.drop_drop, List.head?_drop, show p + (q - p) = q by omega]
  clear hhd
  have hhd := True.intro
  have HG := Lib.hid hG
  have HUS := Lib.hid hus
  have HALL := Lib.hid hall
  have hu0 : 0 < u.size := by omega
  have hu1 : u.size ≤ 65535 := by omega
  clear hS L hlen hi hd hnl hn1 hq hul hwn hhd hall hcal hu hG hus
  go_enter Tryz.func23, Tryz.ntmps23
  go_wp2
  go_loop [8] (fun i => ∃ k : Nat, i = .int .i64 k ∧ p ≤ k ∧ k ≤ q) (fun i => s.size - (intOf i).toNat)
  case atStart => exact ⟨p, rfl, Nat.le_refl _, by omega⟩
  case round =>
    obtain ⟨k, rfl, hk1, hk2⟩ := hrel
    go_upto_region 2 with (fail)
    go_cut [44] from 19 to 46 (fun v W => v = .bool (decide (k < q)) ∧ W = w)
    case first =>
      by_cases hlt : k < s.size
      · by_cases hin : k < q
        · have hb := HIN.out k hlt hk1 hin
          obtain ⟨h128, -⟩ := in_lt8 hb
          have HK := Lib.hid (decide_eq_true hin)
          have HW : Hid (withinI (s[k].toNat : Int) = true) := Lib.hid (by rw [withinI_of, hb])
          clear hb hin
          go_wp2_with (go_at_call 33; refine (lxWithin_is _ _ HW _).mono ?_; rintro e w' ⟨rfl, rfl⟩)
          go_meet
          case rel => exact ⟨by rw [HK.out], rfl⟩
        · have hb : inB s[k] = false := by
            have hkq : k = q := by omega
            subst hkq
            exact HOUT.out hlt
          have HK := Lib.hid (decide_eq_false hin)
          have HW : Hid (withinI (s[k].toNat : Int) = false) := Lib.hid (by rw [withinI_of, hb])
          clear hb hin
          by_cases h128 : (s[k].toNat : Int) < 128
          · go_wp2_with (go_at_call 33; refine (lxWithin_is _ _ HW _).mono ?_; rintro e w' ⟨rfl, rfl⟩)
            go_meet
            case rel => exact ⟨by rw [HK.out], rfl⟩
          · go_wp2_with fail
            go_meet
            case rel => exact ⟨by rw [HK.out], rfl⟩
      · have HK := Lib.hid (decide_eq_false (show ¬ k < q by omega))
        go_wp2_with fail
        go_meet
        case rel => exact ⟨by rw [HK.out], rfl⟩
    case rest =>
      obtain ⟨rfl, hwc⟩ := hcut
      obtain rfl := hwc.symm
      by_cases hin : k < q
      · rw [decide_eq_true hin]
        go_wp2_with fail
        go_round
        case rel => exact ⟨k + 1, by go_num, by omega, by omega⟩
        case measure => simp [intOf]; omega
      · obtain rfl : q = k := by omega
        rw [decide_eq_false hin]
        clear hin hk1 hk2
        go_upto_region 5 with (fail)
        rw [← HU.out]
        go_cut [10] from 54 (fun v W => v = .bool cal ∧ W = w)
        case first =>
          by_cases hlt : q < s.size
          · have hg := get8 hlt
            by_cases h40 : s[q] = 40
            · have HC : Hid (cal = true) := Lib.hid (by rw [HCL.out, hg, h40]; simp)
              have hb : ((s[q].toNat : Int) == 40) = true := by rw [h40]; rfl
              clear hg h40
              go_wp2_with fail
              go_meet
              case rel => exact ⟨by rw [HC.out], rfl⟩
            · have HC : Hid (cal = false) := Lib.hid (by rw [HCL.out, hg]; simpa using h40)
              have hb : ((s[q].toNat : Int) == 40) = false := by
                rw [beq_eq_false_iff_ne]
                intro e
                exact h40 (UInt8.toNat_inj.1 (by show s[q].toNat = 40; omega))
              clear hg h40
              go_wp2_with fail
              go_meet
              case rel => exact ⟨by rw [HC.out], rfl⟩
          · have HC : Hid (cal = false) := Lib.hid (by rw [HCL.out, List.getElem?_eq_none (by rw [← Lib.size_eq]; omega)]; simp)
            go_wp2_with fail
            go_meet
            case rel => exact ⟨by rw [HC.out], rfl⟩
        case rest =>
          obtain ⟨rfl, hwc⟩ := hcut
          obtain rfl := hwc.symm
          go_wp2_with fail
          refine (lxCapital_any u w HL.out hu1 (fun c hc => (in_lt8 (List.all_eq_true.1 HALL.out c hc)).2)).mono ?_
          rintro e w2 ⟨rfl, b2⟩
          have HS2 := Lib.hid (HS.out.kept b2)
          have HL2 := Lib.hid (HL.out.kept b2)
          have B2 := Lib.hid b2
          clear b2 c0
          obtain ⟨ad, had⟩ : ∃ ad, u.data.toList.all digB = ad := ⟨_, rfl⟩
          have HAD := Lib.hid had
          have HA128 : Hid (∀ (j : Nat) (c : UInt8), u.data.toList[j]? = some c → c.toNat < 128) := Lib.hid fun j c hc => (in_lt8 (List.all_eq_true.1 HALL.out c (List.mem_of_getElem? hc))).2
          clear had
          cases ad
          · go_wp2_with (first | (go_at_call 21; refine (lxDigit_is _ _ HD _).mono ?_; rintro e w' ⟨rfl, rfl⟩) | (go_at_call 35; refine (lxOnly_dig u _ hu0 HA128 _ HAD).mono ?_; rintro e w3 ⟨rfl, b3⟩))
            go_ret2
            have hg := HG.out
            rw [HAD.out, if_pos rfl] at hg
            rw [← hg]
            exact word_err rfl (by decide) (B2.out.trans (b3.mono B2.out.size)) HS.out
          · have hne : u.data.toList ≠ [] := fun e => by have := congrArg List.length e; rw [← Lib.size_eq, List.length_nil] at this; omega
            obtain ⟨s1, s2, s3, s4, s5⟩ := strip_facts u.data.toList hne HAD.out
            have hsd := strip_drop u.data.toList hne
            obtain ⟨T, hT⟩ : ∃ T, T = stripZ u.data.toList := ⟨_, rfl⟩
            rw [← hT] at s1 s2 s3 s4 s5 hsd
            rw [← Lib.size_eq] at s5
            have hts : (strB T).size = T.length := strB_size T
            have ht0 : 0 < (strB T).size := by rw [hts]; exact List.length_pos_iff.2 s1
            have ht1 : (strB T).size ≤ 65535 := by omega
            have HS1 : Hid ((strB T).data.toList.all digB = true) := Lib.hid s2
            have HS3 : Hid (strB T = ⟨#[48]⟩ ∨ (strB T).data.toList[0]? ≠ some 48) := Lib.hid (s3.imp (fun e => by rw [e]; rfl) id)
            obtain ⟨bq, hbq⟩ : ∃ bq, decide (9223372036854775807 < digV 0 T) = bq := ⟨_, rfl⟩
            have HQ : Hid (decide (9223372036854775807 < digV 0 (strB T).data.toList) = bq) := Lib.hid hbq
            have HQ2 : Hid (decide (9223372036854775807 < digV 0 u.data.toList) = bq) := Lib.hid (by rw [← s4]; exact hbq)
            have HT := Lib.hid hT
            have HSD := Lib.hid hsd
            clear hne s1 s2 s3 s4 s5 hsd hT hts hbq
            go_upto_region 10 with (first | (go_at_call 21; refine (lxDigit_is _ _ HD _).mono ?_; rintro e w' ⟨rfl, rfl⟩) | (go_at_call 35; refine (lxOnly_dig u _ hu0 HA128 _ HAD).mono ?_; rintro e w3 ⟨rfl, b3⟩))
            have HS4 := Lib.hid (HS2.out.kept b3)
            have HL4 := Lib.hid (HL2.out.kept b3)
            have B4 := Lib.hid (B2.out.trans (b3.mono B2.out.size))
            clear b3
            obtain ⟨t0, ht⟩ : ∃ t0 : ByteArray, t0 = ⟨(trimLeftB u.data.toList 48).toArray⟩ := ⟨_, rfl⟩
            have CT : Hid (Calls Tryz.prog 36 #[.string u, .string ⟨#[48]⟩] w3 fun e w' => e = .returned (.string t0) ∧ w3 = w') := Lib.hid (by rw [ht]; exact (Tryz.strings_TrimLeft_one u 48 (by decide) w3).mono fun _ _ ⟨h1, h2⟩ => ⟨h1, h2.symm⟩)
            by_cases hz : trimLeftB u.data.toList 48 = []
            · have HV : Hid (T = [48]) := Lib.hid (by rw [HSD.out]; unfold trimLeftB at hz; rw [if_pos hz])
              have ht2 : t0 = ⟨#[]⟩ := by rw [ht, hz]
              have f1 : t0.toList.isEmpty = true := by rw [ht2, Lib.toList_data]; rfl
              have f2 : (t0.toList == []) = true := by rw [ht2, Lib.toList_data]; rfl
              have f3 : t0.toList = [] := by rw [ht2, Lib.toList_data]
              clear hz ht ht2
              cases bq
              · have CR : Hid (Calls Tryz.prog 37 #[.string ⟨#[48]⟩] w3 fun e w' => (∃ v, e = .returned (.tuple #[.int .i64 v, .int .i64 0])) ∧ Below w3.heap.size w3 w') := Lib.hid (by rw [show (⟨#[48]⟩ : ByteArray) = strB T by rw [HV.out]; rfl]; exact wholeRead_any (strB T) w3 HL4.out ht1 ht0 HS1.out HS3.out false HQ)
                go_wp2_with (first | (go_at_call 36; (with_reducible refine (CT.out).mono ?_); rintro e w' ⟨rfl, rfl⟩) | (go_at_call 37; (with_reducible refine (CR.out).mono ?_); rintro e w4 ⟨⟨v, rfl⟩, b5⟩; have HS5 := Lib.hid (HS4.out.kept b5); have B5 := Lib.hid (B4.out.trans (b5.mono B4.out.size)); clear b5))
                have CP : Hid (∀ nx : Int, Calls Tryz.prog 26 #[.pointer (some ⟨C, 0, none⟩), .int .i64 1, .string ⟨#[48]⟩, .int .i64 p, .int .i64 nx] w4 (PutPost C s (ws ++ [⟨1, T, p⟩]) w4 nx 0)) := Lib.hid fun nx => by rw [show (⟨#[48]⟩ : ByteArray) = strB T by rw [HV.out]; rfl]; exact lxPut_any C s ws ⟨1, T, p⟩ nx w4 HS5.out hn
                refine (CP.out _).mono ?_
                rintro e w6 ⟨rfl, h1, h2⟩
                go_wp2
                go_ret2
                have hg := HG.out
                rw [HAD.out, if_neg (by simp), if_neg (of_decide_eq_false HQ2.out), ← HT.out] at hg
                rw [← hg]
                exact word_put rfl (by simp; omega) B5.out HS.out.lt h1 h2
              · have CR : Hid (Calls Tryz.prog 37 #[.string ⟨#[48]⟩] w3 fun e w' => (∃ v, e = .returned (.tuple #[.int .i64 v, .int .i64 13])) ∧ Below w3.heap.size w3 w') := Lib.hid (by rw [show (⟨#[48]⟩ : ByteArray) = strB T by rw [HV.out]; rfl]; exact wholeRead_any (strB T) w3 HL4.out ht1 ht0 HS1.out HS3.out true HQ)
                go_wp2_with (first | (go_at_call 36; (with_reducible refine (CT.out).mono ?_); rintro e w' ⟨rfl, rfl⟩) | (go_at_call 37; (with_reducible refine (CR.out).mono ?_); rintro e w4 ⟨⟨v, rfl⟩, b5⟩))
                go_ret2
                have hg := HG.out
                rw [HAD.out, if_neg (by simp), if_pos (of_decide_eq_true HQ2.out)] at hg
                rw [← hg]
                exact word_err rfl (by decide) (B4.out.trans (b5.mono B4.out.size)) HS.out
            · have HV : Hid (t0 = strB T) := Lib.hid (by rw [ht, HSD.out]; unfold trimLeftB at hz ⊢; rw [if_neg hz]; rfl)
              obtain ⟨f1, f2, f3⟩ := strE_facts (s := t0) (by rw [HV.out]; exact ht0)
              clear hz ht
              cases bq
              · have CR : Hid (Calls Tryz.prog 37 #[.string t0] w3 fun e w' => (∃ v, e = .returned (.tuple #[.int .i64 v, .int .i64 0])) ∧ Below w3.heap.size w3 w') := Lib.hid (by rw [HV.out]; exact wholeRead_any (strB T) w3 HL4.out ht1 ht0 HS1.out HS3.out false HQ)
                go_wp2_with (first | (go_at_call 36; (with_reducible refine (CT.out).mono ?_); rintro e w' ⟨rfl, rfl⟩) | (go_at_call 37; (with_reducible refine (CR.out).mono ?_); rintro e w4 ⟨⟨v, rfl⟩, b5⟩; have HS5 := Lib.hid (HS4.out.kept b5); have B5 := Lib.hid (B4.out.trans (b5.mono B4.out.size)); clear b5))
                have CP : Hid (∀ nx : Int, Calls Tryz.prog 26 #[.pointer (some ⟨C, 0, none⟩), .int .i64 1, .string t0, .int .i64 p, .int .i64 nx] w4 (PutPost C s (ws ++ [⟨1, T, p⟩]) w4 nx 0)) := Lib.hid fun nx => by rw [HV.out]; exact lxPut_any C s ws ⟨1, T, p⟩ nx w4 HS5.out hn
                refine (CP.out _).mono ?_
                rintro e w6 ⟨rfl, h1, h2⟩
                go_wp2
                go_ret2
                have hg := HG.out
                rw [HAD.out, if_neg (by simp), if_neg (of_decide_eq_false HQ2.out), ← HT.out] at hg
                rw [← hg]
                exact word_put rfl (by simp; omega) B5.out HS.out.lt h1 h2
              · have CR : Hid (Calls Tryz.prog 37 #[.string t0] w3 fun e w' => (∃ v, e = .returned (.tuple #[.int .i64 v, .int .i64 13])) ∧ Below w3.heap.size w3 w') := Lib.hid (by rw [HV.out]; exact wholeRead_any (strB T) w3 HL4.out ht1 ht0 HS1.out HS3.out true HQ)
                go_wp2_with (first | (go_at_call 36; (with_reducible refine (CT.out).mono ?_); rintro e w' ⟨rfl, rfl⟩) | (go_at_call 37; (with_reducible refine (CR.out).mono ?_); rintro e w4 ⟨⟨v, rfl⟩, b5⟩))
                go_ret2
                have hg := HG.out
                rw [HAD.out, if_neg (by simp), if_pos (of_decide_eq_true HQ2.out)] at hg
                rw [← hg]
                exact word_err rfl (by decide) (B4.out.trans (b5.mono B4.out.size)) HS.out
end Go.Proofs.YtikahfnlflhbfaaGreatDoor
