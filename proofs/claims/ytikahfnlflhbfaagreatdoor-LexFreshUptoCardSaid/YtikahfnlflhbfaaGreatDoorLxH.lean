/- A formula's words: a run that does not begin with a digit. -/
import Derived.Test.YtikahfnlflhbfaaGreatDoorLxG
import Derived.Test.YtikahfnlflhbfaaGreatDoorLxSf
namespace Go.Proofs.YtikahfnlflhbfaaGreatDoor
open Go.RowKit Go.Lib

theorem refAns_e (l : List UInt8) : (refAns l).e = 0 ∨ (refAns l).e = 10 ∨ (refAns l).n = 0 := by
  unfold refAns
  split
  · right; right; rfl
  · split
    · left; rfl
    · right; left; rfl
theorem beq_dec (a b : List UInt8) : (a == b) = decide (a = b) := by rw [Bool.eq_iff_iff]; simp
theorem strB_is (l : List UInt8) : (strB l).toList = l := by rw [Lib.toList_data]; rfl
theorem nameB_eq {s : ByteArray} (h : 0 < s.size) : nameB s.data.toList = (s.data.toList.all alnB && letB s[0]) := by
  unfold nameB
  have hl : 0 < s.data.toList.length := by rw [← Lib.size_eq]; exact h
  cases hs : s.data.toList with
  | nil => rw [hs] at hl; simp at hl
  | cons c r =>
    have e : s.data.toList[0]? = some s[0] := by rw [List.getElem?_eq_getElem hl]; rfl
    rw [hs] at e
    simp at e
    rw [e]
set_option maxRecDepth 100000 in
set_option maxHeartbeats 4000000 in
theorem lxRun_named (C : Nat) (s : ByteArray) (ws : List WordL) (p : Nat) (y : Int) (w : World) (hS : CutS C s ws w) (L : LaidX w) (hp : p < s.size) (hs : s.size ≤ 65535) (hn : ws.length ≤ 100000) (hy : Hid (y = (s[p].toNat : Int))) (hi : inB s[p] = true) (hd : digB s[p] = false) :
    Calls Tryz.prog 23 #[.pointer (some ⟨C, 0, none⟩), .int .i64 p, .int .i32 y] w (WordPost C s ws w p (namedL (s.data.toList.drop p))) := by
  have c0 := hS.cells
  have HS := Lib.hid hS
  have HL := Lib.hid L
  have hlen : s.data.toList.length = s.size := (Lib.size_eq s).symm
  have HD : Hid (digitI y = false) := Lib.hid (by rw [hy.out, digitI_of, hd])
  have hnl := wh_le inB (s.data.toList.drop p)
  have hn1 : 1 ≤ wh inB (s.data.toList.drop p) := by
    rw [List.drop_eq_getElem_cons (by rw [hlen]; exact hp)]
    exact wh_pos hi
  rw [List.length_drop, hlen] at hnl
  obtain ⟨q, hq⟩ : ∃ q, q = p + wh inB (s.data.toList.drop p) := ⟨_, rfl⟩
  have hq1 : p + 1 ≤ q := by omega
  have hq2 : q ≤ s.size := by omega
  have HIN : Hid (∀ (k : Nat) (hk : k < s.size), p ≤ k → k < q → inB s[k] = true) := Lib.hid fun k hk h1 h2 => wh_in8 inB s.data.toList p k h1 (by omega) _ (get8 hk)
  have HOUT : Hid (∀ hk : q < s.size, inB s[q] = false) := Lib.hid fun hk => wh_out8 inB s.data.toList p _ (by rw [← hq]; exact get8 hk)
  obtain ⟨u, hu⟩ : ∃ u, u = s.extract p q := ⟨_, rfl⟩
  have hul : u.data.toList = (s.data.toList.drop p).take (wh inB (s.data.toList.drop p)) := by rw [hu, ext_list s p q, show q - p = wh inB (s.data.toList.drop p) by omega]
  have hus : u.size = q - p := by rw [Lib.size_eq, hul, take_len (by rw [List.length_drop]; omega)]; omega
  have hall := wh_all inB (s.data.toList.drop p)
  rw [← hul] at hall
  obtain ⟨cal, hcal⟩ : ∃ cal, cal = decide (s.data.toList[q]? = some 40) := ⟨_, rfl⟩
  have HCL := Lib.hid hcal
  have HU := Lib.hid hu
  obtain ⟨G, hG⟩ : ∃ G, namedL (s.data.toList.drop p) = G := ⟨_, rfl⟩
  rw [hG]
  unfold namedL at hG
  simp only at hG
  rw [← hul] at hG
  have hwn : wh inB (s.data.toList.drop p) = q - p := by omega
  rw [hwn] at hG
  have hhd : ((s.data.toList.drop p).drop (q - p)).head? = s.data.toList[q]? := by rw [List.drop_drop, List.head?_drop, show p + (q - p) = q by omega]
  rw [hhd] at hG
  have HU0 : Hid (∀ h : 0 < u.size, u[0] = s[p]) := Lib.hid fun h => by
    have e1 := get8 h
    rw [hul, List.getElem?_take, if_pos (by omega), List.getElem?_drop, Nat.add_zero, get8 hp] at e1
    exact (Option.some.inj e1).symm
  have hcb : (s.data.toList[q]? == some 40) = cal := by rw [hcal, Bool.eq_iff_iff]; simp
  rw [hcb] at hG
  have HG := Lib.hid hG
  have HUS := Lib.hid hus
  have HALL := Lib.hid hall
  have hu0 : 0 < u.size := by omega
  have hu1 : u.size ≤ 65535 := by omega
  clear hS L hlen hi hd hnl hn1 hq hul hwn hhd hall hcal hu hG hus
  go_enter Tryz.func23, Tryz.ntmps23
  go_wp2
  go_loop [8] (fun i => ∃ k : Nat, i = .int .i64 k ∧ p ≤ k ∧ k ≤ q) (fun i => s.size - (intOf i).toNat)
  case atStart => exact ⟨p, rfl, Nat.le_refl _, by omega⟩
  case round =>
    obtain ⟨k, rfl, hk1, hk2⟩ := hrel
    go_upto_region 2 with (fail)
    go_cut [44] from 19 to 46 (fun v W => v = .bool (decide (k < q)) ∧ W = w)
    case first =>
      by_cases hlt : k < s.size
      · by_cases hin : k < q
        · have hb := HIN.out k hlt hk1 hin
          obtain ⟨h128, -⟩ := in_lt8 hb
          have HK := Lib.hid (decide_eq_true hin)
          have HW : Hid (withinI (s[k].toNat : Int) = true) := Lib.hid (by rw [withinI_of, hb])
          clear hb hin
          go_wp2_with (go_at_call 33; refine (lxWithin_is _ _ HW _).mono ?_; rintro e w' ⟨rfl, rfl⟩)
          go_meet
          case rel => exact ⟨by rw [HK.out], rfl⟩
        · have hb : inB s[k] = false := by
            have hkq : k = q := by omega
            subst hkq
            exact HOUT.out hlt
          have HK := Lib.hid (decide_eq_false hin)
          have HW : Hid (withinI (s[k].toNat : Int) = false) := Lib.hid (by rw [withinI_of, hb])
          clear hb hin
          by_cases h128 : (s[k].toNat : Int) < 128
          · go_wp2_with (go_at_call 33; refine (lxWithin_is _ _ HW _).mono ?_; rintro e w' ⟨rfl, rfl⟩)
            go_meet
            case rel => exact ⟨by rw [HK.out], rfl⟩
          · go_wp2_with fail
            go_meet
            case rel => exact ⟨by rw [HK.out], rfl⟩
      · have HK := Lib.hid (decide_eq_false (show ¬ k < q by omega))
        go_wp2_with fail
        go_meet
        case rel => exact ⟨by rw [HK.out], rfl⟩
    case rest =>
      obtain ⟨rfl, hwc⟩ := hcut
      obtain rfl := hwc.symm
      by_cases hin : k < q
      · rw [decide_eq_true hin]
        go_wp2_with fail
        go_round
        case rel => exact ⟨k + 1, by go_num, by omega, by omega⟩
        case measure => simp [intOf]; omega
      · obtain rfl : q = k := by omega
        rw [decide_eq_false hin]
        clear hin hk1 hk2
        go_upto_region 5 with (fail)
        rw [← HU.out]
        go_cut [10] from 54 (fun v W => v = .bool cal ∧ W = w)
        case first =>
          by_cases hlt : q < s.size
          · have hg := get8 hlt
            by_cases h40 : s[q] = 40
            · have HC : Hid (cal = true) := Lib.hid (by rw [HCL.out, hg, h40]; simp)
              have hb : ((s[q].toNat : Int) == 40) = true := by rw [h40]; rfl
              clear hg h40
              go_wp2_with fail
              go_meet
              case rel => exact ⟨by rw [HC.out], rfl⟩
            · have HC : Hid (cal = false) := Lib.hid (by rw [HCL.out, hg]; simpa using h40)
              have hb : ((s[q].toNat : Int) == 40) = false := by
                rw [beq_eq_false_iff_ne]
                intro e
                exact h40 (UInt8.toNat_inj.1 (by show s[q].toNat = 40; omega))
              clear hg h40
              go_wp2_with fail
              go_meet
              case rel => exact ⟨by rw [HC.out], rfl⟩
          · have HC : Hid (cal = false) := Lib.hid (by rw [HCL.out, List.getElem?_eq_none (by rw [← Lib.size_eq]; omega)]; simp)
            go_wp2_with fail
            go_meet
            case rel => exact ⟨by rw [HC.out], rfl⟩
        case rest =>
          obtain ⟨rfl, hwc⟩ := hcut
          obtain rfl := hwc.symm
          go_wp2_with fail
          refine (lxCapital_any u w HL.out hu1 (fun c hc => (in_lt8 (List.all_eq_true.1 HALL.out c hc)).2)).mono ?_
          rintro e w2 ⟨rfl, b2⟩
          have HS2 := Lib.hid (HS.out.kept b2)
          have HL2 := Lib.hid (HL.out.kept b2)
          have B2 := Lib.hid b2
          clear b2 c0
          obtain ⟨bT, hbT⟩ : ∃ bT, decide (capL8 u.data.toList = trueL) = bT := ⟨_, rfl⟩
          obtain ⟨bF, hbF⟩ : ∃ bF, decide (capL8 u.data.toList = falseL) = bF := ⟨_, rfl⟩
          have f1 : ((strB (capL8 u.data.toList)).toList == [84, 82, 85, 69]) = bT := by rw [strB_is, ← hbT]; exact beq_dec _ _
          have f2 : ((strB (capL8 u.data.toList)).toList == [70, 65, 76, 83, 69]) = bF := by rw [strB_is, ← hbF]; exact beq_dec _ _
          obtain ⟨bg, hbg⟩ : ∃ bg, strB (capL8 u.data.toList) = bg := ⟨_, rfl⟩
          rw [hbg] at f1 f2
          rw [hbg]
          obtain ⟨nm, hnm⟩ : ∃ nm, nameB u.data.toList = nm := ⟨_, rfl⟩
          obtain ⟨lb, hlb⟩ : ∃ lb, letterI y = lb := ⟨_, rfl⟩
          obtain ⟨ab, hab⟩ : ∃ ab, u.data.toList.all alnB = ab := ⟨_, rfl⟩
          have HNM : Hid (nm = (ab && lb)) := Lib.hid (by rw [← hnm, ← hab, ← hlb, nameB_eq hu0, hy.out, letterI_of, HU0.out hu0])
          have HG2 : Hid ((if cal = false ∧ (bT || bF) = true then (⟨5, capL8 u.data.toList, q - p, 0⟩ : GotL) else if cal = true ∧ nm = true then ⟨4, capL8 u.data.toList, q - p, 0⟩ else if (refAns u.data.toList).n = q - p then ⟨3, u.data.toList, q - p, 0⟩ else noneL 21) = G) := Lib.hid (by
            have hg := HG.out
            rw [← hbT, ← hbF, ← hnm, ← hg]
            simp only [Bool.or_eq_true, decide_eq_true_eq])
          have HBG := Lib.hid hbg; have HLB := Lib.hid hlb; have HAB := Lib.hid hab
          have HA128 : Hid (∀ (j : Nat) (c : UInt8), u.data.toList[j]? = some c → c.toNat < 128) := Lib.hid fun j c hc => (in_lt8 (List.all_eq_true.1 HALL.out c (List.mem_of_getElem? hc))).2
          clear hbT hbF hbg hnm hlb hab
          go_upto_region 17 with (go_at_call 21; refine (lxDigit_is _ _ HD _).mono ?_; rintro e w' ⟨rfl, rfl⟩)
          go_cut [96] from 97 (fun v W => v = .bool (!cal && (bT || bF)) ∧ W = w2)
          case first =>
            cases bT <;> cases bF <;> cases cal
            all_goals
              go_wp2_with fail
              go_meet
              case rel => exact ⟨rfl, rfl⟩
          case rest =>
            obtain ⟨rfl, hwc⟩ := hcut
            obtain rfl := hwc.symm
            clear f1 f2
            cases hv5 : (!cal && (bT || bF))
            · have HV5 := Lib.hid hv5
              clear hv5
              go_upto_region 19 with (fail)
              go_cut [114] from 115 (fun v W => v = .bool (cal && nm) ∧ Hid (Below w2.heap.size w2 W))
              case first =>
                cases cal
                · go_wp2_with fail
                  go_meet
                  case rel => exact ⟨by simp, Lib.hid (Below.refl _ _)⟩
                · cases lb
                  · go_wp2_with (go_at_call 22; refine (lxLetter_is _ _ HLB _).mono ?_; rintro e w' ⟨rfl, rfl⟩)
                    go_meet
                    case rel => exact ⟨by rw [HNM.out]; simp, Lib.hid (Below.refl _ _)⟩
                  · go_wp2_with (first | (go_at_call 22; refine (lxLetter_is _ _ HLB _).mono ?_; rintro e w' ⟨rfl, rfl⟩) | (go_at_call 35; refine (lxOnly_aln u _ hu0 HA128 _ HAB).mono ?_; rintro e w3 ⟨rfl, b3⟩))
                    go_meet
                    case rel => exact ⟨by rw [HNM.out]; simp, Lib.hid b3⟩
              case rest =>
                obtain ⟨rfl, b3⟩ := hcut
                have HS3 := Lib.hid (HS2.out.kept b3.out)
                have HL3 := Lib.hid (HL2.out.kept b3.out)
                have B3 := Lib.hid (B2.out.trans (b3.out.mono B2.out.size))
                clear b3
                cases hv4 : (cal && nm)
                · have HV4 := Lib.hid hv4
                  clear hv4
                  have RE := refAns_e u.data.toList
                  obtain ⟨ra, hra⟩ : ∃ ra, refAns u.data.toList = ra := ⟨_, rfl⟩
                  have CR : Hid (Calls Tryz.prog 39 #[.string u] wc fun e w' => e = .returned (.tuple #[.agg #[.int .i64 ra.ref.row, .int .i64 ra.ref.col, .bool ra.ref.pr, .bool ra.ref.pc], .int .i64 ra.n, .int .i64 ra.e]) ∧ Below wc.heap.size wc w') := Lib.hid (by rw [← hra]; exact readRef_any u wc HL3.out.lw (by omega))
                  rw [hra] at RE
                  have HG3 : Hid ((if ra.n = q - p then (⟨3, u.data.toList, q - p, 0⟩ : GotL) else noneL 21) = G) := Lib.hid (by
                    have hg := HG2.out
                    rw [if_neg (fun z => by have := HV5.out; rw [z.1, z.2] at this; simp at this), if_neg (fun z => by have := HV4.out; rw [z.1, z.2] at this; simp at this), hra] at hg
                    exact hg)
                  by_cases hrn : ra.n = u.size
                  · have hre : ra.e = 0 ∨ ra.e = 10 := by omega
                    obtain ⟨rr, rn, re⟩ := ra
                    simp only at hrn hre
                    subst hrn
                    have HG4 := HG3.out
                    simp only at HG4
                    rw [if_pos HUS.out] at HG4
                    have HG5 := Lib.hid HG4
                    clear RE hra HG4
                    rcases hre with rfl | rfl
                    all_goals
                      go_wp2_with (go_at_call 39; (with_reducible refine (CR.out).mono ?_); rintro e w4 ⟨rfl, b5⟩; have HS5 := Lib.hid (HS3.out.kept b5); have B5 := Lib.hid (B3.out.trans (b5.mono B3.out.size)); clear b5)
                      have HS6 := Lib.hid (HS5.out.kept (ext_alloc (Below.refl _ _) (.cells #[.int .i64 rr.row, .int .i64 rr.col, .bool rr.pr, .bool rr.pc] 55)))
                      have CP : Hid (∀ nx : Int, Calls Tryz.prog 26 #[.pointer (some ⟨C, 0, none⟩), .int .i64 3, .string u, .int .i64 p, .int .i64 nx] (w4.alloc (.cells #[.int .i64 rr.row, .int .i64 rr.col, .bool rr.pr, .bool rr.pc] 55)) (PutPost C s (ws ++ [⟨3, u.data.toList, p⟩]) (w4.alloc (.cells #[.int .i64 rr.row, .int .i64 rr.col, .bool rr.pr, .bool rr.pc] 55)) nx 0)) := Lib.hid fun nx => lxPut_any C s ws ⟨3, u.data.toList, p⟩ nx _ HS6.out hn
                      refine (CP.out _).mono ?_
                      rintro e w6 ⟨rfl, h1, h2⟩
                      go_wp2
                      go_ret2
                      rw [← HG5.out]
                      exact word_put rfl (by simp; omega) (ext_alloc B5.out _) HS.out.lt h1 h2
                  · have e1 : decide ((ra.n : Int) = (u.size : Int)) = false := by simp; omega
                    have e2 : decide (ra.n = u.size) = false := by simpa using hrn
                    have e3 : ((ra.n : Int) == (u.size : Int)) = false := by rw [beq_eq_false_iff_ne]; omega
                    have HG4 := HG3.out
                    rw [if_neg (fun z => hrn (by rw [HUS.out]; exact z))] at HG4
                    have HG5 := Lib.hid HG4
                    have HRN := Lib.hid hrn
                    clear RE hra HG4 hrn
                    go_wp2_with (go_at_call 39; (with_reducible refine (CR.out).mono ?_); rintro e w4 ⟨rfl, b5⟩)
                    go_ret2
                    rw [← HG5.out]
                    exact word_err rfl (by decide) (ext_alloc (B3.out.trans (b5.mono B3.out.size)) _) HS.out
                · have HV4 : Hid (cal = true ∧ nm = true) := Lib.hid (by simpa using hv4)
                  clear hv4
                  have CP : Hid (∀ nx : Int, Calls Tryz.prog 26 #[.pointer (some ⟨C, 0, none⟩), .int .i64 4, .string bg, .int .i64 p, .int .i64 nx] wc (PutPost C s (ws ++ [⟨4, capL8 u.data.toList, p⟩]) wc nx 0)) := Lib.hid fun nx => by rw [← HBG.out]; exact lxPut_any C s ws ⟨4, capL8 u.data.toList, p⟩ nx wc HS3.out hn
                  go_wp2_with fail
                  refine (CP.out _).mono ?_
                  rintro e w6 ⟨rfl, h1, h2⟩
                  go_wp2
                  go_ret2
                  have hg := HG2.out
                  rw [if_neg (fun z => by rw [HV4.out.1] at z; simp at z), if_pos HV4.out] at hg
                  rw [← hg]
                  exact word_put rfl (by simp; omega) B3.out HS.out.lt h1 h2
            · have HV5 : Hid (cal = false ∧ (bT || bF) = true) := Lib.hid (by simpa using hv5)
              clear hv5
              have CP : Hid (∀ nx : Int, Calls Tryz.prog 26 #[.pointer (some ⟨C, 0, none⟩), .int .i64 5, .string bg, .int .i64 p, .int .i64 nx] w2 (PutPost C s (ws ++ [⟨5, capL8 u.data.toList, p⟩]) w2 nx 0)) := Lib.hid fun nx => by rw [← HBG.out]; exact lxPut_any C s ws ⟨5, capL8 u.data.toList, p⟩ nx w2 HS2.out hn
              go_wp2_with fail
              refine (CP.out _).mono ?_
              rintro e w6 ⟨rfl, h1, h2⟩
              go_wp2
              go_ret2
              have hg := HG2.out
              rw [if_pos HV5.out] at hg
              rw [← hg]
              exact word_put rfl (by simp; omega) B2.out HS.out.lt h1 h2
end Go.Proofs.YtikahfnlflhbfaaGreatDoor
