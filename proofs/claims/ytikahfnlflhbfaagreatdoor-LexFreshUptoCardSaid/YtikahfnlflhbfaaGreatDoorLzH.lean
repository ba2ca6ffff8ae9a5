/- The document's own answer for words: a run that begins otherwise. -/
import Derived.Test.YtikahfnlflhbfaaGreatDoorLzG
import Derived.Test.YtikahfnlflhbfaaGreatDoorLxH
namespace Go.Proofs.YtikahfnlflhbfaaGreatDoor
open Go.RowKit Go.Lib

theorem got_ok (p q kind : Nat) (t : List UInt8) (h : p ≤ q) (G : GotL) (hG : (⟨kind, t, q - p, 0⟩ : GotL) = G) : GotV p G = .agg #[.int .i64 (kind : Int), .string (strB t), .int .i64 0, .int .i64 (q : Int), .int .i64 0] := by
  subst hG
  simp only [GotV, if_true]
  rw [show p + (q - p) = q by omega]
set_option maxRecDepth 100000 in
set_option maxHeartbeats 4000000 in
theorem rf8Named_any (s : ByteArray) (p : Nat) (w : World) (hp : p < s.size) (hs : s.size ≤ 65535) (hi : inB s[p] = true) : Calls Tryz.prog 19 #[.string s, .int .i64 p] w (GotPost p (namedL (s.data.toList.drop p)) w) := by
  have hlen : s.data.toList.length = s.size := (Lib.size_eq s).symm
  have hnl := wh_le inB (s.data.toList.drop p)
  have hn1 : 1 ≤ wh inB (s.data.toList.drop p) := by
    rw [List.drop_eq_getElem_cons (by rw [hlen]; exact hp)]
    exact wh_pos hi
  rw [List.length_drop, hlen] at hnl
  obtain ⟨q, hq⟩ : ∃ q, q = p + wh inB (s.data.toList.drop p) := ⟨_, rfl⟩
  have hq1 : p + 1 ≤ q := by omega
  have hq2 : q ≤ s.size := by omega
  have HIN : Hid (∀ (k : Nat) (hk : k < s.size), p ≤ k → k < q → inB s[k] = true) := Lib.hid fun k hk h1 h2 => wh_in8 inB s.data.toList p k h1 (by omega) _ (get8 hk)
  have HOUT : Hid (∀ hk : q < s.size, inB s[q] = false) := Lib.hid fun hk => wh_out8 inB s.data.toList p _ (by rw [← hq]; exact get8 hk)
  obtain ⟨u, hu⟩ : ∃ u, u = s.extract p q := ⟨_, rfl⟩
  have hul : u.data.toList = (s.data.toList.drop p).take (wh inB (s.data.toList.drop p)) := by rw [hu, ext_list s p q, show q - p = wh inB (s.data.toList.drop p) by omega]
  have hus : u.size = q - p := by rw [Lib.size_eq, hul, take_len (by rw [List.length_drop]; omega)]; omega
  have hall := wh_all inB (s.data.toList.drop p)
  rw [← hul] at hall
  obtain ⟨cal, hcal⟩ : ∃ cal, cal = decide (s.data.toList[q]? = some 40) := ⟨_, rfl⟩
  have HCL := Lib.hid hcal
  have HU := Lib.hid hu
  obtain ⟨G, hG⟩ : ∃ G, namedL (s.data.toList.drop p) = G := ⟨_, rfl⟩
  rw [hG]
  unfold namedL at hG
  simp only at hG
  rw [← hul] at hG
  have hwn : wh inB (s.data.toList.drop p) = q - p := by omega
  rw [hwn] at hG
  have hhd : ((s.data.toList.drop p).drop (q - p)).head? = s.data.toList[q]? := by rw [List.drop_drop, List.head?_drop, show p + (q - p) = q by omega]
  rw [hhd] at hG
  have HU0 : Hid (∀ h : 0 < u.size, u[0] = s[p]) := Lib.hid fun h => by
    have e1 := get8 h
    rw [hul, List.getElem?_take, if_pos (by omega), List.getElem?_drop, Nat.add_zero, get8 hp] at e1
    exact (Option.some.inj e1).symm
  have hcb : (s.data.toList[q]? == some 40) = cal := by rw [hcal, Bool.eq_iff_iff]; simp
  rw [hcb] at hG
  have HG := Lib.hid hG
  have HUS := Lib.hid hus
  have HALL := Lib.hid hall
  have hu0 : 0 < u.size := by omega
  have hu1 : u.size ≤ 65535 := by omega
  have HQ := Lib.hid hq
  have HUL := Lib.hid hul
  clear hlen hi hnl hn1 hq hul hwn hhd hall hcal hcb hu hG hus HIN HOUT
  go_enter Tryz.func19, Tryz.ntmps19
  go_wp2_with fail
  refine (rf8Run_is s p q _ (by omega) hs HQ).mono ?_
  rintro e w1 ⟨rfl, hw1⟩
  have z1 : w.heap.size < w1.heap.size := by rw [← hw1]; simp
  have k1 : ∀ o, w1.cell? ⟨w.heap.size, o, none⟩ = (#[.int .i64 0, .string ⟨#[]⟩, .int .i64 0, .int .i64 0, .int .i64 0] : Array Value)[o]? := fun o => by rw [← hw1]; exact nwA (A := #[.int .i64 0, .string ⟨#[]⟩, .int .i64 0, .int .i64 0, .int .i64 0]) (T := 38) w o
  have f1 : ∀ o, w1.frozen? ⟨w.heap.size, o, none⟩ = false := fun o => by rw [← hw1]; exact World.frozen?_alloc_at _ _ _ _ rfl
  have B1 := Lib.hid (show Below w.heap.size w w1 by rw [← hw1]; exact ext_alloc (Below.refl _ _) _)
  clear hw1
  go_upto_region 3 with (fail)
  rw [← HU.out]
  go_wp2_with fail
  refine (rf8Caps_any u w1 hu1).mono ?_
  rintro e w2 ⟨rfl, b2⟩
  have z2 : w.heap.size < w2.heap.size := Nat.lt_of_lt_of_le z1 b2.size
  have k2 := kpC b2 z1 k1
  have g2 : ∀ o, w2.frozen? ⟨w.heap.size, o, none⟩ = false := fun o => (b2.frozen (p := ⟨w.heap.size, o, none⟩) z1).trans (f1 o)
  have B2 := Lib.hid (B1.out.trans (b2.mono (Nat.le_of_lt z1)))
  clear b2 k1 f1
  obtain ⟨bT, hbT⟩ : ∃ bT, decide (capL8 u.data.toList = trueL) = bT := ⟨_, rfl⟩
  obtain ⟨bF, hbF⟩ : ∃ bF, decide (capL8 u.data.toList = falseL) = bF := ⟨_, rfl⟩
  have f1 : ((strB (capL8 u.data.toList)).toList == [84, 82, 85, 69]) = bT := by rw [strB_is, ← hbT]; exact beq_dec _ _
  have f2 : ((strB (capL8 u.data.toList)).toList == [70, 65, 76, 83, 69]) = bF := by rw [strB_is, ← hbF]; exact beq_dec _ _
  obtain ⟨bg, hbg⟩ : ∃ bg, strB (capL8 u.data.toList) = bg := ⟨_, rfl⟩
  rw [hbg] at f1 f2
  rw [hbg]
  obtain ⟨nm, hnm⟩ : ∃ nm, nameB u.data.toList = nm := ⟨_, rfl⟩
  have HNM := Lib.hid hnm
  have HG2 : Hid ((if cal = false ∧ (bT || bF) = true then (⟨5, capL8 u.data.toList, q - p, 0⟩ : GotL) else if cal = true ∧ nm = true then ⟨4, capL8 u.data.toList, q - p, 0⟩ else if (refAns u.data.toList).n = q - p then ⟨3, u.data.toList, q - p, 0⟩ else noneL 21) = G) := Lib.hid (by
    have hg := HG.out
    rw [← hbT, ← hbF, ← hnm, ← hg]
    simp only [Bool.or_eq_true, decide_eq_true_eq])
  have HBG := Lib.hid hbg
  clear hbT hbF hbg hnm HG HQ HU0
  go_upto_region 4 with (fail)
  go_cut [8] from 21 (fun v W => v = .bool cal ∧ W = w2)
  case first =>
    by_cases hlt : q < s.size
    · have hg := get8 hlt
      by_cases h40 : s[q] = 40
      · have HC : Hid (cal = true) := Lib.hid (by rw [HCL.out, hg, h40]; simp)
        have hb : ((s[q].toNat : Int) == 40) = true := by rw [h40]; rfl
        clear hg h40
        go_wp2_with fail
        go_meet
        case rel => exact ⟨by rw [HC.out], rfl⟩
      · have HC : Hid (cal = false) := Lib.hid (by rw [HCL.out, hg]; simpa using h40)
        have hb : ((s[q].toNat : Int) == 40) = false := by
          rw [beq_eq_false_iff_ne]
          intro e
          exact h40 (UInt8.toNat_inj.1 (by show s[q].toNat = 40; omega))
        clear hg h40
        go_wp2_with fail
        go_meet
        case rel => exact ⟨by rw [HC.out], rfl⟩
    · have HC : Hid (cal = false) := Lib.hid (by rw [HCL.out, List.getElem?_eq_none (by rw [← Lib.size_eq]; omega)]; simp)
      go_wp2_with fail
      go_meet
      case rel => exact ⟨by rw [HC.out], rfl⟩
  case rest =>
    obtain ⟨rfl, hwc⟩ := hcut
    obtain rfl := hwc.symm
    go_upto_region 5 with (fail)
    go_cut [40] from 31 (fun v W => v = .bool (!cal && (bT || bF)) ∧ W = w2)
    case first =>
      cases bT <;> cases bF <;> cases cal
      all_goals
        go_wp2_with fail
        go_meet
        case rel => exact ⟨rfl, rfl⟩
    case rest =>
      obtain ⟨rfl, hwc⟩ := hcut
      obtain rfl := hwc.symm
      clear f1 f2
      cases hv5 : (!cal && (bT || bF))
      · have HV5 := Lib.hid hv5
        clear hv5
        go_upto_region 7 with (fail)
        go_cut [49] from 45 (fun v W => v = .bool (cal && nm) ∧ W = w2)
        case first =>
          cases cal
          all_goals
            go_wp2_with (go_at_call 30; refine (rf8Name_any u _ hu0 hu1 _ HNM).mono ?_; rintro e w' ⟨rfl, rfl⟩)
            go_meet
            case rel => exact ⟨rfl, rfl⟩
        case rest =>
          obtain ⟨rfl, hwc⟩ := hcut
          obtain rfl := hwc.symm
          cases hv4 : (cal && nm)
          · have HV4 := Lib.hid hv4
            clear hv4
            obtain ⟨ra, hra⟩ : ∃ ra, refAns u.data.toList = ra := ⟨_, rfl⟩
            have CR : Hid (Calls Tryz.prog 31 #[.string u] w2 fun e w' => e = .returned (.tuple #[.agg #[.int .i64 ra.ref.row, .int .i64 ra.ref.col, .bool ra.ref.pr, .bool ra.ref.pc], .int .i64 ra.n, .int .i64 ra.e]) ∧ Below w2.heap.size w2 w') := Lib.hid (by rw [← hra]; exact rfReadRef_any u w2 (by omega))
            have HG3 : Hid ((if ra.n = q - p then (⟨3, u.data.toList, q - p, 0⟩ : GotL) else noneL 21) = G) := Lib.hid (by
              have hg := HG2.out
              rw [if_neg (fun z => by have := HV5.out; rw [z.1, z.2] at this; simp at this), if_neg (fun z => by have := HV4.out; rw [z.1, z.2] at this; simp at this), hra] at hg
              exact hg)
            clear hra
            obtain ⟨rr, rn, re⟩ := ra
            simp only at CR HG3
            by_cases hrn : rn = u.size
            · have HV : Hid (GotV p G = .agg #[.int .i64 3, .string u, .int .i64 0, .int .i64 q, .int .i64 0]) := Lib.hid (by
                have h := HG3.out
                rw [if_pos (by rw [hrn, HUS.out])] at h
                exact got_ok p q 3 u.data.toList (by omega) G h)
              subst hrn
              go_wp2_with fail
              refine (CR.out).mono ?_
              rintro e w3 ⟨rfl, b3⟩
              have z3 : w.heap.size < w3.heap.size := Nat.lt_of_lt_of_le z2 b3.size
              have k30 := kpC b3 z2 k2
              have g30 : ∀ o, w3.frozen? ⟨w.heap.size, o, none⟩ = false := fun o => (b3.frozen (p := ⟨w.heap.size, o, none⟩) z2).trans (g2 o)
              have KZ := Lib.hid (show ∀ (a b c d e : Value) (O : Obj) (o : Nat), ((((((w3.setCell ⟨w.heap.size, 0, none⟩ a).setCell ⟨w.heap.size, 1, none⟩ b).setCell ⟨w.heap.size, 2, none⟩ c).setCell ⟨w.heap.size, 3, none⟩ d).setCell ⟨w.heap.size, 4, none⟩ e).alloc O).cell? ⟨w.heap.size, o, none⟩ = (((((w3.setCell ⟨w.heap.size, 0, none⟩ a).setCell ⟨w.heap.size, 1, none⟩ b).setCell ⟨w.heap.size, 2, none⟩ c).setCell ⟨w.heap.size, 3, none⟩ d).setCell ⟨w.heap.size, 4, none⟩ e).cell? ⟨w.heap.size, o, none⟩ from fun a b c d e O o => World.cell?_alloc_past _ _ _ (by simpa [World.setCell] using z3))
              have k3 := kpA (.cells #[.int .i64 rr.row, .int .i64 rr.col, .bool rr.pr, .bool rr.pc] 55) z3 (kpC b3 z2 k2)
              have g3 : ∀ o, (w3.alloc (.cells #[.int .i64 rr.row, .int .i64 rr.col, .bool rr.pr, .bool rr.pc] 55)).frozen? ⟨w.heap.size, o, none⟩ = false := fun o => (World.frozen?_alloc_past _ _ _ z3).trans ((b3.frozen (p := ⟨w.heap.size, o, none⟩) z2).trans (g2 o))
              have B3 := Lib.hid (B2.out.trans (b3.mono (Nat.le_of_lt z2)))
              clear b3
              go_wp2_with fail
              exact bodyPost_ret (v := .agg #[.int .i64 3, .string u, .int .i64 0, .int .i64 q, .int .i64 0]) (by simp [results, Tryz.results19, go_sem, KZ.out, k30]) rfl ⟨HV.out.symm ▸ rfl, (by repeat (first | (with_reducible exact B3.out) | (with_reducible refine Below.setCell ?_ (by exact Nat.le_refl _) _) | (with_reducible refine ext_alloc ?_ _)))⟩
            · have HV : Hid (GotV p G = .agg #[.int .i64 0, .string ⟨#[]⟩, .int .i64 0, .int .i64 0, .int .i64 21]) := Lib.hid (by
                have h := HG3.out
                rw [if_neg (fun z => hrn (by rw [HUS.out]; exact z))] at h
                rw [← h]; rfl)
              have e1 : decide ((rn : Int) = (u.size : Int)) = false := by simp; omega
              have e2 : decide (rn = u.size) = false := by simpa using hrn
              have e3 : ((rn : Int) == (u.size : Int)) = false := by rw [beq_eq_false_iff_ne]; omega
              clear hrn
              go_wp2_with fail
              refine (CR.out).mono ?_
              rintro e w3 ⟨rfl, b3⟩
              have z3 : w.heap.size < w3.heap.size := Nat.lt_of_lt_of_le z2 b3.size
              have k30 := kpC b3 z2 k2
              have g30 : ∀ o, w3.frozen? ⟨w.heap.size, o, none⟩ = false := fun o => (b3.frozen (p := ⟨w.heap.size, o, none⟩) z2).trans (g2 o)
              have KZ := Lib.hid (show ∀ (a b c d e : Value) (O : Obj) (o : Nat), ((((((w3.setCell ⟨w.heap.size, 0, none⟩ a).setCell ⟨w.heap.size, 1, none⟩ b).setCell ⟨w.heap.size, 2, none⟩ c).setCell ⟨w.heap.size, 3, none⟩ d).setCell ⟨w.heap.size, 4, none⟩ e).alloc O).cell? ⟨w.heap.size, o, none⟩ = (((((w3.setCell ⟨w.heap.size, 0, none⟩ a).setCell ⟨w.heap.size, 1, none⟩ b).setCell ⟨w.heap.size, 2, none⟩ c).setCell ⟨w.heap.size, 3, none⟩ d).setCell ⟨w.heap.size, 4, none⟩ e).cell? ⟨w.heap.size, o, none⟩ from fun a b c d e O o => World.cell?_alloc_past _ _ _ (by simpa [World.setCell] using z3))
              have k3 := kpA (.cells #[.int .i64 rr.row, .int .i64 rr.col, .bool rr.pr, .bool rr.pc] 55) z3 (kpC b3 z2 k2)
              have g3 : ∀ o, (w3.alloc (.cells #[.int .i64 rr.row, .int .i64 rr.col, .bool rr.pr, .bool rr.pc] 55)).frozen? ⟨w.heap.size, o, none⟩ = false := fun o => (World.frozen?_alloc_past _ _ _ z3).trans ((b3.frozen (p := ⟨w.heap.size, o, none⟩) z2).trans (g2 o))
              have B3 := Lib.hid (B2.out.trans (b3.mono (Nat.le_of_lt z2)))
              clear b3
              go_wp2_with fail
              exact bodyPost_ret (v := .agg #[.int .i64 0, .string ⟨#[]⟩, .int .i64 0, .int .i64 0, .int .i64 21]) (by simp [results, Tryz.results19, go_sem, KZ.out, k30]) rfl ⟨HV.out.symm ▸ rfl, (by repeat (first | (with_reducible exact B3.out) | (with_reducible refine Below.setCell ?_ (by exact Nat.le_refl _) _) | (with_reducible refine ext_alloc ?_ _)))⟩
          · have HV4 : Hid (cal = true ∧ nm = true) := Lib.hid (by simpa using hv4)
            clear hv4
            have HV : Hid (GotV p G = .agg #[.int .i64 4, .string bg, .int .i64 0, .int .i64 q, .int .i64 0]) := Lib.hid (by
              have h := HG2.out
              rw [if_neg (fun z => by rw [HV4.out.1] at z; simp at z), if_pos HV4.out] at h
              rw [← HBG.out]; exact got_ok p q 4 _ (by omega) G h)
            go_wp2_with fail
            exact bodyPost_ret (v := .agg #[.int .i64 4, .string bg, .int .i64 0, .int .i64 q, .int .i64 0]) (by simp [results, Tryz.results19, go_sem, k2]) rfl ⟨HV.out.symm ▸ rfl, (by repeat (first | (with_reducible exact B2.out) | (with_reducible refine Below.setCell ?_ (by exact Nat.le_refl _) _) | (with_reducible refine ext_alloc ?_ _)))⟩
      · have HV5 : Hid (cal = false ∧ (bT || bF) = true) := Lib.hid (by simpa using hv5)
        clear hv5
        have HV : Hid (GotV p G = .agg #[.int .i64 5, .string bg, .int .i64 0, .int .i64 q, .int .i64 0]) := Lib.hid (by
          have h := HG2.out
          rw [if_pos HV5.out] at h
          rw [← HBG.out]; exact got_ok p q 5 _ (by omega) G h)
        go_wp2_with fail
        exact bodyPost_ret (v := .agg #[.int .i64 5, .string bg, .int .i64 0, .int .i64 q, .int .i64 0]) (by simp [results, Tryz.results19, go_sem, k2]) rfl ⟨HV.out.symm ▸ rfl, (by repeat (first | (with_reducible exact B2.out) | (with_reducible refine Below.setCell ?_ (by exact Nat.le_refl _) _) | (with_reducible refine ext_alloc ?_ _)))⟩
end Go.Proofs.YtikahfnlflhbfaaGreatDoor
