/- A formula's words: the signs < and >; the word at a place. -/
import Derived.Test.YtikahfnlflhbfaaGreatDoorLxJ
import Derived.BigQuiet
import Derived.Deep.QuietTactic
namespace Go.Proofs.YtikahfnlflhbfaaGreatDoor
open Go.RowKit Go.Lib

theorem below_draws8 (w : World) : ∀ n, Below w.heap.size w (w.drewN n)
  | 0 => Below.refl _ _
  | n + 1 => (below_draws8 w n).drew
theorem two_list {s : ByteArray} {p : Nat} (h : p + 1 < s.size) : (s.extract p (p + 2)).toList = [s[p], s[p + 1]] := by
  rw [Lib.toList_data, Lib.extract_data, drop_byte (by omega), drop_byte h, show p + 2 - p = 2 by omega]
  rfl
theorem last_list {s : ByteArray} {p : Nat} (h : p + 1 = s.size) : (s.extract p s.size).toList = [s[p]] := by
  rw [Lib.toList_data, Lib.extract_data, drop_byte (by omega), show s.size - p = 1 by omega]
  rfl
set_option maxRecDepth 100000 in
set_option maxHeartbeats 4000000 in
theorem lxWord_60 (C : Nat) (s : ByteArray) (ws : List WordL) (p : Nat) (w : World) (hS : CutS C s ws w) (hp : p < s.size) (hs : s.size ≤ 65535) (hn : ws.length ≤ 100000) (hc : s[p] = 60) :
    Calls Tryz.prog 14 #[.pointer (some ⟨C, 0, none⟩), .int .i64 p, .int .i32 60] w (WordPost C s ws w p (oneL (s.data.toList.drop p))) := by
  have HS := Lib.hid hS
  have c0 := hS.cells
  have hC : C < w.heap.size := by have := hS.lt; omega
  have HLB : Hid (letterI 60 = false) := Lib.hid (by decide)
  have HDB : Hid (digitI 60 = false) := Lib.hid (by decide)
  have CO : Hid (∀ W : World, Calls Tryz.prog 27 #[.string ⟨#[40, 41, 44, 58, 94, 42, 47, 43, 45, 38, 61, 60, 62, 37]⟩, .int .i32 60] W fun e w' => e = .returned (.bool true) ∧ W = w') := Lib.hid fun W => by
    refine (Tryz.strings_ContainsRune_ascii ⟨#[40, 41, 44, 58, 94, 42, 47, 43, 45, 38, 61, 60, 62, 37]⟩ 60 W (by decide) (by decide)).mono ?_
    rintro e w' ⟨rfl, rfl⟩
    exact ⟨congrArg (fun b => Ending.returned (.bool b)) (by decide), rfl⟩
  have hone : (∀ d, s.data.toList[p + 1]? = some d → d ≠ 61 ∧ d ≠ 62) → oneL (s.data.toList.drop p) = ⟨7, [60], 1, 0⟩ := by
    intro h
    rw [drop_byte hp, hc]
    have hh : (s.data.toList.drop (p + 1)).head? = s.data.toList[p + 1]? := by rw [List.head?_drop]
    refine one_op (by decide) (fun e => ?_) (fun e => ?_)
    · exact ⟨fun q => (h 62 (by rw [← hh]; exact q)).2 rfl, fun q => (h 61 (by rw [← hh]; exact q)).1 rfl⟩
    · exact absurd e (by decide)
  have hc0 := Lib.hid hc
  have HONE := Lib.hid hone
  clear hS hone hc
  go_enter Tryz.func14, Tryz.ntmps14
  go_wp2_with fail
  refine wp_scope_straight ?_
  by_cases hlt : p + 1 < s.size
  · have hmin : min ((p : Int) + 2) (s.size : Int) = (p : Int) + 2 := by omega
    have hw1 : IntKind.i64.wrap ((p : Int) + 2) = (p : Int) + 2 := IntWalk.i64_in _ (by omega)
    have h01 : 0 ≤ (p : Int) + 2 := by omega
    have hn1 : ((p : Int) + 2).toNat = p + 2 := by omega
    have HD := Lib.hid (get8 hlt)
    have HTL : Hid ((s.extract p (p + 2)).toList = [60, s[p + 1]]) := Lib.hid (by rw [two_list hlt, hc0.out])
    obtain ⟨tw, htw⟩ : ∃ tw, tw = s.extract p (p + 2) := ⟨_, rfl⟩
    rw [← htw] at HTL
    have HTW := Lib.hid htw
    clear htw
    go_upto_region 16 with (first | (go_at_call 22; refine (lxLetter_is _ _ HLB _).mono ?_; rintro e w' ⟨rfl, rfl⟩) | (go_at_call 21; refine (lxDigit_is _ _ HDB _).mono ?_; rintro e w' ⟨rfl, rfl⟩) | (go_at_call 27; refine (CO.out _).mono ?_; rintro e w' ⟨rfl, rfl⟩))
    go_quiet (fail)
    rw [← HTW.out]
    clear hmin hw1 h01 hn1
    generalize hD : World.drewN w _ = wd
    have hb0 : Below w.heap.size w wd := by rw [← hD]; exact below_draws8 w _
    have HS2 := Lib.hid (HS.out.kept hb0)
    have HB0 := Lib.hid hb0
    clear hD hb0 c0
    by_cases h61 : s[p + 1] = 61
    · have ht : tw.toList = [60, 61] := by rw [HTL.out, h61]
      have ht2 : tw = strB [60, 61] := by
        have : tw = strB tw.data.toList := rfl
        rw [this, ← Lib.toList_data, ht]
      have f1 : (tw.toList == [60, 62]) = false := by rw [ht]; decide
      have f2 : (tw.toList == [60, 61]) = true := by rw [ht]; decide
      have f3 : (tw.toList == [62, 61]) = false := by rw [ht]; decide
      have HG : Hid (oneL (s.data.toList.drop p) = ⟨7, [60, 61], 2, 0⟩) := Lib.hid (by
        rw [drop_byte hp, hc0.out, drop_byte hlt, h61]
        exact one_two (by decide))
      have CP : Hid (∀ nx : Int, Calls Tryz.prog 26 #[.pointer (some ⟨C, 0, none⟩), .int .i64 7, .string tw, .int .i64 p, .int .i64 nx] wd (PutPost C s (ws ++ [⟨7, [60, 61], p⟩]) wd nx 0)) := Lib.hid fun nx => by rw [ht2]; exact lxPut_any C s ws ⟨7, [60, 61], p⟩ nx wd HS2.out hn
      clear ht ht2 h61
      go_wp2_with fail
      refine (CP.out _).mono ?_
      rintro e w6 ⟨rfl, h1, h2⟩
      go_wp2
      rw [Exit.noGoto_ret]; go_ret2
      rw [HG.out]
      exact word_put rfl (by simp) HB0.out HS.out.lt h1 h2
    by_cases h62 : s[p + 1] = 62
    · have ht : tw.toList = [60, 62] := by rw [HTL.out, h62]
      have ht2 : tw = strB [60, 62] := by
        have : tw = strB tw.data.toList := rfl
        rw [this, ← Lib.toList_data, ht]
      have f1 : (tw.toList == [60, 62]) = true := by rw [ht]; decide
      have f2 : (tw.toList == [60, 61]) = false := by rw [ht]; decide
      have f3 : (tw.toList == [62, 61]) = false := by rw [ht]; decide
      have HG : Hid (oneL (s.data.toList.drop p) = ⟨7, [60, 62], 2, 0⟩) := Lib.hid (by
        rw [drop_byte hp, hc0.out, drop_byte hlt, h62]
        exact one_two (by decide))
      have CP : Hid (∀ nx : Int, Calls Tryz.prog 26 #[.pointer (some ⟨C, 0, none⟩), .int .i64 7, .string tw, .int .i64 p, .int .i64 nx] wd (PutPost C s (ws ++ [⟨7, [60, 62], p⟩]) wd nx 0)) := Lib.hid fun nx => by rw [ht2]; exact lxPut_any C s ws ⟨7, [60, 62], p⟩ nx wd HS2.out hn
      clear ht ht2 h62
      go_wp2_with fail
      refine (CP.out _).mono ?_
      rintro e w6 ⟨rfl, h1, h2⟩
      go_wp2
      rw [Exit.noGoto_ret]; go_ret2
      rw [HG.out]
      exact word_put rfl (by simp) HB0.out HS.out.lt h1 h2
    · have f1 : (tw.toList == [60, 62]) = false := by rw [HTL.out]; simpa using h62
      have f2 : (tw.toList == [60, 61]) = false := by rw [HTL.out]; simpa using h61
      have f3 : (tw.toList == [62, 61]) = false := by rw [HTL.out]; simp
      have HG : Hid (oneL (s.data.toList.drop p) = ⟨7, [60], 1, 0⟩) := Lib.hid (HONE.out (by intro d hd; rw [HD.out] at hd; injection hd with hd; rw [← hd]; exact ⟨h61, h62⟩))
      clear h61 h62
      go_wp2_with (first | (go_at_call 22; refine (lxLetter_is _ _ HLB _).mono ?_; rintro e w' ⟨rfl, rfl⟩) | (go_at_call 21; refine (lxDigit_is _ _ HDB _).mono ?_; rintro e w' ⟨rfl, rfl⟩) | (go_at_call 27; refine (CO.out _).mono ?_; rintro e w' ⟨rfl, rfl⟩))
      refine (lxPut_any C s ws ⟨7, [60], p⟩ _ wd HS2.out hn).mono ?_
      rintro e w6 ⟨rfl, h1, h2⟩
      go_wp2
      rw [Exit.noGoto_ret]; go_ret2
      rw [HG.out]
      exact word_put rfl (by simp) HB0.out HS.out.lt h1 h2
  · have hpe : p + 1 = s.size := by omega
    have hmin : min ((p : Int) + 2) (s.size : Int) = (s.size : Int) := by omega
    have hw1 : IntKind.i64.wrap ((p : Int) + 2) = (p : Int) + 2 := IntWalk.i64_in _ (by omega)
    have h01 : 0 ≤ (p : Int) + 2 := by omega
    have HTL : Hid ((s.extract p s.size).toList = [60]) := Lib.hid (by rw [last_list hpe, hc0.out])
    obtain ⟨tw, htw⟩ : ∃ tw, tw = s.extract p s.size := ⟨_, rfl⟩
    rw [← htw] at HTL
    have HTW := Lib.hid htw
    have HD : Hid (s.data.toList[p + 1]? = none) := Lib.hid (List.getElem?_eq_none (by rw [← Lib.size_eq]; omega))
    clear htw hpe
    go_upto_region 16 with (first | (go_at_call 22; refine (lxLetter_is _ _ HLB _).mono ?_; rintro e w' ⟨rfl, rfl⟩) | (go_at_call 21; refine (lxDigit_is _ _ HDB _).mono ?_; rintro e w' ⟨rfl, rfl⟩) | (go_at_call 27; refine (CO.out _).mono ?_; rintro e w' ⟨rfl, rfl⟩))
    go_quiet (fail)
    rw [← HTW.out]
    clear hmin hw1 h01
    generalize hD : World.drewN w _ = wd
    have hb0 : Below w.heap.size w wd := by rw [← hD]; exact below_draws8 w _
    have HS2 := Lib.hid (HS.out.kept hb0)
    have HB0 := Lib.hid hb0
    clear hD hb0 c0
    have f1 : (tw.toList == [60, 62]) = false := by rw [HTL.out]; decide
    have f2 : (tw.toList == [60, 61]) = false := by rw [HTL.out]; decide
    have f3 : (tw.toList == [62, 61]) = false := by rw [HTL.out]; decide
    have HG : Hid (oneL (s.data.toList.drop p) = ⟨7, [60], 1, 0⟩) := Lib.hid (HONE.out (by intro d hd; rw [HD.out] at hd; cases hd))
    go_wp2_with (first | (go_at_call 22; refine (lxLetter_is _ _ HLB _).mono ?_; rintro e w' ⟨rfl, rfl⟩) | (go_at_call 21; refine (lxDigit_is _ _ HDB _).mono ?_; rintro e w' ⟨rfl, rfl⟩) | (go_at_call 27; refine (CO.out _).mono ?_; rintro e w' ⟨rfl, rfl⟩))
    refine (lxPut_any C s ws ⟨7, [60], p⟩ _ wd HS2.out hn).mono ?_
    rintro e w6 ⟨rfl, h1, h2⟩
    go_wp2
    rw [Exit.noGoto_ret]; go_ret2
    rw [HG.out]
    exact word_put rfl (by simp) HB0.out HS.out.lt h1 h2
set_option maxRecDepth 100000 in
set_option maxHeartbeats 4000000 in
theorem lxWord_62 (C : Nat) (s : ByteArray) (ws : List WordL) (p : Nat) (w : World) (hS : CutS C s ws w) (hp : p < s.size) (hs : s.size ≤ 65535) (hn : ws.length ≤ 100000) (hc : s[p] = 62) :
    Calls Tryz.prog 14 #[.pointer (some ⟨C, 0, none⟩), .int .i64 p, .int .i32 62] w (WordPost C s ws w p (oneL (s.data.toList.drop p))) := by
  have HS := Lib.hid hS
  have c0 := hS.cells
  have hC : C < w.heap.size := by have := hS.lt; omega
  have HLB : Hid (letterI 62 = false) := Lib.hid (by decide)
  have HDB : Hid (digitI 62 = false) := Lib.hid (by decide)
  have CO : Hid (∀ W : World, Calls Tryz.prog 27 #[.string ⟨#[40, 41, 44, 58, 94, 42, 47, 43, 45, 38, 61, 60, 62, 37]⟩, .int .i32 62] W fun e w' => e = .returned (.bool true) ∧ W = w') := Lib.hid fun W => by
    refine (Tryz.strings_ContainsRune_ascii ⟨#[40, 41, 44, 58, 94, 42, 47, 43, 45, 38, 61, 60, 62, 37]⟩ 62 W (by decide) (by decide)).mono ?_
    rintro e w' ⟨rfl, rfl⟩
    exact ⟨congrArg (fun b => Ending.returned (.bool b)) (by decide), rfl⟩
  have hone : (∀ d, s.data.toList[p + 1]? = some d → d ≠ 61) → oneL (s.data.toList.drop p) = ⟨7, [62], 1, 0⟩ := by
    intro h
    rw [drop_byte hp, hc]
    have hh : (s.data.toList.drop (p + 1)).head? = s.data.toList[p + 1]? := by rw [List.head?_drop]
    refine one_op (by decide) (fun e => ?_) (fun e => ?_)
    · exact absurd e (by decide)
    · exact fun q => (h 61 (by rw [← hh]; exact q)) rfl
  have hc0 := Lib.hid hc
  have HONE := Lib.hid hone
  clear hS hone hc
  go_enter Tryz.func14, Tryz.ntmps14
  go_wp2_with fail
  refine wp_scope_straight ?_
  by_cases hlt : p + 1 < s.size
  · have hmin : min ((p : Int) + 2) (s.size : Int) = (p : Int) + 2 := by omega
    have hw1 : IntKind.i64.wrap ((p : Int) + 2) = (p : Int) + 2 := IntWalk.i64_in _ (by omega)
    have h01 : 0 ≤ (p : Int) + 2 := by omega
    have hn1 : ((p : Int) + 2).toNat = p + 2 := by omega
    have HD := Lib.hid (get8 hlt)
    have HTL : Hid ((s.extract p (p + 2)).toList = [62, s[p + 1]]) := Lib.hid (by rw [two_list hlt, hc0.out])
    obtain ⟨tw, htw⟩ : ∃ tw, tw = s.extract p (p + 2) := ⟨_, rfl⟩
    rw [← htw] at HTL
    have HTW := Lib.hid htw
    clear htw
    go_upto_region 16 with (first | (go_at_call 22; refine (lxLetter_is _ _ HLB _).mono ?_; rintro e w' ⟨rfl, rfl⟩) | (go_at_call 21; refine (lxDigit_is _ _ HDB _).mono ?_; rintro e w' ⟨rfl, rfl⟩) | (go_at_call 27; refine (CO.out _).mono ?_; rintro e w' ⟨rfl, rfl⟩))
    go_quiet (fail)
    rw [← HTW.out]
    clear hmin hw1 h01 hn1
    generalize hD : World.drewN w _ = wd
    have hb0 : Below w.heap.size w wd := by rw [← hD]; exact below_draws8 w _
    have HS2 := Lib.hid (HS.out.kept hb0)
    have HB0 := Lib.hid hb0
    clear hD hb0 c0
    by_cases h61 : s[p + 1] = 61
    · have ht : tw.toList = [62, 61] := by rw [HTL.out, h61]
      have ht2 : tw = strB [62, 61] := by
        have : tw = strB tw.data.toList := rfl
        rw [this, ← Lib.toList_data, ht]
      have f1 : (tw.toList == [60, 62]) = false := by rw [ht]; decide
      have f2 : (tw.toList == [60, 61]) = false := by rw [ht]; decide
      have f3 : (tw.toList == [62, 61]) = true := by rw [ht]; decide
      have HG : Hid (oneL (s.data.toList.drop p) = ⟨7, [62, 61], 2, 0⟩) := Lib.hid (by
        rw [drop_byte hp, hc0.out, drop_byte hlt, h61]
        exact one_two (by decide))
      have CP : Hid (∀ nx : Int, Calls Tryz.prog 26 #[.pointer (some ⟨C, 0, none⟩), .int .i64 7, .string tw, .int .i64 p, .int .i64 nx] wd (PutPost C s (ws ++ [⟨7, [62, 61], p⟩]) wd nx 0)) := Lib.hid fun nx => by rw [ht2]; exact lxPut_any C s ws ⟨7, [62, 61], p⟩ nx wd HS2.out hn
      clear ht ht2 h61
      go_wp2_with fail
      refine (CP.out _).mono ?_
      rintro e w6 ⟨rfl, h1, h2⟩
      go_wp2
      rw [Exit.noGoto_ret]; go_ret2
      rw [HG.out]
      exact word_put rfl (by simp) HB0.out HS.out.lt h1 h2
    · have f1 : (tw.toList == [60, 62]) = false := by rw [HTL.out]; simp
      have f2 : (tw.toList == [60, 61]) = false := by rw [HTL.out]; simp
      have f3 : (tw.toList == [62, 61]) = false := by rw [HTL.out]; simpa using h61
      have HG : Hid (oneL (s.data.toList.drop p) = ⟨7, [62], 1, 0⟩) := Lib.hid (HONE.out (by intro d hd; rw [HD.out] at hd; injection hd with hd; rw [← hd]; exact h61))
      clear h61
      go_wp2_with (first | (go_at_call 22; refine (lxLetter_is _ _ HLB _).mono ?_; rintro e w' ⟨rfl, rfl⟩) | (go_at_call 21; refine (lxDigit_is _ _ HDB _).mono ?_; rintro e w' ⟨rfl, rfl⟩) | (go_at_call 27; refine (CO.out _).mono ?_; rintro e w' ⟨rfl, rfl⟩))
      refine (lxPut_any C s ws ⟨7, [62], p⟩ _ wd HS2.out hn).mono ?_
      rintro e w6 ⟨rfl, h1, h2⟩
      go_wp2
      rw [Exit.noGoto_ret]; go_ret2
      rw [HG.out]
      exact word_put rfl (by simp) HB0.out HS.out.lt h1 h2
  · have hpe : p + 1 = s.size := by omega
    have hmin : min ((p : Int) + 2) (s.size : Int) = (s.size : Int) := by omega
    have hw1 : IntKind.i64.wrap ((p : Int) + 2) = (p : Int) + 2 := IntWalk.i64_in _ (by omega)
    have h01 : 0 ≤ (p : Int) + 2 := by omega
    have HTL : Hid ((s.extract p s.size).toList = [62]) := Lib.hid (by rw [last_list hpe, hc0.out])
    obtain ⟨tw, htw⟩ : ∃ tw, tw = s.extract p s.size := ⟨_, rfl⟩
    rw [← htw] at HTL
    have HTW := Lib.hid htw
    have HD : Hid (s.data.toList[p + 1]? = none) := Lib.hid (List.getElem?_eq_none (by rw [← Lib.size_eq]; omega))
    clear htw hpe
    go_upto_region 16 with (first | (go_at_call 22; refine (lxLetter_is _ _ HLB _).mono ?_; rintro e w' ⟨rfl, rfl⟩) | (go_at_call 21; refine (lxDigit_is _ _ HDB _).mono ?_; rintro e w' ⟨rfl, rfl⟩) | (go_at_call 27; refine (CO.out _).mono ?_; rintro e w' ⟨rfl, rfl⟩))
    go_quiet (fail)
    rw [← HTW.out]
    clear hmin hw1 h01
    generalize hD : World.drewN w _ = wd
    have hb0 : Below w.heap.size w wd := by rw [← hD]; exact below_draws8 w _
    have HS2 := Lib.hid (HS.out.kept hb0)
    have HB0 := Lib.hid hb0
    clear hD hb0 c0
    have f1 : (tw.toList == [60, 62]) = false := by rw [HTL.out]; decide
    have f2 : (tw.toList == [60, 61]) = false := by rw [HTL.out]; decide
    have f3 : (tw.toList == [62, 61]) = false := by rw [HTL.out]; decide
    have HG : Hid (oneL (s.data.toList.drop p) = ⟨7, [62], 1, 0⟩) := Lib.hid (HONE.out (by intro d hd; rw [HD.out] at hd; cases hd))
    go_wp2_with (first | (go_at_call 22; refine (lxLetter_is _ _ HLB _).mono ?_; rintro e w' ⟨rfl, rfl⟩) | (go_at_call 21; refine (lxDigit_is _ _ HDB _).mono ?_; rintro e w' ⟨rfl, rfl⟩) | (go_at_call 27; refine (CO.out _).mono ?_; rintro e w' ⟨rfl, rfl⟩))
    refine (lxPut_any C s ws ⟨7, [62], p⟩ _ wd HS2.out hn).mono ?_
    rintro e w6 ⟨rfl, h1, h2⟩
    go_wp2
    rw [Exit.noGoto_ret]; go_ret2
    rw [HG.out]
    exact word_put rfl (by simp) HB0.out HS.out.lt h1 h2
theorem lxWord_any (C : Nat) (s : ByteArray) (ws : List WordL) (p : Nat) (y : Int) (w : World) (hS : CutS C s ws w) (L : LaidX w) (hp : p < s.size) (hs : s.size ≤ 65535) (hn : ws.length ≤ 100000) (hy : y = ((Utf8.decode s p).1 : Int)) :
    Calls Tryz.prog 14 #[.pointer (some ⟨C, 0, none⟩), .int .i64 p, .int .i32 y] w (WordPost C s ws w p (oneL (s.data.toList.drop p))) := by
  have hnone : inB s[p] = false → s[p] ≠ 34 → s[p] ≠ 35 → opB s[p] = false → Hid (oneL (s.data.toList.drop p) = noneL 21) := fun a b c d => Lib.hid (by rw [drop_byte hp]; exact one_none a b c d)
  by_cases h128 : s[p].toNat < 128
  · have hd := decode_ascii s p hp h128
    rw [hd] at hy
    simp only at hy
    by_cases hi : inB s[p] = true
    · exact lxWord_run C s ws p w hS hp hs hn L y (Lib.hid hy) hi
    · have hif : inB s[p] = false := by simpa using hi
      by_cases h34 : s[p] = 34
      · have : y = 34 := by rw [hy, h34]; rfl
        subst this; exact lxWord_quote C s ws p w hS hp hs hn h34
      by_cases h35 : s[p] = 35
      · have : y = 35 := by rw [hy, h35]; rfl
        subst this; exact lxWord_hash C s ws p w hS hp hs hn h35
      by_cases h60 : s[p] = 60
      · have : y = 60 := by rw [hy, h60]; rfl
        subst this; exact lxWord_60 C s ws p w hS hp hs hn h60
      by_cases h62 : s[p] = 62
      · have : y = 62 := by rw [hy, h62]; rfl
        subst this; exact lxWord_62 C s ws p w hS hp hs hn h62
      by_cases h127 : s[p] = 127
      · have h2 : 126 < y := by rw [hy, h127]; decide
        exact lxWord_high C s ws p w hS y h2 (hnone hif h34 h35 (by rw [h127]; decide))
      · have : s[p].toNat ≠ 127 := fun e => h127 (UInt8.toNat_inj.1 e)
        exact lxWord_sign C s ws p w hS hp hs hn y (Lib.hid hy) hif (by omega) h34 h35 h60 h62
  · have hd := (decode_high s p hp (by omega)).1
    have hf : ∀ c : UInt8, 128 ≤ c.toNat → inB c = false ∧ c ≠ 34 ∧ c ≠ 35 ∧ opB c = false := by
      intro c hc
      have ne : ∀ d : UInt8, d.toNat < 128 → c ≠ d := fun d hd e => by subst e; omega
      refine ⟨?_, ne 34 (by decide), ne 35 (by decide), ?_⟩
      · unfold inB letB digB
        simp only [Bool.or_eq_false_iff, Bool.and_eq_false_iff, decide_eq_false_iff_not, beq_eq_false_iff_ne]
        refine ⟨⟨⟨by omega, by omega⟩, ne 36 (by decide)⟩, ne 95 (by decide)⟩
      · cases ho : opB c with
        | false => rfl
        | true =>
          unfold opB at ho
          rw [List.contains_iff_mem] at ho
          have := (by decide : ∀ x ∈ ([40, 41, 44, 58, 94, 42, 47, 43, 45, 38, 61, 60, 62, 37] : List UInt8), x.toNat < 128) c ho
          omega
    obtain ⟨a, b, c, d⟩ := hf s[p] (by omega)
    exact lxWord_high C s ws p w hS y (by omega) (hnone a b c d)
end Go.Proofs.YtikahfnlflhbfaaGreatDoor
