/- References' texts: a column's letters; a reference's text. -/
import Derived.Test.YtnhgeojcelegbaaDoorSpC
import Derived.Laws.Cover4
import Derived.Deep.RegionHeld3
namespace Go.Proofs.YtnhgeojcelegbaaDoor
open Go.RowKit Go.Lib

theorem encode_low {x : Int} (h0 : 0 ≤ x) (h1 : x < 128) : Utf8.encode x = ⟨#[UInt8.ofNat x.toNat]⟩ := by
  have hv : Utf8.valid x = true := by unfold Utf8.valid; simp; omega
  unfold Utf8.encode
  simp only [hv, if_true]
  rw [if_pos (by omega)]
set_option maxRecDepth 10000 in
set_option maxHeartbeats 1000000 in
theorem letters_any (c : Int) (w : World) (h0 : 0 ≤ c) (h1 : c < 702) : Calls Tryd.prog 56 #[.int .i64 c] w fun e w' => e = .returned (.string ⟨(lettersL c).toArray⟩) ∧ Below w.heap.size w w' := by
  by_cases h : c < 26
  · go_enter Tryd.func56, Tryd.ntmps56
    go_wp2
    go_ret
    refine ⟨?_, Below.refl _ _⟩
    show Ending.returned (.string (Utf8.encode (65 + c))) = _
    rw [encode_low (by omega) (by omega), lettersL, if_pos h, show (65 + c).toNat = 65 + c.toNat by omega]
  · have hcv : ∀ x y : Int, (convert 116 9 (.slice (some ⟨w.heap.size, 0, none⟩) 2 2)).run Tryd.prog (w.alloc (.cells #[.int .i32 x, .int .i32 y] 21)) = .ok (.string (runesBytes [x, y])) (w.alloc (.cells #[.int .i32 x, .int .i32 y] 21)) := fun x y =>
      run_convert_runes _ 116 9 21 ⟨w.heap.size, 0, none⟩ 2 2 [x, y] (Nat.le_refl _) Tryd.underlying116 Tryd.underlying21 Tryd.underlying9 (fun j hj => by
        match j, hj with
        | 0, _ => simp [Addr.add]
        | 1, _ => simp [Addr.add])
    have hq1 : 1 ≤ c / 26 := by omega
    have hq2 : c / 26 ≤ 26 := by omega
    have hr1 : 0 ≤ c % 26 := by omega
    have hr2 : c % 26 ≤ 25 := by omega
    go_enter Tryd.func56, Tryd.ntmps56
    go_wp2_with (simp only [hcv])
    go_ret
    refine ⟨?_, ext_alloc (Below.refl _ _) _⟩
    show Ending.returned (.string (runesBytes [65 + c / 26 - 1, 65 + c % 26])) = _
    simp only [runesBytes, List.foldl]
    rw [encode_low (by omega) (by omega), encode_low (by omega) (by omega), lettersL, if_neg (by omega), show (65 + c / 26 - 1).toNat = 65 + ((c - 26) / 26).toNat by omega, show (65 + c % 26).toNat = 65 + ((c - 26) % 26).toNat by omega]
    rfl
theorem itoa_any (n : Int) (w : World) (L : LaidW w) (h0 : 0 ≤ n) (h1 : n ≤ 9223372036854775807) : Calls Tryd.prog 57 #[.int .i64 n] w fun e w' => e = .returned (.string ⟨(itoa n).toArray⟩) ∧ Below w.heap.size w w' := by
  refine (Tryd.strconv_Itoa n (by omega) h1 w L.tab).mono ?_
  rintro e w' ⟨rfl, k, os, rfl⟩
  refine ⟨rfl, rfl, rfl, rfl, by simp [Sort.grow], fun j hj => ?_⟩
  show (w.heap ++ os)[j]? = _
  rw [Array.getElem?_append_left hj]
theorem lettersL_len (c : Int) : (lettersL c).length ≤ 2 := by unfold lettersL; split <;> simp
theorem pinL_len (b : Bool) : (pinL b).length ≤ 1 := by cases b <;> simp [pinL]
def strB (l : List UInt8) : ByteArray := ⟨l.toArray⟩
theorem strB_size (l : List UInt8) : (strB l).size = l.length := by rw [Lib.size_eq]; simp [strB]
theorem strB_app (a b : List UInt8) : strB a ++ strB b = strB (a ++ b) := by
  apply ByteArray.ext
  simp [strB]
theorem spPinB_any (b : Bool) (w : World) : Calls Tryd.prog 55 #[.bool b] w fun e w' => e = .returned (.string (strB (pinL b))) ∧ w = w' := spPin_any b w
theorem decDigits_len : ∀ (k n : Nat), n < 10 ^ (k + 1) → (decDigits n).length ≤ k + 1
  | 0, n, h => by rw [decDigits, dif_pos (by simpa using h)]; simp
  | k + 1, n, h => by
    rw [decDigits]
    split
    · simp
    · have h2 : n / 10 < 10 ^ (k + 1) := by rw [Nat.div_lt_iff_lt_mul (by omega)]; rw [Nat.pow_succ] at h; exact h
      have := decDigits_len k (n / 10) h2
      simp only [List.length_append, List.length_cons, List.length_nil]; omega
structure RtS (w : World) (W : World) : Prop where
  bel : Below w.heap.size w W
  lt : w.heap.size < W.heap.size
def RtPost (r : RefT) (w : World) (e : Ending) (w' : World) : Prop := e = .returned (.tuple #[.string (strB (refTextL r)), .int .i64 (refTextE r)]) ∧ Below w.heap.size w w'
set_option maxRecDepth 10000 in
set_option maxHeartbeats 2000000 in
theorem refText_any (r : RefT) (w : World) (L : LaidW w) : Calls Tryd.prog 21 #[.agg #[.int .i64 r.row, .int .i64 r.col, .bool r.pr, .bool r.pc]] w (RtPost r w) := by
  have HL := Lib.hid L
  clear L
  obtain ⟨b, hb⟩ : ∃ b, placeB ⟨r.row, r.col, false, false⟩ = b := ⟨_, rfl⟩
  have HB := Lib.hid hb
  clear hb
  cases b
  · go_enter Tryd.func21, Tryd.ntmps21
    go_wp2_with fail
    refine (spMay_any r.row r.col _).mono ?_
    rintro e w2 ⟨he, b2⟩
    rw [HB.out] at he
    obtain rfl := he
    have B2 := Lib.hid ((ext_alloc (Below.refl _ w) (.cells #[.int .i64 r.row, .int .i64 r.col, .bool r.pr, .bool r.pc] 28)).trans (b2.mono (by simp)))
    clear b2
    go_wp2
    go_ret2
    refine ⟨?_, B2.out⟩
    have e1 : placeB r = false := HB.out
    simp [refTextL, refTextE, e1]
    rfl
  · have hp : 0 ≤ r.row ∧ r.row < 65536 ∧ 0 ≤ r.col ∧ r.col < 702 := by have := HB.out; simp [placeB] at this; omega
    obtain ⟨p1, p2, p3, p4⟩ := hp
    go_enter Tryd.func21, Tryd.ntmps21
    go_wp2_with fail
    refine (spMay_any r.row r.col _).mono ?_
    rintro e w2 ⟨he, b2⟩
    rw [HB.out] at he
    obtain rfl := he
    have kb := kept_block b2
    have hc := kb.2
    have HS : RtS w w2 := ⟨(ext_alloc (Below.refl _ w) (.cells #[.int .i64 r.row, .int .i64 r.col, .bool r.pr, .bool r.pc] 28)).trans (b2.mono (by simp)), kb.1⟩
    clear b2 kb
    go_wp2_with fail
    have cL : ∀ W, ((∀ o, W.cell? ⟨w.heap.size, o, none⟩ = (#[.int .i64 r.row, .int .i64 r.col, .bool r.pr, .bool r.pc] : Array Value)[o]?) ∧ RtS w W) → Calls Tryd.prog 56 #[.int .i64 r.col] W (fun e w' => e = .returned (.string (strB (lettersL r.col))) ∧ ((∀ o, w'.cell? ⟨w.heap.size, o, none⟩ = (#[.int .i64 r.row, .int .i64 r.col, .bool r.pr, .bool r.pc] : Array Value)[o]?) ∧ RtS w w')) :=
      fun W hW => (letters_any r.col W p3 p4).mono fun e w' h => ⟨h.1, fun o => (h.2.cell (p := ⟨w.heap.size, o, none⟩) hW.2.lt).trans (hW.1 o), hW.2.bel.trans (h.2.mono (Nat.le_of_lt hW.2.lt)), Nat.lt_of_lt_of_le hW.2.lt h.2.size⟩
    have cI : ∀ W, ((∀ o, W.cell? ⟨w.heap.size, o, none⟩ = (#[.int .i64 r.row, .int .i64 r.col, .bool r.pr, .bool r.pc] : Array Value)[o]?) ∧ RtS w W) → Calls Tryd.prog 57 #[.int .i64 (r.row + 1)] W (fun e w' => e = .returned (.string (strB (itoa (r.row + 1)))) ∧ ((∀ o, w'.cell? ⟨w.heap.size, o, none⟩ = (#[.int .i64 r.row, .int .i64 r.col, .bool r.pr, .bool r.pc] : Array Value)[o]?) ∧ RtS w w')) :=
      fun W hW => (itoa_any (r.row + 1) W (HL.out.kept hW.2.bel) (by omega) (by omega)).mono fun e w' h => ⟨h.1, fun o => (h.2.cell (p := ⟨w.heap.size, o, none⟩) hW.2.lt).trans (hW.1 o), hW.2.bel.trans (h.2.mono (Nat.le_of_lt hW.2.lt)), Nat.lt_of_lt_of_le hW.2.lt h.2.size⟩
    have CL := Lib.hid cL; have CI := Lib.hid cI
    clear cL cI
    have hd : RtS w w2.drew := ⟨HS.bel.drew, HS.lt⟩
    have s1 : (strB (pinL r.pc)).size ≤ 1 := by rw [strB_size]; exact pinL_len _
    have s2 : (strB (pinL r.pr)).size ≤ 1 := by rw [strB_size]; exact pinL_len _
    have s3 : (strB (lettersL r.col)).size ≤ 2 := by rw [strB_size]; exact lettersL_len _
    have s4 : (strB (itoa (r.row + 1))).size ≤ 100 := by
      rw [strB_size, itoa, if_neg (by omega)]
      have := decDigits_len 5 (r.row + 1).toNat (by simp; omega)
      omega
    have hw1 : IntKind.i64.wrap (r.row + 1) = r.row + 1 := IntWalk.i64_in _ (by omega)
    have q1 : (9223372036854775807 < (strB (pinL r.pc)).size + (strB (lettersL r.col)).size) = False := eq_false (by omega)
    have q2 : (9223372036854775807 < (strB (pinL r.pc)).size + (strB (lettersL r.col)).size + (strB (pinL r.pr)).size) = False := eq_false (by omega)
    have q3 : (9223372036854775807 < (strB (pinL r.pc)).size + (strB (lettersL r.col)).size + (strB (pinL r.pr)).size + (strB (itoa (r.row + 1))).size) = False := eq_false (by omega)
    go_region_held3 (fun w' => (∀ o, w'.cell? ⟨w.heap.size, o, none⟩ = (#[.int .i64 r.row, .int .i64 r.col, .bool r.pr, .bool r.pc] : Array Value)[o]?) ∧ RtS w w') (first | assumption | exact ⟨hc, hd⟩ | exact hd) (first
      | (go_at_call 56
         refine (CL.out _ (by assumption)).mono ?_
         rintro e w' ⟨rfl, hS'⟩)
      | (go_at_call 57
         refine (CI.out _ (by assumption)).mono ?_
         rintro e w' ⟨rfl, hS'⟩)
      | (go_at_call 55
         refine (spPinB_any _ _).mono ?_
         rintro e w' ⟨rfl, rfl⟩))
    all_goals
      have HE := Lib.hid hS'.2.bel
      clear hS' HS hd hc
      go_wp2
      go_ret2
      refine ⟨?_, HE.out⟩
      have e1 : placeB r = true := HB.out
      show Ending.returned (.tuple #[.string (strB (pinL r.pc) ++ strB (lettersL r.col) ++ strB (pinL r.pr) ++ strB (itoa (r.row + 1))), .int .i64 0]) = _
      rw [strB_app, strB_app, strB_app, itoa, if_neg (by omega)]
      simp [refTextL, refTextE, e1]
end Go.Proofs.YtnhgeojcelegbaaDoor
