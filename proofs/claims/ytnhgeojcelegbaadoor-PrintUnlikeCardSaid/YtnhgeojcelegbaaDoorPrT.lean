/- print: its small functions; a reference's text where the table alone is known. -/
import Derived.Test.YtnhgeojcelegbaaDoorPrP
import Derived.Test.YtnhgeojcelegbaaDoorPrSh
import Derived.Test.YtnhgeojcelegbaaDoorSpE
import Derived.Lib.SplitLaws
namespace Go.Proofs.YtnhgeojcelegbaaDoor
open Go.RowKit Go.Lib

/-- What print's laws know of the library's variables: the table of powers; that the greatest length of a needle is a number. -/
structure TabW (w : World) : Prop where
  tab : Lib.TabIs Tryd.prog w "internal/strconv.uint64pow10" .u64 Lib.pow10Tab
  mx : ∃ m : Int, w.cell? ⟨0, 0, none⟩ = some (.int .i64 m)
theorem TabW.kept {w w' : World} (h : TabW w) (hb : Below w.heap.size w w') : TabW w' := by
  obtain ⟨m, hm⟩ := h.mx
  have hlt : 0 < w.heap.size := by
    rcases Nat.eq_zero_or_pos w.heap.size with q | q
    · have : w.heap[0]? = none := Array.getElem?_eq_none (by omega)
      simp [World.cell?, this] at hm
    · exact q
  exact ⟨var_kept hb h.tab, m, (hb.cell (p := ⟨0, 0, none⟩) hlt).trans hm⟩
theorem TabW.below {w w' : World} {B : Nat} (h : TabW w) (hb : Below B w w') (hB : w.heap.size ≤ B) : TabW w' := h.kept (hb.mono hB)
theorem itoaT_any (n : Int) (w : World) (L : TabW w) (h0 : 0 ≤ n) (h1 : n ≤ 9223372036854775807) : Calls Tryd.prog 57 #[.int .i64 n] w fun e w' => e = .returned (.string ⟨(itoa n).toArray⟩) ∧ Below w.heap.size w w' := by
  refine (Tryd.strconv_Itoa n (by omega) h1 w L.tab).mono ?_
  rintro e w' ⟨rfl, k, os, rfl⟩
  refine ⟨rfl, rfl, rfl, rfl, by simp [Sort.grow], fun j hj => ?_⟩
  show (w.heap ++ os)[j]? = _
  rw [Array.getElem?_append_left hj]
set_option maxRecDepth 10000 in
set_option maxHeartbeats 2000000 in
theorem refTextT_any (r : RefT) (w : World) (L : TabW w) : Calls Tryd.prog 21 #[.agg #[.int .i64 r.row, .int .i64 r.col, .bool r.pr, .bool r.pc]] w (RtPost r w) := by
  have HL := Lib.hid L
  clear L
  obtain ⟨b, hb⟩ : ∃ b, placeB ⟨r.row, r.col, false, false⟩ = b := ⟨_, rfl⟩
  have HB := Lib.hid hb
  clear hb
  cases b
  · go_enter Tryd.func21, Tryd.ntmps21
    go_wp2_with fail
    refine (spMay_any r.row r.col _).mono ?_
    rintro e w2 ⟨he, b2⟩
    rw [HB.out] at he
    obtain rfl := he
    have B2 := Lib.hid ((ext_alloc (Below.refl _ w) (.cells #[.int .i64 r.row, .int .i64 r.col, .bool r.pr, .bool r.pc] 28)).trans (b2.mono (by simp)))
    clear b2
    go_wp2
    go_ret2
    refine ⟨?_, B2.out⟩
    have e1 : placeB r = false := HB.out
    simp [refTextL, refTextE, e1]
    rfl
  · have hp : 0 ≤ r.row ∧ r.row < 65536 ∧ 0 ≤ r.col ∧ r.col < 702 := by have := HB.out; simp [placeB] at this; omega
    obtain ⟨p1, p2, p3, p4⟩ := hp
    go_enter Tryd.func21, Tryd.ntmps21
    go_wp2_with fail
    refine (spMay_any r.row r.col _).mono ?_
    rintro e w2 ⟨he, b2⟩
    rw [HB.out] at he
    obtain rfl := he
    have kb := kept_block b2
    have hc := kb.2
    have HS : RtS w w2 := ⟨(ext_alloc (Below.refl _ w) (.cells #[.int .i64 r.row, .int .i64 r.col, .bool r.pr, .bool r.pc] 28)).trans (b2.mono (by simp)), kb.1⟩
    clear b2 kb
    go_wp2_with fail
    have cL : ∀ W, ((∀ o, W.cell? ⟨w.heap.size, o, none⟩ = (#[.int .i64 r.row, .int .i64 r.col, .bool r.pr, .bool r.pc] : Array Value)[o]?) ∧ RtS w W) → Calls Tryd.prog 56 #[.int .i64 r.col] W (fun e w' => e = .returned (.string (strB (lettersL r.col))) ∧ ((∀ o, w'.cell? ⟨w.heap.size, o, none⟩ = (#[.int .i64 r.row, .int .i64 r.col, .bool r.pr, .bool r.pc] : Array Value)[o]?) ∧ RtS w w')) :=
      fun W hW => (letters_any r.col W p3 p4).mono fun e w' h => ⟨h.1, fun o => (h.2.cell (p := ⟨w.heap.size, o, none⟩) hW.2.lt).trans (hW.1 o), hW.2.bel.trans (h.2.mono (Nat.le_of_lt hW.2.lt)), Nat.lt_of_lt_of_le hW.2.lt h.2.size⟩
    have cI : ∀ W, ((∀ o, W.cell? ⟨w.heap.size, o, none⟩ = (#[.int .i64 r.row, .int .i64 r.col, .bool r.pr, .bool r.pc] : Array Value)[o]?) ∧ RtS w W) → Calls Tryd.prog 57 #[.int .i64 (r.row + 1)] W (fun e w' => e = .returned (.string (strB (itoa (r.row + 1)))) ∧ ((∀ o, w'.cell? ⟨w.heap.size, o, none⟩ = (#[.int .i64 r.row, .int .i64 r.col, .bool r.pr, .bool r.pc] : Array Value)[o]?) ∧ RtS w w')) :=
      fun W hW => (itoaT_any (r.row + 1) W (HL.out.kept hW.2.bel) (by omega) (by omega)).mono fun e w' h => ⟨h.1, fun o => (h.2.cell (p := ⟨w.heap.size, o, none⟩) hW.2.lt).trans (hW.1 o), hW.2.bel.trans (h.2.mono (Nat.le_of_lt hW.2.lt)), Nat.lt_of_lt_of_le hW.2.lt h.2.size⟩
    have CL := Lib.hid cL; have CI := Lib.hid cI
    clear cL cI
    have hd : RtS w w2.drew := ⟨HS.bel.drew, HS.lt⟩
    have s1 : (strB (pinL r.pc)).size ≤ 1 := by rw [strB_size]; exact pinL_len _
    have s2 : (strB (pinL r.pr)).size ≤ 1 := by rw [strB_size]; exact pinL_len _
    have s3 : (strB (lettersL r.col)).size ≤ 2 := by rw [strB_size]; exact lettersL_len _
    have s4 : (strB (itoa (r.row + 1))).size ≤ 100 := by
      rw [strB_size, itoa, if_neg (by omega)]
      have := decDigits_len 5 (r.row + 1).toNat (by simp; omega)
      omega
    have hw1 : IntKind.i64.wrap (r.row + 1) = r.row + 1 := IntWalk.i64_in _ (by omega)
    have q1 : (9223372036854775807 < (strB (pinL r.pc)).size + (strB (lettersL r.col)).size) = False := eq_false (by omega)
    have q2 : (9223372036854775807 < (strB (pinL r.pc)).size + (strB (lettersL r.col)).size + (strB (pinL r.pr)).size) = False := eq_false (by omega)
    have q3 : (9223372036854775807 < (strB (pinL r.pc)).size + (strB (lettersL r.col)).size + (strB (pinL r.pr)).size + (strB (itoa (r.row + 1))).size) = False := eq_false (by omega)
    go_region_held3 (fun w' => (∀ o, w'.cell? ⟨w.heap.size, o, none⟩ = (#[.int .i64 r.row, .int .i64 r.col, .bool r.pr, .bool r.pc] : Array Value)[o]?) ∧ RtS w w') (first | assumption | exact ⟨hc, hd⟩ | exact hd) (first
      | (go_at_call 56
         refine (CL.out _ (by assumption)).mono ?_
         rintro e w' ⟨rfl, hS'⟩)
      | (go_at_call 57
         refine (CI.out _ (by assumption)).mono ?_
         rintro e w' ⟨rfl, hS'⟩)
      | (go_at_call 55
         refine (spPinB_any _ _).mono ?_
         rintro e w' ⟨rfl, rfl⟩))
    all_goals
      have HE := Lib.hid hS'.2.bel
      clear hS' HS hd hc
      go_wp2
      go_ret2
      refine ⟨?_, HE.out⟩
      have e1 : placeB r = true := HB.out
      show Ending.returned (.tuple #[.string (strB (pinL r.pc) ++ strB (lettersL r.col) ++ strB (pinL r.pr) ++ strB (itoa (r.row + 1))), .int .i64 0]) = _
      rw [strB_app, strB_app, strB_app, itoa, if_neg (by omega)]
      simp [refTextL, refTextE, e1]

theorem wholeText_any (n : Int) (w : World) (L : TabW w) (h : I64 n) : Calls Tryd.prog 41 #[.int .i64 n] w fun e w' => e = .returned (.string (strB (itoa n))) ∧ Below w.heap.size w w' := by
  have HL := Lib.hid L
  clear L
  have cF : ∀ W : World, W = w → Calls Tryd.prog 83 #[.int .i64 n, .int .i64 10] W fun e w' => e = .returned (.string (strB (itoa n))) ∧ Below W.heap.size W w' := by
    rintro W rfl
    go_enter Tryd.func83, Tryd.ntmps83
    go_wp2_with fail
    refine (Tryd.internal_strconv_FormatInt_10 n h.1 h.2 _ HL.out.tab).mono ?_
    rintro e w' ⟨rfl, k, os, rfl⟩
    go_wp2
    go_ret
    refine ⟨rfl, rfl, rfl, rfl, by simp [Sort.grow], fun j hj => ?_⟩
    show (W.heap ++ os)[j]? = _
    rw [Array.getElem?_append_left hj]
  have CF := Lib.hid cF
  clear cF
  go_enter Tryd.func41, Tryd.ntmps41
  go_wp2_with fail
  refine (CF.out _ rfl).mono ?_
  rintro e w' ⟨rfl, b⟩
  have B := Lib.hid b
  clear b
  go_wp2
  go_ret
  exact ⟨rfl, B.out⟩
theorem errors_any (n : Int) (w : World) (h0 : 1 ≤ n) (h1 : n ≤ 6) : Calls Tryd.prog 43 #[.int .i64 n] w fun e w' => e = .returned (.string (strB (errL n))) ∧ Below w.heap.size w w' := by
  rcases (show n = 1 ∨ n = 2 ∨ n = 3 ∨ n = 4 ∨ n = 5 ∨ n = 6 by omega) with rfl | rfl | rfl | rfl | rfl | rfl
  all_goals
    go_enter Tryd.func43, Tryd.ntmps43
    go_wp2
    go_ret
    exact ⟨rfl, by first | exact ext_alloc (Below.refl _ _) _ | exact (ext_alloc (Below.refl _ _) _).drew⟩
/-- Each quotation mark twice, byte by byte. -/
theorem dupQ_eq (l : List UInt8) : dupQ l = l.flatMap fun c => if c = 34 then [34, 34] else [c] := by
  have key : ∀ (l : List UInt8) (k : Nat), l.count 34 ≤ k → replaceK [34] [34, 34] k l = l.flatMap fun c => if c = 34 then [34, 34] else [c] := by
    intro l
    induction l with
    | nil => intro k _; cases k <;> rfl
    | cons c r ih =>
      intro k hk
      by_cases hc : c = 34
      · subst hc
        rw [List.count_cons_self] at hk
        obtain ⟨k, rfl⟩ : ∃ j, k = j + 1 := ⟨k - 1, by omega⟩
        have hi : index (34 :: r) [34] = 0 := by simp [index]
        rw [replaceK, hi]
        simp [ih k (by omega)]
      · have hk' : r.count 34 ≤ k := by rw [List.count_cons_of_ne hc] at hk; exact hk
        have hp : ([34] : List UInt8).isPrefixOf (c :: r) = false := by simp [List.isPrefixOf]; exact fun e => hc e.symm
        have := ih k hk'
        simp only [List.flatMap_cons, if_neg hc]
        rw [← this]
        cases k with
        | zero => rfl
        | succ k =>
          rw [replaceK, replaceK, index, hp]
          by_cases hm : (index r [34] == -1) = true
          · simp [hm]
          · have hge := index_ge r [34]
            have hm2 : index r [34] ≠ -1 := by simpa using hm
            have hn1 : (index r [34] + 1 == -1) = false := by rw [beq_eq_false_iff_ne]; omega
            have ht : (index r [34] + 1).toNat = (index r [34]).toNat + 1 := by omega
            simp only [hm, Bool.false_eq_true, if_false, hn1, ht, List.take_succ_cons, List.length_cons, List.length_nil]
            have : (index r [34]).toNat + 1 + (0 + 1) = ((index r [34]).toNat + (0 + 1)) + 1 := by omega
            rw [this, List.drop_succ_cons]
            rfl
  unfold dupQ replaceAll replace
  rw [if_neg (by decide)]
  refine key l _ ?_
  rw [replaceNum, if_pos (.inl (by decide)), count_one]
  exact Nat.le_refl _
theorem dupQ_len (l : List UInt8) : (dupQ l).length ≤ 2 * l.length := by
  rw [dupQ_eq]
  induction l with
  | nil => simp
  | cons c r ih =>
    rw [List.flatMap_cons, List.length_append, List.length_cons]
    split <;> (simp only [List.length_cons, List.length_nil]; omega)
theorem replaceQ_any (s : ByteArray) (w : World) (L : TabW w) (hs : s.size ≤ 1048576) : Calls Tryd.prog 42 #[.string s, .string ⟨#[34]⟩, .string ⟨#[34, 34]⟩] w fun e w' => e = .returned (.string (strB (dupQ s.data.toList))) ∧ Below w.heap.size w w' := by
  obtain ⟨m, hm⟩ := L.mx
  refine (Tryd.strings_ReplaceAll s ⟨#[34]⟩ ⟨#[34, 34]⟩ m w (by omega) hm (by decide) ?_).mono fun e w' h => ⟨h.1, h.2⟩
  have h1 := countB_le ⟨#[34]⟩ (by decide) s.size s (Nat.le_refl _)
  have h2 : (⟨#[34, 34]⟩ : ByteArray).size = 2 := rfl
  rw [h2]; omega
end Go.Proofs.YtnhgeojcelegbaaDoor
