/- The law ListNames of the catalogue: it answers true, whatever the input. -/
import Derived.Test.YtpmgjmdionmdjaaListC
namespace Go.Proofs.Ytpmgjmdionmdjaa
open Go.RowKit

theorem rows_fine : ∀ i, i < 76 → 1 ≤ (rowAt i).cls ∧ (rowAt i).cls ≤ 6 ∧ 0 ≤ (rowAt i).min ∧ ((rowAt i).max = -1 ∨ (rowAt i).min ≤ (rowAt i).max) := by decide +kernel
theorem name_ok {i : Nat} (hi : i < 76) : (⟨(rowAt i).name.toArray⟩ : ByteArray).size ≤ maxLen := by
  have := (names_fine i hi).2.2
  simp [ByteArray.size, maxLen]; omega
theorem find_yes {i : Nat} (hi : i < 76) (w : World) : Calls Try.prog 7 #[.string ⟨(rowAt i).name.toArray⟩] w fun e w' =>
    e = .returned (.tuple #[.int .i64 (i + 1), .bool true]) ∧ Below w.heap.size w w' :=
  (find_any _ w (name_ok hi)).mono fun _ _ h => ⟨h.1.trans (by rw [findV_some hi rfl]), h.2⟩
theorem find_no (s : ByteArray) (hs : s.size ≤ maxLen) (h : ∀ i, i < 76 → (rowAt i).name ≠ s.data.toList) (w : World) : Calls Try.prog 7 #[.string s] w fun e w' =>
    e = .returned (.tuple #[.int .i64 0, .bool false]) ∧ Below w.heap.size w w' :=
  (find_any _ w hs).mono fun _ _ h' => ⟨h'.1.trans (by rw [findV_none h]), h'.2⟩
theorem info_in {i : Nat} (hi : i < 76) (w : World) : Calls Try.prog 9 #[.int .i64 (i + 1)] w fun e w' =>
    e = .returned (.tuple #[.agg #[.string ⟨(rowAt i).name.toArray⟩, .int .i64 (rowAt i).cls, .int .i64 (rowAt i).min, .int .i64 (rowAt i).max], .int .i64 0]) ∧ Below w.heap.size w w' :=
  (info_any _ w).mono fun _ _ h => ⟨h.1.trans (by rw [infoV_yes hi]), h.2⟩
theorem info_out {n : Int} (h : ¬ (1 ≤ n ∧ n ≤ 76)) (w : World) : Calls Try.prog 9 #[.int .i64 n] w fun e w' =>
    e = .returned (.tuple #[.agg #[.string ⟨#[]⟩, .int .i64 0, .int .i64 0, .int .i64 0], .int .i64 1]) ∧ Below w.heap.size w w' :=
  (info_any _ w).mono fun _ _ h' => ⟨h'.1.trans (by rw [infoV_no h]), h'.2⟩

theorem byte_at (l : List UInt8) (k : Nat) (h : k < l.length) (hc : ∀ c ∈ l, 65 ≤ c ∧ c ≤ 90) : (65 : Int) ≤ ((ByteArray.mk l.toArray)[k]'(by show k < l.toArray.size; simpa using h)).toNat ∧ (((ByteArray.mk l.toArray)[k]'(by show k < l.toArray.size; simpa using h)).toNat : Int) ≤ 90 := by
  have e : ((ByteArray.mk l.toArray)[k]'(by show k < l.toArray.size; simpa using h)) = l[k] := rfl
  rw [e]
  have := hc _ (List.getElem_mem h)
  simp only [UInt8.le_iff_toNat_le] at this
  have h1 : (65 : UInt8).toNat = 65 := rfl
  have h2 : (90 : UInt8).toNat = 90 := rfl
  omega
theorem true_v {b : Bool} (h : b = true) : Ending.returned (.bool b) = .returned (.bool true) := by rw [h]

set_option maxRecDepth 100000 in
set_option maxHeartbeats 4000000 in
theorem listNames_in_yes (s : ByteArray) (hs : s.size ≤ maxLen) (f : Nat) (hf : f < 76) (w : World) (hx : ∃ i, i < 76 ∧ (rowAt i).name = s.data.toList) :
    Calls Try.prog 5 #[.string s, .int .i64 (f + 1)] w (TruePost w) := by
  obtain ⟨i, hi, hn⟩ := hx
  obtain rfl : s = ⟨(rowAt i).name.toArray⟩ := by rw [hn]
  clear hn
  have fine := names_fine f hf
  have rf := rows_fine f hf
  obtain ⟨h1, h2, h3⟩ := fine
  have h4 : 0 < (rowAt f).name.length := List.length_pos_iff.2 h1
  obtain ⟨r1, r2, r3, r4⟩ := rf
  have H2 := Lib.hid h2
  clear h1 h2
  by_cases r5 : (rowAt f).max = -1
  all_goals
    have r6 : ((rowAt f).max == -1 || decide ((rowAt f).min ≤ (rowAt f).max)) = true := by
      first | (rw [r5]; rfl) | (simp; omega)
    have R6 := Lib.hid r6
    have R5 := Lib.hid r5
    clear r6 r5 r4
    go_enter Try.func5, Try.ntmps5
    go_wp2_with (go_at_call 6; refine (begun_any _).mono ?_; rintro e w1 ⟨rfl, b1⟩)
    refine (find_yes hi _).mono ?_; rintro e w2 ⟨rfl, b2⟩
    go_wp2_with fail
    refine (info_in hi _).mono ?_; rintro e w3 ⟨rfl, b3⟩
    go_wp2_with fail
    refine (info_in hf _).mono ?_; rintro e w4 ⟨rfl, b4⟩
    obtain ⟨z4, -⟩ := kept_block b4
    go_wp2_with fail
    refine (find_yes hf _).mono ?_; rintro e w5 ⟨rfl, b5⟩
    obtain ⟨z5, c5⟩ := kept_block b5
    go_wp2_with fail
    go_loop [13] (fun i => ∃ k : Nat, k ≤ (rowAt f).name.length ∧ i = .int .i64 k) (fun i => (rowAt f).name.length - (intOf i).toNat)
    case atStart => exact ⟨0, Nat.zero_le _, rfl⟩
    case round =>
      obtain ⟨k, hk, rfl⟩ := hrel
      by_cases hlt : k < (rowAt f).name.length
      · obtain ⟨g1, g2⟩ := byte_at _ k hlt H2.out
        go_wp2
        exact ⟨⟨k + 1, by omega, rfl⟩, by simp [intOf]; omega⟩
      · have r5 := R5.out
        go_wp2
        all_goals
          go_ret
          refine ⟨true_v (by first | exact R6.out | simp), ext_trans (ext_alloc (ext_trans (ext_alloc (ext_trans (ext_trans b1 b2) b3) _) b4) _) b5⟩

set_option maxRecDepth 100000 in
set_option maxHeartbeats 4000000 in
theorem listNames_out_yes (s : ByteArray) (hs : s.size ≤ maxLen) (f : Int) (hf : ¬ (1 ≤ f ∧ f ≤ 76)) (w : World) (hx : ∃ i, i < 76 ∧ (rowAt i).name = s.data.toList) :
    Calls Try.prog 5 #[.string s, .int .i64 f] w (TruePost w) := by
  obtain ⟨i, hi, hn⟩ := hx
  obtain rfl : s = ⟨(rowAt i).name.toArray⟩ := by rw [hn]
  clear hn
  have hh : f < 1 ∨ (¬ f < 1 ∧ 76 < f) := by omega
  have HF := Lib.hid hf; clear hf
  rcases hh with h1 | ⟨h1, h2⟩
  all_goals
    go_enter Try.func5, Try.ntmps5
    go_wp2_with (go_at_call 6; refine (begun_any _).mono ?_; rintro e w1 ⟨rfl, b1⟩)
    refine (find_yes hi _).mono ?_; rintro e w2 ⟨rfl, b2⟩
    go_wp2_with fail
    refine (info_in hi _).mono ?_; rintro e w3 ⟨rfl, b3⟩
    go_wp2_with fail
    refine (info_out HF.out _).mono ?_; rintro e w4 ⟨rfl, b4⟩
    go_wp2
    go_ret
    refine ⟨rfl, ext_alloc (ext_trans (ext_alloc (ext_trans (ext_trans b1 b2) b3) _) b4) _⟩

set_option maxRecDepth 100000 in
set_option maxHeartbeats 4000000 in
theorem listNames_in_no (s : ByteArray) (hs : s.size ≤ maxLen) (f : Nat) (hf : f < 76) (w : World) (hx : ∀ i, i < 76 → (rowAt i).name ≠ s.data.toList) :
    Calls Try.prog 5 #[.string s, .int .i64 (f + 1)] w (TruePost w) := by
  have H := Lib.hid hx; clear hx
  have fine := names_fine f hf
  have rf := rows_fine f hf
  obtain ⟨h1, h2, h3⟩ := fine
  have h4 : 0 < (rowAt f).name.length := List.length_pos_iff.2 h1
  obtain ⟨r1, r2, r3, r4⟩ := rf
  have H2 := Lib.hid h2
  clear h1 h2
  by_cases r5 : (rowAt f).max = -1
  all_goals
    have r6 : ((rowAt f).max == -1 || decide ((rowAt f).min ≤ (rowAt f).max)) = true := by
      first | (rw [r5]; rfl) | (simp; omega)
    have R6 := Lib.hid r6
    have R5 := Lib.hid r5
    clear r6 r5 r4
    go_enter Try.func5, Try.ntmps5
    go_wp2_with (go_at_call 6; refine (begun_any _).mono ?_; rintro e w1 ⟨rfl, b1⟩)
    refine (find_no s hs H.out _).mono ?_; rintro e w2 ⟨rfl, b2⟩
    go_wp2_with fail
    refine (info_out (by omega) _).mono ?_; rintro e w3 ⟨rfl, b3⟩
    go_wp2_with fail
    refine (info_in hf _).mono ?_; rintro e w4 ⟨rfl, b4⟩
    obtain ⟨z4, -⟩ := kept_block b4
    go_wp2_with fail
    refine (find_yes hf _).mono ?_; rintro e w5 ⟨rfl, b5⟩
    obtain ⟨z5, c5⟩ := kept_block b5
    go_wp2_with fail
    go_loop [13] (fun i => ∃ k : Nat, k ≤ (rowAt f).name.length ∧ i = .int .i64 k) (fun i => (rowAt f).name.length - (intOf i).toNat)
    case atStart => exact ⟨0, Nat.zero_le _, rfl⟩
    case round =>
      obtain ⟨k, hk, rfl⟩ := hrel
      by_cases hlt : k < (rowAt f).name.length
      · obtain ⟨g1, g2⟩ := byte_at _ k hlt H2.out
        go_wp2
        exact ⟨⟨k + 1, by omega, rfl⟩, by simp [intOf]; omega⟩
      · have r5 := R5.out
        go_wp2
        all_goals
          go_ret
          refine ⟨true_v (by first | exact R6.out | simp), ext_trans (ext_alloc (ext_trans (ext_alloc (ext_trans (ext_trans b1 b2) b3) _) b4) _) b5⟩

set_option maxRecDepth 100000 in
set_option maxHeartbeats 4000000 in
theorem listNames_out_no (s : ByteArray) (hs : s.size ≤ maxLen) (f : Int) (hf : ¬ (1 ≤ f ∧ f ≤ 76)) (w : World) (hx : ∀ i, i < 76 → (rowAt i).name ≠ s.data.toList) :
    Calls Try.prog 5 #[.string s, .int .i64 f] w (TruePost w) := by
  have H := Lib.hid hx; clear hx
  have hh : f < 1 ∨ (¬ f < 1 ∧ 76 < f) := by omega
  have HF := Lib.hid hf; clear hf
  rcases hh with h1 | ⟨h1, h2⟩
  all_goals
    go_enter Try.func5, Try.ntmps5
    go_wp2_with (go_at_call 6; refine (begun_any _).mono ?_; rintro e w1 ⟨rfl, b1⟩)
    refine (find_no s hs H.out _).mono ?_; rintro e w2 ⟨rfl, b2⟩
    go_wp2_with fail
    refine (info_out (by omega) _).mono ?_; rintro e w3 ⟨rfl, b3⟩
    go_wp2_with fail
    refine (info_out HF.out _).mono ?_; rintro e w4 ⟨rfl, b4⟩
    go_wp2
    go_ret
    refine ⟨rfl, ext_alloc (ext_trans (ext_alloc (ext_trans (ext_trans b1 b2) b3) _) b4) _⟩

theorem listNames_any (s : ByteArray) (hs : s.size ≤ maxLen) (f : Int) (w : World) : Calls Try.prog 5 #[.string s, .int .i64 f] w (TruePost w) := by
  by_cases hx : ∃ i, i < 76 ∧ (rowAt i).name = s.data.toList
  all_goals by_cases hf : 1 ≤ f ∧ f ≤ 76
  · obtain ⟨k, rfl⟩ : ∃ k : Nat, f = k + 1 := ⟨f.toNat - 1, by omega⟩
    exact listNames_in_yes s hs k (by omega) w hx
  · exact listNames_out_yes s hs f hf w hx
  · obtain ⟨k, rfl⟩ : ∃ k : Nat, f = k + 1 := ⟨f.toNat - 1, by omega⟩
    exact listNames_in_no s hs k (by omega) w (fun i hi e => hx ⟨i, hi, e⟩)
  · exact listNames_out_no s hs f hf w (fun i hi e => hx ⟨i, hi, e⟩)
end Go.Proofs.Ytpmgjmdionmdjaa
