/- The laws of the catalogue: begun, ListAll, ListTable, ListNames: each answers true, whatever the input. -/
import Derived.Test.YtpmgjmdionmdjaaListB
import Derived.BigQuiet
import Derived.Deep.QuietTactic
namespace Go.Proofs.Ytpmgjmdionmdjaa
open Go.RowKit

def infoT (n : Int) : Value := .tuple #[.agg #[.string ⟨(infoRow n).name.toArray⟩, .int .i64 (infoRow n).cls, .int .i64 (infoRow n).min, .int .i64 (infoRow n).max], .int .i64 (infoErr n)]
theorem info_c (n : Int) (w : World) : Calls Try.prog 9 #[.int .i64 n] w fun e w' =>
    e = .returned (.tuple #[.agg #[.string ⟨(infoRow n).name.toArray⟩, .int .i64 (infoRow n).cls, .int .i64 (infoRow n).min, .int .i64 (infoRow n).max], .int .i64 (infoErr n)]) ∧ Below w.heap.size w w' :=
  (info_any n w).mono fun _ _ h => h
theorem refInfo_c (n : Int) (w : World) : Calls Try.prog 10 #[.int .i64 n] w fun e w' =>
    e = .returned (.tuple #[.agg #[.string ⟨(infoRow n).name.toArray⟩, .int .i64 (infoRow n).cls, .int .i64 (infoRow n).min, .int .i64 (infoRow n).max], .int .i64 (infoErr n)]) ∧ Below w.heap.size w w' :=
  (refInfo_any n w).mono fun _ _ h => h
theorem find_c (s : ByteArray) (w : World) (hs : s.size ≤ maxLen) : Calls Try.prog 7 #[.string s] w fun e w' =>
    e = .returned (.tuple #[.int .i64 (findN s.data.toList), .bool (findB s.data.toList)]) ∧ Below w.heap.size w w' := (find_any s w hs).mono fun _ _ h => h
theorem refFind_c (s : ByteArray) (w : World) : Calls Try.prog 8 #[.string s] w fun e w' =>
    e = .returned (.tuple #[.int .i64 (findN s.data.toList), .bool (findB s.data.toList)]) ∧ Below w.heap.size w w' := (refFind_any s w).mono fun _ _ h => h
theorem find_SUM (w : World) : Calls Try.prog 7 #[.string ⟨#[83, 85, 77]⟩] w fun e w' =>
    e = .returned (.tuple #[.int .i64 54, .bool true]) ∧ Below w.heap.size w w' :=
  (find_c ⟨#[83, 85, 77]⟩ w (by decide)).mono fun _ _ h => ⟨h.1.trans (by rw [show findN (ByteArray.mk #[83, 85, 77]).data.toList = 54 by decide +kernel, show findB (ByteArray.mk #[83, 85, 77]).data.toList = true by decide +kernel]), h.2⟩
theorem find_sum (w : World) : Calls Try.prog 7 #[.string ⟨#[115, 117, 109]⟩] w fun e w' =>
    e = .returned (.tuple #[.int .i64 0, .bool false]) ∧ Below w.heap.size w w' :=
  (find_c ⟨#[115, 117, 109]⟩ w (by decide)).mono fun _ _ h => ⟨h.1.trans (by rw [show findN (ByteArray.mk #[115, 117, 109]).data.toList = 0 by decide +kernel, show findB (ByteArray.mk #[115, 117, 109]).data.toList = false by decide +kernel]), h.2⟩
theorem info_42 (w : World) : Calls Try.prog 9 #[.int .i64 42] w fun e w' =>
    e = .returned (.tuple #[.agg #[.string ⟨#[73, 70]⟩, .int .i64 3, .int .i64 2, .int .i64 3], .int .i64 0]) ∧ Below w.heap.size w w' :=
  (info_c 42 w).mono fun _ _ h => ⟨h.1.trans (by
    rw [show (infoRow 42) = ⟨[73, 70], 3, 2, 3⟩ by rfl, show infoErr 42 = 0 by rfl]), h.2⟩

set_option maxRecDepth 100000 in
set_option maxHeartbeats 1000000 in
theorem begun_any (w : World) : Calls Try.prog 6 #[] w (TruePost w) := by
  go_enter Try.func6, Try.ntmps6
  go_wp2_with fail
  refine (find_SUM _).mono ?_; rintro e w1 ⟨rfl, b1⟩
  go_wp2_with fail
  refine (find_sum _).mono ?_; rintro e w2 ⟨rfl, b2⟩
  go_wp2_with fail
  refine (info_42 _).mono ?_; rintro e w3 ⟨rfl, b3⟩
  go_wp2
  exact bodyPost_ret (v := .bool true) (by simp [results, Try.results6, go_sem]) rfl ⟨rfl, ext_alloc (ext_trans (ext_trans b1 b2) b3) _⟩

set_option maxRecDepth 100000 in
set_option maxHeartbeats 1000000 in
theorem listTable_any (w : World) : Calls Try.prog 4 #[] w (TruePost w) := by
  go_enter Try.func4, Try.ntmps4
  go_wp2_with (go_at_call 6; refine (begun_any _).mono ?_; rintro e w1 ⟨rfl, b1⟩)
  go_loopw [1] (fun i wr => ∃ f : Int, -2 ≤ f ∧ f ≤ 79 ∧ i = .int .i64 f ∧ Below w.heap.size w wr)
    (fun i _ => (79 - intOf i).toNat)
  case atStart => exact ⟨-2, by omega, by omega, rfl, b1⟩
  case round =>
    obtain ⟨f, h0, h1, rfl, hb⟩ := hrel
    by_cases hlt : f ≤ 78
    · go_wp2_with (first
        | (go_at_call 9; refine (info_c _ _).mono ?_; rintro e w2 ⟨rfl, b2⟩; have hz2 := b2.size)
        | (go_at_call 10; refine (refInfo_c _ _).mono ?_; rintro e w3 ⟨rfl, b3⟩; obtain ⟨hz, hc⟩ := kept_block b3))
      exact ⟨⟨f + 1, by omega, by omega, rfl, ext_alloc (ext_trans (ext_alloc (ext_trans hb b2) _) b3) _⟩, by simp [intOf]; omega⟩
    · go_wp2
      go_ret
      exact ⟨rfl, hb⟩

/-- What is told of a slice of texts, or of numbers, that came in. -/
def StrRow (w : World) (a : Option Addr) (len : Nat) : Prop := ∀ i, i < len → ∃ b off s, a = some ⟨b, off, none⟩ ∧ b < w.heap.size ∧ w.cell? ⟨b, off + i, none⟩ = some (.string s) ∧ s.size ≤ maxLen
def IntRow (k : IntKind) (w : World) (a : Option Addr) (len : Nat) : Prop := ∀ i, i < len → ∃ b off n, a = some ⟨b, off, none⟩ ∧ b < w.heap.size ∧ w.cell? ⟨b, off + i, none⟩ = some (.int k n)

set_option maxRecDepth 100000 in
set_option maxHeartbeats 4000000 in
theorem listAll_any (a0 : Option Addr) (n0 c0 : Nat) (a1 : Option Addr) (n1 c1 : Nat) (w : World) (m0 : n0 ≤ 9223372036854775807) (m1 : n1 ≤ 9223372036854775807) (h0 : StrRow w a0 n0) (h1 : IntRow .i64 w a1 n1) :
    Calls Try.prog 3 #[.slice a0 n0 c0, .slice a1 n1 c1] w (TruePost w) := by
  go_enter Try.func3, Try.ntmps3
  go_wp2_with (go_at_call 6; refine (begun_any _).mono ?_; rintro e w1 ⟨rfl, b1⟩)
  go_loopw [5] (fun i wr => ∃ k : Nat, k ≤ n0 + n1 ∧ (k ≤ n0 ∨ k ≤ n1) ∧ i = .int .i64 k ∧ Below w.heap.size w wr)
    (fun i _ => n0 + n1 - (intOf i).toNat)
  case atStart => exact ⟨0, by omega, by omega, rfl, b1⟩
  case round =>
    obtain ⟨k, hk, hk2, rfl, hb⟩ := hrel
    by_cases k0 : k < n0
    all_goals by_cases k1 : k < n1
    · obtain ⟨b0, o0, s, rfl, hb0, hc0, hs⟩ := h0 k k0
      obtain ⟨b1', o1, n, rfl, hb1, hc1⟩ := h1 k k1
      clear h0 h1
      have x1 := (hb.cell (p := ⟨b0, o0 + k, none⟩) hb0).trans hc0
      go_wp2_with (first
        | (go_at_call 7; refine (find_c _ _ hs).mono ?_; rintro e w2 ⟨rfl, b2⟩; have e2 := ext_trans hb b2; have x2 := (e2.cell (p := ⟨b0, o0 + k, none⟩) hb0).trans hc0)
        | (go_at_call 8; refine (refFind_c _ _).mono ?_; rintro e w3 ⟨rfl, b3⟩; have e3 := ext_trans e2 b3; have x3 := (e3.cell (p := ⟨b1', o1 + k, none⟩) hb1).trans hc1)
        | (go_at_call 9; refine (info_c _ _).mono ?_; rintro e w4 ⟨rfl, b4⟩; have e4 := ext_trans e3 b4; have x4 := (e4.cell (p := ⟨b1', o1 + k, none⟩) hb1).trans hc1; have z4 : b1' < w4.heap.size := Nat.lt_of_lt_of_le hb1 e4.size)
        | (go_at_call 10; refine (refInfo_c _ _).mono ?_; rintro e w5 ⟨rfl, b5⟩; obtain ⟨hz, hc⟩ := kept_block b5; have e5 := ext_trans (ext_alloc e4 _) b5))
      all_goals (refine ⟨⟨k + 1, by omega, by omega, by go_num, ext_alloc e5 _⟩, by simp [intOf]; omega⟩)
    · obtain ⟨b0, o0, s, rfl, hb0, hc0, hs⟩ := h0 k k0
      clear h0 h1
      have x1 := (hb.cell (p := ⟨b0, o0 + k, none⟩) hb0).trans hc0
      go_wp2_with (first
        | (go_at_call 7; refine (find_c _ _ hs).mono ?_; rintro e w2 ⟨rfl, b2⟩; have e2 := ext_trans hb b2; have x2 := (e2.cell (p := ⟨b0, o0 + k, none⟩) hb0).trans hc0)
        | (go_at_call 8; refine (refFind_c _ _).mono ?_; rintro e w3 ⟨rfl, b3⟩; have e3 := ext_trans e2 b3))
      all_goals (refine ⟨⟨k + 1, by omega, by omega, by go_num, e3⟩, by simp [intOf]; omega⟩)
    · obtain ⟨b1', o1, n, rfl, hb1, hc1⟩ := h1 k k1
      clear h0 h1
      have x3 := (hb.cell (p := ⟨b1', o1 + k, none⟩) hb1).trans hc1
      go_wp2_with (first
        | (go_at_call 9; refine (info_c _ _).mono ?_; rintro e w4 ⟨rfl, b4⟩; have e4 := ext_trans hb b4; have x4 := (e4.cell (p := ⟨b1', o1 + k, none⟩) hb1).trans hc1; have z4 : b1' < w4.heap.size := Nat.lt_of_lt_of_le hb1 e4.size)
        | (go_at_call 10; refine (refInfo_c _ _).mono ?_; rintro e w5 ⟨rfl, b5⟩; obtain ⟨hz, hc⟩ := kept_block b5; have e5 := ext_trans (ext_alloc e4 _) b5))
      all_goals (refine ⟨⟨k + 1, by omega, by omega, by go_num, ext_alloc e5 _⟩, by simp [intOf]; omega⟩)
    · clear h0 h1
      go_wp2
      go_ret
      exact ⟨rfl, hb⟩
end Go.Proofs.Ytpmgjmdionmdjaa
