/- Trees: the calls whose answers the document fixes. -/
import Derived.Test.YtkjfeakbhfkldaaTreePl
namespace Go.Proofs.Ytkjfeakbhfkldaa
open Go.RowKit

def oneH : Hd := ⟨1, 0, 1, [], ⟨0, 0, false, false⟩, ⟨0, 0, false, false⟩, 0⟩
def rngH : Hd := ⟨6, 0, 0, [], ⟨1, 1, false, false⟩, ⟨0, 0, false, false⟩, 0⟩
def sumH : Hd := ⟨9, 0, 0, [], ⟨0, 0, false, false⟩, ⟨0, 0, false, false⟩, 54⟩
def negH : Hd := ⟨1, 0, -1, [], ⟨0, 0, false, false⟩, ⟨0, 0, false, false⟩, 0⟩
def sumK : Trees := .cons rngH .nil (.cons oneH .nil .nil)
theorem bg_size : sizeN sumH sumK = 3 ∧ sizeD sumH sumK = 2 ∧ sizeT sumH sumK = 0 := by refine ⟨?_, ?_, ?_⟩ <;> kernel_rfl
theorem bg_may : mayE sumH sumK = 0 := by kernel_rfl
theorem bg_neg : mayE negH .nil = 22 := by kernel_rfl
theorem bg_fine : Fine sumH sumK := of_decide_eq_true (by kernel_rfl)
theorem bg_reads : ReadsAns sumH sumK = [⟨0, 0, 1, 1⟩] := by kernel_rfl
theorem bg_same : sameV sumH sumH sumK sumK = true ∧ sameV sumH oneH sumK .nil = false := by refine ⟨?_, ?_⟩ <;> kernel_rfl
theorem ok_small {a b c d : Int} {r t : RefT} (h : I64 a ∧ I64 b ∧ I64 c ∧ I64 r.row ∧ I64 r.col ∧ I64 t.row ∧ I64 t.col ∧ I64 d) : Hd.ok ⟨a, b, c, [], r, t, d⟩ :=
  ⟨by simp, h.1, h.2.1, h.2.2.1, h.2.2.2.1, h.2.2.2.2.1, h.2.2.2.2.2.1, h.2.2.2.2.2.2.1, h.2.2.2.2.2.2.2⟩
theorem one_ok : oneH.ok := ok_small (by simp [I64])
theorem rng_ok : rngH.ok := ok_small (by simp [I64])
theorem sum_ok : sumH.ok := ok_small (by simp [I64])
theorem neg_ok : negH.ok := ok_small (by simp [I64])

def bgKids : Array Value := (rngH.vals (.slice none 0 0) ++ oneH.vals (.slice none 0 0)).toArray
structure BgR (w w' : World) : Prop where
  bel : Below w.heap.size w w'
  one : w'.heap[w.heap.size]? = some (.cells #[.int .i64 1, .int .i64 0, .int .i64 1, .string ⟨#[]⟩, .int .i64 0, .int .i64 0, .bool false, .bool false, .int .i64 0, .int .i64 0, .bool false, .bool false, .int .i64 0, .slice none 0 0] 29)
  kids : w'.heap[w.heap.size + 1]? = some (.cells bgKids 29)
  sum : w'.heap[w.heap.size + 2]? = some (.cells #[.int .i64 9, .int .i64 0, .int .i64 0, .string ⟨#[]⟩, .int .i64 0, .int .i64 0, .bool false, .bool false, .int .i64 0, .int .i64 0, .bool false, .bool false, .int .i64 54, .slice (some ⟨w.heap.size + 1, 0, none⟩) 2 2] 29)
theorem BgR.lt {w w' : World} (h : BgR w w') : w.heap.size + 2 < w'.heap.size := lt_of_block h.sum
theorem BgR.step {w w1 w2 : World} (h : BgR w w1) (b : Below w1.heap.size w1 w2) : BgR w w2 := by
  have := h.lt
  exact ⟨h.bel.trans (b.mono (by omega)), (b.block _ (by omega)).trans h.one, (b.block _ (by omega)).trans h.kids, (b.block _ (by omega)).trans h.sum⟩
theorem BgR.oneV {w : World} : TreeV w w.heap.size oneH .nil none 0 := ⟨rfl, by omega, one_ok, trivial⟩
theorem negV {w : World} : TreeV w w.heap.size negH .nil none 0 := ⟨rfl, by omega, neg_ok, trivial⟩
theorem BgR.sumV {w w' : World} (h : BgR w w') : TreeV w' w'.heap.size sumH sumK (some ⟨w.heap.size + 1, 0, none⟩) 2 := by
  have hlt := h.lt
  have lt1 : w.heap.size + 1 < w'.heap.size := by omega
  have c := cells_of_block h.kids
  refine ⟨rfl, by omega, sum_ok, ⟨⟨w.heap.size + 1, 0, none, 0, 0, rfl, lt1, ⟨lt1, fun j v hj => ?_⟩, rfl, by omega, rng_ok, trivial⟩, ⟨w.heap.size + 1, 0, none, 0, 0, rfl, lt1, ⟨lt1, fun j v hj => ?_⟩, rfl, by omega, one_ok, trivial⟩, trivial⟩⟩
  · have hl := (List.getElem?_eq_some_iff.1 hj).1
    rw [Hd.vals_len] at hl
    rw [c]
    unfold bgKids
    rw [List.getElem?_toArray, List.getElem?_append_left (by rw [Hd.vals_len]; omega), ← hj]
    congr 1; omega
  · have hl := (List.getElem?_eq_some_iff.1 hj).1
    rw [Hd.vals_len] at hl
    rw [c]
    unfold bgKids
    rw [List.getElem?_toArray, List.getElem?_append_right (by rw [Hd.vals_len]; omega), ← hj]
    congr 1; rw [Hd.vals_len]; omega

@[go_sem ↓ high] theorem run_eql_area (a b c d a' b' c' d' : Int) (w : World) :
    (binOp .eql 47 (.agg #[.int .i64 a, .int .i64 b, .int .i64 c, .int .i64 d]) (.agg #[.int .i64 a', .int .i64 b', .int .i64 c', .int .i64 d'])).run Try.prog w = .ok (.bool (decide ((⟨a, b, c, d⟩ : Ar) = ⟨a', b', c', d'⟩))) w := by
  simp only [Ar.mk.injEq]
  by_cases h1 : a = a' <;> by_cases h2 : b = b' <;> by_cases h3 : c = c' <;> by_cases h4 : d = d' <;> simp [go_sem, h1, h2, h3, h4]

set_option maxRecDepth 100000 in
set_option maxHeartbeats 4000000 in
theorem begun_any (w : World) : Calls Try.prog 15 #[] w (TruePost w) := by
  have r0 : BgR w (((w.alloc (.cells #[.int .i64 1, .int .i64 0, .int .i64 1, .string ⟨#[]⟩, .int .i64 0, .int .i64 0, .bool false, .bool false, .int .i64 0, .int .i64 0, .bool false, .bool false, .int .i64 0, .slice none 0 0] 29)).alloc (.cells #[.int .i64 6, .int .i64 0, .int .i64 0, .string ⟨#[]⟩, .int .i64 1, .int .i64 1, .bool false, .bool false, .int .i64 0, .int .i64 0, .bool false, .bool false, .int .i64 0, .slice none 0 0, .int .i64 1, .int .i64 0, .int .i64 1, .string ⟨#[]⟩, .int .i64 0, .int .i64 0, .bool false, .bool false, .int .i64 0, .int .i64 0, .bool false, .bool false, .int .i64 0, .slice none 0 0] 29)).alloc (.cells #[.int .i64 9, .int .i64 0, .int .i64 0, .string ⟨#[]⟩, .int .i64 0, .int .i64 0, .bool false, .bool false, .int .i64 0, .int .i64 0, .bool false, .bool false, .int .i64 54, .slice (some ⟨w.heap.size + 1, 0, none⟩) 2 2] 29)) := by
    have hh : (((w.alloc (.cells #[.int .i64 1, .int .i64 0, .int .i64 1, .string ⟨#[]⟩, .int .i64 0, .int .i64 0, .bool false, .bool false, .int .i64 0, .int .i64 0, .bool false, .bool false, .int .i64 0, .slice none 0 0] 29)).alloc (.cells #[.int .i64 6, .int .i64 0, .int .i64 0, .string ⟨#[]⟩, .int .i64 1, .int .i64 1, .bool false, .bool false, .int .i64 0, .int .i64 0, .bool false, .bool false, .int .i64 0, .slice none 0 0, .int .i64 1, .int .i64 0, .int .i64 1, .string ⟨#[]⟩, .int .i64 0, .int .i64 0, .bool false, .bool false, .int .i64 0, .int .i64 0, .bool false, .bool false, .int .i64 0, .slice none 0 0] 29)).alloc (.cells #[.int .i64 9, .int .i64 0, .int .i64 0, .string ⟨#[]⟩, .int .i64 0, .int .i64 0, .bool false, .bool false, .int .i64 0, .int .i64 0, .bool false, .bool false, .int .i64 54, .slice (some ⟨w.heap.size + 1, 0, none⟩) 2 2] 29)).heap = ((w.heap.push (.cells #[.int .i64 1, .int .i64 0, .int .i64 1, .string ⟨#[]⟩, .int .i64 0, .int .i64 0, .bool false, .bool false, .int .i64 0, .int .i64 0, .bool false, .bool false, .int .i64 0, .slice none 0 0] 29)).push (.cells #[.int .i64 6, .int .i64 0, .int .i64 0, .string ⟨#[]⟩, .int .i64 1, .int .i64 1, .bool false, .bool false, .int .i64 0, .int .i64 0, .bool false, .bool false, .int .i64 0, .slice none 0 0, .int .i64 1, .int .i64 0, .int .i64 1, .string ⟨#[]⟩, .int .i64 0, .int .i64 0, .bool false, .bool false, .int .i64 0, .int .i64 0, .bool false, .bool false, .int .i64 0, .slice none 0 0] 29)).push (.cells #[.int .i64 9, .int .i64 0, .int .i64 0, .string ⟨#[]⟩, .int .i64 0, .int .i64 0, .bool false, .bool false, .int .i64 0, .int .i64 0, .bool false, .bool false, .int .i64 54, .slice (some ⟨w.heap.size + 1, 0, none⟩) 2 2] 29) := rfl
    refine ⟨ext_alloc (ext_alloc (ext_alloc (Below.refl _ _) _) _) _, ?_, ?_, ?_⟩ <;> rw [hh] <;> (simp only [Array.getElem?_push, Array.size_push]; repeat (first | rfl | rw [if_pos rfl] | rw [if_neg (by omega)]))
  have R0 := Lib.hid r0; clear r0
  have cs : ∀ W1, BgR w W1 → Calls Try.prog 24 #[.agg #[.int .i64 9, .int .i64 0, .int .i64 0, .string ⟨#[]⟩, .int .i64 0, .int .i64 0, .bool false, .bool false, .int .i64 0, .int .i64 0, .bool false, .bool false, .int .i64 54, .slice (some ⟨w.heap.size + 1, 0, none⟩) 2 2]] W1 (fun e w' => e = .returned (.tuple #[.int .i64 3, .int .i64 2, .int .i64 0]) ∧ BgR w w' ∧ Below W1.heap.size W1 w') :=
    fun W1 h => (size_any sumH sumK W1 W1.heap.size _ 2 2 (Nat.le_refl _) h.sumV).mono fun e w' q => ⟨by have := q.1; rw [bg_size.1, bg_size.2.1, bg_size.2.2] at this; exact this, h.step q.2, q.2⟩
  have CS := Lib.hid cs; clear cs
  have cm : ∀ W1, BgR w W1 → Calls Try.prog 23 #[.agg #[.int .i64 9, .int .i64 0, .int .i64 0, .string ⟨#[]⟩, .int .i64 0, .int .i64 0, .bool false, .bool false, .int .i64 0, .int .i64 0, .bool false, .bool false, .int .i64 54, .slice (some ⟨w.heap.size + 1, 0, none⟩) 2 2]] W1 (fun e w' => e = .returned (.int .i64 0) ∧ BgR w w' ∧ Below W1.heap.size W1 w') :=
    fun W1 h => (may_any sumH sumK W1 W1.heap.size _ 2 2 (Nat.le_refl _) h.sumV).mono fun e w' q => ⟨by have := q.1; rw [bg_may] at this; exact this, h.step q.2, q.2⟩
  have CM := Lib.hid cm; clear cm
  have cn : ∀ W1, BgR w W1 → Calls Try.prog 23 #[.agg #[.int .i64 1, .int .i64 0, .int .i64 (-1), .string ⟨#[]⟩, .int .i64 0, .int .i64 0, .bool false, .bool false, .int .i64 0, .int .i64 0, .bool false, .bool false, .int .i64 0, .slice none 0 0]] W1 (fun e w' => e = .returned (.int .i64 22) ∧ BgR w w' ∧ Below W1.heap.size W1 w') :=
    fun W1 h => (may_any negH .nil W1 W1.heap.size none 0 0 (Nat.le_refl _) negV).mono fun e w' q => ⟨by have := q.1; rw [bg_neg] at this; exact this, h.step q.2, q.2⟩
  have CN := Lib.hid cn; clear cn
  have ce : ∀ W1, BgR w W1 → Calls Try.prog 25 #[.agg #[.int .i64 9, .int .i64 0, .int .i64 0, .string ⟨#[]⟩, .int .i64 0, .int .i64 0, .bool false, .bool false, .int .i64 0, .int .i64 0, .bool false, .bool false, .int .i64 54, .slice (some ⟨w.heap.size + 1, 0, none⟩) 2 2], .agg #[.int .i64 9, .int .i64 0, .int .i64 0, .string ⟨#[]⟩, .int .i64 0, .int .i64 0, .bool false, .bool false, .int .i64 0, .int .i64 0, .bool false, .bool false, .int .i64 54, .slice (some ⟨w.heap.size + 1, 0, none⟩) 2 2]] W1 (fun e w' => e = .returned (.bool true) ∧ BgR w w' ∧ Below W1.heap.size W1 w') :=
    fun W1 h => (same_all sumH sumH sumK sumK W1 W1.heap.size W1.heap.size _ _ 2 2 2 2 (Nat.le_refl _) (Nat.le_refl _) h.sumV h.sumV).mono fun e w' q => ⟨by have := q.1; rw [bg_same.1] at this; exact this, h.step q.2, q.2⟩
  have CE := Lib.hid ce; clear ce
  have cf : ∀ W1, BgR w W1 → Calls Try.prog 25 #[.agg #[.int .i64 9, .int .i64 0, .int .i64 0, .string ⟨#[]⟩, .int .i64 0, .int .i64 0, .bool false, .bool false, .int .i64 0, .int .i64 0, .bool false, .bool false, .int .i64 54, .slice (some ⟨w.heap.size + 1, 0, none⟩) 2 2], .agg #[.int .i64 1, .int .i64 0, .int .i64 1, .string ⟨#[]⟩, .int .i64 0, .int .i64 0, .bool false, .bool false, .int .i64 0, .int .i64 0, .bool false, .bool false, .int .i64 0, .slice none 0 0]] W1 (fun e w' => e = .returned (.bool false) ∧ BgR w w' ∧ Below W1.heap.size W1 w') :=
    fun W1 h => (same_all sumH oneH sumK .nil W1 W1.heap.size W1.heap.size _ _ 2 2 0 0 (Nat.le_refl _) (Nat.le_refl _) h.sumV BgR.oneV).mono fun e w' q => ⟨by have := q.1; rw [bg_same.2] at this; exact this, h.step q.2, q.2⟩
  have CF := Lib.hid cf; clear cf
  go_enter Try.func15, Try.ntmps15
  go_wp2_with fail
  refine (CS.out _ R0.out).mono ?_
  rintro e w2 ⟨rfl, r2, -⟩
  have c2 := cells_of_block r2.sum
  have R2 := Lib.hid r2; clear r2
  go_wp2_with fail
  refine (reads_any sumH sumK _ _ (some ⟨w.heap.size + 1, 0, none⟩) 2 2 (Nat.le_refl _) R2.out.sumV).mono ?_
  rintro e w3 ⟨v3, rfl, b3, a3⟩
  rw [bg_reads] at a3
  rw [bg_may]
  obtain ⟨la, lc, rfl, ar, -⟩ := a3.at_
  have r3 := R2.out.step b3
  obtain ⟨lb, lo, rfl, -, ll, x0, x1, x2, x3⟩ := ar.2 0 _ rfl
  have AR := Lib.hid ar; clear ar a3 b3 c2 x0 x1 x2 x3
  have c3 := cells_of_block r3.sum
  have R3 := Lib.hid r3; clear r3
  go_wp2_with fail
  refine (copy_any sumH sumK _ _ (some ⟨w.heap.size + 1, 0, none⟩) 2 2 (Nat.le_refl _) R3.out.sumV).mono ?_
  rintro e w4 ⟨b4, ⟨-, xa, xl, xc, F4, rfl, f4⟩ | ⟨f', -⟩⟩
  case inr => exact absurd bg_fine f'
  have r4 := R3.out.step b4
  have r5 := r4.step (ext_alloc (Below.refl _ w4) (.cells #[.int .i64 sumH.kind, .int .i64 sumH.op, .int .i64 sumH.num, .string ⟨sumH.text.toArray⟩, .int .i64 sumH.ref.row, .int .i64 sumH.ref.col, .bool sumH.ref.pr, .bool sumH.ref.pc, .int .i64 sumH.to.row, .int .i64 sumH.to.col, .bool sumH.to.pr, .bool sumH.to.pc, .int .i64 sumH.fn, .slice xa xl xc] 29))
  have c5 := cells_of_block r4.sum
  have hlt4 := r4.lt
  have X4 := f4.readable sum_ok
  have X5 := X4.kept (ext_alloc (Below.refl _ w4) (.cells #[.int .i64 sumH.kind, .int .i64 sumH.op, .int .i64 sumH.num, .string ⟨sumH.text.toArray⟩, .int .i64 sumH.ref.row, .int .i64 sumH.ref.col, .bool sumH.ref.pr, .bool sumH.ref.pc, .int .i64 sumH.to.row, .int .i64 sumH.to.col, .bool sumH.to.pr, .bool sumH.to.pc, .int .i64 sumH.fn, .slice xa xl xc] 29)) (Nat.le_refl _)
  have A5 := AR.out.kept (b4.trans ((ext_alloc (Below.refl _ w4) (.cells #[.int .i64 sumH.kind, .int .i64 sumH.op, .int .i64 sumH.num, .string ⟨sumH.text.toArray⟩, .int .i64 sumH.ref.row, .int .i64 sumH.ref.col, .bool sumH.ref.pr, .bool sumH.ref.pc, .int .i64 sumH.to.row, .int .i64 sumH.to.col, .bool sumH.to.pr, .bool sumH.to.pc, .int .i64 sumH.fn, .slice xa xl xc] 29)).mono b4.size)) (Nat.le_refl _)
  have A := Lib.hid A5; have X := Lib.hid X5; have R5 := Lib.hid r5
  have h54 : w4.heap.size ≤ (w4.alloc (.cells #[.int .i64 sumH.kind, .int .i64 sumH.op, .int .i64 sumH.num, .string ⟨sumH.text.toArray⟩, .int .i64 sumH.ref.row, .int .i64 sumH.ref.col, .bool sumH.ref.pr, .bool sumH.ref.pc, .int .i64 sumH.to.row, .int .i64 sumH.to.col, .bool sumH.to.pr, .bool sumH.to.pc, .int .i64 sumH.fn, .slice xa xl xc] 29)).heap.size := by simp
  have hz34 := b4.size
  clear r4 r5 f4 X4 X5 A5 b4 c3
  go_wp2_with fail
  refine (CM.out _ R5.out).mono ?_
  rintro e w6 ⟨rfl, r6, b6⟩
  have c6 := cells_of_block r6.sum
  have h6 : (w4.alloc (.cells #[.int .i64 sumH.kind, .int .i64 sumH.op, .int .i64 sumH.num, .string ⟨sumH.text.toArray⟩, .int .i64 sumH.ref.row, .int .i64 sumH.ref.col, .bool sumH.ref.pr, .bool sumH.ref.pc, .int .i64 sumH.to.row, .int .i64 sumH.to.col, .bool sumH.to.pr, .bool sumH.to.pc, .int .i64 sumH.fn, .slice xa xl xc] 29)).heap.size ≤ w6.heap.size := b6.size
  have R6 := Lib.hid r6; clear r6 c5
  go_wp2_with fail
  refine (CN.out _ R6.out).mono ?_
  rintro e w7 ⟨rfl, r7, b7⟩
  have b47 := b6.trans (b7.mono h6)
  obtain ⟨z7, k7⟩ := kept_block b47
  obtain ⟨y1, y2, e7, -, ll7, x0, x1, x2, x3⟩ := (A.out.kept (b47.mono (by omega)) (Nat.le_refl _)).2 0 _ rfl
  simp only [Option.some.injEq, Addr.mk.injEq, and_true] at e7
  obtain ⟨rfl, rfl⟩ := e7
  simp only [Nat.zero_mul, Nat.add_zero] at x0 x1 x2 x3
  have c7 := cells_of_block r7.sum
  have d7 := cells_of_block r7.one
  have X7 := Lib.hid (X.out.kept (b47.mono (by omega)) (Nat.le_refl _))
  have R7 := Lib.hid r7
  clear r7 b7 b6 b47 c6 h6
  go_wp2_with fail
  have ce : Calls Try.prog 21 #[.agg #[.int .i64 sumH.kind, .int .i64 sumH.op, .int .i64 sumH.num, .string ⟨sumH.text.toArray⟩, .int .i64 sumH.ref.row, .int .i64 sumH.ref.col, .bool sumH.ref.pr, .bool sumH.ref.pc, .int .i64 sumH.to.row, .int .i64 sumH.to.col, .bool sumH.to.pr, .bool sumH.to.pc, .int .i64 sumH.fn, .slice xa xl xc], .agg #[.int .i64 9, .int .i64 0, .int .i64 0, .string ⟨#[]⟩, .int .i64 0, .int .i64 0, .bool false, .bool false, .int .i64 0, .int .i64 0, .bool false, .bool false, .int .i64 54, .slice (some ⟨w.heap.size + 1, 0, none⟩) 2 2]] w7 (fun e w' => e = .returned (.bool true) ∧ BgR w w') :=
    (refEq_any sumH sumK sumH sumK w7 w4.heap.size w7.heap.size xa _ xl xc 2 2 (by omega) (Nat.le_refl _) X7.out R7.out.sumV).mono fun e w' q => ⟨by have := q.1; simp [sameB] at this; exact this, R7.out.step q.2⟩
  refine ce.mono ?_
  rintro e w8 ⟨rfl, r8⟩
  have c8 := cells_of_block r8.sum
  have d8 := cells_of_block r8.one
  have R8 := Lib.hid r8
  clear r8 ce c7 d7 x0 x1 x2 x3 k7
  go_wp2_with fail
  refine (CE.out _ R8.out).mono ?_
  rintro e w9 ⟨rfl, r9, -⟩
  have c9 := cells_of_block r9.sum
  have d9 := cells_of_block r9.one
  have R9 := Lib.hid r9
  clear r9 c8 d8
  go_wp2_with fail
  refine (CF.out _ R9.out).mono ?_
  rintro e w10 ⟨rfl, r10, -⟩
  have R10 := Lib.hid r10
  clear r10 c9 d9
  go_wp2
  go_ret
  exact ⟨ret_bool (by simp), R10.out.bel⟩
end Go.Proofs.Ytkjfeakbhfkldaa
