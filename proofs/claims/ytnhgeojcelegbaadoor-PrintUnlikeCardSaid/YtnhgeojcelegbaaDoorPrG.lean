/- law11: its numbers and operations; begun. -/
import Derived.Test.YtnhgeojcelegbaaDoorPrF
namespace Go.Proofs.YtnhgeojcelegbaaDoor
open Go.RowKit Go.Lib

set_option maxRecDepth 100000 in
set_option maxHeartbeats 2000000 in
theorem num_any (n : Int) (w : World) : Calls Tryd.prog 31 #[.int .i64 n] w fun e w' => e = .returned (.agg #[.int .i64 1, .int .i64 0, .int .i64 n, .string ⟨#[]⟩, .int .i64 0, .int .i64 0, .bool false, .bool false, .int .i64 0, .int .i64 0, .bool false, .bool false, .int .i64 0, .slice none 0 0]) ∧ Below w.heap.size w w' := by
  go_enter Tryd.func31, Tryd.ntmps31
  go_wp2
  exact bodyPost_ret (v := .agg #[.int .i64 1, .int .i64 0, .int .i64 n, .string ⟨#[]⟩, .int .i64 0, .int .i64 0, .bool false, .bool false, .int .i64 0, .int .i64 0, .bool false, .bool false, .int .i64 0, .slice none 0 0]) (by simp [results, Tryd.results31, go_sem]) rfl ⟨rfl, ext_alloc (Below.refl _ _) _⟩
set_option maxRecDepth 100000 in
set_option maxHeartbeats 2000000 in
theorem bin_any (op : Int) (h1 h2 : Hd) (a1 a2 : Option Addr) (l1 c1 l2 c2 : Nat) (w : World) : Calls Tryd.prog 30 #[.int .i64 op, .agg #[.int .i64 h1.kind, .int .i64 h1.op, .int .i64 h1.num, .string ⟨h1.text.toArray⟩, .int .i64 h1.ref.row, .int .i64 h1.ref.col, .bool h1.ref.pr, .bool h1.ref.pc, .int .i64 h1.to.row, .int .i64 h1.to.col, .bool h1.to.pr, .bool h1.to.pc, .int .i64 h1.fn, (.slice a1 l1 c1)], .agg #[.int .i64 h2.kind, .int .i64 h2.op, .int .i64 h2.num, .string ⟨h2.text.toArray⟩, .int .i64 h2.ref.row, .int .i64 h2.ref.col, .bool h2.ref.pr, .bool h2.ref.pc, .int .i64 h2.to.row, .int .i64 h2.to.col, .bool h2.to.pr, .bool h2.to.pc, .int .i64 h2.fn, (.slice a2 l2 c2)]] w fun e w' => ∃ b, e = .returned (.agg #[.int .i64 8, .int .i64 op, .int .i64 0, .string ⟨#[]⟩, .int .i64 0, .int .i64 0, .bool false, .bool false, .int .i64 0, .int .i64 0, .bool false, .bool false, .int .i64 0, .slice (some ⟨b, 0, none⟩) 2 2]) ∧ Below w.heap.size w w' ∧ w'.heap[b]? = some (.cells #[.int .i64 h1.kind, .int .i64 h1.op, .int .i64 h1.num, .string ⟨h1.text.toArray⟩, .int .i64 h1.ref.row, .int .i64 h1.ref.col, .bool h1.ref.pr, .bool h1.ref.pc, .int .i64 h1.to.row, .int .i64 h1.to.col, .bool h1.to.pr, .bool h1.to.pc, .int .i64 h1.fn, (.slice a1 l1 c1), .int .i64 h2.kind, .int .i64 h2.op, .int .i64 h2.num, .string ⟨h2.text.toArray⟩, .int .i64 h2.ref.row, .int .i64 h2.ref.col, .bool h2.ref.pr, .bool h2.ref.pc, .int .i64 h2.to.row, .int .i64 h2.to.col, .bool h2.to.pr, .bool h2.to.pc, .int .i64 h2.fn, (.slice a2 l2 c2)] 30 (0, 0)) := by
  have hA : (((w.alloc (.cells #[.int .i64 h1.kind, .int .i64 h1.op, .int .i64 h1.num, .string ⟨h1.text.toArray⟩, .int .i64 h1.ref.row, .int .i64 h1.ref.col, .bool h1.ref.pr, .bool h1.ref.pc, .int .i64 h1.to.row, .int .i64 h1.to.col, .bool h1.to.pr, .bool h1.to.pc, .int .i64 h1.fn, (.slice a1 l1 c1)] 30)).alloc (.cells #[.int .i64 h2.kind, .int .i64 h2.op, .int .i64 h2.num, .string ⟨h2.text.toArray⟩, .int .i64 h2.ref.row, .int .i64 h2.ref.col, .bool h2.ref.pr, .bool h2.ref.pc, .int .i64 h2.to.row, .int .i64 h2.to.col, .bool h2.to.pr, .bool h2.to.pc, .int .i64 h2.fn, (.slice a2 l2 c2)] 30)).alloc (.cells #[.int .i64 0, .int .i64 0, .int .i64 0, .string ⟨#[]⟩, .int .i64 0, .int .i64 0, .bool false, .bool false, .int .i64 0, .int .i64 0, .bool false, .bool false, .int .i64 0, .slice none 0 0] 30)).heap[w.heap.size]? = some (.cells #[.int .i64 h1.kind, .int .i64 h1.op, .int .i64 h1.num, .string ⟨h1.text.toArray⟩, .int .i64 h1.ref.row, .int .i64 h1.ref.col, .bool h1.ref.pr, .bool h1.ref.pc, .int .i64 h1.to.row, .int .i64 h1.to.col, .bool h1.to.pr, .bool h1.to.pc, .int .i64 h1.fn, (.slice a1 l1 c1)] 30 (0, 0)) := heap_up _ (heap_up _ (heap_at _ rfl))
  have hB : (((w.alloc (.cells #[.int .i64 h1.kind, .int .i64 h1.op, .int .i64 h1.num, .string ⟨h1.text.toArray⟩, .int .i64 h1.ref.row, .int .i64 h1.ref.col, .bool h1.ref.pr, .bool h1.ref.pc, .int .i64 h1.to.row, .int .i64 h1.to.col, .bool h1.to.pr, .bool h1.to.pc, .int .i64 h1.fn, (.slice a1 l1 c1)] 30)).alloc (.cells #[.int .i64 h2.kind, .int .i64 h2.op, .int .i64 h2.num, .string ⟨h2.text.toArray⟩, .int .i64 h2.ref.row, .int .i64 h2.ref.col, .bool h2.ref.pr, .bool h2.ref.pc, .int .i64 h2.to.row, .int .i64 h2.to.col, .bool h2.to.pr, .bool h2.to.pc, .int .i64 h2.fn, (.slice a2 l2 c2)] 30)).alloc (.cells #[.int .i64 0, .int .i64 0, .int .i64 0, .string ⟨#[]⟩, .int .i64 0, .int .i64 0, .bool false, .bool false, .int .i64 0, .int .i64 0, .bool false, .bool false, .int .i64 0, .slice none 0 0] 30)).heap[w.heap.size + 1]? = some (.cells #[.int .i64 h2.kind, .int .i64 h2.op, .int .i64 h2.num, .string ⟨h2.text.toArray⟩, .int .i64 h2.ref.row, .int .i64 h2.ref.col, .bool h2.ref.pr, .bool h2.ref.pc, .int .i64 h2.to.row, .int .i64 h2.to.col, .bool h2.to.pr, .bool h2.to.pc, .int .i64 h2.fn, (.slice a2 l2 c2)] 30 (0, 0)) := heap_up _ (heap_at _ (by simp))
  have HA := Lib.hid hA; have HB := Lib.hid hB
  clear hA hB
  go_enter Tryd.func30, Tryd.ntmps30
  go_wp2_with (first | (refine wpList_load_X rfl rfl rfl HA.out rfl ?_) | (refine wpList_load_X rfl rfl rfl HB.out rfl ?_))
  exact bodyPost_ret (v := .agg #[.int .i64 8, .int .i64 op, .int .i64 0, .string ⟨#[]⟩, .int .i64 0, .int .i64 0, .bool false, .bool false, .int .i64 0, .int .i64 0, .bool false, .bool false, .int .i64 0, .slice (some ⟨w.heap.size + 1 + 1 + 1, 0, none⟩) 2 2]) (by simp [results, Tryd.results30, go_sem, World.cell?_alloc_past]) rfl ⟨_, rfl, ext_alloc (ext_alloc (ext_alloc (ext_alloc (Below.refl _ _) _) _) _) _, heap_at _ (by simp)⟩
def numH (n : Int) : Hd := ⟨1, 0, n, [], .zero, .zero, 0⟩
def binH (op : Int) : Hd := ⟨8, op, 0, [], .zero, .zero, 0⟩
theorem numH_ok {n : Int} (h : I64 n) : (numH n).ok := ⟨by simp [numH], by simp [numH, I64], by simp [numH, I64], h, by simp [numH, I64, RefT.zero], by simp [numH, I64, RefT.zero], by simp [numH, I64, RefT.zero], by simp [numH, I64, RefT.zero], by simp [numH, I64]⟩
theorem binH_ok {n : Int} (h : I64 n) : (binH n).ok := ⟨by simp [binH], by simp [binH, I64], h, by simp [binH, I64], by simp [binH, I64, RefT.zero], by simp [binH, I64, RefT.zero], by simp [binH, I64, RefT.zero], by simp [binH, I64, RefT.zero], by simp [binH, I64]⟩
theorem num_tree {n : Int} (h : I64 n) (w : World) : TreeV w w.heap.size (numH n) .nil none 0 := ⟨rfl, by omega, numH_ok h, trivial⟩
theorem bin_tree {w w' : World} {b : Nat} {op : Int} {h1 h2 : Hd} {k1 k2 : Trees} {a1 a2 : Option Addr} {l1 c1 l2 c2 : Nat} (t1 : TreeV w w.heap.size h1 k1 a1 l1) (t2 : TreeV w w.heap.size h2 k2 a2 l2) (bel : Below w.heap.size w w') (hb : w'.heap[b]? = some (.cells #[.int .i64 h1.kind, .int .i64 h1.op, .int .i64 h1.num, .string ⟨h1.text.toArray⟩, .int .i64 h1.ref.row, .int .i64 h1.ref.col, .bool h1.ref.pr, .bool h1.ref.pc, .int .i64 h1.to.row, .int .i64 h1.to.col, .bool h1.to.pr, .bool h1.to.pc, .int .i64 h1.fn, (.slice a1 l1 c1), .int .i64 h2.kind, .int .i64 h2.op, .int .i64 h2.num, .string ⟨h2.text.toArray⟩, .int .i64 h2.ref.row, .int .i64 h2.ref.col, .bool h2.ref.pr, .bool h2.ref.pc, .int .i64 h2.to.row, .int .i64 h2.to.col, .bool h2.to.pr, .bool h2.to.pc, .int .i64 h2.fn, (.slice a2 l2 c2)] 30 (0, 0))) (ho : I64 op) :
    TreeV w' w'.heap.size (binH op) (.cons h1 k1 (.cons h2 k2 .nil)) (some ⟨b, 0, none⟩) 2 := by
  have lt : b < w'.heap.size := (Array.getElem?_eq_some_iff.1 hb).1
  have s1 := (t1.kept bel (Nat.le_refl _)).mono bel.size
  have s2 := (t2.kept bel (Nat.le_refl _)).mono bel.size
  have c : ∀ o, w'.cell? ⟨b, o, none⟩ = (#[.int .i64 h1.kind, .int .i64 h1.op, .int .i64 h1.num, .string ⟨h1.text.toArray⟩, .int .i64 h1.ref.row, .int .i64 h1.ref.col, .bool h1.ref.pr, .bool h1.ref.pc, .int .i64 h1.to.row, .int .i64 h1.to.col, .bool h1.to.pr, .bool h1.to.pc, .int .i64 h1.fn, (.slice a1 l1 c1), .int .i64 h2.kind, .int .i64 h2.op, .int .i64 h2.num, .string ⟨h2.text.toArray⟩, .int .i64 h2.ref.row, .int .i64 h2.ref.col, .bool h2.ref.pr, .bool h2.ref.pc, .int .i64 h2.to.row, .int .i64 h2.to.col, .bool h2.to.pr, .bool h2.to.pc, .int .i64 h2.fn, (.slice a2 l2 c2)] : Array Value)[o]? := fun o => by simp [World.cell?, hb]
  refine ⟨rfl, by omega, binH_ok ho, ⟨⟨b, 0, a1, l1, c1, rfl, lt, ⟨lt, fun j v hj => ?_⟩, s1.len, s1.max, s1.ok, s1.row⟩, ⟨b, 0, a2, l2, c2, rfl, lt, ⟨lt, fun j v hj => ?_⟩, s2.len, s2.max, s2.ok, s2.row⟩, trivial⟩⟩
  · have hl := (List.getElem?_eq_some_iff.1 hj).1
    have hl : j < 14 := by simpa [Hd.vals] using hl
    rw [c, ← hj]
    match j, hl with
    | 0, _ => rfl
    | 1, _ => rfl
    | 2, _ => rfl
    | 3, _ => rfl
    | 4, _ => rfl
    | 5, _ => rfl
    | 6, _ => rfl
    | 7, _ => rfl
    | 8, _ => rfl
    | 9, _ => rfl
    | 10, _ => rfl
    | 11, _ => rfl
    | 12, _ => rfl
    | 13, _ => rfl
  · have hl := (List.getElem?_eq_some_iff.1 hj).1
    have hl : j < 14 := by simpa [Hd.vals] using hl
    rw [c, ← hj]
    match j, hl with
    | 0, _ => rfl
    | 1, _ => rfl
    | 2, _ => rfl
    | 3, _ => rfl
    | 4, _ => rfl
    | 5, _ => rfl
    | 6, _ => rfl
    | 7, _ => rfl
    | 8, _ => rfl
    | 9, _ => rfl
    | 10, _ => rfl
    | 11, _ => rfl
    | 12, _ => rfl
    | 13, _ => rfl
def bgK1 : Trees := .cons (binH 4) (.cons (numH 1) .nil (.cons (numH 2) .nil .nil)) (.cons (numH 3) .nil .nil)
def bgK2 : Trees := .cons (numH 1) .nil (.cons (binH 5) (.cons (numH 2) .nil (.cons (numH 3) .nil .nil)) .nil)
theorem itoa1 (n : Nat) (h : n < 10) : itoa n = [UInt8.ofNat (48 + n)] := by
  unfold itoa
  rw [if_neg (by omega), Int.toNat_natCast, decDigits, dif_pos h]
theorem bgP1 : mayE (binH 2) bgK1 = 0 ∧ formL (binH 2) bgK1 = [61, 40, 49, 43, 50, 41, 42, 51] := by
  have h : mayE (binH 2) bgK1 = 0 := by kernel_rfl
  refine ⟨h, ?_⟩
  have e1 := itoa1 1 (by omega); have e2 := itoa1 2 (by omega); have e3 := itoa1 3 (by omega)
  simp only [Int.cast_ofNat_Int] at e1 e2 e3
  unfold formL
  rw [if_pos h]
  simp [textL, nodeL, txs, bgK1, binH, numH, fromL, levH, levN, signL, kidAt, e1, e2, e3]
theorem bgP2 : mayE (binH 5) bgK2 = 0 ∧ formL (binH 5) bgK2 = [61, 49, 45, 40, 50, 45, 51, 41] := by
  have h : mayE (binH 5) bgK2 = 0 := by kernel_rfl
  refine ⟨h, ?_⟩
  have e1 := itoa1 1 (by omega); have e2 := itoa1 2 (by omega); have e3 := itoa1 3 (by omega)
  simp only [Int.cast_ofNat_Int] at e1 e2 e3
  unfold formL
  rw [if_pos h]
  simp [textL, nodeL, txs, bgK2, binH, numH, fromL, levH, levN, signL, kidAt, e1, e2, e3]
theorem bgP3 : mayE (numH (-1)) .nil = 22 ∧ formL (numH (-1)) .nil = [] := by
  have h : mayE (numH (-1)) .nil = 22 := by kernel_rfl
  exact ⟨h, by unfold formL; rw [if_neg (by rw [h]; decide)]⟩
set_option maxRecDepth 100000 in
set_option maxHeartbeats 2000000 in
theorem begun11_any (w : World) (T : TabW w) : Calls Tryd.prog 11 #[] w (TruePost w) := by
  have HT := Lib.hid T
  clear T
  have B0 := Lib.hid (Below.refl w.heap.size w)
  go_enter Tryd.func11, Tryd.ntmps11
  go_wp2_with fail
  refine (num_any 1 w).mono ?_
  rintro e w1 ⟨rfl, b1⟩
  have B1 := Lib.hid (B0.out.trans (b1.mono B0.out.size))
  have L1 := Lib.hid b1
  clear b1
  go_wp2_with fail
  refine (num_any 2 w1).mono ?_
  rintro e w2 ⟨rfl, b2⟩
  have B2 := Lib.hid (B1.out.trans (b2.mono B1.out.size))
  have L2 := Lib.hid b2
  clear b2
  go_wp2_with fail
  refine (bin_any 4 (numH 1) (numH 2) none none 0 0 0 0 w2).mono ?_
  rintro e w3 ⟨k3, rfl, b3, hb3⟩
  have B3 := Lib.hid (B2.out.trans (b3.mono B2.out.size))
  have T3 := Lib.hid (bin_tree (op := 4) (num_tree (n := 1) (by simp [I64]) w2) (num_tree (n := 2) (by simp [I64]) w2) b3 hb3 (by simp [I64]))
  clear b3 hb3
  go_wp2_with fail
  refine (num_any 3 w3).mono ?_
  rintro e w4 ⟨rfl, b4⟩
  have B4 := Lib.hid (B3.out.trans (b4.mono B3.out.size))
  have L4 := Lib.hid b4
  clear b4
  go_wp2_with fail
  refine (bin_any 2 (binH 4) (numH 3) (some ⟨k3, 0, none⟩) none 2 2 0 0 w4).mono ?_
  rintro e w5 ⟨k5, rfl, b5, hb5⟩
  have B5 := Lib.hid (B4.out.trans (b5.mono B4.out.size))
  have T5 := Lib.hid (bin_tree (op := 2) (((T3.out).kept L4.out (Nat.le_refl _)).mono L4.out.size) (num_tree (n := 3) (by simp [I64]) w4) b5 hb5 (by simp [I64]))
  clear b5 hb5
  go_wp2_with fail
  refine (formula_any (binH 2) bgK1 w5 w5.heap.size (some ⟨k5, 0, none⟩) 2 2 (Nat.le_refl _) T5.out (HT.out.kept B5.out)).mono ?_
  rintro e w6 ⟨he, b6⟩
  rw [bgP1.1, bgP1.2, show strB [61, 40, 49, 43, 50, 41, 42, 51] = (⟨#[61, 40, 49, 43, 50, 41, 42, 51]⟩ : ByteArray) from rfl] at he
  subst he
  have B6 := Lib.hid (B5.out.trans (b6.mono B5.out.size))
  clear b6
  go_wp2_with fail
  refine (num_any 1 w6).mono ?_
  rintro e w7 ⟨rfl, b7⟩
  have B7 := Lib.hid (B6.out.trans (b7.mono B6.out.size))
  have L7 := Lib.hid b7
  clear b7
  go_wp2_with fail
  refine (num_any 2 w7).mono ?_
  rintro e w8 ⟨rfl, b8⟩
  have B8 := Lib.hid (B7.out.trans (b8.mono B7.out.size))
  have L8 := Lib.hid b8
  clear b8
  go_wp2_with fail
  refine (num_any 3 w8).mono ?_
  rintro e w9 ⟨rfl, b9⟩
  have B9 := Lib.hid (B8.out.trans (b9.mono B8.out.size))
  have L9 := Lib.hid b9
  clear b9
  go_wp2_with fail
  refine (bin_any 5 (numH 2) (numH 3) none none 0 0 0 0 w9).mono ?_
  rintro e w10 ⟨k10, rfl, b10, hb10⟩
  have B10 := Lib.hid (B9.out.trans (b10.mono B9.out.size))
  have T10 := Lib.hid (bin_tree (op := 5) (num_tree (n := 2) (by simp [I64]) w9) (num_tree (n := 3) (by simp [I64]) w9) b10 hb10 (by simp [I64]))
  clear b10 hb10
  go_wp2_with fail
  refine (bin_any 5 (numH 1) (binH 5) none (some ⟨k10, 0, none⟩) 0 0 2 2 w10).mono ?_
  rintro e w11 ⟨k11, rfl, b11, hb11⟩
  have B11 := Lib.hid (B10.out.trans (b11.mono B10.out.size))
  have T11 := Lib.hid (bin_tree (op := 5) (num_tree (n := 1) (by simp [I64]) w10) T10.out b11 hb11 (by simp [I64]))
  clear b11 hb11
  go_wp2_with fail
  refine (formula_any (binH 5) bgK2 w11 w11.heap.size (some ⟨k11, 0, none⟩) 2 2 (Nat.le_refl _) T11.out (HT.out.kept B11.out)).mono ?_
  rintro e w12 ⟨he, b12⟩
  rw [bgP2.1, bgP2.2, show strB [61, 49, 45, 40, 50, 45, 51, 41] = (⟨#[61, 49, 45, 40, 50, 45, 51, 41]⟩ : ByteArray) from rfl] at he
  subst he
  have B12 := Lib.hid (B11.out.trans (b12.mono B11.out.size))
  clear b12
  go_wp2_with fail
  refine (formula_any (numH (-1)) .nil w12 w12.heap.size none 0 0 (Nat.le_refl _) (num_tree (n := -1) (by simp [I64]) w12) (HT.out.kept B12.out)).mono ?_
  rintro e w13 ⟨he, b13⟩
  rw [bgP3.1, bgP3.2, show strB [] = (⟨#[]⟩ : ByteArray) from rfl] at he
  subst he
  have B13 := Lib.hid (B12.out.trans (b13.mono B12.out.size))
  clear b13
  go_wp2
  go_ret
  exact ⟨rfl, B13.out⟩
end Go.Proofs.YtnhgeojcelegbaaDoor
