/- Shifting: rows or columns. -/
import Derived.Test.YtkjfeakbhfkldaaMhH
import Derived.Test.YtkjfeakbhfkldaaMhI
import Derived.Test.YtkjfeakbhfkldaaMhJ
namespace Go.Proofs.Ytkjfeakbhfkldaa
open Go.RowKit

theorem shErr_line (o : Nat) (a n : Int) (h : Hd) (ks : Trees) : shErr ⟨whatO o, 0, 0, a, n⟩ h ks = if mayE h ks ≠ 0 then mayE h ks else if a < 0 ∨ mostO o ≤ a then 1 else 0 := by
  by_cases q : o = 0 <;> simp [shErr, whatO, mostO, q]
theorem heap_alloc6 (w : World) (a b c d x y : Obj) : ((((((w.alloc a).alloc b).alloc c).alloc d).alloc x).alloc y).heap[w.heap.size]? = some a ∧ ((((((w.alloc a).alloc b).alloc c).alloc d).alloc x).alloc y).heap[w.heap.size + 1]? = some b ∧ ((((((w.alloc a).alloc b).alloc c).alloc d).alloc x).alloc y).heap[w.heap.size + 1 + 1]? = some c ∧ ((((((w.alloc a).alloc b).alloc c).alloc d).alloc x).alloc y).heap[w.heap.size + 1 + 1 + 1]? = some d ∧
    ((((((w.alloc a).alloc b).alloc c).alloc d).alloc x).alloc y).heap[w.heap.size + 1 + 1 + 1 + 1]? = some x ∧ ((((((w.alloc a).alloc b).alloc c).alloc d).alloc x).alloc y).heap[w.heap.size + 1 + 1 + 1 + 1 + 1]? = some y := by
  obtain ⟨h1, h2, h3, h4⟩ := heap_alloc4 w a b c d
  obtain ⟨k1, k2⟩ : _ ∧ _ := ⟨heap_alloc_new ((((w.alloc a).alloc b).alloc c).alloc d) x, heap_alloc_new (((((w.alloc a).alloc b).alloc c).alloc d).alloc x) y⟩
  refine ⟨(Below.heap_alloc _ _ _ (by simp <;> omega)).trans ((Below.heap_alloc _ _ _ (by simp <;> omega)).trans h1), (Below.heap_alloc _ _ _ (by simp <;> omega)).trans ((Below.heap_alloc _ _ _ (by simp <;> omega)).trans h2), (Below.heap_alloc _ _ _ (by simp <;> omega)).trans ((Below.heap_alloc _ _ _ (by simp <;> omega)).trans h3), (Below.heap_alloc _ _ _ (by simp <;> omega)).trans ((Below.heap_alloc _ _ _ (by simp <;> omega)).trans h4), (Below.heap_alloc _ _ _ (by simp <;> omega)).trans ?_, ?_⟩
  · simpa using k1
  · simpa using k2

set_option maxRecDepth 100000 in
set_option maxHeartbeats 4000000 in
theorem lines_bad {wval : Value} {f : FuncId} {o : Nat} (hw : WhSpec wval f o) (_ : o ≤ 1) (nd : Hd) (ks : Trees) (a n : Int) (w : World) (B : Nat) (ka : Option Addr) (kl kc : Nat) (hB : B ≤ w.heap.size) (tv : TreeV w B nd ks ka kl) (hx : I64 a) (hy : I64 n) (q : mayE nd ks ≠ 0) : Calls Try.prog 72 #[.agg #[.int .i64 nd.kind, .int .i64 nd.op, .int .i64 nd.num, .string ⟨nd.text.toArray⟩, .int .i64 nd.ref.row, .int .i64 nd.ref.col, .bool nd.ref.pr, .bool nd.ref.pc, .int .i64 nd.to.row, .int .i64 nd.to.col, .bool nd.to.pr, .bool nd.to.pc, .int .i64 nd.fn, .slice ka kl kc], .int .i64 a, .int .i64 n, .int .i64 (mostO o), wval] w (ShFPost ⟨whatO o, 0, 0, a, n⟩ nd ks w) := by
  obtain rfl := hw.val
  have b0 := (ext_alloc (ext_alloc (ext_alloc (ext_alloc (ext_alloc (ext_alloc (Below.refl _ w) (.cells #[.int .i64 nd.kind, .int .i64 nd.op, .int .i64 nd.num, .string ⟨nd.text.toArray⟩, .int .i64 nd.ref.row, .int .i64 nd.ref.col, .bool nd.ref.pr, .bool nd.ref.pc, .int .i64 nd.to.row, .int .i64 nd.to.col, .bool nd.to.pr, .bool nd.to.pc, .int .i64 nd.fn, .slice ka kl kc] 29)) (.cells #[.int .i64 a] 2)) (.cells #[.int .i64 n] 2)) (.cells #[.int .i64 (mostO o)] 3)) (.cells #[.func (.func f) #[] #[]] 101)) (.cells #[.int .i64 0, .int .i64 0, .int .i64 0, .string ⟨#[]⟩, .int .i64 0, .int .i64 0, .bool false, .bool false, .int .i64 0, .int .i64 0, .bool false, .bool false, .int .i64 0, .slice none 0 0] 29))
  obtain ⟨h0, h1, h2, h3, h4, h5⟩ := heap_alloc6 w (.cells #[.int .i64 nd.kind, .int .i64 nd.op, .int .i64 nd.num, .string ⟨nd.text.toArray⟩, .int .i64 nd.ref.row, .int .i64 nd.ref.col, .bool nd.ref.pr, .bool nd.ref.pc, .int .i64 nd.to.row, .int .i64 nd.to.col, .bool nd.to.pr, .bool nd.to.pc, .int .i64 nd.fn, .slice ka kl kc] 29) (.cells #[.int .i64 a] 2) (.cells #[.int .i64 n] 2) (.cells #[.int .i64 (mostO o)] 3) (.cells #[.func (.func f) #[] #[]] 101) (.cells #[.int .i64 0, .int .i64 0, .int .i64 0, .string ⟨#[]⟩, .int .i64 0, .int .i64 0, .bool false, .bool false, .int .i64 0, .int .i64 0, .bool false, .bool false, .int .i64 0, .slice none 0 0] 29)
  have T0 := Lib.hid (tv.kept (b0.mono hB) (Nat.le_refl _))
  have B0 := Lib.hid b0
  have H0 := Lib.hid h0; have H1 := Lib.hid h1; have H2 := Lib.hid h2; have H3 := Lib.hid h3; have H4 := Lib.hid h4; have H5 := Lib.hid h5
  have HX := Lib.hid hx; have HY := Lib.hid hy; have HW := Lib.hid hw
  have m1 := mostO_le o
  have m2 := mostO_ge o
  clear tv b0 h0 h1 h2 h3 h4 h5 hx hy hw
  go_enter Try.func72, Try.ntmps72
  go_wp2_with fail
  refine (may_any nd ks _ B ka kl kc (by simp; omega) T0.out).mono ?_
  rintro e w2 ⟨rfl, b2⟩
  have k0 := (b2.block _ (by simp <;> omega)).trans H0.out
  have k1 := (b2.block _ (by simp <;> omega)).trans H1.out
  have k2 := (b2.block _ (by simp <;> omega)).trans H2.out
  have k3 := (b2.block _ (by simp <;> omega)).trans H3.out
  have k4 := (b2.block _ (by simp <;> omega)).trans H4.out
  have k5 := (b2.block _ (by simp)).trans H5.out
  have c0 := cells_of_block k0
  have c1 := cells_of_block k1 0
  have c2 := cells_of_block k2 0
  have c3 := cells_of_block k3 0
  have c5 := cells_of_block k5
  have f5 := frees_of_block k5
  have l5 := lt_of_block k5
  simp at c1 c2 c3
  have B2 := Lib.hid (B0.out.trans (b2.mono B0.out.size))
  have T2 := Lib.hid (T0.out.kept (b2.mono (by simp; omega)) (Nat.le_refl _))
  have K0 := Lib.hid k0; have K1 := Lib.hid k1; have K2 := Lib.hid k2; have K3 := Lib.hid k3; have K4 := Lib.hid k4; have K5 := Lib.hid k5
  clear b2 T0 k0 k1 k2 k3 k4 k5 H0 H1 H2 H3 H4 H5
  have q1 : (mayE nd ks != 0) = true := by simp [q]
  have q2 : (mayE nd ks == 0) = false := by simp [q]
  have se : shErr ⟨whatO o, 0, 0, a, n⟩ nd ks = mayE nd ks := by simp [shErr, q]
  have SE := Lib.hid se
  have Q := Lib.hid q
  clear q se
  go_wp2
  refine bodyPost_ret (v := .tuple #[.agg #[.int .i64 0, .int .i64 0, .int .i64 0, .string ⟨#[]⟩, .int .i64 0, .int .i64 0, .bool false, .bool false, .int .i64 0, .int .i64 0, .bool false, .bool false, .int .i64 0, .slice none 0 0], .int .i64 (mayE nd ks)]) (by simp [results, Try.results72, go_sem, c5]) rfl ?_
  refine ⟨?_, .inr ⟨by rw [SE.out]; exact Q.out, by rw [SE.out]⟩⟩
  repeat (refine Below.setCell ?_ (by simp; try omega) _)
  exact B2.out

set_option maxRecDepth 100000 in
set_option maxHeartbeats 4000000 in
theorem lines_arg {wval : Value} {f : FuncId} {o : Nat} (hw : WhSpec wval f o) (_ : o ≤ 1) (nd : Hd) (ks : Trees) (a n : Int) (w : World) (B : Nat) (ka : Option Addr) (kl kc : Nat) (hB : B ≤ w.heap.size) (tv : TreeV w B nd ks ka kl) (hx : I64 a) (hy : I64 n) (q : mayE nd ks = 0) (r : a < 0 ∨ mostO o ≤ a) : Calls Try.prog 72 #[.agg #[.int .i64 nd.kind, .int .i64 nd.op, .int .i64 nd.num, .string ⟨nd.text.toArray⟩, .int .i64 nd.ref.row, .int .i64 nd.ref.col, .bool nd.ref.pr, .bool nd.ref.pc, .int .i64 nd.to.row, .int .i64 nd.to.col, .bool nd.to.pr, .bool nd.to.pc, .int .i64 nd.fn, .slice ka kl kc], .int .i64 a, .int .i64 n, .int .i64 (mostO o), wval] w (ShFPost ⟨whatO o, 0, 0, a, n⟩ nd ks w) := by
  obtain rfl := hw.val
  have b0 := (ext_alloc (ext_alloc (ext_alloc (ext_alloc (ext_alloc (ext_alloc (Below.refl _ w) (.cells #[.int .i64 nd.kind, .int .i64 nd.op, .int .i64 nd.num, .string ⟨nd.text.toArray⟩, .int .i64 nd.ref.row, .int .i64 nd.ref.col, .bool nd.ref.pr, .bool nd.ref.pc, .int .i64 nd.to.row, .int .i64 nd.to.col, .bool nd.to.pr, .bool nd.to.pc, .int .i64 nd.fn, .slice ka kl kc] 29)) (.cells #[.int .i64 a] 2)) (.cells #[.int .i64 n] 2)) (.cells #[.int .i64 (mostO o)] 3)) (.cells #[.func (.func f) #[] #[]] 101)) (.cells #[.int .i64 0, .int .i64 0, .int .i64 0, .string ⟨#[]⟩, .int .i64 0, .int .i64 0, .bool false, .bool false, .int .i64 0, .int .i64 0, .bool false, .bool false, .int .i64 0, .slice none 0 0] 29))
  obtain ⟨h0, h1, h2, h3, h4, h5⟩ := heap_alloc6 w (.cells #[.int .i64 nd.kind, .int .i64 nd.op, .int .i64 nd.num, .string ⟨nd.text.toArray⟩, .int .i64 nd.ref.row, .int .i64 nd.ref.col, .bool nd.ref.pr, .bool nd.ref.pc, .int .i64 nd.to.row, .int .i64 nd.to.col, .bool nd.to.pr, .bool nd.to.pc, .int .i64 nd.fn, .slice ka kl kc] 29) (.cells #[.int .i64 a] 2) (.cells #[.int .i64 n] 2) (.cells #[.int .i64 (mostO o)] 3) (.cells #[.func (.func f) #[] #[]] 101) (.cells #[.int .i64 0, .int .i64 0, .int .i64 0, .string ⟨#[]⟩, .int .i64 0, .int .i64 0, .bool false, .bool false, .int .i64 0, .int .i64 0, .bool false, .bool false, .int .i64 0, .slice none 0 0] 29)
  have T0 := Lib.hid (tv.kept (b0.mono hB) (Nat.le_refl _))
  have B0 := Lib.hid b0
  have H0 := Lib.hid h0; have H1 := Lib.hid h1; have H2 := Lib.hid h2; have H3 := Lib.hid h3; have H4 := Lib.hid h4; have H5 := Lib.hid h5
  have HX := Lib.hid hx; have HY := Lib.hid hy; have HW := Lib.hid hw
  have m1 := mostO_le o
  have m2 := mostO_ge o
  clear tv b0 h0 h1 h2 h3 h4 h5 hx hy hw
  go_enter Try.func72, Try.ntmps72
  go_wp2_with fail
  refine (may_any nd ks _ B ka kl kc (by simp; omega) T0.out).mono ?_
  rintro e w2 ⟨rfl, b2⟩
  have k0 := (b2.block _ (by simp <;> omega)).trans H0.out
  have k1 := (b2.block _ (by simp <;> omega)).trans H1.out
  have k2 := (b2.block _ (by simp <;> omega)).trans H2.out
  have k3 := (b2.block _ (by simp <;> omega)).trans H3.out
  have k4 := (b2.block _ (by simp <;> omega)).trans H4.out
  have k5 := (b2.block _ (by simp)).trans H5.out
  have c0 := cells_of_block k0
  have c1 := cells_of_block k1 0
  have c2 := cells_of_block k2 0
  have c3 := cells_of_block k3 0
  have c5 := cells_of_block k5
  have f5 := frees_of_block k5
  have l5 := lt_of_block k5
  simp at c1 c2 c3
  have B2 := Lib.hid (B0.out.trans (b2.mono B0.out.size))
  have T2 := Lib.hid (T0.out.kept (b2.mono (by simp; omega)) (Nat.le_refl _))
  have K0 := Lib.hid k0; have K1 := Lib.hid k1; have K2 := Lib.hid k2; have K3 := Lib.hid k3; have K4 := Lib.hid k4; have K5 := Lib.hid k5
  clear b2 T0 k0 k1 k2 k3 k4 k5 H0 H1 H2 H3 H4 H5
  have q1 : (mayE nd ks != 0) = false := by simp [q]
  have q2 : (mayE nd ks == 0) = true := by simp [q]
  have se : shErr ⟨whatO o, 0, 0, a, n⟩ nd ks = 1 := by rw [shErr_line]; simp [q, r]
  have SE := Lib.hid se
  clear q se
  by_cases r1 : a < 0
  · clear r
    go_wp2
    refine bodyPost_ret (v := .tuple #[.agg #[.int .i64 0, .int .i64 0, .int .i64 0, .string ⟨#[]⟩, .int .i64 0, .int .i64 0, .bool false, .bool false, .int .i64 0, .int .i64 0, .bool false, .bool false, .int .i64 0, .slice none 0 0], .int .i64 1]) (by simp [results, Try.results72, go_sem, c5]) rfl ?_
    refine ⟨?_, .inr ⟨by rw [SE.out]; omega, by rw [SE.out]⟩⟩
    repeat (refine Below.setCell ?_ (by simp; try omega) _)
    exact B2.out
  · have r2 : mostO o ≤ a := r.resolve_left r1
    clear r
    go_wp2
    refine bodyPost_ret (v := .tuple #[.agg #[.int .i64 0, .int .i64 0, .int .i64 0, .string ⟨#[]⟩, .int .i64 0, .int .i64 0, .bool false, .bool false, .int .i64 0, .int .i64 0, .bool false, .bool false, .int .i64 0, .slice none 0 0], .int .i64 1]) (by simp [results, Try.results72, go_sem, c5]) rfl ?_
    refine ⟨?_, .inr ⟨by rw [SE.out]; omega, by rw [SE.out]⟩⟩
    repeat (refine Below.setCell ?_ (by simp; try omega) _)
    exact B2.out

set_option maxRecDepth 100000 in
set_option maxHeartbeats 4000000 in
theorem lines_in {wval : Value} {f : FuncId} {o : Nat} (hw : WhSpec wval f o) (ho : o ≤ 1) (nd : Hd) (ks : Trees) (a n : Int) (w : World) (B : Nat) (ka : Option Addr) (kl kc : Nat) (hB : B ≤ w.heap.size) (tv : TreeV w B nd ks ka kl) (hx : I64 a) (hy : I64 n) (q : mayE nd ks = 0) (r1 : ¬ a < 0) (r2 : ¬ mostO o ≤ a) (hn : ¬ n < 0) : Calls Try.prog 72 #[.agg #[.int .i64 nd.kind, .int .i64 nd.op, .int .i64 nd.num, .string ⟨nd.text.toArray⟩, .int .i64 nd.ref.row, .int .i64 nd.ref.col, .bool nd.ref.pr, .bool nd.ref.pc, .int .i64 nd.to.row, .int .i64 nd.to.col, .bool nd.to.pr, .bool nd.to.pc, .int .i64 nd.fn, .slice ka kl kc], .int .i64 a, .int .i64 n, .int .i64 (mostO o), wval] w (ShFPost ⟨whatO o, 0, 0, a, n⟩ nd ks w) := by
  obtain rfl := hw.val
  have b0 := (ext_alloc (ext_alloc (ext_alloc (ext_alloc (ext_alloc (ext_alloc (Below.refl _ w) (.cells #[.int .i64 nd.kind, .int .i64 nd.op, .int .i64 nd.num, .string ⟨nd.text.toArray⟩, .int .i64 nd.ref.row, .int .i64 nd.ref.col, .bool nd.ref.pr, .bool nd.ref.pc, .int .i64 nd.to.row, .int .i64 nd.to.col, .bool nd.to.pr, .bool nd.to.pc, .int .i64 nd.fn, .slice ka kl kc] 29)) (.cells #[.int .i64 a] 2)) (.cells #[.int .i64 n] 2)) (.cells #[.int .i64 (mostO o)] 3)) (.cells #[.func (.func f) #[] #[]] 101)) (.cells #[.int .i64 0, .int .i64 0, .int .i64 0, .string ⟨#[]⟩, .int .i64 0, .int .i64 0, .bool false, .bool false, .int .i64 0, .int .i64 0, .bool false, .bool false, .int .i64 0, .slice none 0 0] 29))
  obtain ⟨h0, h1, h2, h3, h4, h5⟩ := heap_alloc6 w (.cells #[.int .i64 nd.kind, .int .i64 nd.op, .int .i64 nd.num, .string ⟨nd.text.toArray⟩, .int .i64 nd.ref.row, .int .i64 nd.ref.col, .bool nd.ref.pr, .bool nd.ref.pc, .int .i64 nd.to.row, .int .i64 nd.to.col, .bool nd.to.pr, .bool nd.to.pc, .int .i64 nd.fn, .slice ka kl kc] 29) (.cells #[.int .i64 a] 2) (.cells #[.int .i64 n] 2) (.cells #[.int .i64 (mostO o)] 3) (.cells #[.func (.func f) #[] #[]] 101) (.cells #[.int .i64 0, .int .i64 0, .int .i64 0, .string ⟨#[]⟩, .int .i64 0, .int .i64 0, .bool false, .bool false, .int .i64 0, .int .i64 0, .bool false, .bool false, .int .i64 0, .slice none 0 0] 29)
  have T0 := Lib.hid (tv.kept (b0.mono hB) (Nat.le_refl _))
  have B0 := Lib.hid b0
  have H0 := Lib.hid h0; have H1 := Lib.hid h1; have H2 := Lib.hid h2; have H3 := Lib.hid h3; have H4 := Lib.hid h4; have H5 := Lib.hid h5
  have HX := Lib.hid hx; have HY := Lib.hid hy; have HW := Lib.hid hw
  have m1 := mostO_le o
  have m2 := mostO_ge o
  clear tv b0 h0 h1 h2 h3 h4 h5 hx hy hw
  go_enter Try.func72, Try.ntmps72
  go_wp2_with fail
  refine (may_any nd ks _ B ka kl kc (by simp; omega) T0.out).mono ?_
  rintro e w2 ⟨rfl, b2⟩
  have k0 := (b2.block _ (by simp <;> omega)).trans H0.out
  have k1 := (b2.block _ (by simp <;> omega)).trans H1.out
  have k2 := (b2.block _ (by simp <;> omega)).trans H2.out
  have k3 := (b2.block _ (by simp <;> omega)).trans H3.out
  have k4 := (b2.block _ (by simp <;> omega)).trans H4.out
  have k5 := (b2.block _ (by simp)).trans H5.out
  have c0 := cells_of_block k0
  have c1 := cells_of_block k1 0
  have c2 := cells_of_block k2 0
  have c3 := cells_of_block k3 0
  have c5 := cells_of_block k5
  have f5 := frees_of_block k5
  have l5 := lt_of_block k5
  simp at c1 c2 c3
  have B2 := Lib.hid (B0.out.trans (b2.mono B0.out.size))
  have T2 := Lib.hid (T0.out.kept (b2.mono (by simp; omega)) (Nat.le_refl _))
  have K0 := Lib.hid k0; have K1 := Lib.hid k1; have K2 := Lib.hid k2; have K3 := Lib.hid k3; have K4 := Lib.hid k4; have K5 := Lib.hid k5
  clear b2 T0 k0 k1 k2 k3 k4 k5 H0 H1 H2 H3 H4 H5
  have Q := Lib.hid q
  have q1 : (mayE nd ks != 0) = false := by simp [q]
  have q2 : (mayE nd ks == 0) = true := by simp [q]
  have se : shErr ⟨whatO o, 0, 0, a, n⟩ nd ks = 0 := by rw [shErr_line]; simp [q, r1, r2]
  have SE := Lib.hid se
  have hh : B ≤ w2.heap.size := by omega
  clear q se
  have hE : LinE (.func (.func f) #[] #[]) (w.heap.size + 1 + 1 + 1 + 1) (w.heap.size + 1) (w.heap.size + 1 + 1) (w.heap.size + 1 + 1 + 1) a n (mostO o) w2 := ⟨K4.out, K1.out, K2.out, K3.out⟩
  have HE := Lib.hid hE; have KK := K5
  have BB := B2
  clear hE
  go_wp2_with fail
  refine (walk_sh nd ks w2 (in_spec HW.out ho w2.heap.size (w.heap.size + 1 + 1 + 1 + 1) (w.heap.size + 1) (w.heap.size + 1 + 1) (w.heap.size + 1 + 1 + 1) a n ⟨by omega, by omega, by omega, by omega⟩ HY.out (by omega)) HE.out B ka kl kc hh T2.out Q.out).mono ?_
  have LT := l5
  rintro e w3 ⟨xa, xl, xc, F, rfl, b3, f⟩
  have k6 := (b3.block _ LT).trans KK.out
  have c6 := cells_of_block k6
  have f6 := frees_of_block k6
  have B4 := Lib.hid (BB.out.trans (b3.mono BB.out.size))
  have FR := Lib.hid f
  have hs3 := b3.size
  clear c0 c5 f5 b3 f k6
  go_wp2
  refine bodyPost_ret (v := .tuple #[.agg #[.int .i64 (mvH ⟨whatO o, 0, 0, a, n⟩ nd).kind, .int .i64 (mvH ⟨whatO o, 0, 0, a, n⟩ nd).op, .int .i64 (mvH ⟨whatO o, 0, 0, a, n⟩ nd).num, .string ⟨(mvH ⟨whatO o, 0, 0, a, n⟩ nd).text.toArray⟩, .int .i64 (mvH ⟨whatO o, 0, 0, a, n⟩ nd).ref.row, .int .i64 (mvH ⟨whatO o, 0, 0, a, n⟩ nd).ref.col, .bool (mvH ⟨whatO o, 0, 0, a, n⟩ nd).ref.pr, .bool (mvH ⟨whatO o, 0, 0, a, n⟩ nd).ref.pc, .int .i64 (mvH ⟨whatO o, 0, 0, a, n⟩ nd).to.row, .int .i64 (mvH ⟨whatO o, 0, 0, a, n⟩ nd).to.col, .bool (mvH ⟨whatO o, 0, 0, a, n⟩ nd).to.pr, .bool (mvH ⟨whatO o, 0, 0, a, n⟩ nd).to.pc, .int .i64 (mvH ⟨whatO o, 0, 0, a, n⟩ nd).fn, .slice xa xl xc], .int .i64 0]) (by simp [results, Try.results72, go_sem, c6]) rfl ?_
  refine ⟨?_, .inl ⟨SE.out, xa, xl, xc, F, rfl, ?_⟩⟩
  · repeat (refine Below.setCell ?_ (by simp; try omega) _)
    exact B4.out
  · have f := FR.out
    refine ⟨f.own.kept fun b hb => ?_, f.once, fun b hb => by have := f.new b hb; omega, fun b hb => by simpa [World.setCell] using f.lt b hb⟩
    have := f.new b hb
    repeat rw [Below.heap_setCell _ _ _ _ (by simp; omega)]

set_option maxRecDepth 100000 in
set_option maxHeartbeats 4000000 in
theorem lines_out {wval : Value} {f : FuncId} {o : Nat} (hw : WhSpec wval f o) (ho : o ≤ 1) (nd : Hd) (ks : Trees) (a n : Int) (w : World) (B : Nat) (ka : Option Addr) (kl kc : Nat) (hB : B ≤ w.heap.size) (tv : TreeV w B nd ks ka kl) (hx : I64 a) (hy : I64 n) (q : mayE nd ks = 0) (r1 : ¬ a < 0) (r2 : ¬ mostO o ≤ a) (hn : n < 0) : Calls Try.prog 72 #[.agg #[.int .i64 nd.kind, .int .i64 nd.op, .int .i64 nd.num, .string ⟨nd.text.toArray⟩, .int .i64 nd.ref.row, .int .i64 nd.ref.col, .bool nd.ref.pr, .bool nd.ref.pc, .int .i64 nd.to.row, .int .i64 nd.to.col, .bool nd.to.pr, .bool nd.to.pc, .int .i64 nd.fn, .slice ka kl kc], .int .i64 a, .int .i64 n, .int .i64 (mostO o), wval] w (ShFPost ⟨whatO o, 0, 0, a, n⟩ nd ks w) := by
  obtain rfl := hw.val
  have b0 := (ext_alloc (ext_alloc (ext_alloc (ext_alloc (ext_alloc (ext_alloc (Below.refl _ w) (.cells #[.int .i64 nd.kind, .int .i64 nd.op, .int .i64 nd.num, .string ⟨nd.text.toArray⟩, .int .i64 nd.ref.row, .int .i64 nd.ref.col, .bool nd.ref.pr, .bool nd.ref.pc, .int .i64 nd.to.row, .int .i64 nd.to.col, .bool nd.to.pr, .bool nd.to.pc, .int .i64 nd.fn, .slice ka kl kc] 29)) (.cells #[.int .i64 a] 2)) (.cells #[.int .i64 n] 2)) (.cells #[.int .i64 (mostO o)] 3)) (.cells #[.func (.func f) #[] #[]] 101)) (.cells #[.int .i64 0, .int .i64 0, .int .i64 0, .string ⟨#[]⟩, .int .i64 0, .int .i64 0, .bool false, .bool false, .int .i64 0, .int .i64 0, .bool false, .bool false, .int .i64 0, .slice none 0 0] 29))
  obtain ⟨h0, h1, h2, h3, h4, h5⟩ := heap_alloc6 w (.cells #[.int .i64 nd.kind, .int .i64 nd.op, .int .i64 nd.num, .string ⟨nd.text.toArray⟩, .int .i64 nd.ref.row, .int .i64 nd.ref.col, .bool nd.ref.pr, .bool nd.ref.pc, .int .i64 nd.to.row, .int .i64 nd.to.col, .bool nd.to.pr, .bool nd.to.pc, .int .i64 nd.fn, .slice ka kl kc] 29) (.cells #[.int .i64 a] 2) (.cells #[.int .i64 n] 2) (.cells #[.int .i64 (mostO o)] 3) (.cells #[.func (.func f) #[] #[]] 101) (.cells #[.int .i64 0, .int .i64 0, .int .i64 0, .string ⟨#[]⟩, .int .i64 0, .int .i64 0, .bool false, .bool false, .int .i64 0, .int .i64 0, .bool false, .bool false, .int .i64 0, .slice none 0 0] 29)
  have T0 := Lib.hid (tv.kept (b0.mono hB) (Nat.le_refl _))
  have B0 := Lib.hid b0
  have H0 := Lib.hid h0; have H1 := Lib.hid h1; have H2 := Lib.hid h2; have H3 := Lib.hid h3; have H4 := Lib.hid h4; have H5 := Lib.hid h5
  have HX := Lib.hid hx; have HY := Lib.hid hy; have HW := Lib.hid hw
  have m1 := mostO_le o
  have m2 := mostO_ge o
  clear tv b0 h0 h1 h2 h3 h4 h5 hx hy hw
  go_enter Try.func72, Try.ntmps72
  go_wp2_with fail
  refine (may_any nd ks _ B ka kl kc (by simp; omega) T0.out).mono ?_
  rintro e w2 ⟨rfl, b2⟩
  have k0 := (b2.block _ (by simp <;> omega)).trans H0.out
  have k1 := (b2.block _ (by simp <;> omega)).trans H1.out
  have k2 := (b2.block _ (by simp <;> omega)).trans H2.out
  have k3 := (b2.block _ (by simp <;> omega)).trans H3.out
  have k4 := (b2.block _ (by simp <;> omega)).trans H4.out
  have k5 := (b2.block _ (by simp)).trans H5.out
  have c0 := cells_of_block k0
  have c1 := cells_of_block k1 0
  have c2 := cells_of_block k2 0
  have c3 := cells_of_block k3 0
  have c5 := cells_of_block k5
  have f5 := frees_of_block k5
  have l5 := lt_of_block k5
  simp at c1 c2 c3
  have B2 := Lib.hid (B0.out.trans (b2.mono B0.out.size))
  have T2 := Lib.hid (T0.out.kept (b2.mono (by simp; omega)) (Nat.le_refl _))
  have K0 := Lib.hid k0; have K1 := Lib.hid k1; have K2 := Lib.hid k2; have K3 := Lib.hid k3; have K4 := Lib.hid k4; have K5 := Lib.hid k5
  clear b2 T0 k0 k1 k2 k3 k4 k5 H0 H1 H2 H3 H4 H5
  have Q := Lib.hid q
  have q1 : (mayE nd ks != 0) = false := by simp [q]
  have q2 : (mayE nd ks == 0) = true := by simp [q]
  have se : shErr ⟨whatO o, 0, 0, a, n⟩ nd ks = 0 := by rw [shErr_line]; simp [q, r1, r2]
  have SE := Lib.hid se
  have hh : B ≤ w2.heap.size := by omega
  clear q se
  have EW := Lib.hid (show IntKind.i64.wrap (mostO o - a) = mostO o - a by rw [IntKind.wrap_i64]; omega)
  go_wp2_with fail
  refine (fun (key : ∀ (F K : Nat) (W9 : World), Below w2.heap.size w2 W9 → w2.heap.size ≤ F → F < W9.heap.size → w2.heap.size ≤ K → K < W9.heap.size → F ≠ K → W9.heap[F]? = some (.cells #[.int .i64 a] 3 (0, 0)) → W9.heap[K]? = some (.cells #[.int .i64 (mostO o - a)] 3 (0, 0)) → (?KeyQ : Nat → Nat → World → Prop) F K W9) => ?kmain) ?klater
  case kmain =>
    have z1 : w.heap.size + 1 < w2.heap.size := by omega
    have z3 : w.heap.size + 1 + 1 + 1 < w2.heap.size := by omega
    have d1 : ∀ O : Obj, (w2.alloc O).cell? ⟨w.heap.size + 1, 0, none⟩ = some (.int .i64 a) := fun O => (cells_of_block ((Below.heap_alloc w2 O _ z1).trans K1.out) 0).trans rfl
    have d3 : ∀ O : Obj, (w2.alloc O).cell? ⟨w.heap.size + 1 + 1 + 1, 0, none⟩ = some (.int .i64 (mostO o)) := fun O => (cells_of_block ((Below.heap_alloc w2 O _ z3).trans K3.out) 0).trans rfl
    have e1 : ∀ O O' : Obj, ((w2.alloc O).alloc O').cell? ⟨w.heap.size + 1, 0, none⟩ = some (.int .i64 a) := fun O O' => (cells_of_block ((Below.heap_alloc _ O' _ (by simp; omega)).trans ((Below.heap_alloc w2 O _ z1).trans K1.out)) 0).trans rfl
    have e3 : ∀ O O' : Obj, ((w2.alloc O).alloc O').cell? ⟨w.heap.size + 1 + 1 + 1, 0, none⟩ = some (.int .i64 (mostO o)) := fun O O' => (cells_of_block ((Below.heap_alloc _ O' _ (by simp; omega)).trans ((Below.heap_alloc w2 O _ z3).trans K3.out)) 0).trans rfl
    have g0 : (w2.cell? ⟨w.heap.size + 1, 0, none⟩ = some (.int .i64 a) ∧ w2.cell? ⟨w.heap.size + 1 + 1 + 1, 0, none⟩ = some (.int .i64 (mostO o))) := ⟨c1, c3⟩
    have g1 : ∀ O : Obj, ((w2.alloc O).cell? ⟨w.heap.size + 1, 0, none⟩ = some (.int .i64 a) ∧ (w2.alloc O).cell? ⟨w.heap.size + 1 + 1 + 1, 0, none⟩ = some (.int .i64 (mostO o))) := fun O => ⟨d1 O, d3 O⟩
    have g2 : ∀ O O' : Obj, (((w2.alloc O).alloc O').cell? ⟨w.heap.size + 1, 0, none⟩ = some (.int .i64 a) ∧ ((w2.alloc O).alloc O').cell? ⟨w.heap.size + 1 + 1 + 1, 0, none⟩ = some (.int .i64 (mostO o))) := fun O O' => ⟨e1 O O', e3 O O'⟩
    clear d1 d3 e1 e3
    go_region_held3 (fun W => (W.cell? ⟨w.heap.size + 1, 0, none⟩ = some (.int .i64 a) ∧ W.cell? ⟨w.heap.size + 1 + 1 + 1, 0, none⟩ = some (.int .i64 (mostO o)))) (first | with_reducible assumption | exact g0 | exact g1 _ | exact g2 _ _) (fail)
    all_goals try rw [EW.out]
    · have hb9 := (ext_alloc (ext_alloc (Below.refl _ w2) (.cells #[.int .i64 a] 3)) (.cells #[.int .i64 (mostO o - a)] 3)).drew
      have hA : ((w2.alloc (.cells #[.int .i64 a] 3)).alloc (.cells #[.int .i64 (mostO o - a)] 3)).drew.heap[w2.heap.size]? = some (.cells #[.int .i64 a] 3 (0, 0)) := (Below.heap_alloc _ _ _ (by simp)).trans (heap_alloc_new _ _)
      have hB : ((w2.alloc (.cells #[.int .i64 a] 3)).alloc (.cells #[.int .i64 (mostO o - a)] 3)).drew.heap[w2.heap.size + 1]? = some (.cells #[.int .i64 (mostO o - a)] 3 (0, 0)) := heap_alloc2_new _ _ _
      clear g0 g1 g2
      generalize ((w2.alloc (.cells #[.int .i64 a] 3)).alloc (.cells #[.int .i64 (mostO o - a)] 3)).drew = W9 at hb9 hA hB ⊢
      have lA := lt_of_block hA
      have lB := lt_of_block hB
      generalize hK9 : w2.heap.size + 1 = x1 at hB lB ⊢
      generalize hF9 : w2.heap.size = x0 at hA lA ⊢
      exact key x0 x1 W9 hb9 (by omega) (by omega) (by omega) (by omega) (by omega) hA hB
    · have hb9 := (ext_alloc (ext_alloc (Below.refl _ w2) (.cells #[.int .i64 (mostO o - a)] 3)) (.cells #[.int .i64 a] 3)).drew
      have hA : ((w2.alloc (.cells #[.int .i64 (mostO o - a)] 3)).alloc (.cells #[.int .i64 a] 3)).drew.heap[w2.heap.size]? = some (.cells #[.int .i64 (mostO o - a)] 3 (0, 0)) := (Below.heap_alloc _ _ _ (by simp)).trans (heap_alloc_new _ _)
      have hB : ((w2.alloc (.cells #[.int .i64 (mostO o - a)] 3)).alloc (.cells #[.int .i64 a] 3)).drew.heap[w2.heap.size + 1]? = some (.cells #[.int .i64 a] 3 (0, 0)) := heap_alloc2_new _ _ _
      clear g0 g1 g2
      generalize ((w2.alloc (.cells #[.int .i64 (mostO o - a)] 3)).alloc (.cells #[.int .i64 a] 3)).drew = W9 at hb9 hA hB ⊢
      have lA := lt_of_block hA
      have lB := lt_of_block hB
      generalize hK9 : w2.heap.size + 1 = x1 at hB lB ⊢
      generalize hF9 : w2.heap.size = x0 at hA lA ⊢
      exact key x1 x0 W9 hb9 (by omega) (by omega) (by omega) (by omega) (by omega) hB hA
  case klater =>
    intro F K W9 hb9 hF1 hF2 hK1 hK2 hFK hF hK
    have l0 : w.heap.size < w2.heap.size := by omega
    have l2 : w.heap.size + 1 + 1 < w2.heap.size := by omega
    have d0 := cells_of_block ((hb9.block _ l0).trans K0.out)
    have d2 := cells_of_block ((hb9.block _ l2).trans K2.out) 0
    have d5 := cells_of_block ((hb9.block _ l5).trans K5.out)
    have fK := frees_of_block hK
    have dK := cells_of_block hK 0
    simp at d2 dK
    have hs9 := hb9.size
    have B9 := Lib.hid (B2.out.trans (hb9.mono B2.out.size))
    have T9 := Lib.hid (T2.out.kept (hb9.mono hh) (Nat.le_refl _))
    have HB9 := Lib.hid hb9; have HF := Lib.hid hF; have HKb := Lib.hid hK
    clear hb9 hF hK c0 c1 c2 c3 c5 f5
    by_cases q3 : -(mostO o - a) < n
    · have em : manyN a n (mostO o) = -n := by simp [manyN, q3]
      have hsz : (W9.setCell ⟨K, 0, none⟩ (.int .i64 (-n))).heap.size = W9.heap.size := by simp [World.setCell]
      have keep : ∀ b, b < W9.heap.size → b ≠ K → ((W9.setCell ⟨K, 0, none⟩ (.int .i64 (-n))).alloc (.cells #[.func (.func 87) #[] #[.pointer (some ⟨F, 0, none⟩), .pointer (some ⟨K, 0, none⟩)]] 103)).heap[b]? = W9.heap[b]? := fun b hb hne => (Below.heap_alloc _ _ _ (by rw [hsz]; exact hb)).trans (Below.heap_setCell _ _ _ _ (by simpa using hne))
      have bk : Below w2.heap.size w2 ((W9.setCell ⟨K, 0, none⟩ (.int .i64 (-n))).alloc (.cells #[.func (.func 87) #[] #[.pointer (some ⟨F, 0, none⟩), .pointer (some ⟨K, 0, none⟩)]] 103)) := by
        refine Below.alloc ?_ (by rw [hsz]; exact hs9) _
        refine Below.setCell ?_ (by simpa using hK1) _
        exact HB9.out
      have hE : OutE (.func (.func f) #[] #[]) (w.heap.size + 1 + 1 + 1 + 1) W9.heap.size F K a (manyN a n (mostO o)) ((W9.setCell ⟨K, 0, none⟩ (.int .i64 (-n))).alloc (.cells #[.func (.func 87) #[] #[.pointer (some ⟨F, 0, none⟩), .pointer (some ⟨K, 0, none⟩)]] 103)) := by
        refine ⟨(keep _ (by omega) (by omega)).trans ((HB9.out.block _ (by omega)).trans K4.out), ?_, (keep _ hF2 hFK).trans HF.out, ?_⟩
        · rw [← hsz]; exact heap_alloc_new _ _
        · rw [em]
          refine (Below.heap_alloc _ _ _ (by rw [hsz]; exact hK2)).trans ?_
          rw [block_set HKb.out]; rfl
      have tv10 := T2.out.kept (bk.mono hh) (Nat.le_refl _)
      have kk := (keep (w.heap.size + 1 + 1 + 1 + 1 + 1) (by omega) (by omega)).trans ((HB9.out.block _ l5).trans K5.out)
      have bb := B2.out.trans (bk.mono B2.out.size)
      have hs10 : ((W9.setCell ⟨K, 0, none⟩ (.int .i64 (-n))).alloc (.cells #[.func (.func 87) #[] #[.pointer (some ⟨F, 0, none⟩), .pointer (some ⟨K, 0, none⟩)]] 103)).heap.size = W9.heap.size + 1 := by simp [World.setCell]
      have LT : (w.heap.size + 1 + 1 + 1 + 1 + 1) < ((W9.setCell ⟨K, 0, none⟩ (.int .i64 (-n))).alloc (.cells #[.func (.func 87) #[] #[.pointer (some ⟨F, 0, none⟩), .pointer (some ⟨K, 0, none⟩)]] 103)).heap.size := by omega
      have hh10 : B ≤ ((W9.setCell ⟨K, 0, none⟩ (.int .i64 (-n))).alloc (.cells #[.func (.func 87) #[] #[.pointer (some ⟨F, 0, none⟩), .pointer (some ⟨K, 0, none⟩)]] 103)).heap.size := by omega
      have sp := rem_spec HW.out ho ((W9.setCell ⟨K, 0, none⟩ (.int .i64 (-n))).alloc (.cells #[.func (.func 87) #[] #[.pointer (some ⟨F, 0, none⟩), .pointer (some ⟨K, 0, none⟩)]] 103)).heap.size (w.heap.size + 1 + 1 + 1 + 1) W9.heap.size F K a n ⟨by omega, by omega, by omega, by omega⟩ (by omega) (by omega) hn
      have HE := Lib.hid hE; have T10 := Lib.hid tv10; have KK := Lib.hid kk; have BB := Lib.hid bb; have SP := Lib.hid sp
      have hs10' := hs10
      have d0' := cells_of_block ((keep w.heap.size (by omega) (by omega)).trans ((HB9.out.block _ l0).trans K0.out))
      clear hE tv10 kk bb sp keep bk em
      go_wp2_with fail
      refine (walk_sh nd ks ((W9.setCell ⟨K, 0, none⟩ (.int .i64 (-n))).alloc (.cells #[.func (.func 87) #[] #[.pointer (some ⟨F, 0, none⟩), .pointer (some ⟨K, 0, none⟩)]] 103)) SP.out HE.out B ka kl kc hh10 T10.out Q.out).mono ?_
      rintro e w3 ⟨xa, xl, xc, F, rfl, b3, f⟩
      have k6 := (b3.block _ LT).trans KK.out
      have c6 := cells_of_block k6
      have f6 := frees_of_block k6
      have B4 := Lib.hid (BB.out.trans (b3.mono BB.out.size))
      have FR := Lib.hid f
      have hs3 := b3.size
      clear b3 f k6 d0 d2 d5 fK dK d0'
      go_wp2
      refine bodyPost_ret (v := .tuple #[.agg #[.int .i64 (mvH ⟨whatO o, 0, 0, a, n⟩ nd).kind, .int .i64 (mvH ⟨whatO o, 0, 0, a, n⟩ nd).op, .int .i64 (mvH ⟨whatO o, 0, 0, a, n⟩ nd).num, .string ⟨(mvH ⟨whatO o, 0, 0, a, n⟩ nd).text.toArray⟩, .int .i64 (mvH ⟨whatO o, 0, 0, a, n⟩ nd).ref.row, .int .i64 (mvH ⟨whatO o, 0, 0, a, n⟩ nd).ref.col, .bool (mvH ⟨whatO o, 0, 0, a, n⟩ nd).ref.pr, .bool (mvH ⟨whatO o, 0, 0, a, n⟩ nd).ref.pc, .int .i64 (mvH ⟨whatO o, 0, 0, a, n⟩ nd).to.row, .int .i64 (mvH ⟨whatO o, 0, 0, a, n⟩ nd).to.col, .bool (mvH ⟨whatO o, 0, 0, a, n⟩ nd).to.pr, .bool (mvH ⟨whatO o, 0, 0, a, n⟩ nd).to.pc, .int .i64 (mvH ⟨whatO o, 0, 0, a, n⟩ nd).fn, .slice xa xl xc], .int .i64 0]) (by simp [results, Try.results72, go_sem, c6]) rfl ?_
      refine ⟨?_, .inl ⟨SE.out, xa, xl, xc, F, rfl, ?_⟩⟩
      · repeat (refine Below.setCell ?_ (by simp; try omega) _)
        exact B4.out
      · have f := FR.out
        refine ⟨f.own.kept fun b hb => ?_, f.once, fun b hb => by have := f.new b hb; omega, fun b hb => by simpa [World.setCell] using f.lt b hb⟩
        have := f.new b hb
        repeat rw [Below.heap_setCell _ _ _ _ (by simp; omega)]
    · have em : manyN a n (mostO o) = mostO o - a := by simp [manyN, q3]
      have hsz : W9.heap.size = W9.heap.size := rfl
      have keep : ∀ b, b < W9.heap.size → b ≠ K → (W9.alloc (.cells #[.func (.func 87) #[] #[.pointer (some ⟨F, 0, none⟩), .pointer (some ⟨K, 0, none⟩)]] 103)).heap[b]? = W9.heap[b]? := fun b hb hne => (Below.heap_alloc _ _ _ (by rw [hsz]; exact hb)).trans rfl
      have bk : Below w2.heap.size w2 (W9.alloc (.cells #[.func (.func 87) #[] #[.pointer (some ⟨F, 0, none⟩), .pointer (some ⟨K, 0, none⟩)]] 103)) := by
        refine Below.alloc ?_ (by rw [hsz]; exact hs9) _
        skip
        exact HB9.out
      have hE : OutE (.func (.func f) #[] #[]) (w.heap.size + 1 + 1 + 1 + 1) W9.heap.size F K a (manyN a n (mostO o)) (W9.alloc (.cells #[.func (.func 87) #[] #[.pointer (some ⟨F, 0, none⟩), .pointer (some ⟨K, 0, none⟩)]] 103)) := by
        refine ⟨(keep _ (by omega) (by omega)).trans ((HB9.out.block _ (by omega)).trans K4.out), ?_, (keep _ hF2 hFK).trans HF.out, ?_⟩
        · rw [← hsz]; exact heap_alloc_new _ _
        · rw [em]
          refine (Below.heap_alloc _ _ _ (by rw [hsz]; exact hK2)).trans ?_
          exact HKb.out
      have tv10 := T2.out.kept (bk.mono hh) (Nat.le_refl _)
      have kk := (keep (w.heap.size + 1 + 1 + 1 + 1 + 1) (by omega) (by omega)).trans ((HB9.out.block _ l5).trans K5.out)
      have bb := B2.out.trans (bk.mono B2.out.size)
      have hs10 : (W9.alloc (.cells #[.func (.func 87) #[] #[.pointer (some ⟨F, 0, none⟩), .pointer (some ⟨K, 0, none⟩)]] 103)).heap.size = W9.heap.size + 1 := by simp
      have LT : (w.heap.size + 1 + 1 + 1 + 1 + 1) < (W9.alloc (.cells #[.func (.func 87) #[] #[.pointer (some ⟨F, 0, none⟩), .pointer (some ⟨K, 0, none⟩)]] 103)).heap.size := by omega
      have hh10 : B ≤ (W9.alloc (.cells #[.func (.func 87) #[] #[.pointer (some ⟨F, 0, none⟩), .pointer (some ⟨K, 0, none⟩)]] 103)).heap.size := by omega
      have sp := rem_spec HW.out ho (W9.alloc (.cells #[.func (.func 87) #[] #[.pointer (some ⟨F, 0, none⟩), .pointer (some ⟨K, 0, none⟩)]] 103)).heap.size (w.heap.size + 1 + 1 + 1 + 1) W9.heap.size F K a n ⟨by omega, by omega, by omega, by omega⟩ (by omega) (by omega) hn
      have HE := Lib.hid hE; have T10 := Lib.hid tv10; have KK := Lib.hid kk; have BB := Lib.hid bb; have SP := Lib.hid sp
      have hs10' := hs10
      have d0' := cells_of_block ((keep w.heap.size (by omega) (by omega)).trans ((HB9.out.block _ l0).trans K0.out))
      clear hE tv10 kk bb sp keep bk em
      go_wp2_with fail
      refine (walk_sh nd ks (W9.alloc (.cells #[.func (.func 87) #[] #[.pointer (some ⟨F, 0, none⟩), .pointer (some ⟨K, 0, none⟩)]] 103)) SP.out HE.out B ka kl kc hh10 T10.out Q.out).mono ?_
      rintro e w3 ⟨xa, xl, xc, F, rfl, b3, f⟩
      have k6 := (b3.block _ LT).trans KK.out
      have c6 := cells_of_block k6
      have f6 := frees_of_block k6
      have B4 := Lib.hid (BB.out.trans (b3.mono BB.out.size))
      have FR := Lib.hid f
      have hs3 := b3.size
      clear b3 f k6 d0 d2 d5 fK dK d0'
      go_wp2
      refine bodyPost_ret (v := .tuple #[.agg #[.int .i64 (mvH ⟨whatO o, 0, 0, a, n⟩ nd).kind, .int .i64 (mvH ⟨whatO o, 0, 0, a, n⟩ nd).op, .int .i64 (mvH ⟨whatO o, 0, 0, a, n⟩ nd).num, .string ⟨(mvH ⟨whatO o, 0, 0, a, n⟩ nd).text.toArray⟩, .int .i64 (mvH ⟨whatO o, 0, 0, a, n⟩ nd).ref.row, .int .i64 (mvH ⟨whatO o, 0, 0, a, n⟩ nd).ref.col, .bool (mvH ⟨whatO o, 0, 0, a, n⟩ nd).ref.pr, .bool (mvH ⟨whatO o, 0, 0, a, n⟩ nd).ref.pc, .int .i64 (mvH ⟨whatO o, 0, 0, a, n⟩ nd).to.row, .int .i64 (mvH ⟨whatO o, 0, 0, a, n⟩ nd).to.col, .bool (mvH ⟨whatO o, 0, 0, a, n⟩ nd).to.pr, .bool (mvH ⟨whatO o, 0, 0, a, n⟩ nd).to.pc, .int .i64 (mvH ⟨whatO o, 0, 0, a, n⟩ nd).fn, .slice xa xl xc], .int .i64 0]) (by simp [results, Try.results72, go_sem, c6]) rfl ?_
      refine ⟨?_, .inl ⟨SE.out, xa, xl, xc, F, rfl, ?_⟩⟩
      · repeat (refine Below.setCell ?_ (by simp; try omega) _)
        exact B4.out
      · have f := FR.out
        refine ⟨f.own.kept fun b hb => ?_, f.once, fun b hb => by have := f.new b hb; omega, fun b hb => by simpa [World.setCell] using f.lt b hb⟩
        have := f.new b hb
        repeat rw [Below.heap_setCell _ _ _ _ (by simp; omega)]

theorem lines_any {wval : Value} {f : FuncId} {o : Nat} (hw : WhSpec wval f o) (ho : o ≤ 1) (nd : Hd) (ks : Trees) (a n : Int) (w : World) (B : Nat) (ka : Option Addr) (kl kc : Nat) (hB : B ≤ w.heap.size) (tv : TreeV w B nd ks ka kl) (hx : I64 a) (hy : I64 n) : Calls Try.prog 72 #[.agg #[.int .i64 nd.kind, .int .i64 nd.op, .int .i64 nd.num, .string ⟨nd.text.toArray⟩, .int .i64 nd.ref.row, .int .i64 nd.ref.col, .bool nd.ref.pr, .bool nd.ref.pc, .int .i64 nd.to.row, .int .i64 nd.to.col, .bool nd.to.pr, .bool nd.to.pc, .int .i64 nd.fn, .slice ka kl kc], .int .i64 a, .int .i64 n, .int .i64 (mostO o), wval] w (ShFPost ⟨whatO o, 0, 0, a, n⟩ nd ks w) := by
  by_cases q : mayE nd ks = 0
  · by_cases r : a < 0 ∨ mostO o ≤ a
    · exact lines_arg hw ho nd ks a n w B ka kl kc hB tv hx hy q r
    · by_cases hn : n < 0
      · exact lines_out hw ho nd ks a n w B ka kl kc hB tv hx hy q (fun h => r (.inl h)) (fun h => r (.inr h)) hn
      · exact lines_in hw ho nd ks a n w B ka kl kc hB tv hx hy q (fun h => r (.inl h)) (fun h => r (.inr h)) hn
  · exact lines_bad hw ho nd ks a n w B ka kl kc hB tv hx hy q
theorem lines_as {wval : Value} {f : FuncId} {o : Nat} (hw : WhSpec wval f o) (ho : o ≤ 1) (nd : Hd) (ks : Trees) (a n : Int) (w : World) (B : Nat) (ka : Option Addr) (kl kc : Nat) (hB : B ≤ w.heap.size) (tv : TreeV w B nd ks ka kl) (hx : I64 a) (hy : I64 n) (M : Mv) (hM : M = ⟨whatO o, 0, 0, a, n⟩) : Calls Try.prog 72 #[.agg #[.int .i64 nd.kind, .int .i64 nd.op, .int .i64 nd.num, .string ⟨nd.text.toArray⟩, .int .i64 nd.ref.row, .int .i64 nd.ref.col, .bool nd.ref.pr, .bool nd.ref.pc, .int .i64 nd.to.row, .int .i64 nd.to.col, .bool nd.to.pr, .bool nd.to.pc, .int .i64 nd.fn, .slice ka kl kc], .int .i64 a, .int .i64 n, .int .i64 (mostO o), wval] w (ShFPost M nd ks w) := by
  subst hM; exact lines_any hw ho nd ks a n w B ka kl kc hB tv hx hy
end Go.Proofs.Ytkjfeakbhfkldaa
/- Shifting: Rows and Cols. -/
namespace Go.Proofs.Ytkjfeakbhfkldaa
open Go.RowKit

set_option maxRecDepth 100000 in
set_option maxHeartbeats 4000000 in
theorem shRows_any (nd : Hd) (ks : Trees) (x y : Int) (w : World) (B : Nat) (ka : Option Addr) (kl kc : Nat) (hB : B ≤ w.heap.size) (tv : TreeV w B nd ks ka kl) (hx : I64 x) (hy : I64 y) : Calls Try.prog 43 #[.agg #[.int .i64 nd.kind, .int .i64 nd.op, .int .i64 nd.num, .string ⟨nd.text.toArray⟩, .int .i64 nd.ref.row, .int .i64 nd.ref.col, .bool nd.ref.pr, .bool nd.ref.pc, .int .i64 nd.to.row, .int .i64 nd.to.col, .bool nd.to.pr, .bool nd.to.pc, .int .i64 nd.fn, .slice ka kl kc], .int .i64 x, .int .i64 y] w (ShFPost ⟨2, 0, 0, x, y⟩ nd ks w) := by
  have b0 := ext_alloc (ext_alloc (Below.refl _ w) (.cells #[.int .i64 nd.kind, .int .i64 nd.op, .int .i64 nd.num, .string ⟨nd.text.toArray⟩, .int .i64 nd.ref.row, .int .i64 nd.ref.col, .bool nd.ref.pr, .bool nd.ref.pc, .int .i64 nd.to.row, .int .i64 nd.to.col, .bool nd.to.pr, .bool nd.to.pc, .int .i64 nd.fn, .slice ka kl kc] 29)) (.cells #[.int .i64 0, .int .i64 0, .int .i64 0, .string ⟨#[]⟩, .int .i64 0, .int .i64 0, .bool false, .bool false, .int .i64 0, .int .i64 0, .bool false, .bool false, .int .i64 0, .slice none 0 0] 29)
  have T0 := Lib.hid (tv.kept (b0.mono hB) (Nat.le_refl _))
  have B0 := Lib.hid b0
  have h1 := heap_alloc2_new w (.cells #[.int .i64 nd.kind, .int .i64 nd.op, .int .i64 nd.num, .string ⟨nd.text.toArray⟩, .int .i64 nd.ref.row, .int .i64 nd.ref.col, .bool nd.ref.pr, .bool nd.ref.pc, .int .i64 nd.to.row, .int .i64 nd.to.col, .bool nd.to.pr, .bool nd.to.pc, .int .i64 nd.fn, .slice ka kl kc] 29) (.cells #[.int .i64 0, .int .i64 0, .int .i64 0, .string ⟨#[]⟩, .int .i64 0, .int .i64 0, .bool false, .bool false, .int .i64 0, .int .i64 0, .bool false, .bool false, .int .i64 0, .slice none 0 0] 29)
  have H1 := Lib.hid h1
  have HX := Lib.hid hx; have HY := Lib.hid hy
  clear tv b0 hx hy h1
  go_enter Try.func43, Try.ntmps43
  go_wp2_with fail
  refine (lines_as (o := 0) wh_rows (by decide) nd ks x y _ B ka kl kc (by simp; omega) T0.out HX.out HY.out ⟨2, 0, 0, x, y⟩ rfl).mono ?_
  rintro e w2 ⟨b2, ⟨se, xa, xl, xc, F, rfl, f⟩ | ⟨se, rfl⟩⟩
  · have k1 := (b2.block _ (by simp)).trans H1.out
    have c1 := cells_of_block k1
    have f1 := frees_of_block k1
    have l1 := lt_of_block k1
    have B2 := Lib.hid (B0.out.trans (b2.mono B0.out.size))
    have FR := Lib.hid f; have SE := Lib.hid se
    clear b2 f k1 se
    go_wp2
    refine bodyPost_ret (v := .tuple #[.agg #[.int .i64 (mvH ⟨2, 0, 0, x, y⟩ nd).kind, .int .i64 (mvH ⟨2, 0, 0, x, y⟩ nd).op, .int .i64 (mvH ⟨2, 0, 0, x, y⟩ nd).num, .string ⟨(mvH ⟨2, 0, 0, x, y⟩ nd).text.toArray⟩, .int .i64 (mvH ⟨2, 0, 0, x, y⟩ nd).ref.row, .int .i64 (mvH ⟨2, 0, 0, x, y⟩ nd).ref.col, .bool (mvH ⟨2, 0, 0, x, y⟩ nd).ref.pr, .bool (mvH ⟨2, 0, 0, x, y⟩ nd).ref.pc, .int .i64 (mvH ⟨2, 0, 0, x, y⟩ nd).to.row, .int .i64 (mvH ⟨2, 0, 0, x, y⟩ nd).to.col, .bool (mvH ⟨2, 0, 0, x, y⟩ nd).to.pr, .bool (mvH ⟨2, 0, 0, x, y⟩ nd).to.pc, .int .i64 (mvH ⟨2, 0, 0, x, y⟩ nd).fn, .slice xa xl xc], .int .i64 0]) (by simp [results, Try.results43, go_sem, c1]; try rfl) rfl ?_
    refine ⟨?_, .inl ⟨SE.out, xa, xl, xc, F, rfl, ?_⟩⟩
    · repeat (refine Below.setCell ?_ (by simp; try omega) _)
      exact B2.out
    · have f := FR.out
      have hn : ∀ b ∈ F, w.heap.size + 2 ≤ b := fun b hb => by have := f.new b hb; simpa using this
      refine ⟨f.own.kept fun b hb => ?_, f.once, fun b hb => by have := hn b hb; omega, fun b hb => by simpa [World.setCell] using f.lt b hb⟩
      have := hn b hb
      repeat rw [Below.heap_setCell _ _ _ _ (by simp; omega)]
  · have k1 := (b2.block _ (by simp)).trans H1.out
    have c1 := cells_of_block k1
    have f1 := frees_of_block k1
    have l1 := lt_of_block k1
    have B2 := Lib.hid (B0.out.trans (b2.mono B0.out.size))
    have SE := Lib.hid se
    clear b2 k1 se
    go_wp2
    refine bodyPost_ret (v := .tuple #[.agg #[.int .i64 0, .int .i64 0, .int .i64 0, .string ⟨#[]⟩, .int .i64 0, .int .i64 0, .bool false, .bool false, .int .i64 0, .int .i64 0, .bool false, .bool false, .int .i64 0, .slice none 0 0], .int .i64 (shErr ⟨2, 0, 0, x, y⟩ nd ks)]) (by simp [results, Try.results43, go_sem, c1]; try rfl) rfl ?_
    refine ⟨?_, .inr ⟨SE.out, rfl⟩⟩
    repeat (refine Below.setCell ?_ (by simp; try omega) _)
    exact B2.out

set_option maxRecDepth 100000 in
set_option maxHeartbeats 4000000 in
theorem shCols_any (nd : Hd) (ks : Trees) (x y : Int) (w : World) (B : Nat) (ka : Option Addr) (kl kc : Nat) (hB : B ≤ w.heap.size) (tv : TreeV w B nd ks ka kl) (hx : I64 x) (hy : I64 y) : Calls Try.prog 63 #[.agg #[.int .i64 nd.kind, .int .i64 nd.op, .int .i64 nd.num, .string ⟨nd.text.toArray⟩, .int .i64 nd.ref.row, .int .i64 nd.ref.col, .bool nd.ref.pr, .bool nd.ref.pc, .int .i64 nd.to.row, .int .i64 nd.to.col, .bool nd.to.pr, .bool nd.to.pc, .int .i64 nd.fn, .slice ka kl kc], .int .i64 x, .int .i64 y] w (ShFPost ⟨3, 0, 0, x, y⟩ nd ks w) := by
  have b0 := ext_alloc (ext_alloc (Below.refl _ w) (.cells #[.int .i64 nd.kind, .int .i64 nd.op, .int .i64 nd.num, .string ⟨nd.text.toArray⟩, .int .i64 nd.ref.row, .int .i64 nd.ref.col, .bool nd.ref.pr, .bool nd.ref.pc, .int .i64 nd.to.row, .int .i64 nd.to.col, .bool nd.to.pr, .bool nd.to.pc, .int .i64 nd.fn, .slice ka kl kc] 29)) (.cells #[.int .i64 0, .int .i64 0, .int .i64 0, .string ⟨#[]⟩, .int .i64 0, .int .i64 0, .bool false, .bool false, .int .i64 0, .int .i64 0, .bool false, .bool false, .int .i64 0, .slice none 0 0] 29)
  have T0 := Lib.hid (tv.kept (b0.mono hB) (Nat.le_refl _))
  have B0 := Lib.hid b0
  have h1 := heap_alloc2_new w (.cells #[.int .i64 nd.kind, .int .i64 nd.op, .int .i64 nd.num, .string ⟨nd.text.toArray⟩, .int .i64 nd.ref.row, .int .i64 nd.ref.col, .bool nd.ref.pr, .bool nd.ref.pc, .int .i64 nd.to.row, .int .i64 nd.to.col, .bool nd.to.pr, .bool nd.to.pc, .int .i64 nd.fn, .slice ka kl kc] 29) (.cells #[.int .i64 0, .int .i64 0, .int .i64 0, .string ⟨#[]⟩, .int .i64 0, .int .i64 0, .bool false, .bool false, .int .i64 0, .int .i64 0, .bool false, .bool false, .int .i64 0, .slice none 0 0] 29)
  have H1 := Lib.hid h1
  have HX := Lib.hid hx; have HY := Lib.hid hy
  clear tv b0 hx hy h1
  go_enter Try.func63, Try.ntmps63
  go_wp2_with fail
  refine (lines_as (o := 1) wh_cols (by decide) nd ks x y _ B ka kl kc (by simp; omega) T0.out HX.out HY.out ⟨3, 0, 0, x, y⟩ rfl).mono ?_
  rintro e w2 ⟨b2, ⟨se, xa, xl, xc, F, rfl, f⟩ | ⟨se, rfl⟩⟩
  · have k1 := (b2.block _ (by simp)).trans H1.out
    have c1 := cells_of_block k1
    have f1 := frees_of_block k1
    have l1 := lt_of_block k1
    have B2 := Lib.hid (B0.out.trans (b2.mono B0.out.size))
    have FR := Lib.hid f; have SE := Lib.hid se
    clear b2 f k1 se
    go_wp2
    refine bodyPost_ret (v := .tuple #[.agg #[.int .i64 (mvH ⟨3, 0, 0, x, y⟩ nd).kind, .int .i64 (mvH ⟨3, 0, 0, x, y⟩ nd).op, .int .i64 (mvH ⟨3, 0, 0, x, y⟩ nd).num, .string ⟨(mvH ⟨3, 0, 0, x, y⟩ nd).text.toArray⟩, .int .i64 (mvH ⟨3, 0, 0, x, y⟩ nd).ref.row, .int .i64 (mvH ⟨3, 0, 0, x, y⟩ nd).ref.col, .bool (mvH ⟨3, 0, 0, x, y⟩ nd).ref.pr, .bool (mvH ⟨3, 0, 0, x, y⟩ nd).ref.pc, .int .i64 (mvH ⟨3, 0, 0, x, y⟩ nd).to.row, .int .i64 (mvH ⟨3, 0, 0, x, y⟩ nd).to.col, .bool (mvH ⟨3, 0, 0, x, y⟩ nd).to.pr, .bool (mvH ⟨3, 0, 0, x, y⟩ nd).to.pc, .int .i64 (mvH ⟨3, 0, 0, x, y⟩ nd).fn, .slice xa xl xc], .int .i64 0]) (by simp [results, Try.results63, go_sem, c1]; try rfl) rfl ?_
    refine ⟨?_, .inl ⟨SE.out, xa, xl, xc, F, rfl, ?_⟩⟩
    · repeat (refine Below.setCell ?_ (by simp; try omega) _)
      exact B2.out
    · have f := FR.out
      have hn : ∀ b ∈ F, w.heap.size + 2 ≤ b := fun b hb => by have := f.new b hb; simpa using this
      refine ⟨f.own.kept fun b hb => ?_, f.once, fun b hb => by have := hn b hb; omega, fun b hb => by simpa [World.setCell] using f.lt b hb⟩
      have := hn b hb
      repeat rw [Below.heap_setCell _ _ _ _ (by simp; omega)]
  · have k1 := (b2.block _ (by simp)).trans H1.out
    have c1 := cells_of_block k1
    have f1 := frees_of_block k1
    have l1 := lt_of_block k1
    have B2 := Lib.hid (B0.out.trans (b2.mono B0.out.size))
    have SE := Lib.hid se
    clear b2 k1 se
    go_wp2
    refine bodyPost_ret (v := .tuple #[.agg #[.int .i64 0, .int .i64 0, .int .i64 0, .string ⟨#[]⟩, .int .i64 0, .int .i64 0, .bool false, .bool false, .int .i64 0, .int .i64 0, .bool false, .bool false, .int .i64 0, .slice none 0 0], .int .i64 (shErr ⟨3, 0, 0, x, y⟩ nd ks)]) (by simp [results, Try.results63, go_sem, c1]; try rfl) rfl ?_
    refine ⟨?_, .inr ⟨SE.out, rfl⟩⟩
    repeat (refine Below.setCell ?_ (by simp; try omega) _)
    exact B2.out
end Go.Proofs.Ytkjfeakbhfkldaa
