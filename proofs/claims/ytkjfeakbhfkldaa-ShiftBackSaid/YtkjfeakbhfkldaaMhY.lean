/- Shifting: ShiftBack, what is not asked. -/
import Derived.Test.YtkjfeakbhfkldaaMhP
namespace Go.Proofs.Ytkjfeakbhfkldaa
open Go.RowKit

set_option maxRecDepth 100000 in
set_option maxHeartbeats 4000000 in
theorem back_not (nd : Hd) (ks : Trees) (at_ n : Int) (w : World) (B : Nat) (ka : Option Addr) (kl kc : Nat) (hB : B ≤ w.heap.size) (tv : TreeV w B nd ks ka kl) (C : Bool) (so : (smallB nd ks && decide (mayE nd ks = 0)) = false) : Calls Try.prog 12 #[.agg #[.int .i64 nd.kind, .int .i64 nd.op, .int .i64 nd.num, .string ⟨nd.text.toArray⟩, .int .i64 nd.ref.row, .int .i64 nd.ref.col, .bool nd.ref.pr, .bool nd.ref.pc, .int .i64 nd.to.row, .int .i64 nd.to.col, .bool nd.to.pr, .bool nd.to.pc, .int .i64 nd.fn, .slice ka kl kc], .int .i64 at_, .int .i64 n, .bool C] w (TruePost w) := by
  have q0 := ext_alloc (Below.refl w.heap.size w) (.cells #[.int .i64 nd.kind, .int .i64 nd.op, .int .i64 nd.num, .string ⟨nd.text.toArray⟩, .int .i64 nd.ref.row, .int .i64 nd.ref.col, .bool nd.ref.pr, .bool nd.ref.pc, .int .i64 nd.to.row, .int .i64 nd.to.col, .bool nd.to.pr, .bool nd.to.pc, .int .i64 nd.fn, .slice ka kl kc] 29)
  have BB := Lib.hid q0
  have H0 := Lib.hid (heap_alloc_new w (.cells #[.int .i64 nd.kind, .int .i64 nd.op, .int .i64 nd.num, .string ⟨nd.text.toArray⟩, .int .i64 nd.ref.row, .int .i64 nd.ref.col, .bool nd.ref.pr, .bool nd.ref.pc, .int .i64 nd.to.row, .int .i64 nd.to.col, .bool nd.to.pr, .bool nd.to.pc, .int .i64 nd.fn, .slice ka kl kc] 29))
  have T0 := Lib.hid ((tv.kept (q0.mono hB) (Nat.le_refl _)).mono (Nat.le_trans hB q0.size))
  clear q0 tv
  go_enter Try.func12, Try.ntmps12
  go_wp2_with fail
  refine (lawBegun_any _).mono ?_
  rintro e w1 ⟨rfl, b1⟩
  have BB := Lib.hid (BB.out.trans (b1.mono BB.out.size))
  have T0 := Lib.hid ((T0.out.kept b1 (Nat.le_refl _)).mono b1.size)
  have H0 := Lib.hid ((b1.block _ (lt_of_block H0.out)).trans H0.out)
  clear b1
  go_wp2_with (refine wpList_load_E (w := w1) rfl rfl rfl H0.out rfl ?_)
  refine (sound_any nd ks w1 w1.heap.size ka kl kc (Nat.le_refl _) T0.out).mono ?_
  rintro e w2 ⟨rfl, b2⟩
  have BB := Lib.hid (BB.out.trans (b2.mono BB.out.size))
  have T0 := Lib.hid ((T0.out.kept b2 (Nat.le_refl _)).mono b2.size)
  have H0 := Lib.hid ((b2.block _ (lt_of_block H0.out)).trans H0.out)
  clear b2
  generalize w.heap.size = N0 at H0 ⊢
  rw [so]
  go_wp2
  go_ret
  exact ⟨rfl, BB.out⟩
set_option maxRecDepth 100000 in
set_option maxHeartbeats 4000000 in
theorem back_far (nd : Hd) (ks : Trees) (at_ n : Int) (w : World) (B : Nat) (ka : Option Addr) (kl kc : Nat) (hB : B ≤ w.heap.size) (tv : TreeV w B nd ks ka kl) (C : Bool) (so : (smallB nd ks && decide (mayE nd ks = 0)) = true) (far : n < 1 ∨ 70000 < n ∨ at_ < 0 ∨ 70000 < at_) : Calls Try.prog 12 #[.agg #[.int .i64 nd.kind, .int .i64 nd.op, .int .i64 nd.num, .string ⟨nd.text.toArray⟩, .int .i64 nd.ref.row, .int .i64 nd.ref.col, .bool nd.ref.pr, .bool nd.ref.pc, .int .i64 nd.to.row, .int .i64 nd.to.col, .bool nd.to.pr, .bool nd.to.pc, .int .i64 nd.fn, .slice ka kl kc], .int .i64 at_, .int .i64 n, .bool C] w (TruePost w) := by
  have FAR := Lib.hid far
  clear far
  have q0 := ext_alloc (Below.refl w.heap.size w) (.cells #[.int .i64 nd.kind, .int .i64 nd.op, .int .i64 nd.num, .string ⟨nd.text.toArray⟩, .int .i64 nd.ref.row, .int .i64 nd.ref.col, .bool nd.ref.pr, .bool nd.ref.pc, .int .i64 nd.to.row, .int .i64 nd.to.col, .bool nd.to.pr, .bool nd.to.pc, .int .i64 nd.fn, .slice ka kl kc] 29)
  have BB := Lib.hid q0
  have H0 := Lib.hid (heap_alloc_new w (.cells #[.int .i64 nd.kind, .int .i64 nd.op, .int .i64 nd.num, .string ⟨nd.text.toArray⟩, .int .i64 nd.ref.row, .int .i64 nd.ref.col, .bool nd.ref.pr, .bool nd.ref.pc, .int .i64 nd.to.row, .int .i64 nd.to.col, .bool nd.to.pr, .bool nd.to.pc, .int .i64 nd.fn, .slice ka kl kc] 29))
  have T0 := Lib.hid ((tv.kept (q0.mono hB) (Nat.le_refl _)).mono (Nat.le_trans hB q0.size))
  clear q0 tv
  go_enter Try.func12, Try.ntmps12
  go_wp2_with fail
  refine (lawBegun_any _).mono ?_
  rintro e w1 ⟨rfl, b1⟩
  have BB := Lib.hid (BB.out.trans (b1.mono BB.out.size))
  have T0 := Lib.hid ((T0.out.kept b1 (Nat.le_refl _)).mono b1.size)
  have H0 := Lib.hid ((b1.block _ (lt_of_block H0.out)).trans H0.out)
  clear b1
  go_wp2_with (refine wpList_load_E (w := w1) rfl rfl rfl H0.out rfl ?_)
  refine (sound_any nd ks w1 w1.heap.size ka kl kc (Nat.le_refl _) T0.out).mono ?_
  rintro e w2 ⟨rfl, b2⟩
  have BB := Lib.hid (BB.out.trans (b2.mono BB.out.size))
  have T0 := Lib.hid ((T0.out.kept b2 (Nat.le_refl _)).mono b2.size)
  have H0 := Lib.hid ((b2.block _ (lt_of_block H0.out)).trans H0.out)
  clear b2
  generalize w.heap.size = N0 at H0 ⊢
  rw [so]
  clear so
  by_cases k1 : n < 1
  · go_wp2
    go_ret
    exact ⟨rfl, BB.out⟩
  · by_cases k2 : 70000 < n
    · go_wp2
      go_ret
      exact ⟨rfl, BB.out⟩
    · by_cases k3 : at_ < 0
      · go_wp2
        go_ret
        exact ⟨rfl, BB.out⟩
      · by_cases k4 : 70000 < at_
        · go_wp2
          go_ret
          exact ⟨rfl, BB.out⟩
        · exact absurd FAR.out (by omega)

set_option maxRecDepth 100000 in
set_option maxHeartbeats 4000000 in
theorem back_bad_rows (nd : Hd) (ks : Trees) (at_ n : Int) (w : World) (B : Nat) (ka : Option Addr) (kl kc : Nat) (hB : B ≤ w.heap.size) (tv : TreeV w B nd ks ka kl) (so : (smallB nd ks && decide (mayE nd ks = 0)) = true) (n1 : 1 ≤ n) (n2 : n ≤ 70000) (a1 : 0 ≤ at_) (a2 : at_ ≤ 70000) (off : 65536 ≤ at_) : Calls Try.prog 12 #[.agg #[.int .i64 nd.kind, .int .i64 nd.op, .int .i64 nd.num, .string ⟨nd.text.toArray⟩, .int .i64 nd.ref.row, .int .i64 nd.ref.col, .bool nd.ref.pr, .bool nd.ref.pc, .int .i64 nd.to.row, .int .i64 nd.to.col, .bool nd.to.pr, .bool nd.to.pc, .int .i64 nd.fn, .slice ka kl kc], .int .i64 at_, .int .i64 n, .bool false] w (TruePost w) := by
  have MT := Lib.hid (show mayE nd ks = 0 by simp only [Bool.and_eq_true, decide_eq_true_eq] at so; exact so.2)
  have RG := Lib.hid off
  have q0 := ext_alloc (Below.refl w.heap.size w) (.cells #[.int .i64 nd.kind, .int .i64 nd.op, .int .i64 nd.num, .string ⟨nd.text.toArray⟩, .int .i64 nd.ref.row, .int .i64 nd.ref.col, .bool nd.ref.pr, .bool nd.ref.pc, .int .i64 nd.to.row, .int .i64 nd.to.col, .bool nd.to.pr, .bool nd.to.pc, .int .i64 nd.fn, .slice ka kl kc] 29)
  have BB := Lib.hid q0
  have H0 := Lib.hid (heap_alloc_new w (.cells #[.int .i64 nd.kind, .int .i64 nd.op, .int .i64 nd.num, .string ⟨nd.text.toArray⟩, .int .i64 nd.ref.row, .int .i64 nd.ref.col, .bool nd.ref.pr, .bool nd.ref.pc, .int .i64 nd.to.row, .int .i64 nd.to.col, .bool nd.to.pr, .bool nd.to.pc, .int .i64 nd.fn, .slice ka kl kc] 29))
  have T0 := Lib.hid ((tv.kept (q0.mono hB) (Nat.le_refl _)).mono (Nat.le_trans hB q0.size))
  clear q0 tv
  go_enter Try.func12, Try.ntmps12
  go_wp2_with fail
  refine (lawBegun_any _).mono ?_
  rintro e w1 ⟨rfl, b1⟩
  have BB := Lib.hid (BB.out.trans (b1.mono BB.out.size))
  have T0 := Lib.hid ((T0.out.kept b1 (Nat.le_refl _)).mono b1.size)
  have H0 := Lib.hid ((b1.block _ (lt_of_block H0.out)).trans H0.out)
  clear b1
  go_wp2_with (refine wpList_load_E (w := w1) rfl rfl rfl H0.out rfl ?_)
  refine (sound_any nd ks w1 w1.heap.size ka kl kc (Nat.le_refl _) T0.out).mono ?_
  rintro e w2 ⟨rfl, b2⟩
  have BB := Lib.hid (BB.out.trans (b2.mono BB.out.size))
  have T0 := Lib.hid ((T0.out.kept b2 (Nat.le_refl _)).mono b2.size)
  have H0 := Lib.hid ((b2.block _ (lt_of_block H0.out)).trans H0.out)
  clear b2
  generalize w.heap.size = N0 at H0 ⊢
  rw [so]
  clear so
  go_wp2_with (first
  | (refine wpList_load_E (w := w2) rfl rfl rfl H0.out rfl ?_)
  | (refine wpList_load_E (w := wo) rfl rfl rfl HW.out rfl ?_)
  | (refine wpList_load_O (w := wo) rfl rfl rfl HO.out rfl ?_)
  | (refine wpList_store_blk (vs := [.int .i64 2, .int .i64 nd.kind, .int .i64 nd.op, .int .i64 nd.num, .string ⟨nd.text.toArray⟩, .int .i64 nd.ref.row, .int .i64 nd.ref.col, .bool nd.ref.pr, .bool nd.ref.pc, .int .i64 nd.to.row, .int .i64 nd.to.col, .bool nd.to.pr, .bool nd.to.pc, .int .i64 nd.fn, .slice ka kl kc, .int .i64 at_, .int .i64 n]) infoOp12 rfl rfl rfl rfl (heap_alloc_new w2 (.cells #[.int .i64 0, .int .i64 0, .int .i64 0, .int .i64 0, .string ⟨#[]⟩, .int .i64 0, .int .i64 0, .bool false, .bool false, .int .i64 0, .int .i64 0, .bool false, .bool false, .int .i64 0, .slice none 0 0, .int .i64 0, .int .i64 0] 60)) (by simp) rfl (by simp [Value.oneCell']) ?_
     intro wo hwo
     have ho : wo.heap[w2.heap.size]? = some (.cells #[.int .i64 2, .int .i64 nd.kind, .int .i64 nd.op, .int .i64 nd.num, .string ⟨nd.text.toArray⟩, .int .i64 nd.ref.row, .int .i64 nd.ref.col, .bool nd.ref.pr, .bool nd.ref.pc, .int .i64 nd.to.row, .int .i64 nd.to.col, .bool nd.to.pr, .bool nd.to.pc, .int .i64 nd.fn, .slice ka kl kc, .int .i64 at_, .int .i64 n] 60 (0, 0)) := by rw [hwo]; exact setCells_all (vs := [.int .i64 2, .int .i64 nd.kind, .int .i64 nd.op, .int .i64 nd.num, .string ⟨nd.text.toArray⟩, .int .i64 nd.ref.row, .int .i64 nd.ref.col, .bool nd.ref.pr, .bool nd.ref.pc, .int .i64 nd.to.row, .int .i64 nd.to.col, .bool nd.to.pr, .bool nd.to.pc, .int .i64 nd.fn, .slice ka kl kc, .int .i64 at_, .int .i64 n]) (heap_alloc_new w2 (.cells #[.int .i64 0, .int .i64 0, .int .i64 0, .int .i64 0, .string ⟨#[]⟩, .int .i64 0, .int .i64 0, .bool false, .bool false, .int .i64 0, .int .i64 0, .bool false, .bool false, .int .i64 0, .slice none 0 0, .int .i64 0, .int .i64 0] 60)) rfl
     have hbo : Below w2.heap.size w2 wo := by rw [hwo]; exact setCells_below (Nat.le_refl _) _ _ (ext_alloc (Below.refl _ w2) _)
     have h0 := (hbo.block _ (lt_of_block H0.out)).trans H0.out
     have HO := Lib.hid ho
     have HW := Lib.hid h0
     have BO := Lib.hid hbo
     clear hwo ho h0 hbo))
  obtain ⟨wc, rfl⟩ : ∃ x, x = wo := ⟨_, rfl⟩
  have TC := Lib.hid ((T0.out.kept BO.out (Nat.le_refl _)).mono BO.out.size)
  have BB := Lib.hid (BB.out.trans (BO.out.mono BB.out.size))
  refine (callb_rows nd ks at_ n MT.out (by unfold I64; omega) (by unfold I64; omega) RG.out wc wc.heap.size wc.heap.size ka ka kl kc kl kc (Nat.le_refl _) (Nat.le_refl _) TC.out TC.out).mono ?_
  rintro e w3 ⟨g, gk, xa, qa, xl, xc, ql, qc, F, rfl, b3, fr, tx⟩
  have a8 : A8 wc w3.heap.size (w3.heap.size + 1) #[.int .i64 0, .int .i64 0, .int .i64 0, .string ⟨#[]⟩, .int .i64 0, .int .i64 0, .bool false, .bool false, .int .i64 0, .int .i64 0, .bool false, .bool false, .int .i64 0, .slice none 0 0] #[.int .i64 0, .int .i64 0, .int .i64 0, .string ⟨#[]⟩, .int .i64 0, .int .i64 0, .bool false, .bool false, .int .i64 0, .int .i64 0, .bool false, .bool false, .int .i64 0, .slice none 0 0] g gk xa xl xc qa ql ((w3.alloc (.cells #[.int .i64 0, .int .i64 0, .int .i64 0, .string ⟨#[]⟩, .int .i64 0, .int .i64 0, .bool false, .bool false, .int .i64 0, .int .i64 0, .bool false, .bool false, .int .i64 0, .slice none 0 0] 29)).alloc (.cells #[.int .i64 0, .int .i64 0, .int .i64 0, .string ⟨#[]⟩, .int .i64 0, .int .i64 0, .bool false, .bool false, .int .i64 0, .int .i64 0, .bool false, .bool false, .int .i64 0, .slice none 0 0] 29)) := A8.of (w3 := wc) (W1 := wc) fr tx (Nat.le_refl _) (ext_alloc (ext_alloc b3 _) _) b3.size (fun b hb => (Below.heap_alloc _ _ _ (by simp; omega)).trans (Below.heap_alloc _ _ _ hb)) (by simp; omega) ⟨b3.size, .inr (Nat.le_refl _)⟩ ⟨by have := b3.size; omega, .inr (by omega)⟩ (by omega) (heap_alloc2_old w3 (.cells #[.int .i64 0, .int .i64 0, .int .i64 0, .string ⟨#[]⟩, .int .i64 0, .int .i64 0, .bool false, .bool false, .int .i64 0, .int .i64 0, .bool false, .bool false, .int .i64 0, .slice none 0 0] 29) (.cells #[.int .i64 0, .int .i64 0, .int .i64 0, .string ⟨#[]⟩, .int .i64 0, .int .i64 0, .bool false, .bool false, .int .i64 0, .int .i64 0, .bool false, .bool false, .int .i64 0, .slice none 0 0] 29)) (heap_alloc2_new w3 (.cells #[.int .i64 0, .int .i64 0, .int .i64 0, .string ⟨#[]⟩, .int .i64 0, .int .i64 0, .bool false, .bool false, .int .i64 0, .int .i64 0, .bool false, .bool false, .int .i64 0, .slice none 0 0] 29) (.cells #[.int .i64 0, .int .i64 0, .int .i64 0, .string ⟨#[]⟩, .int .i64 0, .int .i64 0, .bool false, .bool false, .int .i64 0, .int .i64 0, .bool false, .bool false, .int .i64 0, .slice none 0 0] 29))
  have A8_ := Lib.hid a8
  clear b3 fr tx a8
  have r6 : 65535 < at_ := by have := RG.out; omega
  go_wp2_with (first
  | (refine wpList_store_blk (vs := [.int .i64 g.kind, .int .i64 g.op, .int .i64 g.num, .string ⟨g.text.toArray⟩, .int .i64 g.ref.row, .int .i64 g.ref.col, .bool g.ref.pr, .bool g.ref.pc, .int .i64 g.to.row, .int .i64 g.to.col, .bool g.to.pr, .bool g.to.pc, .int .i64 g.fn, .slice xa xl xc]) infoExprS rfl rfl rfl rfl A8_.out.b5 (by simp) rfl (by simp [Value.oneCell']) ?_
     intro wx hwx
     have A9_ := Lib.hid (show A8 _ _ _ _ _ _ _ _ _ _ _ _ wx by rw [hwx]; exact A8_.out.set5 (vs := [.int .i64 g.kind, .int .i64 g.op, .int .i64 g.num, .string ⟨g.text.toArray⟩, .int .i64 g.ref.row, .int .i64 g.ref.col, .bool g.ref.pr, .bool g.ref.pc, .int .i64 g.to.row, .int .i64 g.to.col, .bool g.to.pr, .bool g.to.pc, .int .i64 g.fn, .slice xa xl xc]) rfl)
     clear hwx)
  | (refine wpList_store_blk (vs := [.int .i64 g.kind, .int .i64 g.op, .int .i64 g.num, .string ⟨g.text.toArray⟩, .int .i64 g.ref.row, .int .i64 g.ref.col, .bool g.ref.pr, .bool g.ref.pc, .int .i64 g.to.row, .int .i64 g.to.col, .bool g.to.pr, .bool g.to.pc, .int .i64 g.fn, .slice qa ql qc]) infoExprS rfl rfl rfl rfl A9_.out.b7 (by simp) rfl (by simp [Value.oneCell']) ?_
     intro w4 hw4
     have A10_ := Lib.hid (show A8 _ _ _ _ _ _ _ _ _ _ _ _ w4 by rw [hw4]; exact A9_.out.set7 (vs := [.int .i64 g.kind, .int .i64 g.op, .int .i64 g.num, .string ⟨g.text.toArray⟩, .int .i64 g.ref.row, .int .i64 g.ref.col, .bool g.ref.pr, .bool g.ref.pc, .int .i64 g.to.row, .int .i64 g.to.col, .bool g.to.pr, .bool g.to.pc, .int .i64 g.fn, .slice qa ql qc]) rfl)
     clear hw4))
  go_ret
  exact ⟨rfl, BB.out.trans (A10_.out.bel.mono BB.out.size)⟩

set_option maxRecDepth 100000 in
set_option maxHeartbeats 4000000 in
theorem back_bad_cols (nd : Hd) (ks : Trees) (at_ n : Int) (w : World) (B : Nat) (ka : Option Addr) (kl kc : Nat) (hB : B ≤ w.heap.size) (tv : TreeV w B nd ks ka kl) (so : (smallB nd ks && decide (mayE nd ks = 0)) = true) (n1 : 1 ≤ n) (n2 : n ≤ 70000) (a1 : 0 ≤ at_) (a2 : at_ ≤ 70000) (off : 702 ≤ at_) : Calls Try.prog 12 #[.agg #[.int .i64 nd.kind, .int .i64 nd.op, .int .i64 nd.num, .string ⟨nd.text.toArray⟩, .int .i64 nd.ref.row, .int .i64 nd.ref.col, .bool nd.ref.pr, .bool nd.ref.pc, .int .i64 nd.to.row, .int .i64 nd.to.col, .bool nd.to.pr, .bool nd.to.pc, .int .i64 nd.fn, .slice ka kl kc], .int .i64 at_, .int .i64 n, .bool true] w (TruePost w) := by
  have MT := Lib.hid (show mayE nd ks = 0 by simp only [Bool.and_eq_true, decide_eq_true_eq] at so; exact so.2)
  have RG := Lib.hid off
  have q0 := ext_alloc (Below.refl w.heap.size w) (.cells #[.int .i64 nd.kind, .int .i64 nd.op, .int .i64 nd.num, .string ⟨nd.text.toArray⟩, .int .i64 nd.ref.row, .int .i64 nd.ref.col, .bool nd.ref.pr, .bool nd.ref.pc, .int .i64 nd.to.row, .int .i64 nd.to.col, .bool nd.to.pr, .bool nd.to.pc, .int .i64 nd.fn, .slice ka kl kc] 29)
  have BB := Lib.hid q0
  have H0 := Lib.hid (heap_alloc_new w (.cells #[.int .i64 nd.kind, .int .i64 nd.op, .int .i64 nd.num, .string ⟨nd.text.toArray⟩, .int .i64 nd.ref.row, .int .i64 nd.ref.col, .bool nd.ref.pr, .bool nd.ref.pc, .int .i64 nd.to.row, .int .i64 nd.to.col, .bool nd.to.pr, .bool nd.to.pc, .int .i64 nd.fn, .slice ka kl kc] 29))
  have T0 := Lib.hid ((tv.kept (q0.mono hB) (Nat.le_refl _)).mono (Nat.le_trans hB q0.size))
  clear q0 tv
  go_enter Try.func12, Try.ntmps12
  go_wp2_with fail
  refine (lawBegun_any _).mono ?_
  rintro e w1 ⟨rfl, b1⟩
  have BB := Lib.hid (BB.out.trans (b1.mono BB.out.size))
  have T0 := Lib.hid ((T0.out.kept b1 (Nat.le_refl _)).mono b1.size)
  have H0 := Lib.hid ((b1.block _ (lt_of_block H0.out)).trans H0.out)
  clear b1
  go_wp2_with (refine wpList_load_E (w := w1) rfl rfl rfl H0.out rfl ?_)
  refine (sound_any nd ks w1 w1.heap.size ka kl kc (Nat.le_refl _) T0.out).mono ?_
  rintro e w2 ⟨rfl, b2⟩
  have BB := Lib.hid (BB.out.trans (b2.mono BB.out.size))
  have T0 := Lib.hid ((T0.out.kept b2 (Nat.le_refl _)).mono b2.size)
  have H0 := Lib.hid ((b2.block _ (lt_of_block H0.out)).trans H0.out)
  clear b2
  generalize w.heap.size = N0 at H0 ⊢
  rw [so]
  clear so
  go_wp2_with (first
  | (refine wpList_load_E (w := w2) rfl rfl rfl H0.out rfl ?_)
  | (refine wpList_load_E (w := (wo.setCell ⟨w2.heap.size, 0, none⟩ (.int .i64 3))) rfl rfl rfl HW.out rfl ?_)
  | (refine wpList_load_O (w := (wo.setCell ⟨w2.heap.size, 0, none⟩ (.int .i64 3))) rfl rfl rfl HO.out rfl ?_)
  | (refine wpList_store_blk (vs := [.int .i64 2, .int .i64 nd.kind, .int .i64 nd.op, .int .i64 nd.num, .string ⟨nd.text.toArray⟩, .int .i64 nd.ref.row, .int .i64 nd.ref.col, .bool nd.ref.pr, .bool nd.ref.pc, .int .i64 nd.to.row, .int .i64 nd.to.col, .bool nd.to.pr, .bool nd.to.pc, .int .i64 nd.fn, .slice ka kl kc, .int .i64 at_, .int .i64 n]) infoOp12 rfl rfl rfl rfl (heap_alloc_new w2 (.cells #[.int .i64 0, .int .i64 0, .int .i64 0, .int .i64 0, .string ⟨#[]⟩, .int .i64 0, .int .i64 0, .bool false, .bool false, .int .i64 0, .int .i64 0, .bool false, .bool false, .int .i64 0, .slice none 0 0, .int .i64 0, .int .i64 0] 60)) (by simp) rfl (by simp [Value.oneCell']) ?_
     intro wo hwo
     have ho : wo.heap[w2.heap.size]? = some (.cells #[.int .i64 2, .int .i64 nd.kind, .int .i64 nd.op, .int .i64 nd.num, .string ⟨nd.text.toArray⟩, .int .i64 nd.ref.row, .int .i64 nd.ref.col, .bool nd.ref.pr, .bool nd.ref.pc, .int .i64 nd.to.row, .int .i64 nd.to.col, .bool nd.to.pr, .bool nd.to.pc, .int .i64 nd.fn, .slice ka kl kc, .int .i64 at_, .int .i64 n] 60 (0, 0)) := by rw [hwo]; exact setCells_all (vs := [.int .i64 2, .int .i64 nd.kind, .int .i64 nd.op, .int .i64 nd.num, .string ⟨nd.text.toArray⟩, .int .i64 nd.ref.row, .int .i64 nd.ref.col, .bool nd.ref.pr, .bool nd.ref.pc, .int .i64 nd.to.row, .int .i64 nd.to.col, .bool nd.to.pr, .bool nd.to.pc, .int .i64 nd.fn, .slice ka kl kc, .int .i64 at_, .int .i64 n]) (heap_alloc_new w2 (.cells #[.int .i64 0, .int .i64 0, .int .i64 0, .int .i64 0, .string ⟨#[]⟩, .int .i64 0, .int .i64 0, .bool false, .bool false, .int .i64 0, .int .i64 0, .bool false, .bool false, .int .i64 0, .slice none 0 0, .int .i64 0, .int .i64 0] 60)) rfl
     have hbo : Below w2.heap.size w2 wo := by rw [hwo]; exact setCells_below (Nat.le_refl _) _ _ (ext_alloc (Below.refl _ w2) _)
     have h0 := (hbo.block _ (lt_of_block H0.out)).trans H0.out
     have co := cells_of_block ho
     have fo := frees_of_block ho
     have h3 : (wo.setCell ⟨w2.heap.size, 0, none⟩ (.int .i64 3)).heap[w2.heap.size]? = some (.cells #[.int .i64 3, .int .i64 nd.kind, .int .i64 nd.op, .int .i64 nd.num, .string ⟨nd.text.toArray⟩, .int .i64 nd.ref.row, .int .i64 nd.ref.col, .bool nd.ref.pr, .bool nd.ref.pc, .int .i64 nd.to.row, .int .i64 nd.to.col, .bool nd.to.pr, .bool nd.to.pc, .int .i64 nd.fn, .slice ka kl kc, .int .i64 at_, .int .i64 n] 60 (0, 0)) := block_set ho (i := 0) (.int .i64 3)
     have h03 : (wo.setCell ⟨w2.heap.size, 0, none⟩ (.int .i64 3)).heap[N0]? = some (.cells #[.int .i64 nd.kind, .int .i64 nd.op, .int .i64 nd.num, .string ⟨nd.text.toArray⟩, .int .i64 nd.ref.row, .int .i64 nd.ref.col, .bool nd.ref.pr, .bool nd.ref.pc, .int .i64 nd.to.row, .int .i64 nd.to.col, .bool nd.to.pr, .bool nd.to.pc, .int .i64 nd.fn, .slice ka kl kc] 29) := (Below.heap_setCell _ _ _ _ (by have := lt_of_block H0.out; simp; omega)).trans h0
     have hbo := hbo.setCell (p := ⟨w2.heap.size, 0, none⟩) (Nat.le_refl _) (.int .i64 3)
     have ho := h3
     have h0 := h03
     have HO := Lib.hid ho
     have HW := Lib.hid h0
     have BO := Lib.hid hbo
     clear hwo ho h0 hbo h3 h03))
  clear co fo
  generalize (wo.setCell ⟨w2.heap.size, 0, none⟩ (.int .i64 3)) = wc at HO HW BO ⊢
  have TC := Lib.hid ((T0.out.kept BO.out (Nat.le_refl _)).mono BO.out.size)
  have BB := Lib.hid (BB.out.trans (BO.out.mono BB.out.size))
  refine (callb_cols nd ks at_ n MT.out (by unfold I64; omega) (by unfold I64; omega) RG.out wc wc.heap.size wc.heap.size ka ka kl kc kl kc (Nat.le_refl _) (Nat.le_refl _) TC.out TC.out).mono ?_
  rintro e w3 ⟨g, gk, xa, qa, xl, xc, ql, qc, F, rfl, b3, fr, tx⟩
  have a8 : A8 wc w3.heap.size (w3.heap.size + 1) #[.int .i64 0, .int .i64 0, .int .i64 0, .string ⟨#[]⟩, .int .i64 0, .int .i64 0, .bool false, .bool false, .int .i64 0, .int .i64 0, .bool false, .bool false, .int .i64 0, .slice none 0 0] #[.int .i64 0, .int .i64 0, .int .i64 0, .string ⟨#[]⟩, .int .i64 0, .int .i64 0, .bool false, .bool false, .int .i64 0, .int .i64 0, .bool false, .bool false, .int .i64 0, .slice none 0 0] g gk xa xl xc qa ql ((w3.alloc (.cells #[.int .i64 0, .int .i64 0, .int .i64 0, .string ⟨#[]⟩, .int .i64 0, .int .i64 0, .bool false, .bool false, .int .i64 0, .int .i64 0, .bool false, .bool false, .int .i64 0, .slice none 0 0] 29)).alloc (.cells #[.int .i64 0, .int .i64 0, .int .i64 0, .string ⟨#[]⟩, .int .i64 0, .int .i64 0, .bool false, .bool false, .int .i64 0, .int .i64 0, .bool false, .bool false, .int .i64 0, .slice none 0 0] 29)) := A8.of (w3 := wc) (W1 := wc) fr tx (Nat.le_refl _) (ext_alloc (ext_alloc b3 _) _) b3.size (fun b hb => (Below.heap_alloc _ _ _ (by simp; omega)).trans (Below.heap_alloc _ _ _ hb)) (by simp; omega) ⟨b3.size, .inr (Nat.le_refl _)⟩ ⟨by have := b3.size; omega, .inr (by omega)⟩ (by omega) (heap_alloc2_old w3 (.cells #[.int .i64 0, .int .i64 0, .int .i64 0, .string ⟨#[]⟩, .int .i64 0, .int .i64 0, .bool false, .bool false, .int .i64 0, .int .i64 0, .bool false, .bool false, .int .i64 0, .slice none 0 0] 29) (.cells #[.int .i64 0, .int .i64 0, .int .i64 0, .string ⟨#[]⟩, .int .i64 0, .int .i64 0, .bool false, .bool false, .int .i64 0, .int .i64 0, .bool false, .bool false, .int .i64 0, .slice none 0 0] 29)) (heap_alloc2_new w3 (.cells #[.int .i64 0, .int .i64 0, .int .i64 0, .string ⟨#[]⟩, .int .i64 0, .int .i64 0, .bool false, .bool false, .int .i64 0, .int .i64 0, .bool false, .bool false, .int .i64 0, .slice none 0 0] 29) (.cells #[.int .i64 0, .int .i64 0, .int .i64 0, .string ⟨#[]⟩, .int .i64 0, .int .i64 0, .bool false, .bool false, .int .i64 0, .int .i64 0, .bool false, .bool false, .int .i64 0, .slice none 0 0] 29))
  have A8_ := Lib.hid a8
  clear b3 fr tx a8
  have r7 : 701 < at_ := by have := RG.out; omega
  by_cases r : 65535 < at_
  · go_wp2_with (first
    | (refine wpList_store_blk (vs := [.int .i64 g.kind, .int .i64 g.op, .int .i64 g.num, .string ⟨g.text.toArray⟩, .int .i64 g.ref.row, .int .i64 g.ref.col, .bool g.ref.pr, .bool g.ref.pc, .int .i64 g.to.row, .int .i64 g.to.col, .bool g.to.pr, .bool g.to.pc, .int .i64 g.fn, .slice xa xl xc]) infoExprS rfl rfl rfl rfl A8_.out.b5 (by simp) rfl (by simp [Value.oneCell']) ?_
       intro wx hwx
       have A9_ := Lib.hid (show A8 _ _ _ _ _ _ _ _ _ _ _ _ wx by rw [hwx]; exact A8_.out.set5 (vs := [.int .i64 g.kind, .int .i64 g.op, .int .i64 g.num, .string ⟨g.text.toArray⟩, .int .i64 g.ref.row, .int .i64 g.ref.col, .bool g.ref.pr, .bool g.ref.pc, .int .i64 g.to.row, .int .i64 g.to.col, .bool g.to.pr, .bool g.to.pc, .int .i64 g.fn, .slice xa xl xc]) rfl)
       clear hwx)
    | (refine wpList_store_blk (vs := [.int .i64 g.kind, .int .i64 g.op, .int .i64 g.num, .string ⟨g.text.toArray⟩, .int .i64 g.ref.row, .int .i64 g.ref.col, .bool g.ref.pr, .bool g.ref.pc, .int .i64 g.to.row, .int .i64 g.to.col, .bool g.to.pr, .bool g.to.pc, .int .i64 g.fn, .slice qa ql qc]) infoExprS rfl rfl rfl rfl A9_.out.b7 (by simp) rfl (by simp [Value.oneCell']) ?_
       intro w4 hw4
       have A10_ := Lib.hid (show A8 _ _ _ _ _ _ _ _ _ _ _ _ w4 by rw [hw4]; exact A9_.out.set7 (vs := [.int .i64 g.kind, .int .i64 g.op, .int .i64 g.num, .string ⟨g.text.toArray⟩, .int .i64 g.ref.row, .int .i64 g.ref.col, .bool g.ref.pr, .bool g.ref.pc, .int .i64 g.to.row, .int .i64 g.to.col, .bool g.to.pr, .bool g.to.pc, .int .i64 g.fn, .slice qa ql qc]) rfl)
       clear hw4))
    go_ret
    exact ⟨rfl, BB.out.trans (A10_.out.bel.mono BB.out.size)⟩
  · go_wp2_with (first
    | (refine wpList_store_blk (vs := [.int .i64 g.kind, .int .i64 g.op, .int .i64 g.num, .string ⟨g.text.toArray⟩, .int .i64 g.ref.row, .int .i64 g.ref.col, .bool g.ref.pr, .bool g.ref.pc, .int .i64 g.to.row, .int .i64 g.to.col, .bool g.to.pr, .bool g.to.pc, .int .i64 g.fn, .slice xa xl xc]) infoExprS rfl rfl rfl rfl A8_.out.b5 (by simp) rfl (by simp [Value.oneCell']) ?_
       intro wx hwx
       have A9_ := Lib.hid (show A8 _ _ _ _ _ _ _ _ _ _ _ _ wx by rw [hwx]; exact A8_.out.set5 (vs := [.int .i64 g.kind, .int .i64 g.op, .int .i64 g.num, .string ⟨g.text.toArray⟩, .int .i64 g.ref.row, .int .i64 g.ref.col, .bool g.ref.pr, .bool g.ref.pc, .int .i64 g.to.row, .int .i64 g.to.col, .bool g.to.pr, .bool g.to.pc, .int .i64 g.fn, .slice xa xl xc]) rfl)
       clear hwx)
    | (refine wpList_store_blk (vs := [.int .i64 g.kind, .int .i64 g.op, .int .i64 g.num, .string ⟨g.text.toArray⟩, .int .i64 g.ref.row, .int .i64 g.ref.col, .bool g.ref.pr, .bool g.ref.pc, .int .i64 g.to.row, .int .i64 g.to.col, .bool g.to.pr, .bool g.to.pc, .int .i64 g.fn, .slice qa ql qc]) infoExprS rfl rfl rfl rfl A9_.out.b7 (by simp) rfl (by simp [Value.oneCell']) ?_
       intro w4 hw4
       have A10_ := Lib.hid (show A8 _ _ _ _ _ _ _ _ _ _ _ _ w4 by rw [hw4]; exact A9_.out.set7 (vs := [.int .i64 g.kind, .int .i64 g.op, .int .i64 g.num, .string ⟨g.text.toArray⟩, .int .i64 g.ref.row, .int .i64 g.ref.col, .bool g.ref.pr, .bool g.ref.pc, .int .i64 g.to.row, .int .i64 g.to.col, .bool g.to.pr, .bool g.to.pc, .int .i64 g.fn, .slice qa ql qc]) rfl)
       clear hw4))
    go_ret
    exact ⟨rfl, BB.out.trans (A10_.out.bel.mono BB.out.size)⟩
end Go.Proofs.Ytkjfeakbhfkldaa
