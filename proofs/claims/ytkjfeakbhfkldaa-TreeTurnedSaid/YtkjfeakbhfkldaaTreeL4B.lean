/- TreeTurned where the remainder is 1: what the law answers for a tree that may be. -/
import Derived.Test.YtkjfeakbhfkldaaTreeL4
namespace Go.Proofs.Ytkjfeakbhfkldaa
open Go.ChangeShapes Go.WideShapes Go.ChangeAt Go.RowKit

set_option maxRecDepth 100000 in
set_option maxHeartbeats 4000000 in
theorem turned_1_1 (w : World) (nd : Hd) (ks : Trees) (ka : Option Addr) (kl kc : Nat) (wh n : Int) (tv : TreeV w w.heap.size nd ks ka kl) (hn : I64 n) (hm : mayE nd ks = 0) (hn0 : n ≠ 0) (hv : wh.tmod 6 = 1) (hk : nd.kind = 1) :
    Calls Try.prog 7 #[.agg #[.int .i64 nd.kind, .int .i64 nd.op, .int .i64 nd.num, .string ⟨nd.text.toArray⟩, .int .i64 nd.ref.row, .int .i64 nd.ref.col, .bool nd.ref.pr, .bool nd.ref.pc, .int .i64 nd.to.row, .int .i64 nd.to.col, .bool nd.to.pr, .bool nd.to.pc, .int .i64 nd.fn, .slice ka kl kc], .int .u8 wh, .int .i64 n] w (TruePost w) := by
  have b0 := ext_alloc (Below.refl _ w) (.cells #[.int .i64 nd.kind, .int .i64 nd.op, .int .i64 nd.num, .string ⟨nd.text.toArray⟩, .int .i64 nd.ref.row, .int .i64 nd.ref.col, .bool nd.ref.pr, .bool nd.ref.pc, .int .i64 nd.to.row, .int .i64 nd.to.col, .bool nd.to.pr, .bool nd.to.pc, .int .i64 nd.fn, .slice ka kl kc] 29)
  have p0 : PlR w w.heap.size (.cells #[.int .i64 nd.kind, .int .i64 nd.op, .int .i64 nd.num, .string ⟨nd.text.toArray⟩, .int .i64 nd.ref.row, .int .i64 nd.ref.col, .bool nd.ref.pr, .bool nd.ref.pc, .int .i64 nd.to.row, .int .i64 nd.to.col, .bool nd.to.pr, .bool nd.to.pc, .int .i64 nd.fn, .slice ka kl kc] 29) nd nd ks ks ka ka kl kl (w.alloc (.cells #[.int .i64 nd.kind, .int .i64 nd.op, .int .i64 nd.num, .string ⟨nd.text.toArray⟩, .int .i64 nd.ref.row, .int .i64 nd.ref.col, .bool nd.ref.pr, .bool nd.ref.pc, .int .i64 nd.to.row, .int .i64 nd.to.col, .bool nd.to.pr, .bool nd.to.pc, .int .i64 nd.fn, .slice ka kl kc] 29)) :=
    ⟨Nat.le_refl _, heap_alloc_new _ _, b0, tv.kept b0 (Nat.le_refl _), tv.kept b0 (Nat.le_refl _)⟩
  have P0 := Lib.hid p0
  have HM := Lib.hid hm; have HN0 := Lib.hid hn0; have FF := Lib.hid (mayE_fine hm)
  obtain ⟨n1, n2⟩ := hn
  have n0 : (n == 0) = false := by simp [hn0]
  clear hm hn0
  obtain ⟨b1, g1, e1⟩ : ∃ b : Bool, (nd.kind != 1) = b ∧ b = false := ⟨_, rfl, by simp [hk]⟩
  obtain ⟨b4, g4, e4⟩ : ∃ b : Bool, (nd.kind != 4) = b ∧ b = true := ⟨_, rfl, by simp [hk]⟩
  obtain ⟨b3, g3, e3⟩ : ∃ b : Bool, (nd.kind != 3) = b ∧ b = true := ⟨_, rfl, by simp [hk]⟩
  have KK := Lib.hid hk; clear hk
  have OK := Lib.hid tv.ok
  clear b0 p0 tv
  go_enter Try.func7, Try.ntmps7
  go_wp2_with fail
  refine (begun_any _).mono ?_
  rintro e w1 ⟨rfl, b1⟩
  obtain ⟨c1, p1⟩ := P0.out.step b1
  have P1 := Lib.hid p1
  clear b1 p1
  go_wp2_with fail
  have cM : Calls Try.prog 23 #[.agg #[.int .i64 nd.kind, .int .i64 nd.op, .int .i64 nd.num, .string ⟨nd.text.toArray⟩, .int .i64 nd.ref.row, .int .i64 nd.ref.col, .bool nd.ref.pr, .bool nd.ref.pc, .int .i64 nd.to.row, .int .i64 nd.to.col, .bool nd.to.pr, .bool nd.to.pc, .int .i64 nd.fn, .slice ka kl kc]] w1 (fun e w' => e = .returned (.int .i64 0) ∧ Below w1.heap.size w1 w') := (may_any nd ks w1 _ ka kl kc P1.out.le P1.out.t).mono fun e w' q => ⟨by have := q.1; rw [HM.out] at this; exact this, q.2⟩
  refine cM.mono ?_
  rintro e w2 ⟨rfl, b2⟩
  obtain ⟨c2, p2⟩ := P1.out.step b2
  have P2 := Lib.hid p2
  clear b2 p2 cM c1
  have c2' := c2
  go_wp2_with fail
  refine (copy_any nd ks w2 _ ka kl kc P2.out.le P2.out.t).mono ?_
  rintro e w3 ⟨b3, ⟨-, xa, xl, xc, F3, rfl, f3⟩ | ⟨f', -⟩⟩
  case inr => exact absurd FF.out f'
  obtain ⟨c3, p3⟩ := P2.out.step b3
  have hlt3 := p3.lt
  have p4 := (p3.step (ext_alloc (Below.refl _ w3) (.cells #[.int .i64 nd.kind, .int .i64 nd.op, .int .i64 nd.num, .string ⟨nd.text.toArray⟩, .int .i64 nd.ref.row, .int .i64 nd.ref.col, .bool nd.ref.pr, .bool nd.ref.pc, .int .i64 nd.to.row, .int .i64 nd.to.col, .bool nd.to.pr, .bool nd.to.pc, .int .i64 nd.fn, .slice xa xl xc] 29))).2
  have x4 := (f3.readable OK.out).kept (ext_alloc (Below.refl _ w3) (.cells #[.int .i64 nd.kind, .int .i64 nd.op, .int .i64 nd.num, .string ⟨nd.text.toArray⟩, .int .i64 nd.ref.row, .int .i64 nd.ref.col, .bool nd.ref.pr, .bool nd.ref.pc, .int .i64 nd.to.row, .int .i64 nd.to.col, .bool nd.to.pr, .bool nd.to.pc, .int .i64 nd.fn, .slice xa xl xc] 29)) (Nat.le_refl _)
  have P4 := Lib.hid p4; have X4 := Lib.hid x4
  clear b3 p3 p4 x4 f3 c2 c2'
  go_wp2_with fail
  have cA : Calls Try.prog 25 #[.agg #[.int .i64 nd.kind, .int .i64 nd.op, .int .i64 nd.num, .string ⟨nd.text.toArray⟩, .int .i64 nd.ref.row, .int .i64 nd.ref.col, .bool nd.ref.pr, .bool nd.ref.pc, .int .i64 nd.to.row, .int .i64 nd.to.col, .bool nd.to.pr, .bool nd.to.pc, .int .i64 nd.fn, .slice ka kl kc], .agg #[.int .i64 nd.kind, .int .i64 nd.op, .int .i64 nd.num, .string ⟨nd.text.toArray⟩, .int .i64 nd.ref.row, .int .i64 nd.ref.col, .bool nd.ref.pr, .bool nd.ref.pc, .int .i64 nd.to.row, .int .i64 nd.to.col, .bool nd.to.pr, .bool nd.to.pc, .int .i64 nd.fn, .slice xa xl xc]] (w3.alloc (.cells #[.int .i64 nd.kind, .int .i64 nd.op, .int .i64 nd.num, .string ⟨nd.text.toArray⟩, .int .i64 nd.ref.row, .int .i64 nd.ref.col, .bool nd.ref.pr, .bool nd.ref.pc, .int .i64 nd.to.row, .int .i64 nd.to.col, .bool nd.to.pr, .bool nd.to.pc, .int .i64 nd.fn, .slice xa xl xc] 29)) (fun e w' => e = .returned (.bool true) ∧ Below (w3.alloc (.cells #[.int .i64 nd.kind, .int .i64 nd.op, .int .i64 nd.num, .string ⟨nd.text.toArray⟩, .int .i64 nd.ref.row, .int .i64 nd.ref.col, .bool nd.ref.pr, .bool nd.ref.pc, .int .i64 nd.to.row, .int .i64 nd.to.col, .bool nd.to.pr, .bool nd.to.pc, .int .i64 nd.fn, .slice xa xl xc] 29)).heap.size (w3.alloc (.cells #[.int .i64 nd.kind, .int .i64 nd.op, .int .i64 nd.num, .string ⟨nd.text.toArray⟩, .int .i64 nd.ref.row, .int .i64 nd.ref.col, .bool nd.ref.pr, .bool nd.ref.pc, .int .i64 nd.to.row, .int .i64 nd.to.col, .bool nd.to.pr, .bool nd.to.pc, .int .i64 nd.fn, .slice xa xl xc] 29)) w') := (same_all nd nd ks ks _ _ _ ka xa kl kc xl xc P4.out.le (by simp) P4.out.t X4.out).mono fun e w' q => ⟨by have := q.1; rw [show sameV nd nd ks ks = true by simp [sameV, sameB, FF.out]] at this; exact this, q.2⟩
  refine cA.mono ?_
  rintro e w5 ⟨rfl, b5⟩
  obtain ⟨c5, p5⟩ := P4.out.step b5
  obtain ⟨hz5, k5⟩ := kept_block b5
  have X5 := Lib.hid (X4.out.kept (b5.mono (by simp)) (Nat.le_refl _))
  have P5 := Lib.hid p5
  clear b5 p5 cA c3
  go_wp2_with fail
  have cB : Calls Try.prog 25 #[.agg #[.int .i64 nd.kind, .int .i64 nd.op, .int .i64 nd.num, .string ⟨nd.text.toArray⟩, .int .i64 nd.ref.row, .int .i64 nd.ref.col, .bool nd.ref.pr, .bool nd.ref.pc, .int .i64 nd.to.row, .int .i64 nd.to.col, .bool nd.to.pr, .bool nd.to.pc, .int .i64 nd.fn, .slice xa xl xc], .agg #[.int .i64 nd.kind, .int .i64 nd.op, .int .i64 nd.num, .string ⟨nd.text.toArray⟩, .int .i64 nd.ref.row, .int .i64 nd.ref.col, .bool nd.ref.pr, .bool nd.ref.pc, .int .i64 nd.to.row, .int .i64 nd.to.col, .bool nd.to.pr, .bool nd.to.pc, .int .i64 nd.fn, .slice ka kl kc]] w5 (fun e w' => e = .returned (.bool true) ∧ Below w5.heap.size w5 w') := (same_all nd nd ks ks _ _ _ xa ka xl xc kl kc (by omega) P5.out.le X5.out P5.out.t).mono fun e w' q => ⟨by have := q.1; rw [show sameV nd nd ks ks = true by simp [sameV, sameB, FF.out]] at this; exact this, q.2⟩
  refine cB.mono ?_
  rintro e w6 ⟨rfl, b6⟩
  obtain ⟨c6, p6⟩ := P5.out.step b6
  have k6 : ∀ o, w6.cell? ⟨w3.heap.size, o, none⟩ = _ := fun o => (b6.cell (p := ⟨w3.heap.size, o, none⟩) hz5).trans (k5 o)
  have X6 := Lib.hid (X5.out.kept (b6.mono (by omega)) (Nat.le_refl _))
  have hz6 := b6.size
  have P6 := Lib.hid p6
  clear b6 p6 cB c5 k5
  go_wp2_with fail
  have cC : Calls Try.prog 23 #[.agg #[.int .i64 nd.kind, .int .i64 nd.op, .int .i64 nd.num, .string ⟨nd.text.toArray⟩, .int .i64 nd.ref.row, .int .i64 nd.ref.col, .bool nd.ref.pr, .bool nd.ref.pc, .int .i64 nd.to.row, .int .i64 nd.to.col, .bool nd.to.pr, .bool nd.to.pc, .int .i64 nd.fn, .slice xa xl xc]] w6 (fun e w' => e = .returned (.int .i64 0) ∧ Below w6.heap.size w6 w') := (may_any nd ks w6 _ xa xl xc (by omega) X6.out).mono fun e w' q => ⟨by have := q.1; rw [HM.out] at this; exact this, q.2⟩
  refine cC.mono ?_
  rintro e w7 ⟨rfl, b7⟩
  obtain ⟨c7, p7⟩ := P6.out.step b7
  have P7 := Lib.hid p7
  clear b7 p7 cC c6 k6
  go_wp2_with fail
  refine (lawOwn_any nd ks w7 _ ka kl kc P7.out.le P7.out.t (fine_nodes FF.out)).mono ?_
  rintro e w8 ⟨ua, ul, uc, F8, rfl, b8, f8⟩
  obtain ⟨c8, p8⟩ := P7.out.step b8
  have hlt8 := p8.lt
  have P8 := Lib.hid p8; have F8' := Lib.hid f8; have B8 := Lib.hid b8
  clear b8 p8 f8 c7
  have NE := Lib.hid (turned_ne1 (ks := ks) OK.out n1 n2 HN0.out)
  have NOK := Lib.hid (turned_ok1 (n := n) OK.out HM.out)
  go_wp2_with fail
  skip
  have b9 := ext_alloc (Below.refl _ w8) (.cells #[.int .i64 nd.kind, .int .i64 nd.op, .int .i64 (wrap64 (nd.num + n)), .string ⟨nd.text.toArray⟩, .int .i64 nd.ref.row, .int .i64 nd.ref.col, .bool nd.ref.pr, .bool nd.ref.pc, .int .i64 nd.to.row, .int .i64 nd.to.col, .bool nd.to.pr, .bool nd.to.pc, .int .i64 nd.fn, .slice ua ul uc] 29)
  obtain ⟨-, p9⟩ := P8.out.step b9
  have u9 := (F8'.out.readable NOK.out).kept b9 (Nat.le_refl _)
  have P9 := Lib.hid p9; have U9 := Lib.hid u9
  clear b9 p9 u9
  have cM : Calls Try.prog 23 #[.agg #[.int .i64 nd.kind, .int .i64 nd.op, .int .i64 (wrap64 (nd.num + n)), .string ⟨nd.text.toArray⟩, .int .i64 nd.ref.row, .int .i64 nd.ref.col, .bool nd.ref.pr, .bool nd.ref.pc, .int .i64 nd.to.row, .int .i64 nd.to.col, .bool nd.to.pr, .bool nd.to.pc, .int .i64 nd.fn, .slice ua ul uc]] (w8.alloc (.cells #[.int .i64 nd.kind, .int .i64 nd.op, .int .i64 (wrap64 (nd.num + n)), .string ⟨nd.text.toArray⟩, .int .i64 nd.ref.row, .int .i64 nd.ref.col, .bool nd.ref.pr, .bool nd.ref.pc, .int .i64 nd.to.row, .int .i64 nd.to.col, .bool nd.to.pr, .bool nd.to.pc, .int .i64 nd.fn, .slice ua ul uc] 29)) (fun e w' => e = .returned (.int .i64 (mayE ({ nd with num := wrap64 (nd.num + n) } : Hd) ks)) ∧ Below (w8.alloc (.cells #[.int .i64 nd.kind, .int .i64 nd.op, .int .i64 (wrap64 (nd.num + n)), .string ⟨nd.text.toArray⟩, .int .i64 nd.ref.row, .int .i64 nd.ref.col, .bool nd.ref.pr, .bool nd.ref.pc, .int .i64 nd.to.row, .int .i64 nd.to.col, .bool nd.to.pr, .bool nd.to.pc, .int .i64 nd.fn, .slice ua ul uc] 29)).heap.size (w8.alloc (.cells #[.int .i64 nd.kind, .int .i64 nd.op, .int .i64 (wrap64 (nd.num + n)), .string ⟨nd.text.toArray⟩, .int .i64 nd.ref.row, .int .i64 nd.ref.col, .bool nd.ref.pr, .bool nd.ref.pc, .int .i64 nd.to.row, .int .i64 nd.to.col, .bool nd.to.pr, .bool nd.to.pc, .int .i64 nd.fn, .slice ua ul uc] 29)) w') := may_any ({ nd with num := wrap64 (nd.num + n) } : Hd) ks _ _ ua ul uc (by simp) U9.out
  generalize hK : mayE ({ nd with num := wrap64 (nd.num + n) } : Hd) ks = mm at *
  clear hK
  refine cM.mono ?_
  rintro e w10 ⟨rfl, b10⟩
  obtain ⟨c10, p10⟩ := P9.out.step b10
  obtain ⟨hz10, k10⟩ := kept_block b10
  have P10 := Lib.hid p10
  have U10 := Lib.hid (U9.out.kept (b10.mono (by simp)) (Nat.le_refl _))
  clear b10 p10 cM c8
  go_wp2_with fail
  have cA : Calls Try.prog 25 #[.agg #[.int .i64 nd.kind, .int .i64 nd.op, .int .i64 nd.num, .string ⟨nd.text.toArray⟩, .int .i64 nd.ref.row, .int .i64 nd.ref.col, .bool nd.ref.pr, .bool nd.ref.pc, .int .i64 nd.to.row, .int .i64 nd.to.col, .bool nd.to.pr, .bool nd.to.pc, .int .i64 nd.fn, .slice ka kl kc], .agg #[.int .i64 nd.kind, .int .i64 nd.op, .int .i64 (wrap64 (nd.num + n)), .string ⟨nd.text.toArray⟩, .int .i64 nd.ref.row, .int .i64 nd.ref.col, .bool nd.ref.pr, .bool nd.ref.pc, .int .i64 nd.to.row, .int .i64 nd.to.col, .bool nd.to.pr, .bool nd.to.pc, .int .i64 nd.fn, .slice ua ul uc]] w10 (fun e w' => e = .returned (.bool false) ∧ Below w10.heap.size w10 w') := (same_all nd ({ nd with num := wrap64 (nd.num + n) } : Hd) ks ks w10 _ _ ka ua kl kc ul uc P10.out.le (by omega) P10.out.t U10.out).mono fun e w' q => ⟨by have := q.1; rw [NE.out.1] at this; exact this, q.2⟩
  refine cA.mono ?_
  rintro e w11 ⟨rfl, b11⟩
  obtain ⟨c11, p11⟩ := P10.out.step b11
  have k11 : ∀ o, w11.cell? ⟨w8.heap.size, o, none⟩ = _ := fun o => (b11.cell (p := ⟨w8.heap.size, o, none⟩) hz10).trans (k10 o)
  have U11 := Lib.hid (U10.out.kept (b11.mono (by omega)) (Nat.le_refl _))
  have P11 := Lib.hid p11
  have hz11 := b11.size
  clear b11 p11 cA c10 k10
  go_wp2_with fail
  have cB : Calls Try.prog 25 #[.agg #[.int .i64 nd.kind, .int .i64 nd.op, .int .i64 (wrap64 (nd.num + n)), .string ⟨nd.text.toArray⟩, .int .i64 nd.ref.row, .int .i64 nd.ref.col, .bool nd.ref.pr, .bool nd.ref.pc, .int .i64 nd.to.row, .int .i64 nd.to.col, .bool nd.to.pr, .bool nd.to.pc, .int .i64 nd.fn, .slice ua ul uc], .agg #[.int .i64 nd.kind, .int .i64 nd.op, .int .i64 nd.num, .string ⟨nd.text.toArray⟩, .int .i64 nd.ref.row, .int .i64 nd.ref.col, .bool nd.ref.pr, .bool nd.ref.pc, .int .i64 nd.to.row, .int .i64 nd.to.col, .bool nd.to.pr, .bool nd.to.pc, .int .i64 nd.fn, .slice ka kl kc]] w11 (fun e w' => e = .returned (.bool false) ∧ Below w11.heap.size w11 w') := (same_all ({ nd with num := wrap64 (nd.num + n) } : Hd) nd ks ks w11 _ _ ua ka ul uc kl kc (by omega) P11.out.le U11.out P11.out.t).mono fun e w' q => ⟨by have := q.1; rw [NE.out.2] at this; exact this, q.2⟩
  refine cB.mono ?_
  rintro e w12 ⟨rfl, b12⟩
  have B12 := Lib.hid (P11.out.bel.trans (b12.mono P11.out.bel.size))
  clear b12 cB c11 k11
  go_wp2
  go_ret
  exact ⟨ret_bool (by simp), B12.out⟩

set_option maxRecDepth 100000 in
set_option maxHeartbeats 4000000 in
theorem turned_1_4 (w : World) (nd : Hd) (ks : Trees) (ka : Option Addr) (kl kc : Nat) (wh n : Int) (tv : TreeV w w.heap.size nd ks ka kl) (hn : I64 n) (hm : mayE nd ks = 0) (hn0 : n ≠ 0) (hv : wh.tmod 6 = 1) (hk : nd.kind = 4) :
    Calls Try.prog 7 #[.agg #[.int .i64 nd.kind, .int .i64 nd.op, .int .i64 nd.num, .string ⟨nd.text.toArray⟩, .int .i64 nd.ref.row, .int .i64 nd.ref.col, .bool nd.ref.pr, .bool nd.ref.pc, .int .i64 nd.to.row, .int .i64 nd.to.col, .bool nd.to.pr, .bool nd.to.pc, .int .i64 nd.fn, .slice ka kl kc], .int .u8 wh, .int .i64 n] w (TruePost w) := by
  have b0 := ext_alloc (Below.refl _ w) (.cells #[.int .i64 nd.kind, .int .i64 nd.op, .int .i64 nd.num, .string ⟨nd.text.toArray⟩, .int .i64 nd.ref.row, .int .i64 nd.ref.col, .bool nd.ref.pr, .bool nd.ref.pc, .int .i64 nd.to.row, .int .i64 nd.to.col, .bool nd.to.pr, .bool nd.to.pc, .int .i64 nd.fn, .slice ka kl kc] 29)
  have p0 : PlR w w.heap.size (.cells #[.int .i64 nd.kind, .int .i64 nd.op, .int .i64 nd.num, .string ⟨nd.text.toArray⟩, .int .i64 nd.ref.row, .int .i64 nd.ref.col, .bool nd.ref.pr, .bool nd.ref.pc, .int .i64 nd.to.row, .int .i64 nd.to.col, .bool nd.to.pr, .bool nd.to.pc, .int .i64 nd.fn, .slice ka kl kc] 29) nd nd ks ks ka ka kl kl (w.alloc (.cells #[.int .i64 nd.kind, .int .i64 nd.op, .int .i64 nd.num, .string ⟨nd.text.toArray⟩, .int .i64 nd.ref.row, .int .i64 nd.ref.col, .bool nd.ref.pr, .bool nd.ref.pc, .int .i64 nd.to.row, .int .i64 nd.to.col, .bool nd.to.pr, .bool nd.to.pc, .int .i64 nd.fn, .slice ka kl kc] 29)) :=
    ⟨Nat.le_refl _, heap_alloc_new _ _, b0, tv.kept b0 (Nat.le_refl _), tv.kept b0 (Nat.le_refl _)⟩
  have P0 := Lib.hid p0
  have HM := Lib.hid hm; have HN0 := Lib.hid hn0; have FF := Lib.hid (mayE_fine hm)
  obtain ⟨n1, n2⟩ := hn
  have n0 : (n == 0) = false := by simp [hn0]
  clear hm hn0
  obtain ⟨b1, g1, e1⟩ : ∃ b : Bool, (nd.kind != 1) = b ∧ b = true := ⟨_, rfl, by simp [hk]⟩
  obtain ⟨b4, g4, e4⟩ : ∃ b : Bool, (nd.kind != 4) = b ∧ b = false := ⟨_, rfl, by simp [hk]⟩
  obtain ⟨b3, g3, e3⟩ : ∃ b : Bool, (nd.kind != 3) = b ∧ b = true := ⟨_, rfl, by simp [hk]⟩
  have KK := Lib.hid hk; clear hk
  have OK := Lib.hid tv.ok
  clear b0 p0 tv
  go_enter Try.func7, Try.ntmps7
  go_wp2_with fail
  refine (begun_any _).mono ?_
  rintro e w1 ⟨rfl, b1⟩
  obtain ⟨c1, p1⟩ := P0.out.step b1
  have P1 := Lib.hid p1
  clear b1 p1
  go_wp2_with fail
  have cM : Calls Try.prog 23 #[.agg #[.int .i64 nd.kind, .int .i64 nd.op, .int .i64 nd.num, .string ⟨nd.text.toArray⟩, .int .i64 nd.ref.row, .int .i64 nd.ref.col, .bool nd.ref.pr, .bool nd.ref.pc, .int .i64 nd.to.row, .int .i64 nd.to.col, .bool nd.to.pr, .bool nd.to.pc, .int .i64 nd.fn, .slice ka kl kc]] w1 (fun e w' => e = .returned (.int .i64 0) ∧ Below w1.heap.size w1 w') := (may_any nd ks w1 _ ka kl kc P1.out.le P1.out.t).mono fun e w' q => ⟨by have := q.1; rw [HM.out] at this; exact this, q.2⟩
  refine cM.mono ?_
  rintro e w2 ⟨rfl, b2⟩
  obtain ⟨c2, p2⟩ := P1.out.step b2
  have P2 := Lib.hid p2
  clear b2 p2 cM c1
  have c2' := c2
  go_wp2_with fail
  refine (copy_any nd ks w2 _ ka kl kc P2.out.le P2.out.t).mono ?_
  rintro e w3 ⟨b3, ⟨-, xa, xl, xc, F3, rfl, f3⟩ | ⟨f', -⟩⟩
  case inr => exact absurd FF.out f'
  obtain ⟨c3, p3⟩ := P2.out.step b3
  have hlt3 := p3.lt
  have p4 := (p3.step (ext_alloc (Below.refl _ w3) (.cells #[.int .i64 nd.kind, .int .i64 nd.op, .int .i64 nd.num, .string ⟨nd.text.toArray⟩, .int .i64 nd.ref.row, .int .i64 nd.ref.col, .bool nd.ref.pr, .bool nd.ref.pc, .int .i64 nd.to.row, .int .i64 nd.to.col, .bool nd.to.pr, .bool nd.to.pc, .int .i64 nd.fn, .slice xa xl xc] 29))).2
  have x4 := (f3.readable OK.out).kept (ext_alloc (Below.refl _ w3) (.cells #[.int .i64 nd.kind, .int .i64 nd.op, .int .i64 nd.num, .string ⟨nd.text.toArray⟩, .int .i64 nd.ref.row, .int .i64 nd.ref.col, .bool nd.ref.pr, .bool nd.ref.pc, .int .i64 nd.to.row, .int .i64 nd.to.col, .bool nd.to.pr, .bool nd.to.pc, .int .i64 nd.fn, .slice xa xl xc] 29)) (Nat.le_refl _)
  have P4 := Lib.hid p4; have X4 := Lib.hid x4
  clear b3 p3 p4 x4 f3 c2 c2'
  go_wp2_with fail
  have cA : Calls Try.prog 25 #[.agg #[.int .i64 nd.kind, .int .i64 nd.op, .int .i64 nd.num, .string ⟨nd.text.toArray⟩, .int .i64 nd.ref.row, .int .i64 nd.ref.col, .bool nd.ref.pr, .bool nd.ref.pc, .int .i64 nd.to.row, .int .i64 nd.to.col, .bool nd.to.pr, .bool nd.to.pc, .int .i64 nd.fn, .slice ka kl kc], .agg #[.int .i64 nd.kind, .int .i64 nd.op, .int .i64 nd.num, .string ⟨nd.text.toArray⟩, .int .i64 nd.ref.row, .int .i64 nd.ref.col, .bool nd.ref.pr, .bool nd.ref.pc, .int .i64 nd.to.row, .int .i64 nd.to.col, .bool nd.to.pr, .bool nd.to.pc, .int .i64 nd.fn, .slice xa xl xc]] (w3.alloc (.cells #[.int .i64 nd.kind, .int .i64 nd.op, .int .i64 nd.num, .string ⟨nd.text.toArray⟩, .int .i64 nd.ref.row, .int .i64 nd.ref.col, .bool nd.ref.pr, .bool nd.ref.pc, .int .i64 nd.to.row, .int .i64 nd.to.col, .bool nd.to.pr, .bool nd.to.pc, .int .i64 nd.fn, .slice xa xl xc] 29)) (fun e w' => e = .returned (.bool true) ∧ Below (w3.alloc (.cells #[.int .i64 nd.kind, .int .i64 nd.op, .int .i64 nd.num, .string ⟨nd.text.toArray⟩, .int .i64 nd.ref.row, .int .i64 nd.ref.col, .bool nd.ref.pr, .bool nd.ref.pc, .int .i64 nd.to.row, .int .i64 nd.to.col, .bool nd.to.pr, .bool nd.to.pc, .int .i64 nd.fn, .slice xa xl xc] 29)).heap.size (w3.alloc (.cells #[.int .i64 nd.kind, .int .i64 nd.op, .int .i64 nd.num, .string ⟨nd.text.toArray⟩, .int .i64 nd.ref.row, .int .i64 nd.ref.col, .bool nd.ref.pr, .bool nd.ref.pc, .int .i64 nd.to.row, .int .i64 nd.to.col, .bool nd.to.pr, .bool nd.to.pc, .int .i64 nd.fn, .slice xa xl xc] 29)) w') := (same_all nd nd ks ks _ _ _ ka xa kl kc xl xc P4.out.le (by simp) P4.out.t X4.out).mono fun e w' q => ⟨by have := q.1; rw [show sameV nd nd ks ks = true by simp [sameV, sameB, FF.out]] at this; exact this, q.2⟩
  refine cA.mono ?_
  rintro e w5 ⟨rfl, b5⟩
  obtain ⟨c5, p5⟩ := P4.out.step b5
  obtain ⟨hz5, k5⟩ := kept_block b5
  have X5 := Lib.hid (X4.out.kept (b5.mono (by simp)) (Nat.le_refl _))
  have P5 := Lib.hid p5
  clear b5 p5 cA c3
  go_wp2_with fail
  have cB : Calls Try.prog 25 #[.agg #[.int .i64 nd.kind, .int .i64 nd.op, .int .i64 nd.num, .string ⟨nd.text.toArray⟩, .int .i64 nd.ref.row, .int .i64 nd.ref.col, .bool nd.ref.pr, .bool nd.ref.pc, .int .i64 nd.to.row, .int .i64 nd.to.col, .bool nd.to.pr, .bool nd.to.pc, .int .i64 nd.fn, .slice xa xl xc], .agg #[.int .i64 nd.kind, .int .i64 nd.op, .int .i64 nd.num, .string ⟨nd.text.toArray⟩, .int .i64 nd.ref.row, .int .i64 nd.ref.col, .bool nd.ref.pr, .bool nd.ref.pc, .int .i64 nd.to.row, .int .i64 nd.to.col, .bool nd.to.pr, .bool nd.to.pc, .int .i64 nd.fn, .slice ka kl kc]] w5 (fun e w' => e = .returned (.bool true) ∧ Below w5.heap.size w5 w') := (same_all nd nd ks ks _ _ _ xa ka xl xc kl kc (by omega) P5.out.le X5.out P5.out.t).mono fun e w' q => ⟨by have := q.1; rw [show sameV nd nd ks ks = true by simp [sameV, sameB, FF.out]] at this; exact this, q.2⟩
  refine cB.mono ?_
  rintro e w6 ⟨rfl, b6⟩
  obtain ⟨c6, p6⟩ := P5.out.step b6
  have k6 : ∀ o, w6.cell? ⟨w3.heap.size, o, none⟩ = _ := fun o => (b6.cell (p := ⟨w3.heap.size, o, none⟩) hz5).trans (k5 o)
  have X6 := Lib.hid (X5.out.kept (b6.mono (by omega)) (Nat.le_refl _))
  have hz6 := b6.size
  have P6 := Lib.hid p6
  clear b6 p6 cB c5 k5
  go_wp2_with fail
  have cC : Calls Try.prog 23 #[.agg #[.int .i64 nd.kind, .int .i64 nd.op, .int .i64 nd.num, .string ⟨nd.text.toArray⟩, .int .i64 nd.ref.row, .int .i64 nd.ref.col, .bool nd.ref.pr, .bool nd.ref.pc, .int .i64 nd.to.row, .int .i64 nd.to.col, .bool nd.to.pr, .bool nd.to.pc, .int .i64 nd.fn, .slice xa xl xc]] w6 (fun e w' => e = .returned (.int .i64 0) ∧ Below w6.heap.size w6 w') := (may_any nd ks w6 _ xa xl xc (by omega) X6.out).mono fun e w' q => ⟨by have := q.1; rw [HM.out] at this; exact this, q.2⟩
  refine cC.mono ?_
  rintro e w7 ⟨rfl, b7⟩
  obtain ⟨c7, p7⟩ := P6.out.step b7
  have P7 := Lib.hid p7
  clear b7 p7 cC c6 k6
  go_wp2_with fail
  refine (lawOwn_any nd ks w7 _ ka kl kc P7.out.le P7.out.t (fine_nodes FF.out)).mono ?_
  rintro e w8 ⟨ua, ul, uc, F8, rfl, b8, f8⟩
  obtain ⟨c8, p8⟩ := P7.out.step b8
  have hlt8 := p8.lt
  have P8 := Lib.hid p8; have F8' := Lib.hid f8; have B8 := Lib.hid b8
  clear b8 p8 f8 c7
  have NE := Lib.hid (turned_ne1 (ks := ks) OK.out n1 n2 HN0.out)
  have NOK := Lib.hid (turned_ok1 (n := n) OK.out HM.out)
  go_wp2_with fail
  skip
  have b9 := ext_alloc (Below.refl _ w8) (.cells #[.int .i64 nd.kind, .int .i64 nd.op, .int .i64 (wrap64 (nd.num + n)), .string ⟨nd.text.toArray⟩, .int .i64 nd.ref.row, .int .i64 nd.ref.col, .bool nd.ref.pr, .bool nd.ref.pc, .int .i64 nd.to.row, .int .i64 nd.to.col, .bool nd.to.pr, .bool nd.to.pc, .int .i64 nd.fn, .slice ua ul uc] 29)
  obtain ⟨-, p9⟩ := P8.out.step b9
  have u9 := (F8'.out.readable NOK.out).kept b9 (Nat.le_refl _)
  have P9 := Lib.hid p9; have U9 := Lib.hid u9
  clear b9 p9 u9
  have cM : Calls Try.prog 23 #[.agg #[.int .i64 nd.kind, .int .i64 nd.op, .int .i64 (wrap64 (nd.num + n)), .string ⟨nd.text.toArray⟩, .int .i64 nd.ref.row, .int .i64 nd.ref.col, .bool nd.ref.pr, .bool nd.ref.pc, .int .i64 nd.to.row, .int .i64 nd.to.col, .bool nd.to.pr, .bool nd.to.pc, .int .i64 nd.fn, .slice ua ul uc]] (w8.alloc (.cells #[.int .i64 nd.kind, .int .i64 nd.op, .int .i64 (wrap64 (nd.num + n)), .string ⟨nd.text.toArray⟩, .int .i64 nd.ref.row, .int .i64 nd.ref.col, .bool nd.ref.pr, .bool nd.ref.pc, .int .i64 nd.to.row, .int .i64 nd.to.col, .bool nd.to.pr, .bool nd.to.pc, .int .i64 nd.fn, .slice ua ul uc] 29)) (fun e w' => e = .returned (.int .i64 (mayE ({ nd with num := wrap64 (nd.num + n) } : Hd) ks)) ∧ Below (w8.alloc (.cells #[.int .i64 nd.kind, .int .i64 nd.op, .int .i64 (wrap64 (nd.num + n)), .string ⟨nd.text.toArray⟩, .int .i64 nd.ref.row, .int .i64 nd.ref.col, .bool nd.ref.pr, .bool nd.ref.pc, .int .i64 nd.to.row, .int .i64 nd.to.col, .bool nd.to.pr, .bool nd.to.pc, .int .i64 nd.fn, .slice ua ul uc] 29)).heap.size (w8.alloc (.cells #[.int .i64 nd.kind, .int .i64 nd.op, .int .i64 (wrap64 (nd.num + n)), .string ⟨nd.text.toArray⟩, .int .i64 nd.ref.row, .int .i64 nd.ref.col, .bool nd.ref.pr, .bool nd.ref.pc, .int .i64 nd.to.row, .int .i64 nd.to.col, .bool nd.to.pr, .bool nd.to.pc, .int .i64 nd.fn, .slice ua ul uc] 29)) w') := may_any ({ nd with num := wrap64 (nd.num + n) } : Hd) ks _ _ ua ul uc (by simp) U9.out
  generalize hK : mayE ({ nd with num := wrap64 (nd.num + n) } : Hd) ks = mm at *
  clear hK
  refine cM.mono ?_
  rintro e w10 ⟨rfl, b10⟩
  obtain ⟨c10, p10⟩ := P9.out.step b10
  obtain ⟨hz10, k10⟩ := kept_block b10
  have P10 := Lib.hid p10
  have U10 := Lib.hid (U9.out.kept (b10.mono (by simp)) (Nat.le_refl _))
  clear b10 p10 cM c8
  go_wp2_with fail
  have cA : Calls Try.prog 25 #[.agg #[.int .i64 nd.kind, .int .i64 nd.op, .int .i64 nd.num, .string ⟨nd.text.toArray⟩, .int .i64 nd.ref.row, .int .i64 nd.ref.col, .bool nd.ref.pr, .bool nd.ref.pc, .int .i64 nd.to.row, .int .i64 nd.to.col, .bool nd.to.pr, .bool nd.to.pc, .int .i64 nd.fn, .slice ka kl kc], .agg #[.int .i64 nd.kind, .int .i64 nd.op, .int .i64 (wrap64 (nd.num + n)), .string ⟨nd.text.toArray⟩, .int .i64 nd.ref.row, .int .i64 nd.ref.col, .bool nd.ref.pr, .bool nd.ref.pc, .int .i64 nd.to.row, .int .i64 nd.to.col, .bool nd.to.pr, .bool nd.to.pc, .int .i64 nd.fn, .slice ua ul uc]] w10 (fun e w' => e = .returned (.bool false) ∧ Below w10.heap.size w10 w') := (same_all nd ({ nd with num := wrap64 (nd.num + n) } : Hd) ks ks w10 _ _ ka ua kl kc ul uc P10.out.le (by omega) P10.out.t U10.out).mono fun e w' q => ⟨by have := q.1; rw [NE.out.1] at this; exact this, q.2⟩
  refine cA.mono ?_
  rintro e w11 ⟨rfl, b11⟩
  obtain ⟨c11, p11⟩ := P10.out.step b11
  have k11 : ∀ o, w11.cell? ⟨w8.heap.size, o, none⟩ = _ := fun o => (b11.cell (p := ⟨w8.heap.size, o, none⟩) hz10).trans (k10 o)
  have U11 := Lib.hid (U10.out.kept (b11.mono (by omega)) (Nat.le_refl _))
  have P11 := Lib.hid p11
  have hz11 := b11.size
  clear b11 p11 cA c10 k10
  go_wp2_with fail
  have cB : Calls Try.prog 25 #[.agg #[.int .i64 nd.kind, .int .i64 nd.op, .int .i64 (wrap64 (nd.num + n)), .string ⟨nd.text.toArray⟩, .int .i64 nd.ref.row, .int .i64 nd.ref.col, .bool nd.ref.pr, .bool nd.ref.pc, .int .i64 nd.to.row, .int .i64 nd.to.col, .bool nd.to.pr, .bool nd.to.pc, .int .i64 nd.fn, .slice ua ul uc], .agg #[.int .i64 nd.kind, .int .i64 nd.op, .int .i64 nd.num, .string ⟨nd.text.toArray⟩, .int .i64 nd.ref.row, .int .i64 nd.ref.col, .bool nd.ref.pr, .bool nd.ref.pc, .int .i64 nd.to.row, .int .i64 nd.to.col, .bool nd.to.pr, .bool nd.to.pc, .int .i64 nd.fn, .slice ka kl kc]] w11 (fun e w' => e = .returned (.bool false) ∧ Below w11.heap.size w11 w') := (same_all ({ nd with num := wrap64 (nd.num + n) } : Hd) nd ks ks w11 _ _ ua ka ul uc kl kc (by omega) P11.out.le U11.out P11.out.t).mono fun e w' q => ⟨by have := q.1; rw [NE.out.2] at this; exact this, q.2⟩
  refine cB.mono ?_
  rintro e w12 ⟨rfl, b12⟩
  have B12 := Lib.hid (P11.out.bel.trans (b12.mono P11.out.bel.size))
  clear b12 cB c11 k11
  go_wp2
  go_ret
  exact ⟨ret_bool (by simp), B12.out⟩
end Go.Proofs.Ytkjfeakbhfkldaa
