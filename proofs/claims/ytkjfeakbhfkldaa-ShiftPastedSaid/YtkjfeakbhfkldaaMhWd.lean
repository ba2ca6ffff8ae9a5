/- Shifting: ShiftPasted, one of its branches. -/
import Derived.Test.YtkjfeakbhfkldaaMhW
namespace Go.Proofs.Ytkjfeakbhfkldaa
open Go.RowKit

set_option maxRecDepth 100000 in
set_option maxHeartbeats 4000000 in
theorem pasted_am (nd : Hd) (ks : Trees) (a b c d : Int) (w : World) (B : Nat) (ka : Option Addr) (kl kc : Nat) (hB : B ≤ w.heap.size) (tv : TreeV w B nd ks ka kl) (so : (smallB nd ks && decide (mayE nd ks = 0)) = true) (h1 : I64 a) (h2 : I64 b) (h3 : I64 c) (h4 : I64 d) (L : refsOf (mvH ⟨1, a, b, 0, 0⟩ nd) (mvK ⟨1, a, b, 0, 0⟩ ks) = refsOf nd ks) (am : ¬ a = -9223372036854775808) (bm : b = -9223372036854775808) : Calls Try.prog 10 #[.agg #[.int .i64 nd.kind, .int .i64 nd.op, .int .i64 nd.num, .string ⟨nd.text.toArray⟩, .int .i64 nd.ref.row, .int .i64 nd.ref.col, .bool nd.ref.pr, .bool nd.ref.pc, .int .i64 nd.to.row, .int .i64 nd.to.col, .bool nd.to.pr, .bool nd.to.pc, .int .i64 nd.fn, .slice ka kl kc], .int .i64 a, .int .i64 b, .int .i64 c, .int .i64 d] w (TruePost w) := by
  have hm : mayE nd ks = 0 := by simp only [Bool.and_eq_true, decide_eq_true_eq] at so; exact so.2
  have MT := Lib.hid hm
  have FT := Lib.hid (may_fits hm)
  have F := mayE_fine hm
  have NT := Lib.hid (show ks.nodes ≤ 100000 by have := F.1; omega)
  obtain ⟨hx, HX0⟩ : ∃ hx, Hid (hx = mvH ⟨1, a, b, 0, 0⟩ nd) := ⟨_, Lib.hid rfl⟩
  obtain ⟨kx, KX⟩ : ∃ kx, Hid (kx = mvK ⟨1, a, b, 0, 0⟩ ks) := ⟨_, Lib.hid rfl⟩
  rw [← HX0.out, ← KX.out] at L
  have HL := Lib.hid L
  have HAM := Lib.hid am; have HBM := Lib.hid bm
  clear L am bm
  have HX := HX0
  have MX := Lib.hid (show mayE hx kx = 0 by rw [HX.out, KX.out]; exact may_mv hm)
  have NX := Lib.hid (show kx.nodes ≤ 100000 by rw [KX.out, nodes_mv]; exact NT.out)
  obtain ⟨hb, HB⟩ : ∃ hb, Hid (hb = bareH nd) := ⟨_, Lib.hid rfl⟩
  obtain ⟨kb, KB⟩ : ∃ kb, Hid (kb = bareK nd ks) := ⟨_, Lib.hid rfl⟩
  have HBX := Lib.hid (show bareH hx = hb by rw [HX.out, HB.out, bareH_mv])
  have KBX := Lib.hid (show bareK hx kx = kb by rw [HX.out, KX.out, KB.out, bareK_mv])
  clear hm F
  have q0 := ext_alloc (Below.refl w.heap.size w) (.cells #[.int .i64 nd.kind, .int .i64 nd.op, .int .i64 nd.num, .string ⟨nd.text.toArray⟩, .int .i64 nd.ref.row, .int .i64 nd.ref.col, .bool nd.ref.pr, .bool nd.ref.pc, .int .i64 nd.to.row, .int .i64 nd.to.col, .bool nd.to.pr, .bool nd.to.pc, .int .i64 nd.fn, .slice ka kl kc] 29)
  have BB := Lib.hid q0
  have H0 := Lib.hid (heap_alloc_new w (.cells #[.int .i64 nd.kind, .int .i64 nd.op, .int .i64 nd.num, .string ⟨nd.text.toArray⟩, .int .i64 nd.ref.row, .int .i64 nd.ref.col, .bool nd.ref.pr, .bool nd.ref.pc, .int .i64 nd.to.row, .int .i64 nd.to.col, .bool nd.to.pr, .bool nd.to.pc, .int .i64 nd.fn, .slice ka kl kc] 29))
  have T0 := Lib.hid ((tv.kept (q0.mono hB) (Nat.le_refl _)).mono (Nat.le_trans hB q0.size))
  clear q0 tv
  go_enter Try.func10, Try.ntmps10
  go_wp2_with fail
  refine (lawBegun_any _).mono ?_
  rintro e w1 ⟨rfl, b1⟩
  have BB := Lib.hid (BB.out.trans (b1.mono BB.out.size))
  have T0 := Lib.hid ((T0.out.kept b1 (Nat.le_refl _)).mono b1.size)
  have h0 := (b1.block _ (lt_of_block H0.out)).trans H0.out
  have c0 := cells_of_block h0
  have H0 := Lib.hid h0
  clear b1 h0
  go_wp2_with fail
  refine (sound_any nd ks w1 w1.heap.size ka kl kc (Nat.le_refl _) T0.out).mono ?_
  rintro e w2 ⟨rfl, b2⟩
  have BB := Lib.hid (BB.out.trans (b2.mono BB.out.size))
  have T0 := Lib.hid ((T0.out.kept b2 (Nat.le_refl _)).mono b2.size)
  have h0 := (b2.block _ (lt_of_block H0.out)).trans H0.out
  have H0 := Lib.hid h0
  clear b2 c0
  have c0 := cells_of_block h0
  clear h0
  generalize w.heap.size = N0 at H0 c0 ⊢
  rw [so]
  clear so
  have cp := paste_ex nd ks a b MT.out h1 h2 w2 w2.heap.size ka kl kc (Nat.le_refl _) T0.out
  rw [← HX0.out, ← KX.out] at cp
  have CP := Lib.hid cp
  clear cp
  go_wp2_with fail
  clear c0
  refine CP.out.mono ?_
  rintro e w3 ⟨b3, g, gk, xa, xl, xc, hg, hk, rfl, t3⟩
  have hg := hg.symm
  have hk := hk.symm
  subst hg hk
  have q3 := ext_alloc b3 (.cells #[.int .i64 hx.kind, .int .i64 hx.op, .int .i64 hx.num, .string ⟨hx.text.toArray⟩, .int .i64 hx.ref.row, .int .i64 hx.ref.col, .bool hx.ref.pr, .bool hx.ref.pc, .int .i64 hx.to.row, .int .i64 hx.to.col, .bool hx.to.pr, .bool hx.to.pc, .int .i64 hx.fn, .slice xa xl xc] 29)
  have p0 : PS (w3.alloc (.cells #[.int .i64 hx.kind, .int .i64 hx.op, .int .i64 hx.num, .string ⟨hx.text.toArray⟩, .int .i64 hx.ref.row, .int .i64 hx.ref.col, .bool hx.ref.pr, .bool hx.ref.pc, .int .i64 hx.to.row, .int .i64 hx.to.col, .bool hx.to.pr, .bool hx.to.pc, .int .i64 hx.fn, .slice xa xl xc] 29)) hx kx xa xl xc w3.heap.size nd ks ka kl kc N0 (w3.alloc (.cells #[.int .i64 hx.kind, .int .i64 hx.op, .int .i64 hx.num, .string ⟨hx.text.toArray⟩, .int .i64 hx.ref.row, .int .i64 hx.ref.col, .bool hx.ref.pr, .bool hx.ref.pc, .int .i64 hx.to.row, .int .i64 hx.to.col, .bool hx.to.pr, .bool hx.to.pc, .int .i64 hx.fn, .slice xa xl xc] 29)) :=
    ⟨Below.refl _ _, heap_alloc_new w3 _, (q3.block _ (lt_of_block H0.out)).trans H0.out, (t3.kept (ext_alloc (Below.refl _ w3) _) (Nat.le_refl _)).mono (by simp), (T0.out.kept q3 (Nat.le_refl _)).mono q3.size⟩
  have BB := Lib.hid (BB.out.trans (q3.mono BB.out.size))
  have P := Lib.hid p0
  clear p0 q3 b3 t3 H0 T0 CP
  go_wp2_with fail
  have p0 := P.out; have bb := BB.out
  clear P BB
  generalize w3.alloc (.cells #[.int .i64 hx.kind, .int .i64 hx.op, .int .i64 hx.num, .string ⟨hx.text.toArray⟩, .int .i64 hx.ref.row, .int .i64 hx.ref.col, .bool hx.ref.pr, .bool hx.ref.pc, .int .i64 hx.to.row, .int .i64 hx.to.col, .bool hx.to.pr, .bool hx.to.pc, .int .i64 hx.fn, .slice xa xl xc] 29) = w4 at p0 bb ⊢
  generalize w3.heap.size = Nx at p0 ⊢
  have P := Lib.hid p0; have BB := Lib.hid bb; have B4 := Lib.hid bb
  clear p0 bb
  have cM : ∀ W, ((W.cell? ⟨Nx, 0, none⟩ = some (.int .i64 hx.kind) ∧ W.cell? ⟨Nx, 1, none⟩ = some (.int .i64 hx.op) ∧ W.cell? ⟨Nx, 2, none⟩ = some (.int .i64 hx.num) ∧ W.cell? ⟨Nx, 3, none⟩ = some (.string ⟨hx.text.toArray⟩) ∧ W.cell? ⟨Nx, 4, none⟩ = some (.int .i64 hx.ref.row) ∧ W.cell? ⟨Nx, 5, none⟩ = some (.int .i64 hx.ref.col) ∧ W.cell? ⟨Nx, 6, none⟩ = some (.bool hx.ref.pr) ∧ W.cell? ⟨Nx, 7, none⟩ = some (.bool hx.ref.pc) ∧ W.cell? ⟨Nx, 8, none⟩ = some (.int .i64 hx.to.row) ∧ W.cell? ⟨Nx, 9, none⟩ = some (.int .i64 hx.to.col) ∧ W.cell? ⟨Nx, 10, none⟩ = some (.bool hx.to.pr) ∧ W.cell? ⟨Nx, 11, none⟩ = some (.bool hx.to.pc) ∧ W.cell? ⟨Nx, 12, none⟩ = some (.int .i64 hx.fn) ∧ W.cell? ⟨Nx, 13, none⟩ = some (.slice xa xl xc) ∧ W.cell? ⟨N0, 0, none⟩ = some (.int .i64 nd.kind) ∧ W.cell? ⟨N0, 1, none⟩ = some (.int .i64 nd.op) ∧ W.cell? ⟨N0, 2, none⟩ = some (.int .i64 nd.num) ∧ W.cell? ⟨N0, 3, none⟩ = some (.string ⟨nd.text.toArray⟩) ∧ W.cell? ⟨N0, 4, none⟩ = some (.int .i64 nd.ref.row) ∧ W.cell? ⟨N0, 5, none⟩ = some (.int .i64 nd.ref.col) ∧ W.cell? ⟨N0, 6, none⟩ = some (.bool nd.ref.pr) ∧ W.cell? ⟨N0, 7, none⟩ = some (.bool nd.ref.pc) ∧ W.cell? ⟨N0, 8, none⟩ = some (.int .i64 nd.to.row) ∧ W.cell? ⟨N0, 9, none⟩ = some (.int .i64 nd.to.col) ∧ W.cell? ⟨N0, 10, none⟩ = some (.bool nd.to.pr) ∧ W.cell? ⟨N0, 11, none⟩ = some (.bool nd.to.pc) ∧ W.cell? ⟨N0, 12, none⟩ = some (.int .i64 nd.fn) ∧ W.cell? ⟨N0, 13, none⟩ = some (.slice ka kl kc)) ∧ PS w4 hx kx xa xl xc Nx nd ks ka kl kc N0 W) → Calls Try.prog 23 #[.agg #[.int .i64 hx.kind, .int .i64 hx.op, .int .i64 hx.num, .string ⟨hx.text.toArray⟩, .int .i64 hx.ref.row, .int .i64 hx.ref.col, .bool hx.ref.pr, .bool hx.ref.pc, .int .i64 hx.to.row, .int .i64 hx.to.col, .bool hx.to.pr, .bool hx.to.pc, .int .i64 hx.fn, .slice xa xl xc]] W (fun e w' => e = .returned (.int .i64 0) ∧ ((w'.cell? ⟨Nx, 0, none⟩ = some (.int .i64 hx.kind) ∧ w'.cell? ⟨Nx, 1, none⟩ = some (.int .i64 hx.op) ∧ w'.cell? ⟨Nx, 2, none⟩ = some (.int .i64 hx.num) ∧ w'.cell? ⟨Nx, 3, none⟩ = some (.string ⟨hx.text.toArray⟩) ∧ w'.cell? ⟨Nx, 4, none⟩ = some (.int .i64 hx.ref.row) ∧ w'.cell? ⟨Nx, 5, none⟩ = some (.int .i64 hx.ref.col) ∧ w'.cell? ⟨Nx, 6, none⟩ = some (.bool hx.ref.pr) ∧ w'.cell? ⟨Nx, 7, none⟩ = some (.bool hx.ref.pc) ∧ w'.cell? ⟨Nx, 8, none⟩ = some (.int .i64 hx.to.row) ∧ w'.cell? ⟨Nx, 9, none⟩ = some (.int .i64 hx.to.col) ∧ w'.cell? ⟨Nx, 10, none⟩ = some (.bool hx.to.pr) ∧ w'.cell? ⟨Nx, 11, none⟩ = some (.bool hx.to.pc) ∧ w'.cell? ⟨Nx, 12, none⟩ = some (.int .i64 hx.fn) ∧ w'.cell? ⟨Nx, 13, none⟩ = some (.slice xa xl xc) ∧ w'.cell? ⟨N0, 0, none⟩ = some (.int .i64 nd.kind) ∧ w'.cell? ⟨N0, 1, none⟩ = some (.int .i64 nd.op) ∧ w'.cell? ⟨N0, 2, none⟩ = some (.int .i64 nd.num) ∧ w'.cell? ⟨N0, 3, none⟩ = some (.string ⟨nd.text.toArray⟩) ∧ w'.cell? ⟨N0, 4, none⟩ = some (.int .i64 nd.ref.row) ∧ w'.cell? ⟨N0, 5, none⟩ = some (.int .i64 nd.ref.col) ∧ w'.cell? ⟨N0, 6, none⟩ = some (.bool nd.ref.pr) ∧ w'.cell? ⟨N0, 7, none⟩ = some (.bool nd.ref.pc) ∧ w'.cell? ⟨N0, 8, none⟩ = some (.int .i64 nd.to.row) ∧ w'.cell? ⟨N0, 9, none⟩ = some (.int .i64 nd.to.col) ∧ w'.cell? ⟨N0, 10, none⟩ = some (.bool nd.to.pr) ∧ w'.cell? ⟨N0, 11, none⟩ = some (.bool nd.to.pc) ∧ w'.cell? ⟨N0, 12, none⟩ = some (.int .i64 nd.fn) ∧ w'.cell? ⟨N0, 13, none⟩ = some (.slice ka kl kc)) ∧ PS w4 hx kx xa xl xc Nx nd ks ka kl kc N0 w')) := fun W q =>
    (may_any hx kx W W.heap.size xa xl xc (Nat.le_refl _) q.2.t1).mono fun e w' r => ⟨r.1.trans (by rw [MX.out]), (q.2.step r.2).full⟩
  have cX : ∀ W, ((W.cell? ⟨Nx, 0, none⟩ = some (.int .i64 hx.kind) ∧ W.cell? ⟨Nx, 1, none⟩ = some (.int .i64 hx.op) ∧ W.cell? ⟨Nx, 2, none⟩ = some (.int .i64 hx.num) ∧ W.cell? ⟨Nx, 3, none⟩ = some (.string ⟨hx.text.toArray⟩) ∧ W.cell? ⟨Nx, 4, none⟩ = some (.int .i64 hx.ref.row) ∧ W.cell? ⟨Nx, 5, none⟩ = some (.int .i64 hx.ref.col) ∧ W.cell? ⟨Nx, 6, none⟩ = some (.bool hx.ref.pr) ∧ W.cell? ⟨Nx, 7, none⟩ = some (.bool hx.ref.pc) ∧ W.cell? ⟨Nx, 8, none⟩ = some (.int .i64 hx.to.row) ∧ W.cell? ⟨Nx, 9, none⟩ = some (.int .i64 hx.to.col) ∧ W.cell? ⟨Nx, 10, none⟩ = some (.bool hx.to.pr) ∧ W.cell? ⟨Nx, 11, none⟩ = some (.bool hx.to.pc) ∧ W.cell? ⟨Nx, 12, none⟩ = some (.int .i64 hx.fn) ∧ W.cell? ⟨Nx, 13, none⟩ = some (.slice xa xl xc) ∧ W.cell? ⟨N0, 0, none⟩ = some (.int .i64 nd.kind) ∧ W.cell? ⟨N0, 1, none⟩ = some (.int .i64 nd.op) ∧ W.cell? ⟨N0, 2, none⟩ = some (.int .i64 nd.num) ∧ W.cell? ⟨N0, 3, none⟩ = some (.string ⟨nd.text.toArray⟩) ∧ W.cell? ⟨N0, 4, none⟩ = some (.int .i64 nd.ref.row) ∧ W.cell? ⟨N0, 5, none⟩ = some (.int .i64 nd.ref.col) ∧ W.cell? ⟨N0, 6, none⟩ = some (.bool nd.ref.pr) ∧ W.cell? ⟨N0, 7, none⟩ = some (.bool nd.ref.pc) ∧ W.cell? ⟨N0, 8, none⟩ = some (.int .i64 nd.to.row) ∧ W.cell? ⟨N0, 9, none⟩ = some (.int .i64 nd.to.col) ∧ W.cell? ⟨N0, 10, none⟩ = some (.bool nd.to.pr) ∧ W.cell? ⟨N0, 11, none⟩ = some (.bool nd.to.pc) ∧ W.cell? ⟨N0, 12, none⟩ = some (.int .i64 nd.fn) ∧ W.cell? ⟨N0, 13, none⟩ = some (.slice ka kl kc)) ∧ PS w4 hx kx xa xl xc Nx nd ks ka kl kc N0 W) → Calls Try.prog 38 #[.agg #[.int .i64 hx.kind, .int .i64 hx.op, .int .i64 hx.num, .string ⟨hx.text.toArray⟩, .int .i64 hx.ref.row, .int .i64 hx.ref.col, .bool hx.ref.pr, .bool hx.ref.pc, .int .i64 hx.to.row, .int .i64 hx.to.col, .bool hx.to.pr, .bool hx.to.pc, .int .i64 hx.fn, .slice xa xl xc]] W (fun e w' => ∃ pa pl pc, e = .returned (.agg #[.int .i64 hb.kind, .int .i64 hb.op, .int .i64 hb.num, .string ⟨hb.text.toArray⟩, .int .i64 hb.ref.row, .int .i64 hb.ref.col, .bool hb.ref.pr, .bool hb.ref.pc, .int .i64 hb.to.row, .int .i64 hb.to.col, .bool hb.to.pr, .bool hb.to.pc, .int .i64 hb.fn, .slice pa pl pc]) ∧ ((w'.cell? ⟨Nx, 0, none⟩ = some (.int .i64 hx.kind) ∧ w'.cell? ⟨Nx, 1, none⟩ = some (.int .i64 hx.op) ∧ w'.cell? ⟨Nx, 2, none⟩ = some (.int .i64 hx.num) ∧ w'.cell? ⟨Nx, 3, none⟩ = some (.string ⟨hx.text.toArray⟩) ∧ w'.cell? ⟨Nx, 4, none⟩ = some (.int .i64 hx.ref.row) ∧ w'.cell? ⟨Nx, 5, none⟩ = some (.int .i64 hx.ref.col) ∧ w'.cell? ⟨Nx, 6, none⟩ = some (.bool hx.ref.pr) ∧ w'.cell? ⟨Nx, 7, none⟩ = some (.bool hx.ref.pc) ∧ w'.cell? ⟨Nx, 8, none⟩ = some (.int .i64 hx.to.row) ∧ w'.cell? ⟨Nx, 9, none⟩ = some (.int .i64 hx.to.col) ∧ w'.cell? ⟨Nx, 10, none⟩ = some (.bool hx.to.pr) ∧ w'.cell? ⟨Nx, 11, none⟩ = some (.bool hx.to.pc) ∧ w'.cell? ⟨Nx, 12, none⟩ = some (.int .i64 hx.fn) ∧ w'.cell? ⟨Nx, 13, none⟩ = some (.slice xa xl xc) ∧ w'.cell? ⟨N0, 0, none⟩ = some (.int .i64 nd.kind) ∧ w'.cell? ⟨N0, 1, none⟩ = some (.int .i64 nd.op) ∧ w'.cell? ⟨N0, 2, none⟩ = some (.int .i64 nd.num) ∧ w'.cell? ⟨N0, 3, none⟩ = some (.string ⟨nd.text.toArray⟩) ∧ w'.cell? ⟨N0, 4, none⟩ = some (.int .i64 nd.ref.row) ∧ w'.cell? ⟨N0, 5, none⟩ = some (.int .i64 nd.ref.col) ∧ w'.cell? ⟨N0, 6, none⟩ = some (.bool nd.ref.pr) ∧ w'.cell? ⟨N0, 7, none⟩ = some (.bool nd.ref.pc) ∧ w'.cell? ⟨N0, 8, none⟩ = some (.int .i64 nd.to.row) ∧ w'.cell? ⟨N0, 9, none⟩ = some (.int .i64 nd.to.col) ∧ w'.cell? ⟨N0, 10, none⟩ = some (.bool nd.to.pr) ∧ w'.cell? ⟨N0, 11, none⟩ = some (.bool nd.to.pc) ∧ w'.cell? ⟨N0, 12, none⟩ = some (.int .i64 nd.fn) ∧ w'.cell? ⟨N0, 13, none⟩ = some (.slice ka kl kc)) ∧ PS w4 hx kx xa xl xc Nx nd ks ka kl kc N0 w') ∧ Below W.heap.size W w' ∧ TreeV w' w'.heap.size hb kb pa pl) := fun W q =>
    (lawBare_any hx kx W W.heap.size xa xl xc (Nat.le_refl _) q.2.t1 NX.out).mono fun e w' ⟨pa, pl, pc, r1, r2, r3⟩ => by
      rw [HBX.out] at r1
      rw [HBX.out, KBX.out] at r3
      exact ⟨pa, pl, pc, r1, (q.2.step r2).full, r2, r3.to fun b hb => by have := r2.size; rcases hb with k | k <;> omega⟩
  have cT : ∀ W, ((W.cell? ⟨Nx, 0, none⟩ = some (.int .i64 hx.kind) ∧ W.cell? ⟨Nx, 1, none⟩ = some (.int .i64 hx.op) ∧ W.cell? ⟨Nx, 2, none⟩ = some (.int .i64 hx.num) ∧ W.cell? ⟨Nx, 3, none⟩ = some (.string ⟨hx.text.toArray⟩) ∧ W.cell? ⟨Nx, 4, none⟩ = some (.int .i64 hx.ref.row) ∧ W.cell? ⟨Nx, 5, none⟩ = some (.int .i64 hx.ref.col) ∧ W.cell? ⟨Nx, 6, none⟩ = some (.bool hx.ref.pr) ∧ W.cell? ⟨Nx, 7, none⟩ = some (.bool hx.ref.pc) ∧ W.cell? ⟨Nx, 8, none⟩ = some (.int .i64 hx.to.row) ∧ W.cell? ⟨Nx, 9, none⟩ = some (.int .i64 hx.to.col) ∧ W.cell? ⟨Nx, 10, none⟩ = some (.bool hx.to.pr) ∧ W.cell? ⟨Nx, 11, none⟩ = some (.bool hx.to.pc) ∧ W.cell? ⟨Nx, 12, none⟩ = some (.int .i64 hx.fn) ∧ W.cell? ⟨Nx, 13, none⟩ = some (.slice xa xl xc) ∧ W.cell? ⟨N0, 0, none⟩ = some (.int .i64 nd.kind) ∧ W.cell? ⟨N0, 1, none⟩ = some (.int .i64 nd.op) ∧ W.cell? ⟨N0, 2, none⟩ = some (.int .i64 nd.num) ∧ W.cell? ⟨N0, 3, none⟩ = some (.string ⟨nd.text.toArray⟩) ∧ W.cell? ⟨N0, 4, none⟩ = some (.int .i64 nd.ref.row) ∧ W.cell? ⟨N0, 5, none⟩ = some (.int .i64 nd.ref.col) ∧ W.cell? ⟨N0, 6, none⟩ = some (.bool nd.ref.pr) ∧ W.cell? ⟨N0, 7, none⟩ = some (.bool nd.ref.pc) ∧ W.cell? ⟨N0, 8, none⟩ = some (.int .i64 nd.to.row) ∧ W.cell? ⟨N0, 9, none⟩ = some (.int .i64 nd.to.col) ∧ W.cell? ⟨N0, 10, none⟩ = some (.bool nd.to.pr) ∧ W.cell? ⟨N0, 11, none⟩ = some (.bool nd.to.pc) ∧ W.cell? ⟨N0, 12, none⟩ = some (.int .i64 nd.fn) ∧ W.cell? ⟨N0, 13, none⟩ = some (.slice ka kl kc)) ∧ PS w4 hx kx xa xl xc Nx nd ks ka kl kc N0 W) → Calls Try.prog 38 #[.agg #[.int .i64 nd.kind, .int .i64 nd.op, .int .i64 nd.num, .string ⟨nd.text.toArray⟩, .int .i64 nd.ref.row, .int .i64 nd.ref.col, .bool nd.ref.pr, .bool nd.ref.pc, .int .i64 nd.to.row, .int .i64 nd.to.col, .bool nd.to.pr, .bool nd.to.pc, .int .i64 nd.fn, .slice ka kl kc]] W (fun e w' => ∃ qa ql qc, e = .returned (.agg #[.int .i64 hb.kind, .int .i64 hb.op, .int .i64 hb.num, .string ⟨hb.text.toArray⟩, .int .i64 hb.ref.row, .int .i64 hb.ref.col, .bool hb.ref.pr, .bool hb.ref.pc, .int .i64 hb.to.row, .int .i64 hb.to.col, .bool hb.to.pr, .bool hb.to.pc, .int .i64 hb.fn, .slice qa ql qc]) ∧ ((w'.cell? ⟨Nx, 0, none⟩ = some (.int .i64 hx.kind) ∧ w'.cell? ⟨Nx, 1, none⟩ = some (.int .i64 hx.op) ∧ w'.cell? ⟨Nx, 2, none⟩ = some (.int .i64 hx.num) ∧ w'.cell? ⟨Nx, 3, none⟩ = some (.string ⟨hx.text.toArray⟩) ∧ w'.cell? ⟨Nx, 4, none⟩ = some (.int .i64 hx.ref.row) ∧ w'.cell? ⟨Nx, 5, none⟩ = some (.int .i64 hx.ref.col) ∧ w'.cell? ⟨Nx, 6, none⟩ = some (.bool hx.ref.pr) ∧ w'.cell? ⟨Nx, 7, none⟩ = some (.bool hx.ref.pc) ∧ w'.cell? ⟨Nx, 8, none⟩ = some (.int .i64 hx.to.row) ∧ w'.cell? ⟨Nx, 9, none⟩ = some (.int .i64 hx.to.col) ∧ w'.cell? ⟨Nx, 10, none⟩ = some (.bool hx.to.pr) ∧ w'.cell? ⟨Nx, 11, none⟩ = some (.bool hx.to.pc) ∧ w'.cell? ⟨Nx, 12, none⟩ = some (.int .i64 hx.fn) ∧ w'.cell? ⟨Nx, 13, none⟩ = some (.slice xa xl xc) ∧ w'.cell? ⟨N0, 0, none⟩ = some (.int .i64 nd.kind) ∧ w'.cell? ⟨N0, 1, none⟩ = some (.int .i64 nd.op) ∧ w'.cell? ⟨N0, 2, none⟩ = some (.int .i64 nd.num) ∧ w'.cell? ⟨N0, 3, none⟩ = some (.string ⟨nd.text.toArray⟩) ∧ w'.cell? ⟨N0, 4, none⟩ = some (.int .i64 nd.ref.row) ∧ w'.cell? ⟨N0, 5, none⟩ = some (.int .i64 nd.ref.col) ∧ w'.cell? ⟨N0, 6, none⟩ = some (.bool nd.ref.pr) ∧ w'.cell? ⟨N0, 7, none⟩ = some (.bool nd.ref.pc) ∧ w'.cell? ⟨N0, 8, none⟩ = some (.int .i64 nd.to.row) ∧ w'.cell? ⟨N0, 9, none⟩ = some (.int .i64 nd.to.col) ∧ w'.cell? ⟨N0, 10, none⟩ = some (.bool nd.to.pr) ∧ w'.cell? ⟨N0, 11, none⟩ = some (.bool nd.to.pc) ∧ w'.cell? ⟨N0, 12, none⟩ = some (.int .i64 nd.fn) ∧ w'.cell? ⟨N0, 13, none⟩ = some (.slice ka kl kc)) ∧ PS w4 hx kx xa xl xc Nx nd ks ka kl kc N0 w') ∧ Below W.heap.size W w' ∧ TreeV w' w'.heap.size hb kb qa ql) := fun W q =>
    (lawBare_any nd ks W W.heap.size ka kl kc (Nat.le_refl _) q.2.t2 NT.out).mono fun e w' ⟨pa, pl, pc, r1, r2, r3⟩ => by
      rw [← HB.out] at r1
      rw [← HB.out, ← KB.out] at r3
      exact ⟨pa, pl, pc, r1, (q.2.step r2).full, r2, r3.to fun b hb => by have := r2.size; rcases hb with k | k <;> omega⟩
  have cE : ∀ W, ((W.cell? ⟨Nx, 0, none⟩ = some (.int .i64 hx.kind) ∧ W.cell? ⟨Nx, 1, none⟩ = some (.int .i64 hx.op) ∧ W.cell? ⟨Nx, 2, none⟩ = some (.int .i64 hx.num) ∧ W.cell? ⟨Nx, 3, none⟩ = some (.string ⟨hx.text.toArray⟩) ∧ W.cell? ⟨Nx, 4, none⟩ = some (.int .i64 hx.ref.row) ∧ W.cell? ⟨Nx, 5, none⟩ = some (.int .i64 hx.ref.col) ∧ W.cell? ⟨Nx, 6, none⟩ = some (.bool hx.ref.pr) ∧ W.cell? ⟨Nx, 7, none⟩ = some (.bool hx.ref.pc) ∧ W.cell? ⟨Nx, 8, none⟩ = some (.int .i64 hx.to.row) ∧ W.cell? ⟨Nx, 9, none⟩ = some (.int .i64 hx.to.col) ∧ W.cell? ⟨Nx, 10, none⟩ = some (.bool hx.to.pr) ∧ W.cell? ⟨Nx, 11, none⟩ = some (.bool hx.to.pc) ∧ W.cell? ⟨Nx, 12, none⟩ = some (.int .i64 hx.fn) ∧ W.cell? ⟨Nx, 13, none⟩ = some (.slice xa xl xc) ∧ W.cell? ⟨N0, 0, none⟩ = some (.int .i64 nd.kind) ∧ W.cell? ⟨N0, 1, none⟩ = some (.int .i64 nd.op) ∧ W.cell? ⟨N0, 2, none⟩ = some (.int .i64 nd.num) ∧ W.cell? ⟨N0, 3, none⟩ = some (.string ⟨nd.text.toArray⟩) ∧ W.cell? ⟨N0, 4, none⟩ = some (.int .i64 nd.ref.row) ∧ W.cell? ⟨N0, 5, none⟩ = some (.int .i64 nd.ref.col) ∧ W.cell? ⟨N0, 6, none⟩ = some (.bool nd.ref.pr) ∧ W.cell? ⟨N0, 7, none⟩ = some (.bool nd.ref.pc) ∧ W.cell? ⟨N0, 8, none⟩ = some (.int .i64 nd.to.row) ∧ W.cell? ⟨N0, 9, none⟩ = some (.int .i64 nd.to.col) ∧ W.cell? ⟨N0, 10, none⟩ = some (.bool nd.to.pr) ∧ W.cell? ⟨N0, 11, none⟩ = some (.bool nd.to.pc) ∧ W.cell? ⟨N0, 12, none⟩ = some (.int .i64 nd.fn) ∧ W.cell? ⟨N0, 13, none⟩ = some (.slice ka kl kc)) ∧ PS w4 hx kx xa xl xc Nx nd ks ka kl kc N0 W) → ∀ pa pl pc qa ql qc, TreeV W W.heap.size hb kb pa pl → TreeV W W.heap.size hb kb qa ql → Calls Try.prog 34 #[.agg #[.int .i64 hb.kind, .int .i64 hb.op, .int .i64 hb.num, .string ⟨hb.text.toArray⟩, .int .i64 hb.ref.row, .int .i64 hb.ref.col, .bool hb.ref.pr, .bool hb.ref.pc, .int .i64 hb.to.row, .int .i64 hb.to.col, .bool hb.to.pr, .bool hb.to.pc, .int .i64 hb.fn, .slice pa pl pc], .agg #[.int .i64 hb.kind, .int .i64 hb.op, .int .i64 hb.num, .string ⟨hb.text.toArray⟩, .int .i64 hb.ref.row, .int .i64 hb.ref.col, .bool hb.ref.pr, .bool hb.ref.pc, .int .i64 hb.to.row, .int .i64 hb.to.col, .bool hb.to.pr, .bool hb.to.pc, .int .i64 hb.fn, .slice qa ql qc]] W (fun e w' => e = .returned (.bool true) ∧ ((w'.cell? ⟨Nx, 0, none⟩ = some (.int .i64 hx.kind) ∧ w'.cell? ⟨Nx, 1, none⟩ = some (.int .i64 hx.op) ∧ w'.cell? ⟨Nx, 2, none⟩ = some (.int .i64 hx.num) ∧ w'.cell? ⟨Nx, 3, none⟩ = some (.string ⟨hx.text.toArray⟩) ∧ w'.cell? ⟨Nx, 4, none⟩ = some (.int .i64 hx.ref.row) ∧ w'.cell? ⟨Nx, 5, none⟩ = some (.int .i64 hx.ref.col) ∧ w'.cell? ⟨Nx, 6, none⟩ = some (.bool hx.ref.pr) ∧ w'.cell? ⟨Nx, 7, none⟩ = some (.bool hx.ref.pc) ∧ w'.cell? ⟨Nx, 8, none⟩ = some (.int .i64 hx.to.row) ∧ w'.cell? ⟨Nx, 9, none⟩ = some (.int .i64 hx.to.col) ∧ w'.cell? ⟨Nx, 10, none⟩ = some (.bool hx.to.pr) ∧ w'.cell? ⟨Nx, 11, none⟩ = some (.bool hx.to.pc) ∧ w'.cell? ⟨Nx, 12, none⟩ = some (.int .i64 hx.fn) ∧ w'.cell? ⟨Nx, 13, none⟩ = some (.slice xa xl xc) ∧ w'.cell? ⟨N0, 0, none⟩ = some (.int .i64 nd.kind) ∧ w'.cell? ⟨N0, 1, none⟩ = some (.int .i64 nd.op) ∧ w'.cell? ⟨N0, 2, none⟩ = some (.int .i64 nd.num) ∧ w'.cell? ⟨N0, 3, none⟩ = some (.string ⟨nd.text.toArray⟩) ∧ w'.cell? ⟨N0, 4, none⟩ = some (.int .i64 nd.ref.row) ∧ w'.cell? ⟨N0, 5, none⟩ = some (.int .i64 nd.ref.col) ∧ w'.cell? ⟨N0, 6, none⟩ = some (.bool nd.ref.pr) ∧ w'.cell? ⟨N0, 7, none⟩ = some (.bool nd.ref.pc) ∧ w'.cell? ⟨N0, 8, none⟩ = some (.int .i64 nd.to.row) ∧ w'.cell? ⟨N0, 9, none⟩ = some (.int .i64 nd.to.col) ∧ w'.cell? ⟨N0, 10, none⟩ = some (.bool nd.to.pr) ∧ w'.cell? ⟨N0, 11, none⟩ = some (.bool nd.to.pc) ∧ w'.cell? ⟨N0, 12, none⟩ = some (.int .i64 nd.fn) ∧ w'.cell? ⟨N0, 13, none⟩ = some (.slice ka kl kc)) ∧ PS w4 hx kx xa xl xc Nx nd ks ka kl kc N0 w')) := fun W q pa pl pc qa ql qc t1 t2 =>
    (lawEq_yes hb hb kb kb ⟨rfl, rfl⟩ W W.heap.size W.heap.size pa qa pl pc ql qc (Nat.le_refl _) (Nat.le_refl _) t1 t2).mono fun e w' r => ⟨r.1, (q.2.step r.2).full⟩
  have CM := Lib.hid cM; have CX := Lib.hid cX; have CT := Lib.hid cT; have CEQ := Lib.hid cE
  clear cM cX cT cE
  have hd0 := P.out.full
  have hd1 := (P.out.step (Below.refl _ _).drew).full
  refine (fun (key : ∀ (W : World) (pa : Option Addr) (pl pc : Nat) (qa : Option Addr) (ql qc : Nat), PS w4 hx kx xa xl xc Nx nd ks ka kl kc N0 W → (?KeyQ : World → Option Addr → Nat → Nat → Option Addr → Nat → Nat → Prop) W pa pl pc qa ql qc) => ?kmain) ?klater
  case kmain =>
    go_region_held3 (fun W => ((W.cell? ⟨Nx, 0, none⟩ = some (.int .i64 hx.kind) ∧ W.cell? ⟨Nx, 1, none⟩ = some (.int .i64 hx.op) ∧ W.cell? ⟨Nx, 2, none⟩ = some (.int .i64 hx.num) ∧ W.cell? ⟨Nx, 3, none⟩ = some (.string ⟨hx.text.toArray⟩) ∧ W.cell? ⟨Nx, 4, none⟩ = some (.int .i64 hx.ref.row) ∧ W.cell? ⟨Nx, 5, none⟩ = some (.int .i64 hx.ref.col) ∧ W.cell? ⟨Nx, 6, none⟩ = some (.bool hx.ref.pr) ∧ W.cell? ⟨Nx, 7, none⟩ = some (.bool hx.ref.pc) ∧ W.cell? ⟨Nx, 8, none⟩ = some (.int .i64 hx.to.row) ∧ W.cell? ⟨Nx, 9, none⟩ = some (.int .i64 hx.to.col) ∧ W.cell? ⟨Nx, 10, none⟩ = some (.bool hx.to.pr) ∧ W.cell? ⟨Nx, 11, none⟩ = some (.bool hx.to.pc) ∧ W.cell? ⟨Nx, 12, none⟩ = some (.int .i64 hx.fn) ∧ W.cell? ⟨Nx, 13, none⟩ = some (.slice xa xl xc) ∧ W.cell? ⟨N0, 0, none⟩ = some (.int .i64 nd.kind) ∧ W.cell? ⟨N0, 1, none⟩ = some (.int .i64 nd.op) ∧ W.cell? ⟨N0, 2, none⟩ = some (.int .i64 nd.num) ∧ W.cell? ⟨N0, 3, none⟩ = some (.string ⟨nd.text.toArray⟩) ∧ W.cell? ⟨N0, 4, none⟩ = some (.int .i64 nd.ref.row) ∧ W.cell? ⟨N0, 5, none⟩ = some (.int .i64 nd.ref.col) ∧ W.cell? ⟨N0, 6, none⟩ = some (.bool nd.ref.pr) ∧ W.cell? ⟨N0, 7, none⟩ = some (.bool nd.ref.pc) ∧ W.cell? ⟨N0, 8, none⟩ = some (.int .i64 nd.to.row) ∧ W.cell? ⟨N0, 9, none⟩ = some (.int .i64 nd.to.col) ∧ W.cell? ⟨N0, 10, none⟩ = some (.bool nd.to.pr) ∧ W.cell? ⟨N0, 11, none⟩ = some (.bool nd.to.pc) ∧ W.cell? ⟨N0, 12, none⟩ = some (.int .i64 nd.fn) ∧ W.cell? ⟨N0, 13, none⟩ = some (.slice ka kl kc)) ∧ PS w4 hx kx xa xl xc Nx nd ks ka kl kc N0 W)) (first | with_reducible assumption | with_reducible exact hd0 | with_reducible exact hd1 | exact hS') (first
      | (go_at_call 23
         with_reducible refine (CM.out _ (by assumption)).mono ?_
         rintro e w' ⟨rfl, hS'⟩)
      | (go_at_call 38
         with_reducible refine (CX.out _ (by assumption)).mono ?_
         rintro e w' ⟨pa, pl, pc, rfl, hS', bX, tX⟩
         try (have tT := (tT.kept bX (Nat.le_refl _)).mono bX.size))
      | (go_at_call 38
         with_reducible refine (CT.out _ (by assumption)).mono ?_
         rintro e w' ⟨qa, ql, qc, rfl, hS', bX, tT⟩
         try (have tX := (tX.kept bX (Nat.le_refl _)).mono bX.size))
      | (go_at_call 34
         with_reducible refine (CEQ.out _ (by assumption) _ _ _ _ _ _ tX tT).mono ?_
         rintro e w' ⟨rfl, hS'⟩))
    all_goals exact key w' pa pl pc qa ql qc hS'.2
  case klater =>
    clear hd0 hd1 CM CX CT CEQ HB KB HBX KBX P
    intro W pa pl pc qa ql qc p
    obtain ⟨a0, a1⟩ : -9223372036854775808 ≤ a ∧ a ≤ 9223372036854775807 := h1
    obtain ⟨b0, b1⟩ : -9223372036854775808 ≤ b ∧ b ≤ 9223372036854775807 := h2
    have BB := Lib.hid (BB.out.trans (p.bel.mono BB.out.size))
    have k1 := cells_of_block p.b1
    have k2 := cells_of_block p.b2
    have P := Lib.hid p
    clear p
    go_wp2_with fail
    clear k1 k2
    refine (lost_any hx nd kx ks W W.heap.size W.heap.size xa ka xl xc kl kc (Nat.le_refl _) (Nat.le_refl _) P.out.t1 P.out.t2 NX.out NT.out).mono ?_
    rintro e w5 ⟨rfl, b5⟩
    have P := Lib.hid (P.out.step b5)
    have BB := Lib.hid (BB.out.trans (b5.mono BB.out.size))
    clear b5
    have L := HL.out
    have am := HAM.out; have bm := HBM.out
    have SR := Lib.hid (show refsOf (mvH ⟨1, a, b, 0, 0⟩ nd) (mvK ⟨1, a, b, 0, 0⟩ ks) = refsOf nd ks by rw [← HX0.out, ← KX.out]; exact L)
    rw [show decide (refsOf hx kx ≠ refsOf nd ks) = false by simp [L]]
    clear L
    subst bm
    have k1 := cells_of_block P.out.b1
    have k2 := cells_of_block P.out.b2
    have cb := paste_ex hx kx (-a) (wrap64 9223372036854775808) MX.out (by first | (simp only [I64]; omega) | (unfold I64; decide +kernel)) (by first | (simp only [I64]; omega) | (unfold I64; decide +kernel)) w5 w5.heap.size xa xl xc (Nat.le_refl _) P.out.t1
    have CB := Lib.hid cb
    clear cb
    go_wp2_with fail
    clear k1 k2
    with_reducible refine CB.out.mono ?_
    rintro e w6 ⟨b6, g1, gk1, ga, gl, gc, hg1, hk1, rfl, t6⟩
    have q6 := ext_alloc b6 (.cells #[.int .i64 g1.kind, .int .i64 g1.op, .int .i64 g1.num, .string ⟨g1.text.toArray⟩, .int .i64 g1.ref.row, .int .i64 g1.ref.col, .bool g1.ref.pr, .bool g1.ref.pc, .int .i64 g1.to.row, .int .i64 g1.to.col, .bool g1.to.pr, .bool g1.to.pc, .int .i64 g1.fn, .slice ga gl gc] 29)
    have P := Lib.hid (P.out.step q6)
    have BB := Lib.hid (BB.out.trans (q6.mono BB.out.size))
    clear t6 hg1 hk1 CB b6 q6
    have k1 := cells_of_block P.out.b1
    have cy := paste_ex hx kx c d MX.out h3 h4 (w6.alloc (.cells #[.int .i64 g1.kind, .int .i64 g1.op, .int .i64 g1.num, .string ⟨g1.text.toArray⟩, .int .i64 g1.ref.row, .int .i64 g1.ref.col, .bool g1.ref.pr, .bool g1.ref.pc, .int .i64 g1.to.row, .int .i64 g1.to.col, .bool g1.to.pr, .bool g1.to.pc, .int .i64 g1.fn, .slice ga gl gc] 29)) (w6.alloc (.cells #[.int .i64 g1.kind, .int .i64 g1.op, .int .i64 g1.num, .string ⟨g1.text.toArray⟩, .int .i64 g1.ref.row, .int .i64 g1.ref.col, .bool g1.ref.pr, .bool g1.ref.pc, .int .i64 g1.to.row, .int .i64 g1.to.col, .bool g1.to.pr, .bool g1.to.pc, .int .i64 g1.fn, .slice ga gl gc] 29)).heap.size xa xl xc (Nat.le_refl _) P.out.t1
    have CY := Lib.hid cy
    clear cy
    go_wp2_with fail
    clear k1
    with_reducible refine CY.out.mono ?_
    rintro e w8 ⟨b8, g2, gk2, ya, yl, yc, hg2, hk2, rfl, t8⟩
    have q8 := ext_alloc b8 (.cells #[.int .i64 g2.kind, .int .i64 g2.op, .int .i64 g2.num, .string ⟨g2.text.toArray⟩, .int .i64 g2.ref.row, .int .i64 g2.ref.col, .bool g2.ref.pr, .bool g2.ref.pc, .int .i64 g2.to.row, .int .i64 g2.to.col, .bool g2.to.pr, .bool g2.to.pc, .int .i64 g2.fn, .slice ya yl yc] 29)
    have P := Lib.hid (P.out.step q8)
    have BB := Lib.hid (BB.out.trans (q8.mono BB.out.size))
    have t8 := (t8.kept (ext_alloc (Below.refl _ w8) (.cells #[.int .i64 g2.kind, .int .i64 g2.op, .int .i64 g2.num, .string ⟨g2.text.toArray⟩, .int .i64 g2.ref.row, .int .i64 g2.ref.col, .bool g2.ref.pr, .bool g2.ref.pc, .int .i64 g2.to.row, .int .i64 g2.to.col, .bool g2.to.pr, .bool g2.to.pc, .int .i64 g2.fn, .slice ya yl yc] 29)) (Nat.le_refl _)).mono (by simp : w8.heap.size ≤ (w8.alloc (.cells #[.int .i64 g2.kind, .int .i64 g2.op, .int .i64 g2.num, .string ⟨g2.text.toArray⟩, .int .i64 g2.ref.row, .int .i64 g2.ref.col, .bool g2.ref.pr, .bool g2.ref.pc, .int .i64 g2.to.row, .int .i64 g2.to.col, .bool g2.to.pr, .bool g2.to.pc, .int .i64 g2.fn, .slice ya yl yc] 29)).heap.size)
    have H8 := Lib.hid (heap_alloc_new w8 (.cells #[.int .i64 g2.kind, .int .i64 g2.op, .int .i64 g2.num, .string ⟨g2.text.toArray⟩, .int .i64 g2.ref.row, .int .i64 g2.ref.col, .bool g2.ref.pr, .bool g2.ref.pc, .int .i64 g2.to.row, .int .i64 g2.to.col, .bool g2.to.pr, .bool g2.to.pc, .int .i64 g2.fn, .slice ya yl yc] 29))
    have T8 := Lib.hid t8
    have HG2 := Lib.hid hg2; have HK2 := Lib.hid hk2
    clear b8 q8 t8 CY hg2 hk2
    by_cases k1 : 1099511627776 < a
    · go_wp2
      go_ret
      exact ⟨rfl, BB.out⟩
    · by_cases k2 : a < -1099511627776
      · go_wp2
        go_ret
        exact ⟨rfl, BB.out⟩
      · go_wp2
        go_ret
        exact ⟨rfl, BB.out⟩

end Go.Proofs.Ytkjfeakbhfkldaa
