/- Shifting: ShiftBack, cols, lost. -/
import Derived.Test.YtkjfeakbhfkldaaMhP
namespace Go.Proofs.Ytkjfeakbhfkldaa
open Go.RowKit

set_option maxRecDepth 100000 in
set_option maxHeartbeats 4000000 in
theorem back_cols_al (nd : Hd) (ks : Trees) (at_ n : Int) (w : World) (B : Nat) (ka : Option Addr) (kl kc : Nat) (hB : B ≤ w.heap.size) (tv : TreeV w B nd ks ka kl) (so : (smallB nd ks && decide (mayE nd ks = 0)) = true) (n1 : 1 ≤ n) (n2 : n ≤ 70000) (a1 : 0 ≤ at_) (a2 : at_ < 702) (ah : aheadB 1 at_ nd ks = true) (L : ¬ refsOf (mvH ⟨3, 0, 0, at_, n⟩ nd) (mvK ⟨3, 0, 0, at_, n⟩ ks) = refsOf nd ks) : Calls Try.prog 12 #[.agg #[.int .i64 nd.kind, .int .i64 nd.op, .int .i64 nd.num, .string ⟨nd.text.toArray⟩, .int .i64 nd.ref.row, .int .i64 nd.ref.col, .bool nd.ref.pr, .bool nd.ref.pc, .int .i64 nd.to.row, .int .i64 nd.to.col, .bool nd.to.pr, .bool nd.to.pc, .int .i64 nd.fn, .slice ka kl kc], .int .i64 at_, .int .i64 n, .bool true] w (TruePost w) := by
  have hm : mayE nd ks = 0 := by simp only [Bool.and_eq_true, decide_eq_true_eq] at so; exact so.2
  have MT := Lib.hid hm
  have FT := Lib.hid (may_fits hm)
  have F0 := mayE_fine hm
  have NT := Lib.hid (show ks.nodes ≤ 100000 by have := F0.1; omega)
  have RG := Lib.hid (show 0 ≤ at_ ∧ at_ < 702 from ⟨a1, a2⟩)
  have HA := Lib.hid ah
  obtain ⟨hx, HX⟩ : ∃ hx, Hid (hx = mvH ⟨3, 0, 0, at_, n⟩ nd) := ⟨_, Lib.hid rfl⟩
  obtain ⟨kx, KX⟩ : ∃ kx, Hid (kx = mvK ⟨3, 0, 0, at_, n⟩ ks) := ⟨_, Lib.hid rfl⟩
  rw [← HX.out, ← KX.out] at L
  have HL := Lib.hid L
  clear L ah
  have MX := Lib.hid (show mayE hx kx = 0 by rw [HX.out, KX.out]; exact may_mv hm)
  have NX := Lib.hid (show kx.nodes ≤ 100000 by rw [KX.out, nodes_mv]; exact NT.out)
  obtain ⟨hb, HB⟩ : ∃ hb, Hid (hb = bareH nd) := ⟨_, Lib.hid rfl⟩
  obtain ⟨kb, KB⟩ : ∃ kb, Hid (kb = bareK nd ks) := ⟨_, Lib.hid rfl⟩
  have HBX := Lib.hid (show bareH hx = hb by rw [HX.out, HB.out, bareH_mv])
  have KBX := Lib.hid (show bareK hx kx = kb by rw [HX.out, KX.out, KB.out, bareK_mv])
  clear hm F0
  have q0 := ext_alloc (Below.refl w.heap.size w) (.cells #[.int .i64 nd.kind, .int .i64 nd.op, .int .i64 nd.num, .string ⟨nd.text.toArray⟩, .int .i64 nd.ref.row, .int .i64 nd.ref.col, .bool nd.ref.pr, .bool nd.ref.pc, .int .i64 nd.to.row, .int .i64 nd.to.col, .bool nd.to.pr, .bool nd.to.pc, .int .i64 nd.fn, .slice ka kl kc] 29)
  have BB := Lib.hid q0
  have H0 := Lib.hid (heap_alloc_new w (.cells #[.int .i64 nd.kind, .int .i64 nd.op, .int .i64 nd.num, .string ⟨nd.text.toArray⟩, .int .i64 nd.ref.row, .int .i64 nd.ref.col, .bool nd.ref.pr, .bool nd.ref.pc, .int .i64 nd.to.row, .int .i64 nd.to.col, .bool nd.to.pr, .bool nd.to.pc, .int .i64 nd.fn, .slice ka kl kc] 29))
  have T0 := Lib.hid ((tv.kept (q0.mono hB) (Nat.le_refl _)).mono (Nat.le_trans hB q0.size))
  clear q0 tv
  go_enter Try.func12, Try.ntmps12
  go_wp2_with fail
  refine (lawBegun_any _).mono ?_
  rintro e w1 ⟨rfl, b1⟩
  have BB := Lib.hid (BB.out.trans (b1.mono BB.out.size))
  have T0 := Lib.hid ((T0.out.kept b1 (Nat.le_refl _)).mono b1.size)
  have H0 := Lib.hid ((b1.block _ (lt_of_block H0.out)).trans H0.out)
  clear b1
  go_wp2_with (refine wpList_load_E (w := w1) rfl rfl rfl H0.out rfl ?_)
  refine (sound_any nd ks w1 w1.heap.size ka kl kc (Nat.le_refl _) T0.out).mono ?_
  rintro e w2 ⟨rfl, b2⟩
  have BB := Lib.hid (BB.out.trans (b2.mono BB.out.size))
  have T0 := Lib.hid ((T0.out.kept b2 (Nat.le_refl _)).mono b2.size)
  have H0 := Lib.hid ((b2.block _ (lt_of_block H0.out)).trans H0.out)
  clear b2
  generalize w.heap.size = N0 at H0 ⊢
  rw [so]
  clear so
  have NO := Lib.hid (show w.heap.size ≤ w2.heap.size from BB.out.size)
  have N0O := Lib.hid (show N0 ≠ w2.heap.size by have := lt_of_block H0.out; omega)
  go_wp2_with (first
  | (refine wpList_load_E (w := w2) rfl rfl rfl H0.out rfl ?_)
  | (refine wpList_load_E (w := (wo.setCell ⟨w2.heap.size, 0, none⟩ (.int .i64 3))) rfl rfl rfl HW.out rfl ?_)
  | (refine wpList_load_O (w := (wo.setCell ⟨w2.heap.size, 0, none⟩ (.int .i64 3))) rfl rfl rfl HO.out rfl ?_)
  | (refine wpList_store_blk (vs := [.int .i64 2, .int .i64 nd.kind, .int .i64 nd.op, .int .i64 nd.num, .string ⟨nd.text.toArray⟩, .int .i64 nd.ref.row, .int .i64 nd.ref.col, .bool nd.ref.pr, .bool nd.ref.pc, .int .i64 nd.to.row, .int .i64 nd.to.col, .bool nd.to.pr, .bool nd.to.pc, .int .i64 nd.fn, .slice ka kl kc, .int .i64 at_, .int .i64 n]) infoOp12 rfl rfl rfl rfl (heap_alloc_new w2 (.cells #[.int .i64 0, .int .i64 0, .int .i64 0, .int .i64 0, .string ⟨#[]⟩, .int .i64 0, .int .i64 0, .bool false, .bool false, .int .i64 0, .int .i64 0, .bool false, .bool false, .int .i64 0, .slice none 0 0, .int .i64 0, .int .i64 0] 60)) (by simp) rfl (by simp [Value.oneCell']) ?_
     intro wo hwo
     have ho : wo.heap[w2.heap.size]? = some (.cells #[.int .i64 2, .int .i64 nd.kind, .int .i64 nd.op, .int .i64 nd.num, .string ⟨nd.text.toArray⟩, .int .i64 nd.ref.row, .int .i64 nd.ref.col, .bool nd.ref.pr, .bool nd.ref.pc, .int .i64 nd.to.row, .int .i64 nd.to.col, .bool nd.to.pr, .bool nd.to.pc, .int .i64 nd.fn, .slice ka kl kc, .int .i64 at_, .int .i64 n] 60 (0, 0)) := by rw [hwo]; exact setCells_all (vs := [.int .i64 2, .int .i64 nd.kind, .int .i64 nd.op, .int .i64 nd.num, .string ⟨nd.text.toArray⟩, .int .i64 nd.ref.row, .int .i64 nd.ref.col, .bool nd.ref.pr, .bool nd.ref.pc, .int .i64 nd.to.row, .int .i64 nd.to.col, .bool nd.to.pr, .bool nd.to.pc, .int .i64 nd.fn, .slice ka kl kc, .int .i64 at_, .int .i64 n]) (heap_alloc_new w2 (.cells #[.int .i64 0, .int .i64 0, .int .i64 0, .int .i64 0, .string ⟨#[]⟩, .int .i64 0, .int .i64 0, .bool false, .bool false, .int .i64 0, .int .i64 0, .bool false, .bool false, .int .i64 0, .slice none 0 0, .int .i64 0, .int .i64 0] 60)) rfl
     have hbo : Below w2.heap.size w2 wo := by rw [hwo]; exact setCells_below (Nat.le_refl _) _ _ (ext_alloc (Below.refl _ w2) _)
     have h0 := (hbo.block _ (lt_of_block H0.out)).trans H0.out
     have co := cells_of_block ho
     have fo := frees_of_block ho
     have h3 : (wo.setCell ⟨w2.heap.size, 0, none⟩ (.int .i64 3)).heap[w2.heap.size]? = some (.cells #[.int .i64 3, .int .i64 nd.kind, .int .i64 nd.op, .int .i64 nd.num, .string ⟨nd.text.toArray⟩, .int .i64 nd.ref.row, .int .i64 nd.ref.col, .bool nd.ref.pr, .bool nd.ref.pc, .int .i64 nd.to.row, .int .i64 nd.to.col, .bool nd.to.pr, .bool nd.to.pc, .int .i64 nd.fn, .slice ka kl kc, .int .i64 at_, .int .i64 n] 60 (0, 0)) := block_set ho (i := 0) (.int .i64 3)
     have h03 : (wo.setCell ⟨w2.heap.size, 0, none⟩ (.int .i64 3)).heap[N0]? = some (.cells #[.int .i64 nd.kind, .int .i64 nd.op, .int .i64 nd.num, .string ⟨nd.text.toArray⟩, .int .i64 nd.ref.row, .int .i64 nd.ref.col, .bool nd.ref.pr, .bool nd.ref.pc, .int .i64 nd.to.row, .int .i64 nd.to.col, .bool nd.to.pr, .bool nd.to.pc, .int .i64 nd.fn, .slice ka kl kc] 29) := (Below.heap_setCell _ _ _ _ (by have := lt_of_block H0.out; simp; omega)).trans h0
     have hbo := hbo.setCell (p := ⟨w2.heap.size, 0, none⟩) (Nat.le_refl _) (.int .i64 3)
     have ho := h3
     have h0 := h03
     have HO := Lib.hid ho
     have HW := Lib.hid h0
     have BO := Lib.hid hbo
     clear hwo ho h0 hbo h3 h03))
  clear co fo
  generalize (wo.setCell ⟨w2.heap.size, 0, none⟩ (.int .i64 3)) = wc at HO HW BO ⊢
  have TC := Lib.hid ((T0.out.kept BO.out (Nat.le_refl _)).mono BO.out.size)
  have BB := Lib.hid (BB.out.trans (BO.out.mono BB.out.size))
  refine (callx_cols nd ks at_ n MT.out (by unfold I64; omega) (by unfold I64; omega) RG.out wc wc.heap.size wc.heap.size ka ka kl kc kl kc (Nat.le_refl _) (Nat.le_refl _) TC.out TC.out).mono ?_
  rintro e w3 ⟨g, gk, xa, qa, xl, xc, ql, qc, F, hg, hk, rfl, b3, fr, tx⟩
  have a8 : A8 wc w3.heap.size (w3.heap.size + 1) #[.int .i64 0, .int .i64 0, .int .i64 0, .string ⟨#[]⟩, .int .i64 0, .int .i64 0, .bool false, .bool false, .int .i64 0, .int .i64 0, .bool false, .bool false, .int .i64 0, .slice none 0 0] #[.int .i64 0, .int .i64 0, .int .i64 0, .string ⟨#[]⟩, .int .i64 0, .int .i64 0, .bool false, .bool false, .int .i64 0, .int .i64 0, .bool false, .bool false, .int .i64 0, .slice none 0 0] g gk xa xl xc qa ql ((w3.alloc (.cells #[.int .i64 0, .int .i64 0, .int .i64 0, .string ⟨#[]⟩, .int .i64 0, .int .i64 0, .bool false, .bool false, .int .i64 0, .int .i64 0, .bool false, .bool false, .int .i64 0, .slice none 0 0] 29)).alloc (.cells #[.int .i64 0, .int .i64 0, .int .i64 0, .string ⟨#[]⟩, .int .i64 0, .int .i64 0, .bool false, .bool false, .int .i64 0, .int .i64 0, .bool false, .bool false, .int .i64 0, .slice none 0 0] 29)) := A8.of (w3 := wc) (W1 := wc) fr tx (Nat.le_refl _) (ext_alloc (ext_alloc b3 _) _) b3.size (fun b hb => (Below.heap_alloc _ _ _ (by simp; omega)).trans (Below.heap_alloc _ _ _ hb)) (by simp; omega) ⟨b3.size, .inr (Nat.le_refl _)⟩ ⟨by have := b3.size; omega, .inr (by omega)⟩ (by omega) (heap_alloc2_old w3 (.cells #[.int .i64 0, .int .i64 0, .int .i64 0, .string ⟨#[]⟩, .int .i64 0, .int .i64 0, .bool false, .bool false, .int .i64 0, .int .i64 0, .bool false, .bool false, .int .i64 0, .slice none 0 0] 29) (.cells #[.int .i64 0, .int .i64 0, .int .i64 0, .string ⟨#[]⟩, .int .i64 0, .int .i64 0, .bool false, .bool false, .int .i64 0, .int .i64 0, .bool false, .bool false, .int .i64 0, .slice none 0 0] 29)) (heap_alloc2_new w3 (.cells #[.int .i64 0, .int .i64 0, .int .i64 0, .string ⟨#[]⟩, .int .i64 0, .int .i64 0, .bool false, .bool false, .int .i64 0, .int .i64 0, .bool false, .bool false, .int .i64 0, .slice none 0 0] 29) (.cells #[.int .i64 0, .int .i64 0, .int .i64 0, .string ⟨#[]⟩, .int .i64 0, .int .i64 0, .bool false, .bool false, .int .i64 0, .int .i64 0, .bool false, .bool false, .int .i64 0, .slice none 0 0] 29))
  have A8_ := Lib.hid a8
  clear b3 fr tx a8
  obtain rfl : hx = g := HX.out.trans hg.symm
  obtain rfl : kx = gk := KX.out.trans hk.symm
  clear hg hk
  go_wp2_with (first
  | (refine wpList_store_blk (vs := [.int .i64 hx.kind, .int .i64 hx.op, .int .i64 hx.num, .string ⟨hx.text.toArray⟩, .int .i64 hx.ref.row, .int .i64 hx.ref.col, .bool hx.ref.pr, .bool hx.ref.pc, .int .i64 hx.to.row, .int .i64 hx.to.col, .bool hx.to.pr, .bool hx.to.pc, .int .i64 hx.fn, .slice xa xl xc]) infoExprS rfl rfl rfl rfl A8_.out.b5 (by simp) rfl (by simp [Value.oneCell']) ?_
     intro wx hwx
     have A9_ := Lib.hid (show A8 _ _ _ _ _ _ _ _ _ _ _ _ wx by rw [hwx]; exact A8_.out.set5 (vs := [.int .i64 hx.kind, .int .i64 hx.op, .int .i64 hx.num, .string ⟨hx.text.toArray⟩, .int .i64 hx.ref.row, .int .i64 hx.ref.col, .bool hx.ref.pr, .bool hx.ref.pc, .int .i64 hx.to.row, .int .i64 hx.to.col, .bool hx.to.pr, .bool hx.to.pc, .int .i64 hx.fn, .slice xa xl xc]) rfl)
     clear hwx)
  | (refine wpList_store_blk (vs := [.int .i64 hx.kind, .int .i64 hx.op, .int .i64 hx.num, .string ⟨hx.text.toArray⟩, .int .i64 hx.ref.row, .int .i64 hx.ref.col, .bool hx.ref.pr, .bool hx.ref.pc, .int .i64 hx.to.row, .int .i64 hx.to.col, .bool hx.to.pr, .bool hx.to.pc, .int .i64 hx.fn, .slice qa ql qc]) infoExprS rfl rfl rfl rfl A9_.out.b7 (by simp) rfl (by simp [Value.oneCell']) ?_
     intro w4 hw4
     have A10_ := Lib.hid (show A8 _ _ _ _ _ _ _ _ _ _ _ _ w4 by rw [hw4]; exact A9_.out.set7 (vs := [.int .i64 hx.kind, .int .i64 hx.op, .int .i64 hx.num, .string ⟨hx.text.toArray⟩, .int .i64 hx.ref.row, .int .i64 hx.ref.col, .bool hx.ref.pr, .bool hx.ref.pc, .int .i64 hx.to.row, .int .i64 hx.to.col, .bool hx.to.pr, .bool hx.to.pc, .int .i64 hx.fn, .slice qa ql qc]) rfl)
     clear hw4))
  have p0 : PQ w4 w2.heap.size hx kx xa xl xc w3.heap.size nd ks ka kl kc N0 w4 := by
    have A := A10_.out
    have hbo := BO.out.size
    refine ⟨Below.refl _ _, A.b5, (A.bel.block _ (lt_of_block HW.out)).trans HW.out, A.ok, ?_, ?_⟩
    · obtain ⟨F, f, -, hF⟩ := A.fr
      have := lt_of_block HO.out
      exact ⟨F, f, fun b hb => ⟨(hF b hb).2.1, by have := hF b hb; omega⟩⟩
    · exact (TreeX.of T0.out (ok := fun b => b < w2.heap.size) fun b hb => hb).kept fun b hb => ⟨⟨Nat.lt_of_lt_of_le (Nat.lt_of_lt_of_le hb hbo) A.bel.size, by omega⟩, (A.bel.block b (by omega)).trans (BO.out.block b hb)⟩
  have bb := BB.out.trans (A10_.out.bel.mono BB.out.size)
  have ho := (A10_.out.bel.block _ (lt_of_block HO.out)).trans HO.out
  have no := NO.out; have n0o := N0O.out
  have nxo : w3.heap.size ≠ w2.heap.size := by have := A10_.out.n5; have := lt_of_block HO.out; omega
  clear A8_ A9_ A10_ BB HO HW BO TC T0 NO N0O H0
  generalize w3.heap.size = Nx at p0 nxo ⊢
  generalize w2.heap.size = No at p0 ho no n0o nxo ⊢
  have P := Lib.hid p0; have BB := Lib.hid bb; have B4 := Lib.hid bb; have HO := Lib.hid ho; have NO := Lib.hid no; have N0O := Lib.hid n0o; have NXO := Lib.hid nxo
  clear p0 bb ho no n0o nxo
  go_wp2_with fail
  refine wp_region_noPanic ?_
  refine wp_region_held_drew (S := fun W => PQ w4 No hx kx xa xl xc Nx nd ks ka kl kc N0 W) (by kernel_rfl) (P.out.step (Below.refl _ _).drew) (fun hS1 => ?_)
  refine wpAnyH_take (i := 0) (oi := { dst := some 68, op := Go.Op.load 29 (Go.Operand.tmp 10), type := 29, pos := "law.go:201", after := #[], guard := none }) (v := (.agg #[.int .i64 hx.kind, .int .i64 hx.op, .int .i64 hx.num, .string ⟨hx.text.toArray⟩, .int .i64 hx.ref.row, .int .i64 hx.ref.col, .bool hx.ref.pr, .bool hx.ref.pc, .int .i64 hx.to.row, .int .i64 hx.to.col, .bool hx.to.pr, .bool hx.to.pc, .int .i64 hx.fn, .slice xa xl xc])) rfl (by kernel_rfl) (by kernel_rfl) (by kernel_rfl) (fun _ _ _ h => h) (yieldsIf_load_mid (by rfl) 29 _ rfl Nx 0 rfl [.int .i64 hx.kind, .int .i64 hx.op, .int .i64 hx.num, .string ⟨hx.text.toArray⟩, .int .i64 hx.ref.row, .int .i64 hx.ref.col, .bool hx.ref.pr, .bool hx.ref.pc, .int .i64 hx.to.row, .int .i64 hx.to.col, .bool hx.to.pr, .bool hx.to.pc, .int .i64 hx.fn, .slice xa xl xc] _ (fun W hW => fun o v h => by rw [cells_of_block hW.b1, ← h]; simp) Try.underlying29 rfl infoExprS) hS1 ?_
  try simp only [Act.put, List.setIfInBounds_toArray, List.set_cons_zero, List.set_cons_succ]
  refine wpAnyH_ready (rs := [1]) (by kernel_rfl) (by simp) ?_
  refine AllReadyH.cons (o := { dst := some 69, op := Go.Op.call { callee := Go.Callee.value (Go.Operand.func 23), args := #[Go.Operand.tmp 68], argTypes := #[29] }, type := 38, pos := "law.go:201", after := #[{ on := 0, ground := Go.Ground.data }], guard := none }) rfl (fun K hK => ?_) AllReadyH.nil
  refine wanted_wp (by rfl) ?_
  go_simp
  go_at_call 23
  with_reducible refine (may_any hx kx _ _ xa xl xc (Nat.le_refl _) hS1.t1).mono ?_
  rintro e w' ⟨he, bq⟩
  rw [MX.out] at he
  obtain rfl := he
  refine hK.out _ _ (hS1.step bq) (fun hS1 => ?_)
  clear hK K bq
  try simp only [Act.put, List.setIfInBounds_toArray, List.set_cons_zero, List.set_cons_succ]
  refine wpAnyH_take (i := 2) (oi := { dst := some 70, op := Go.Op.binOp Go.BinOp.neq 38 (Go.Operand.tmp 69) (Go.Operand.const (Go.Value.int Go.IntKind.i64 0)) 38, type := 4, pos := "law.go:201", after := #[{ on := 1, ground := Go.Ground.data }], guard := none }) (v := (.bool false)) rfl (by kernel_rfl) (by kernel_rfl) (by kernel_rfl) (fun _ _ _ h => h) (Or.inl ⟨by rfl, fun W hW => by first | (go_simp; done) | (go_simp; with_reducible rfl)⟩) hS1 ?_
  try simp only [Act.put, List.setIfInBounds_toArray, List.set_cons_zero, List.set_cons_succ]
  refine wpAnyH_take (i := 3) (oi := { dst := some 71, op := Go.Op.move (Go.Operand.tmp 70), type := 4, pos := "law.go:201", after := #[{ on := 2, ground := Go.Ground.data }, { on := 1, ground := Go.Ground.chain }], guard := none }) (v := (.bool false)) rfl (by kernel_rfl) (by kernel_rfl) (by kernel_rfl) (fun _ _ _ h => h) (Or.inl ⟨by rfl, fun W hW => by first | (go_simp; done) | (go_simp; with_reducible rfl)⟩) hS1 ?_
  try simp only [Act.put, List.setIfInBounds_toArray, List.set_cons_zero, List.set_cons_succ]
  refine wpAnyH_take (i := 4) (oi := { dst := some 72, op := Go.Op.load 29 (Go.Operand.tmp 10), type := 29, pos := "law.go:201", after := #[{ on := 3, ground := Go.Ground.guard }], guard := some (3, false) }) (v := (.agg #[.int .i64 hx.kind, .int .i64 hx.op, .int .i64 hx.num, .string ⟨hx.text.toArray⟩, .int .i64 hx.ref.row, .int .i64 hx.ref.col, .bool hx.ref.pr, .bool hx.ref.pc, .int .i64 hx.to.row, .int .i64 hx.to.col, .bool hx.to.pr, .bool hx.to.pc, .int .i64 hx.fn, .slice xa xl xc])) rfl (by kernel_rfl) (by kernel_rfl) (by kernel_rfl) (fun _ _ _ h => h) (yieldsIf_load_mid (by rfl) 29 _ rfl Nx 0 rfl [.int .i64 hx.kind, .int .i64 hx.op, .int .i64 hx.num, .string ⟨hx.text.toArray⟩, .int .i64 hx.ref.row, .int .i64 hx.ref.col, .bool hx.ref.pr, .bool hx.ref.pc, .int .i64 hx.to.row, .int .i64 hx.to.col, .bool hx.to.pr, .bool hx.to.pc, .int .i64 hx.fn, .slice xa xl xc] _ (fun W hW => fun o v h => by rw [cells_of_block hW.b1, ← h]; simp) Try.underlying29 rfl infoExprS) hS1 ?_
  try simp only [Act.put, List.setIfInBounds_toArray, List.set_cons_zero, List.set_cons_succ]
  refine wpAnyH_take (i := 6) (oi := { dst := some 74, op := Go.Op.load 29 (Go.Operand.tmp 4), type := 29, pos := "law.go:201", after := #[{ on := 3, ground := Go.Ground.guard }], guard := some (3, false) }) (v := (.agg #[.int .i64 nd.kind, .int .i64 nd.op, .int .i64 nd.num, .string ⟨nd.text.toArray⟩, .int .i64 nd.ref.row, .int .i64 nd.ref.col, .bool nd.ref.pr, .bool nd.ref.pc, .int .i64 nd.to.row, .int .i64 nd.to.col, .bool nd.to.pr, .bool nd.to.pc, .int .i64 nd.fn, .slice ka kl kc])) rfl (by kernel_rfl) (by kernel_rfl) (by kernel_rfl) (fun _ _ _ h => h) (yieldsIf_load_mid (by rfl) 29 _ rfl N0 0 rfl [.int .i64 nd.kind, .int .i64 nd.op, .int .i64 nd.num, .string ⟨nd.text.toArray⟩, .int .i64 nd.ref.row, .int .i64 nd.ref.col, .bool nd.ref.pr, .bool nd.ref.pc, .int .i64 nd.to.row, .int .i64 nd.to.col, .bool nd.to.pr, .bool nd.to.pc, .int .i64 nd.fn, .slice ka kl kc] _ (fun W hW => fun o v h => by rw [cells_of_block hW.b2, ← h]; simp) Try.underlying29 rfl infoExprS) hS1 ?_
  try simp only [Act.put, List.setIfInBounds_toArray, List.set_cons_zero, List.set_cons_succ]
  refine wpAnyH_ready (rs := [5]) (by kernel_rfl) (by simp) ?_
  refine AllReadyH.cons (o := { dst := some 73, op := Go.Op.call { callee := Go.Callee.value (Go.Operand.func 38), args := #[Go.Operand.tmp 72], argTypes := #[29] }, type := 29, pos := "law.go:201", after := #[{ on := 4, ground := Go.Ground.data }, { on := 3, ground := Go.Ground.chain }, { on := 3, ground := Go.Ground.guard }], guard := some (3, false) }) rfl (fun K hK => ?_) AllReadyH.nil
  refine wanted_wp (by rfl) ?_
  go_simp
  go_at_call 38
  have cb := lawBare_any hx kx _ _ xa xl xc (Nat.le_refl _) hS1.t1 NX.out
  with_reducible refine cb.mono ?_
  clear cb
  rintro e w' ⟨pa, pl, pc, rfl, bq, tX⟩
  rw [HBX.out, KBX.out] at tX
  rw [HBX.out]
  have tX := tX.to (B := w'.heap.size) fun b hb => by have := bq.size; rcases hb with k | k <;> omega
  refine hK.out _ _ (hS1.step bq) (fun hS1 => ?_)
  clear hK K bq
  try simp only [Act.put, List.setIfInBounds_toArray, List.set_cons_zero, List.set_cons_succ]
  refine wpAnyH_ready (rs := [7]) (by kernel_rfl) (by simp) ?_
  refine AllReadyH.cons (o := { dst := some 75, op := Go.Op.call { callee := Go.Callee.value (Go.Operand.func 38), args := #[Go.Operand.tmp 74], argTypes := #[29] }, type := 29, pos := "law.go:201", after := #[{ on := 6, ground := Go.Ground.data }, { on := 5, ground := Go.Ground.chain }, { on := 3, ground := Go.Ground.guard }], guard := some (3, false) }) rfl (fun K hK => ?_) AllReadyH.nil
  refine wanted_wp (by rfl) ?_
  go_simp
  go_at_call 38
  have cb := lawBare_any nd ks _ _ ka kl kc (Nat.le_refl _) hS1.t2 NT.out
  with_reducible refine cb.mono ?_
  clear cb
  rintro e w'' ⟨qa1, ql1, qc1, rfl, bq, tT⟩
  rw [← HB.out, ← KB.out] at tT
  rw [← HB.out]
  have tT := tT.to (B := w''.heap.size) fun b hb => by have := bq.size; rcases hb with k | k <;> omega
  have tX := (tX.kept bq (Nat.le_refl _)).mono bq.size
  refine hK.out _ _ (hS1.step bq) (fun hS1 => ?_)
  clear hK K bq
  try simp only [Act.put, List.setIfInBounds_toArray, List.set_cons_zero, List.set_cons_succ]
  refine wpAnyH_ready (rs := [8]) (by kernel_rfl) (by simp) ?_
  refine AllReadyH.cons (o := { dst := some 76, op := Go.Op.call { callee := Go.Callee.value (Go.Operand.func 34), args := #[Go.Operand.tmp 73, Go.Operand.tmp 75], argTypes := #[29, 29] }, type := 4, pos := "law.go:201", after := #[{ on := 5, ground := Go.Ground.data }, { on := 7, ground := Go.Ground.data }, { on := 7, ground := Go.Ground.chain }, { on := 3, ground := Go.Ground.guard }], guard := some (3, false) }) rfl (fun K hK => ?_) AllReadyH.nil
  refine wanted_wp (by rfl) ?_
  go_simp
  go_at_call 34
  with_reducible refine (lawEq_yes hb hb kb kb ⟨rfl, rfl⟩ _ _ _ pa qa1 pl pc ql1 qc1 (Nat.le_refl _) (Nat.le_refl _) tX tT).mono ?_
  rintro e W ⟨rfl, bq⟩
  clear tX tT
  refine hK.out _ _ (hS1.step bq) (fun hS1 => ?_)
  clear hK K bq
  try simp only [Act.put, List.setIfInBounds_toArray, List.set_cons_zero, List.set_cons_succ]
  refine wpAnyH_take (i := 9) (oi := { dst := some 77, op := Go.Op.unOp Go.UnOp.not 4 (Go.Operand.tmp 76), type := 4, pos := "law.go:201", after := #[{ on := 8, ground := Go.Ground.data }, { on := 3, ground := Go.Ground.guard }], guard := some (3, false) }) (v := (.bool false)) rfl (by kernel_rfl) (by kernel_rfl) (by kernel_rfl) (fun _ _ _ h => h) (Or.inl ⟨by rfl, fun W hW => by first | (go_simp; done) | (go_simp; with_reducible rfl)⟩) hS1 ?_
  try simp only [Act.put, List.setIfInBounds_toArray, List.set_cons_zero, List.set_cons_succ]
  refine wpAnyH_take (i := 10) (oi := { dst := some 78, op := Go.Op.pick (Go.Operand.tmp 71) (Go.Operand.const (Go.Value.bool true)) (Go.Operand.tmp 77), type := 4, pos := "law.go:201", after := #[{ on := 3, ground := Go.Ground.data }, { on := 9, ground := Go.Ground.data }], guard := none }) (v := (.bool false)) rfl (by kernel_rfl) (by kernel_rfl) (by kernel_rfl) (fun _ _ _ h => h) (Or.inl ⟨by rfl, fun W hW => by first | (go_simp; done) | (go_simp; with_reducible rfl)⟩) hS1 ?_
  try simp only [Act.put, List.setIfInBounds_toArray, List.set_cons_zero, List.set_cons_succ]
  refine wpAnyH_done (by kernel_rfl) ?_ _
  refine NoPanic.normal ?_
  have BB := Lib.hid (BB.out.trans (hS1.bel.mono BB.out.size))
  have P := Lib.hid hS1
  clear hS1
  go_wp2_with (first | (refine wpList_load_E (w := W) rfl rfl rfl P.out.b1 rfl ?_) | (refine wpList_load_E (w := W) rfl rfl rfl P.out.b2 rfl ?_))
  refine (ahead_any at_ true nd ks W W.heap.size ka kl kc (Nat.le_refl _) P.out.t2).mono ?_
  rintro e w5 ⟨rfl, b5⟩
  have P := Lib.hid (P.out.step b5)
  have BB := Lib.hid (BB.out.trans (b5.mono BB.out.size))
  clear b5
  rw [show aheadB (colO true) at_ nd ks = _ from HA.out]
  have k1 := cells_of_block P.out.b1
  have k2 := cells_of_block P.out.b2
  go_wp2_with fail
  clear k1 k2
  refine (lawEq_yes hx nd kx ks ⟨by rw [HX.out]; exact (lines_ahead (o := 1) n1 FT.out HA.out).1, by rw [KX.out]; exact (lines_ahead (o := 1) n1 FT.out HA.out).2⟩ w5 w5.heap.size w5.heap.size xa ka xl xc kl kc (Nat.le_refl _) (Nat.le_refl _) P.out.t1 P.out.t2).mono ?_
  rintro e w6 ⟨rfl, b6⟩
  have P := Lib.hid (P.out.step b6)
  have BB := Lib.hid (BB.out.trans (b6.mono BB.out.size))
  clear b6
  go_wp2_with (first | (refine wpList_load_E (w := w6) rfl rfl rfl P.out.b1 rfl ?_) | (refine wpList_load_E (w := w6) rfl rfl rfl P.out.b2 rfl ?_))
  refine (lost_any hx nd kx ks w6 w6.heap.size w6.heap.size xa ka xl xc kl kc (Nat.le_refl _) (Nat.le_refl _) P.out.t1 P.out.t2 NX.out NT.out).mono ?_
  rintro e w7 ⟨rfl, b7⟩
  have P := Lib.hid (P.out.step b7)
  have BB := Lib.hid (BB.out.trans (b7.mono BB.out.size))
  clear b7
  have L := HL.out
  have le := refsOf_mv ⟨3, 0, 0, at_, n⟩ nd ks
  rw [← HX.out, ← KX.out] at le
  have lt : refsOf hx kx < refsOf nd ks := by omega
  have LT := Lib.hid lt
  rw [show decide (refsOf hx kx ≠ refsOf nd ks) = true by simp [L]]
  clear L le lt
  go_wp2_with fail
  refine wp_region_noPanic ?_
  refine wp_region_held_drew (S := fun W => PQ w4 No hx kx xa xl xc Nx nd ks ka kl kc N0 W) (by kernel_rfl) (P.out.step (Below.refl _ _).drew) (fun hS1 => ?_)
  refine wpAnyH_take (i := 0) (oi := { dst := some 92, op := Go.Op.load 29 (Go.Operand.tmp 10), type := 29, pos := "law.go:208", after := #[], guard := none }) (v := (.agg #[.int .i64 hx.kind, .int .i64 hx.op, .int .i64 hx.num, .string ⟨hx.text.toArray⟩, .int .i64 hx.ref.row, .int .i64 hx.ref.col, .bool hx.ref.pr, .bool hx.ref.pc, .int .i64 hx.to.row, .int .i64 hx.to.col, .bool hx.to.pr, .bool hx.to.pc, .int .i64 hx.fn, .slice xa xl xc])) rfl (by kernel_rfl) (by kernel_rfl) (by kernel_rfl) (fun _ _ _ h => h) (yieldsIf_load_mid (by rfl) 29 _ rfl Nx 0 rfl [.int .i64 hx.kind, .int .i64 hx.op, .int .i64 hx.num, .string ⟨hx.text.toArray⟩, .int .i64 hx.ref.row, .int .i64 hx.ref.col, .bool hx.ref.pr, .bool hx.ref.pc, .int .i64 hx.to.row, .int .i64 hx.to.col, .bool hx.to.pr, .bool hx.to.pc, .int .i64 hx.fn, .slice xa xl xc] _ (fun W hW => fun o v h => by rw [cells_of_block hW.b1, ← h]; simp) Try.underlying29 rfl infoExprS) hS1 ?_
  try simp only [Act.put, List.setIfInBounds_toArray, List.set_cons_zero, List.set_cons_succ]
  refine wpAnyH_take (i := 2) (oi := { dst := some 94, op := Go.Op.load 29 (Go.Operand.tmp 4), type := 29, pos := "law.go:208", after := #[], guard := none }) (v := (.agg #[.int .i64 nd.kind, .int .i64 nd.op, .int .i64 nd.num, .string ⟨nd.text.toArray⟩, .int .i64 nd.ref.row, .int .i64 nd.ref.col, .bool nd.ref.pr, .bool nd.ref.pc, .int .i64 nd.to.row, .int .i64 nd.to.col, .bool nd.to.pr, .bool nd.to.pc, .int .i64 nd.fn, .slice ka kl kc])) rfl (by kernel_rfl) (by kernel_rfl) (by kernel_rfl) (fun _ _ _ h => h) (yieldsIf_load_mid (by rfl) 29 _ rfl N0 0 rfl [.int .i64 nd.kind, .int .i64 nd.op, .int .i64 nd.num, .string ⟨nd.text.toArray⟩, .int .i64 nd.ref.row, .int .i64 nd.ref.col, .bool nd.ref.pr, .bool nd.ref.pc, .int .i64 nd.to.row, .int .i64 nd.to.col, .bool nd.to.pr, .bool nd.to.pc, .int .i64 nd.fn, .slice ka kl kc] _ (fun W hW => fun o v h => by rw [cells_of_block hW.b2, ← h]; simp) Try.underlying29 rfl infoExprS) hS1 ?_
  try simp only [Act.put, List.setIfInBounds_toArray, List.set_cons_zero, List.set_cons_succ]
  refine wpAnyH_ready (rs := [1]) (by kernel_rfl) (by simp) ?_
  refine AllReadyH.cons (o := { dst := some 93, op := Go.Op.call { callee := Go.Callee.value (Go.Operand.func 40), args := #[Go.Operand.tmp 92], argTypes := #[29] }, type := 3, pos := "law.go:208", after := #[{ on := 0, ground := Go.Ground.data }], guard := none }) rfl (fun K hK => ?_) AllReadyH.nil
  refine wanted_wp (by rfl) ?_
  go_simp
  go_at_call 40
  have cb := refs_any hx kx _ _ xa xl xc (Nat.le_refl _) hS1.t1 NX.out
  with_reducible refine cb.mono ?_
  clear cb
  rintro e w' ⟨rfl, bq⟩
  refine hK.out _ _ (hS1.step bq) (fun hS1 => ?_)
  clear hK K bq
  try simp only [Act.put, List.setIfInBounds_toArray, List.set_cons_zero, List.set_cons_succ]
  refine wpAnyH_ready (rs := [3]) (by kernel_rfl) (by simp) ?_
  refine AllReadyH.cons (o := { dst := some 95, op := Go.Op.call { callee := Go.Callee.value (Go.Operand.func 40), args := #[Go.Operand.tmp 94], argTypes := #[29] }, type := 3, pos := "law.go:208", after := #[{ on := 2, ground := Go.Ground.data }, { on := 1, ground := Go.Ground.chain }], guard := none }) rfl (fun K hK => ?_) AllReadyH.nil
  refine wanted_wp (by rfl) ?_
  go_simp
  go_at_call 40
  have cb := refs_any nd ks _ _ ka kl kc (Nat.le_refl _) hS1.t2 NT.out
  with_reducible refine cb.mono ?_
  clear cb
  rintro e w' ⟨rfl, bq⟩
  refine hK.out _ _ (hS1.step bq) (fun hS1 => ?_)
  clear hK K bq
  try simp only [Act.put, List.setIfInBounds_toArray, List.set_cons_zero, List.set_cons_succ]
  refine wpAnyH_take (i := 4) (oi := { dst := some 96, op := Go.Op.binOp Go.BinOp.lss 3 (Go.Operand.tmp 93) (Go.Operand.tmp 95) 3, type := 4, pos := "law.go:208", after := #[{ on := 1, ground := Go.Ground.data }, { on := 3, ground := Go.Ground.data }], guard := none }) (v := (.bool true)) rfl (by kernel_rfl) (by kernel_rfl) (by kernel_rfl) (fun _ _ _ h => h) (Or.inl ⟨by rfl, fun W hW => by go_simp; have l := LT.out; unfold refsOf at l; omega⟩) hS1 ?_
  try simp only [Act.put, List.setIfInBounds_toArray, List.set_cons_zero, List.set_cons_succ]
  refine wpAnyH_take (i := 5) (oi := { dst := some 8, op := Go.Op.assign (Go.Operand.tmp 96), type := 4, pos := "law.go:208", after := #[{ on := 4, ground := Go.Ground.data }, { on := 3, ground := Go.Ground.chain }, { on := 0, ground := Go.Ground.phase }, { on := 1, ground := Go.Ground.phase }, { on := 2, ground := Go.Ground.phase }, { on := 3, ground := Go.Ground.phase }, { on := 4, ground := Go.Ground.phase }], guard := none }) (v := (.bool true)) rfl (by kernel_rfl) (by kernel_rfl) (by kernel_rfl) (fun _ _ _ h => h) (Or.inl ⟨by rfl, fun W hW => by first | (go_simp; done) | (go_simp; with_reducible rfl)⟩) hS1 ?_
  try simp only [Act.put, List.setIfInBounds_toArray, List.set_cons_zero, List.set_cons_succ]
  refine wpAnyH_done (by kernel_rfl) ?_ _
  refine NoPanic.normal ?_
  have HS := Lib.hid hS1.bel
  clear hS1
  go_wp2
  go_ret
  exact ⟨rfl, B4.out.trans (HS.out.mono B4.out.size)⟩

set_option maxRecDepth 100000 in
set_option maxHeartbeats 4000000 in
theorem back_cols_nl (nd : Hd) (ks : Trees) (at_ n : Int) (w : World) (B : Nat) (ka : Option Addr) (kl kc : Nat) (hB : B ≤ w.heap.size) (tv : TreeV w B nd ks ka kl) (so : (smallB nd ks && decide (mayE nd ks = 0)) = true) (n1 : 1 ≤ n) (n2 : n ≤ 70000) (a1 : 0 ≤ at_) (a2 : at_ < 702) (ah : aheadB 1 at_ nd ks = false) (L : ¬ refsOf (mvH ⟨3, 0, 0, at_, n⟩ nd) (mvK ⟨3, 0, 0, at_, n⟩ ks) = refsOf nd ks) : Calls Try.prog 12 #[.agg #[.int .i64 nd.kind, .int .i64 nd.op, .int .i64 nd.num, .string ⟨nd.text.toArray⟩, .int .i64 nd.ref.row, .int .i64 nd.ref.col, .bool nd.ref.pr, .bool nd.ref.pc, .int .i64 nd.to.row, .int .i64 nd.to.col, .bool nd.to.pr, .bool nd.to.pc, .int .i64 nd.fn, .slice ka kl kc], .int .i64 at_, .int .i64 n, .bool true] w (TruePost w) := by
  have hm : mayE nd ks = 0 := by simp only [Bool.and_eq_true, decide_eq_true_eq] at so; exact so.2
  have MT := Lib.hid hm
  have FT := Lib.hid (may_fits hm)
  have F0 := mayE_fine hm
  have NT := Lib.hid (show ks.nodes ≤ 100000 by have := F0.1; omega)
  have RG := Lib.hid (show 0 ≤ at_ ∧ at_ < 702 from ⟨a1, a2⟩)
  have HA := Lib.hid ah
  obtain ⟨hx, HX⟩ : ∃ hx, Hid (hx = mvH ⟨3, 0, 0, at_, n⟩ nd) := ⟨_, Lib.hid rfl⟩
  obtain ⟨kx, KX⟩ : ∃ kx, Hid (kx = mvK ⟨3, 0, 0, at_, n⟩ ks) := ⟨_, Lib.hid rfl⟩
  rw [← HX.out, ← KX.out] at L
  have HL := Lib.hid L
  clear L ah
  have MX := Lib.hid (show mayE hx kx = 0 by rw [HX.out, KX.out]; exact may_mv hm)
  have NX := Lib.hid (show kx.nodes ≤ 100000 by rw [KX.out, nodes_mv]; exact NT.out)
  obtain ⟨hb, HB⟩ : ∃ hb, Hid (hb = bareH nd) := ⟨_, Lib.hid rfl⟩
  obtain ⟨kb, KB⟩ : ∃ kb, Hid (kb = bareK nd ks) := ⟨_, Lib.hid rfl⟩
  have HBX := Lib.hid (show bareH hx = hb by rw [HX.out, HB.out, bareH_mv])
  have KBX := Lib.hid (show bareK hx kx = kb by rw [HX.out, KX.out, KB.out, bareK_mv])
  clear hm F0
  have q0 := ext_alloc (Below.refl w.heap.size w) (.cells #[.int .i64 nd.kind, .int .i64 nd.op, .int .i64 nd.num, .string ⟨nd.text.toArray⟩, .int .i64 nd.ref.row, .int .i64 nd.ref.col, .bool nd.ref.pr, .bool nd.ref.pc, .int .i64 nd.to.row, .int .i64 nd.to.col, .bool nd.to.pr, .bool nd.to.pc, .int .i64 nd.fn, .slice ka kl kc] 29)
  have BB := Lib.hid q0
  have H0 := Lib.hid (heap_alloc_new w (.cells #[.int .i64 nd.kind, .int .i64 nd.op, .int .i64 nd.num, .string ⟨nd.text.toArray⟩, .int .i64 nd.ref.row, .int .i64 nd.ref.col, .bool nd.ref.pr, .bool nd.ref.pc, .int .i64 nd.to.row, .int .i64 nd.to.col, .bool nd.to.pr, .bool nd.to.pc, .int .i64 nd.fn, .slice ka kl kc] 29))
  have T0 := Lib.hid ((tv.kept (q0.mono hB) (Nat.le_refl _)).mono (Nat.le_trans hB q0.size))
  clear q0 tv
  go_enter Try.func12, Try.ntmps12
  go_wp2_with fail
  refine (lawBegun_any _).mono ?_
  rintro e w1 ⟨rfl, b1⟩
  have BB := Lib.hid (BB.out.trans (b1.mono BB.out.size))
  have T0 := Lib.hid ((T0.out.kept b1 (Nat.le_refl _)).mono b1.size)
  have H0 := Lib.hid ((b1.block _ (lt_of_block H0.out)).trans H0.out)
  clear b1
  go_wp2_with (refine wpList_load_E (w := w1) rfl rfl rfl H0.out rfl ?_)
  refine (sound_any nd ks w1 w1.heap.size ka kl kc (Nat.le_refl _) T0.out).mono ?_
  rintro e w2 ⟨rfl, b2⟩
  have BB := Lib.hid (BB.out.trans (b2.mono BB.out.size))
  have T0 := Lib.hid ((T0.out.kept b2 (Nat.le_refl _)).mono b2.size)
  have H0 := Lib.hid ((b2.block _ (lt_of_block H0.out)).trans H0.out)
  clear b2
  generalize w.heap.size = N0 at H0 ⊢
  rw [so]
  clear so
  have NO := Lib.hid (show w.heap.size ≤ w2.heap.size from BB.out.size)
  have N0O := Lib.hid (show N0 ≠ w2.heap.size by have := lt_of_block H0.out; omega)
  go_wp2_with (first
  | (refine wpList_load_E (w := w2) rfl rfl rfl H0.out rfl ?_)
  | (refine wpList_load_E (w := (wo.setCell ⟨w2.heap.size, 0, none⟩ (.int .i64 3))) rfl rfl rfl HW.out rfl ?_)
  | (refine wpList_load_O (w := (wo.setCell ⟨w2.heap.size, 0, none⟩ (.int .i64 3))) rfl rfl rfl HO.out rfl ?_)
  | (refine wpList_store_blk (vs := [.int .i64 2, .int .i64 nd.kind, .int .i64 nd.op, .int .i64 nd.num, .string ⟨nd.text.toArray⟩, .int .i64 nd.ref.row, .int .i64 nd.ref.col, .bool nd.ref.pr, .bool nd.ref.pc, .int .i64 nd.to.row, .int .i64 nd.to.col, .bool nd.to.pr, .bool nd.to.pc, .int .i64 nd.fn, .slice ka kl kc, .int .i64 at_, .int .i64 n]) infoOp12 rfl rfl rfl rfl (heap_alloc_new w2 (.cells #[.int .i64 0, .int .i64 0, .int .i64 0, .int .i64 0, .string ⟨#[]⟩, .int .i64 0, .int .i64 0, .bool false, .bool false, .int .i64 0, .int .i64 0, .bool false, .bool false, .int .i64 0, .slice none 0 0, .int .i64 0, .int .i64 0] 60)) (by simp) rfl (by simp [Value.oneCell']) ?_
     intro wo hwo
     have ho : wo.heap[w2.heap.size]? = some (.cells #[.int .i64 2, .int .i64 nd.kind, .int .i64 nd.op, .int .i64 nd.num, .string ⟨nd.text.toArray⟩, .int .i64 nd.ref.row, .int .i64 nd.ref.col, .bool nd.ref.pr, .bool nd.ref.pc, .int .i64 nd.to.row, .int .i64 nd.to.col, .bool nd.to.pr, .bool nd.to.pc, .int .i64 nd.fn, .slice ka kl kc, .int .i64 at_, .int .i64 n] 60 (0, 0)) := by rw [hwo]; exact setCells_all (vs := [.int .i64 2, .int .i64 nd.kind, .int .i64 nd.op, .int .i64 nd.num, .string ⟨nd.text.toArray⟩, .int .i64 nd.ref.row, .int .i64 nd.ref.col, .bool nd.ref.pr, .bool nd.ref.pc, .int .i64 nd.to.row, .int .i64 nd.to.col, .bool nd.to.pr, .bool nd.to.pc, .int .i64 nd.fn, .slice ka kl kc, .int .i64 at_, .int .i64 n]) (heap_alloc_new w2 (.cells #[.int .i64 0, .int .i64 0, .int .i64 0, .int .i64 0, .string ⟨#[]⟩, .int .i64 0, .int .i64 0, .bool false, .bool false, .int .i64 0, .int .i64 0, .bool false, .bool false, .int .i64 0, .slice none 0 0, .int .i64 0, .int .i64 0] 60)) rfl
     have hbo : Below w2.heap.size w2 wo := by rw [hwo]; exact setCells_below (Nat.le_refl _) _ _ (ext_alloc (Below.refl _ w2) _)
     have h0 := (hbo.block _ (lt_of_block H0.out)).trans H0.out
     have co := cells_of_block ho
     have fo := frees_of_block ho
     have h3 : (wo.setCell ⟨w2.heap.size, 0, none⟩ (.int .i64 3)).heap[w2.heap.size]? = some (.cells #[.int .i64 3, .int .i64 nd.kind, .int .i64 nd.op, .int .i64 nd.num, .string ⟨nd.text.toArray⟩, .int .i64 nd.ref.row, .int .i64 nd.ref.col, .bool nd.ref.pr, .bool nd.ref.pc, .int .i64 nd.to.row, .int .i64 nd.to.col, .bool nd.to.pr, .bool nd.to.pc, .int .i64 nd.fn, .slice ka kl kc, .int .i64 at_, .int .i64 n] 60 (0, 0)) := block_set ho (i := 0) (.int .i64 3)
     have h03 : (wo.setCell ⟨w2.heap.size, 0, none⟩ (.int .i64 3)).heap[N0]? = some (.cells #[.int .i64 nd.kind, .int .i64 nd.op, .int .i64 nd.num, .string ⟨nd.text.toArray⟩, .int .i64 nd.ref.row, .int .i64 nd.ref.col, .bool nd.ref.pr, .bool nd.ref.pc, .int .i64 nd.to.row, .int .i64 nd.to.col, .bool nd.to.pr, .bool nd.to.pc, .int .i64 nd.fn, .slice ka kl kc] 29) := (Below.heap_setCell _ _ _ _ (by have := lt_of_block H0.out; simp; omega)).trans h0
     have hbo := hbo.setCell (p := ⟨w2.heap.size, 0, none⟩) (Nat.le_refl _) (.int .i64 3)
     have ho := h3
     have h0 := h03
     have HO := Lib.hid ho
     have HW := Lib.hid h0
     have BO := Lib.hid hbo
     clear hwo ho h0 hbo h3 h03))
  clear co fo
  generalize (wo.setCell ⟨w2.heap.size, 0, none⟩ (.int .i64 3)) = wc at HO HW BO ⊢
  have TC := Lib.hid ((T0.out.kept BO.out (Nat.le_refl _)).mono BO.out.size)
  have BB := Lib.hid (BB.out.trans (BO.out.mono BB.out.size))
  refine (callx_cols nd ks at_ n MT.out (by unfold I64; omega) (by unfold I64; omega) RG.out wc wc.heap.size wc.heap.size ka ka kl kc kl kc (Nat.le_refl _) (Nat.le_refl _) TC.out TC.out).mono ?_
  rintro e w3 ⟨g, gk, xa, qa, xl, xc, ql, qc, F, hg, hk, rfl, b3, fr, tx⟩
  have a8 : A8 wc w3.heap.size (w3.heap.size + 1) #[.int .i64 0, .int .i64 0, .int .i64 0, .string ⟨#[]⟩, .int .i64 0, .int .i64 0, .bool false, .bool false, .int .i64 0, .int .i64 0, .bool false, .bool false, .int .i64 0, .slice none 0 0] #[.int .i64 0, .int .i64 0, .int .i64 0, .string ⟨#[]⟩, .int .i64 0, .int .i64 0, .bool false, .bool false, .int .i64 0, .int .i64 0, .bool false, .bool false, .int .i64 0, .slice none 0 0] g gk xa xl xc qa ql ((w3.alloc (.cells #[.int .i64 0, .int .i64 0, .int .i64 0, .string ⟨#[]⟩, .int .i64 0, .int .i64 0, .bool false, .bool false, .int .i64 0, .int .i64 0, .bool false, .bool false, .int .i64 0, .slice none 0 0] 29)).alloc (.cells #[.int .i64 0, .int .i64 0, .int .i64 0, .string ⟨#[]⟩, .int .i64 0, .int .i64 0, .bool false, .bool false, .int .i64 0, .int .i64 0, .bool false, .bool false, .int .i64 0, .slice none 0 0] 29)) := A8.of (w3 := wc) (W1 := wc) fr tx (Nat.le_refl _) (ext_alloc (ext_alloc b3 _) _) b3.size (fun b hb => (Below.heap_alloc _ _ _ (by simp; omega)).trans (Below.heap_alloc _ _ _ hb)) (by simp; omega) ⟨b3.size, .inr (Nat.le_refl _)⟩ ⟨by have := b3.size; omega, .inr (by omega)⟩ (by omega) (heap_alloc2_old w3 (.cells #[.int .i64 0, .int .i64 0, .int .i64 0, .string ⟨#[]⟩, .int .i64 0, .int .i64 0, .bool false, .bool false, .int .i64 0, .int .i64 0, .bool false, .bool false, .int .i64 0, .slice none 0 0] 29) (.cells #[.int .i64 0, .int .i64 0, .int .i64 0, .string ⟨#[]⟩, .int .i64 0, .int .i64 0, .bool false, .bool false, .int .i64 0, .int .i64 0, .bool false, .bool false, .int .i64 0, .slice none 0 0] 29)) (heap_alloc2_new w3 (.cells #[.int .i64 0, .int .i64 0, .int .i64 0, .string ⟨#[]⟩, .int .i64 0, .int .i64 0, .bool false, .bool false, .int .i64 0, .int .i64 0, .bool false, .bool false, .int .i64 0, .slice none 0 0] 29) (.cells #[.int .i64 0, .int .i64 0, .int .i64 0, .string ⟨#[]⟩, .int .i64 0, .int .i64 0, .bool false, .bool false, .int .i64 0, .int .i64 0, .bool false, .bool false, .int .i64 0, .slice none 0 0] 29))
  have A8_ := Lib.hid a8
  clear b3 fr tx a8
  obtain rfl : hx = g := HX.out.trans hg.symm
  obtain rfl : kx = gk := KX.out.trans hk.symm
  clear hg hk
  go_wp2_with (first
  | (refine wpList_store_blk (vs := [.int .i64 hx.kind, .int .i64 hx.op, .int .i64 hx.num, .string ⟨hx.text.toArray⟩, .int .i64 hx.ref.row, .int .i64 hx.ref.col, .bool hx.ref.pr, .bool hx.ref.pc, .int .i64 hx.to.row, .int .i64 hx.to.col, .bool hx.to.pr, .bool hx.to.pc, .int .i64 hx.fn, .slice xa xl xc]) infoExprS rfl rfl rfl rfl A8_.out.b5 (by simp) rfl (by simp [Value.oneCell']) ?_
     intro wx hwx
     have A9_ := Lib.hid (show A8 _ _ _ _ _ _ _ _ _ _ _ _ wx by rw [hwx]; exact A8_.out.set5 (vs := [.int .i64 hx.kind, .int .i64 hx.op, .int .i64 hx.num, .string ⟨hx.text.toArray⟩, .int .i64 hx.ref.row, .int .i64 hx.ref.col, .bool hx.ref.pr, .bool hx.ref.pc, .int .i64 hx.to.row, .int .i64 hx.to.col, .bool hx.to.pr, .bool hx.to.pc, .int .i64 hx.fn, .slice xa xl xc]) rfl)
     clear hwx)
  | (refine wpList_store_blk (vs := [.int .i64 hx.kind, .int .i64 hx.op, .int .i64 hx.num, .string ⟨hx.text.toArray⟩, .int .i64 hx.ref.row, .int .i64 hx.ref.col, .bool hx.ref.pr, .bool hx.ref.pc, .int .i64 hx.to.row, .int .i64 hx.to.col, .bool hx.to.pr, .bool hx.to.pc, .int .i64 hx.fn, .slice qa ql qc]) infoExprS rfl rfl rfl rfl A9_.out.b7 (by simp) rfl (by simp [Value.oneCell']) ?_
     intro w4 hw4
     have A10_ := Lib.hid (show A8 _ _ _ _ _ _ _ _ _ _ _ _ w4 by rw [hw4]; exact A9_.out.set7 (vs := [.int .i64 hx.kind, .int .i64 hx.op, .int .i64 hx.num, .string ⟨hx.text.toArray⟩, .int .i64 hx.ref.row, .int .i64 hx.ref.col, .bool hx.ref.pr, .bool hx.ref.pc, .int .i64 hx.to.row, .int .i64 hx.to.col, .bool hx.to.pr, .bool hx.to.pc, .int .i64 hx.fn, .slice qa ql qc]) rfl)
     clear hw4))
  have p0 : PQ w4 w2.heap.size hx kx xa xl xc w3.heap.size nd ks ka kl kc N0 w4 := by
    have A := A10_.out
    have hbo := BO.out.size
    refine ⟨Below.refl _ _, A.b5, (A.bel.block _ (lt_of_block HW.out)).trans HW.out, A.ok, ?_, ?_⟩
    · obtain ⟨F, f, -, hF⟩ := A.fr
      have := lt_of_block HO.out
      exact ⟨F, f, fun b hb => ⟨(hF b hb).2.1, by have := hF b hb; omega⟩⟩
    · exact (TreeX.of T0.out (ok := fun b => b < w2.heap.size) fun b hb => hb).kept fun b hb => ⟨⟨Nat.lt_of_lt_of_le (Nat.lt_of_lt_of_le hb hbo) A.bel.size, by omega⟩, (A.bel.block b (by omega)).trans (BO.out.block b hb)⟩
  have bb := BB.out.trans (A10_.out.bel.mono BB.out.size)
  have ho := (A10_.out.bel.block _ (lt_of_block HO.out)).trans HO.out
  have no := NO.out; have n0o := N0O.out
  have nxo : w3.heap.size ≠ w2.heap.size := by have := A10_.out.n5; have := lt_of_block HO.out; omega
  clear A8_ A9_ A10_ BB HO HW BO TC T0 NO N0O H0
  generalize w3.heap.size = Nx at p0 nxo ⊢
  generalize w2.heap.size = No at p0 ho no n0o nxo ⊢
  have P := Lib.hid p0; have BB := Lib.hid bb; have B4 := Lib.hid bb; have HO := Lib.hid ho; have NO := Lib.hid no; have N0O := Lib.hid n0o; have NXO := Lib.hid nxo
  clear p0 bb ho no n0o nxo
  go_wp2_with fail
  refine wp_region_noPanic ?_
  refine wp_region_held_drew (S := fun W => PQ w4 No hx kx xa xl xc Nx nd ks ka kl kc N0 W) (by kernel_rfl) (P.out.step (Below.refl _ _).drew) (fun hS1 => ?_)
  refine wpAnyH_take (i := 0) (oi := { dst := some 68, op := Go.Op.load 29 (Go.Operand.tmp 10), type := 29, pos := "law.go:201", after := #[], guard := none }) (v := (.agg #[.int .i64 hx.kind, .int .i64 hx.op, .int .i64 hx.num, .string ⟨hx.text.toArray⟩, .int .i64 hx.ref.row, .int .i64 hx.ref.col, .bool hx.ref.pr, .bool hx.ref.pc, .int .i64 hx.to.row, .int .i64 hx.to.col, .bool hx.to.pr, .bool hx.to.pc, .int .i64 hx.fn, .slice xa xl xc])) rfl (by kernel_rfl) (by kernel_rfl) (by kernel_rfl) (fun _ _ _ h => h) (yieldsIf_load_mid (by rfl) 29 _ rfl Nx 0 rfl [.int .i64 hx.kind, .int .i64 hx.op, .int .i64 hx.num, .string ⟨hx.text.toArray⟩, .int .i64 hx.ref.row, .int .i64 hx.ref.col, .bool hx.ref.pr, .bool hx.ref.pc, .int .i64 hx.to.row, .int .i64 hx.to.col, .bool hx.to.pr, .bool hx.to.pc, .int .i64 hx.fn, .slice xa xl xc] _ (fun W hW => fun o v h => by rw [cells_of_block hW.b1, ← h]; simp) Try.underlying29 rfl infoExprS) hS1 ?_
  try simp only [Act.put, List.setIfInBounds_toArray, List.set_cons_zero, List.set_cons_succ]
  refine wpAnyH_ready (rs := [1]) (by kernel_rfl) (by simp) ?_
  refine AllReadyH.cons (o := { dst := some 69, op := Go.Op.call { callee := Go.Callee.value (Go.Operand.func 23), args := #[Go.Operand.tmp 68], argTypes := #[29] }, type := 38, pos := "law.go:201", after := #[{ on := 0, ground := Go.Ground.data }], guard := none }) rfl (fun K hK => ?_) AllReadyH.nil
  refine wanted_wp (by rfl) ?_
  go_simp
  go_at_call 23
  with_reducible refine (may_any hx kx _ _ xa xl xc (Nat.le_refl _) hS1.t1).mono ?_
  rintro e w' ⟨he, bq⟩
  rw [MX.out] at he
  obtain rfl := he
  refine hK.out _ _ (hS1.step bq) (fun hS1 => ?_)
  clear hK K bq
  try simp only [Act.put, List.setIfInBounds_toArray, List.set_cons_zero, List.set_cons_succ]
  refine wpAnyH_take (i := 2) (oi := { dst := some 70, op := Go.Op.binOp Go.BinOp.neq 38 (Go.Operand.tmp 69) (Go.Operand.const (Go.Value.int Go.IntKind.i64 0)) 38, type := 4, pos := "law.go:201", after := #[{ on := 1, ground := Go.Ground.data }], guard := none }) (v := (.bool false)) rfl (by kernel_rfl) (by kernel_rfl) (by kernel_rfl) (fun _ _ _ h => h) (Or.inl ⟨by rfl, fun W hW => by first | (go_simp; done) | (go_simp; with_reducible rfl)⟩) hS1 ?_
  try simp only [Act.put, List.setIfInBounds_toArray, List.set_cons_zero, List.set_cons_succ]
  refine wpAnyH_take (i := 3) (oi := { dst := some 71, op := Go.Op.move (Go.Operand.tmp 70), type := 4, pos := "law.go:201", after := #[{ on := 2, ground := Go.Ground.data }, { on := 1, ground := Go.Ground.chain }], guard := none }) (v := (.bool false)) rfl (by kernel_rfl) (by kernel_rfl) (by kernel_rfl) (fun _ _ _ h => h) (Or.inl ⟨by rfl, fun W hW => by first | (go_simp; done) | (go_simp; with_reducible rfl)⟩) hS1 ?_
  try simp only [Act.put, List.setIfInBounds_toArray, List.set_cons_zero, List.set_cons_succ]
  refine wpAnyH_take (i := 4) (oi := { dst := some 72, op := Go.Op.load 29 (Go.Operand.tmp 10), type := 29, pos := "law.go:201", after := #[{ on := 3, ground := Go.Ground.guard }], guard := some (3, false) }) (v := (.agg #[.int .i64 hx.kind, .int .i64 hx.op, .int .i64 hx.num, .string ⟨hx.text.toArray⟩, .int .i64 hx.ref.row, .int .i64 hx.ref.col, .bool hx.ref.pr, .bool hx.ref.pc, .int .i64 hx.to.row, .int .i64 hx.to.col, .bool hx.to.pr, .bool hx.to.pc, .int .i64 hx.fn, .slice xa xl xc])) rfl (by kernel_rfl) (by kernel_rfl) (by kernel_rfl) (fun _ _ _ h => h) (yieldsIf_load_mid (by rfl) 29 _ rfl Nx 0 rfl [.int .i64 hx.kind, .int .i64 hx.op, .int .i64 hx.num, .string ⟨hx.text.toArray⟩, .int .i64 hx.ref.row, .int .i64 hx.ref.col, .bool hx.ref.pr, .bool hx.ref.pc, .int .i64 hx.to.row, .int .i64 hx.to.col, .bool hx.to.pr, .bool hx.to.pc, .int .i64 hx.fn, .slice xa xl xc] _ (fun W hW => fun o v h => by rw [cells_of_block hW.b1, ← h]; simp) Try.underlying29 rfl infoExprS) hS1 ?_
  try simp only [Act.put, List.setIfInBounds_toArray, List.set_cons_zero, List.set_cons_succ]
  refine wpAnyH_take (i := 6) (oi := { dst := some 74, op := Go.Op.load 29 (Go.Operand.tmp 4), type := 29, pos := "law.go:201", after := #[{ on := 3, ground := Go.Ground.guard }], guard := some (3, false) }) (v := (.agg #[.int .i64 nd.kind, .int .i64 nd.op, .int .i64 nd.num, .string ⟨nd.text.toArray⟩, .int .i64 nd.ref.row, .int .i64 nd.ref.col, .bool nd.ref.pr, .bool nd.ref.pc, .int .i64 nd.to.row, .int .i64 nd.to.col, .bool nd.to.pr, .bool nd.to.pc, .int .i64 nd.fn, .slice ka kl kc])) rfl (by kernel_rfl) (by kernel_rfl) (by kernel_rfl) (fun _ _ _ h => h) (yieldsIf_load_mid (by rfl) 29 _ rfl N0 0 rfl [.int .i64 nd.kind, .int .i64 nd.op, .int .i64 nd.num, .string ⟨nd.text.toArray⟩, .int .i64 nd.ref.row, .int .i64 nd.ref.col, .bool nd.ref.pr, .bool nd.ref.pc, .int .i64 nd.to.row, .int .i64 nd.to.col, .bool nd.to.pr, .bool nd.to.pc, .int .i64 nd.fn, .slice ka kl kc] _ (fun W hW => fun o v h => by rw [cells_of_block hW.b2, ← h]; simp) Try.underlying29 rfl infoExprS) hS1 ?_
  try simp only [Act.put, List.setIfInBounds_toArray, List.set_cons_zero, List.set_cons_succ]
  refine wpAnyH_ready (rs := [5]) (by kernel_rfl) (by simp) ?_
  refine AllReadyH.cons (o := { dst := some 73, op := Go.Op.call { callee := Go.Callee.value (Go.Operand.func 38), args := #[Go.Operand.tmp 72], argTypes := #[29] }, type := 29, pos := "law.go:201", after := #[{ on := 4, ground := Go.Ground.data }, { on := 3, ground := Go.Ground.chain }, { on := 3, ground := Go.Ground.guard }], guard := some (3, false) }) rfl (fun K hK => ?_) AllReadyH.nil
  refine wanted_wp (by rfl) ?_
  go_simp
  go_at_call 38
  have cb := lawBare_any hx kx _ _ xa xl xc (Nat.le_refl _) hS1.t1 NX.out
  with_reducible refine cb.mono ?_
  clear cb
  rintro e w' ⟨pa, pl, pc, rfl, bq, tX⟩
  rw [HBX.out, KBX.out] at tX
  rw [HBX.out]
  have tX := tX.to (B := w'.heap.size) fun b hb => by have := bq.size; rcases hb with k | k <;> omega
  refine hK.out _ _ (hS1.step bq) (fun hS1 => ?_)
  clear hK K bq
  try simp only [Act.put, List.setIfInBounds_toArray, List.set_cons_zero, List.set_cons_succ]
  refine wpAnyH_ready (rs := [7]) (by kernel_rfl) (by simp) ?_
  refine AllReadyH.cons (o := { dst := some 75, op := Go.Op.call { callee := Go.Callee.value (Go.Operand.func 38), args := #[Go.Operand.tmp 74], argTypes := #[29] }, type := 29, pos := "law.go:201", after := #[{ on := 6, ground := Go.Ground.data }, { on := 5, ground := Go.Ground.chain }, { on := 3, ground := Go.Ground.guard }], guard := some (3, false) }) rfl (fun K hK => ?_) AllReadyH.nil
  refine wanted_wp (by rfl) ?_
  go_simp
  go_at_call 38
  have cb := lawBare_any nd ks _ _ ka kl kc (Nat.le_refl _) hS1.t2 NT.out
  with_reducible refine cb.mono ?_
  clear cb
  rintro e w'' ⟨qa1, ql1, qc1, rfl, bq, tT⟩
  rw [← HB.out, ← KB.out] at tT
  rw [← HB.out]
  have tT := tT.to (B := w''.heap.size) fun b hb => by have := bq.size; rcases hb with k | k <;> omega
  have tX := (tX.kept bq (Nat.le_refl _)).mono bq.size
  refine hK.out _ _ (hS1.step bq) (fun hS1 => ?_)
  clear hK K bq
  try simp only [Act.put, List.setIfInBounds_toArray, List.set_cons_zero, List.set_cons_succ]
  refine wpAnyH_ready (rs := [8]) (by kernel_rfl) (by simp) ?_
  refine AllReadyH.cons (o := { dst := some 76, op := Go.Op.call { callee := Go.Callee.value (Go.Operand.func 34), args := #[Go.Operand.tmp 73, Go.Operand.tmp 75], argTypes := #[29, 29] }, type := 4, pos := "law.go:201", after := #[{ on := 5, ground := Go.Ground.data }, { on := 7, ground := Go.Ground.data }, { on := 7, ground := Go.Ground.chain }, { on := 3, ground := Go.Ground.guard }], guard := some (3, false) }) rfl (fun K hK => ?_) AllReadyH.nil
  refine wanted_wp (by rfl) ?_
  go_simp
  go_at_call 34
  with_reducible refine (lawEq_yes hb hb kb kb ⟨rfl, rfl⟩ _ _ _ pa qa1 pl pc ql1 qc1 (Nat.le_refl _) (Nat.le_refl _) tX tT).mono ?_
  rintro e W ⟨rfl, bq⟩
  clear tX tT
  refine hK.out _ _ (hS1.step bq) (fun hS1 => ?_)
  clear hK K bq
  try simp only [Act.put, List.setIfInBounds_toArray, List.set_cons_zero, List.set_cons_succ]
  refine wpAnyH_take (i := 9) (oi := { dst := some 77, op := Go.Op.unOp Go.UnOp.not 4 (Go.Operand.tmp 76), type := 4, pos := "law.go:201", after := #[{ on := 8, ground := Go.Ground.data }, { on := 3, ground := Go.Ground.guard }], guard := some (3, false) }) (v := (.bool false)) rfl (by kernel_rfl) (by kernel_rfl) (by kernel_rfl) (fun _ _ _ h => h) (Or.inl ⟨by rfl, fun W hW => by first | (go_simp; done) | (go_simp; with_reducible rfl)⟩) hS1 ?_
  try simp only [Act.put, List.setIfInBounds_toArray, List.set_cons_zero, List.set_cons_succ]
  refine wpAnyH_take (i := 10) (oi := { dst := some 78, op := Go.Op.pick (Go.Operand.tmp 71) (Go.Operand.const (Go.Value.bool true)) (Go.Operand.tmp 77), type := 4, pos := "law.go:201", after := #[{ on := 3, ground := Go.Ground.data }, { on := 9, ground := Go.Ground.data }], guard := none }) (v := (.bool false)) rfl (by kernel_rfl) (by kernel_rfl) (by kernel_rfl) (fun _ _ _ h => h) (Or.inl ⟨by rfl, fun W hW => by first | (go_simp; done) | (go_simp; with_reducible rfl)⟩) hS1 ?_
  try simp only [Act.put, List.setIfInBounds_toArray, List.set_cons_zero, List.set_cons_succ]
  refine wpAnyH_done (by kernel_rfl) ?_ _
  refine NoPanic.normal ?_
  have BB := Lib.hid (BB.out.trans (hS1.bel.mono BB.out.size))
  have P := Lib.hid hS1
  clear hS1
  go_wp2_with (first | (refine wpList_load_E (w := W) rfl rfl rfl P.out.b1 rfl ?_) | (refine wpList_load_E (w := W) rfl rfl rfl P.out.b2 rfl ?_))
  refine (ahead_any at_ true nd ks W W.heap.size ka kl kc (Nat.le_refl _) P.out.t2).mono ?_
  rintro e w5 ⟨rfl, b5⟩
  have P := Lib.hid (P.out.step b5)
  have BB := Lib.hid (BB.out.trans (b5.mono BB.out.size))
  clear b5
  rw [show aheadB (colO true) at_ nd ks = _ from HA.out]
  have k1 := cells_of_block P.out.b1
  have k2 := cells_of_block P.out.b2
  go_wp2_with (first | (refine wpList_load_E (w := w5) rfl rfl rfl P.out.b1 rfl ?_) | (refine wpList_load_E (w := w5) rfl rfl rfl P.out.b2 rfl ?_))
  clear k1 k2
  refine (lost_any hx nd kx ks w5 w5.heap.size w5.heap.size xa ka xl xc kl kc (Nat.le_refl _) (Nat.le_refl _) P.out.t1 P.out.t2 NX.out NT.out).mono ?_
  rintro e w7 ⟨rfl, b7⟩
  have P := Lib.hid (P.out.step b7)
  have BB := Lib.hid (BB.out.trans (b7.mono BB.out.size))
  clear b7
  have L := HL.out
  have le := refsOf_mv ⟨3, 0, 0, at_, n⟩ nd ks
  rw [← HX.out, ← KX.out] at le
  have lt : refsOf hx kx < refsOf nd ks := by omega
  have LT := Lib.hid lt
  rw [show decide (refsOf hx kx ≠ refsOf nd ks) = true by simp [L]]
  clear L le lt
  go_wp2_with fail
  refine wp_region_noPanic ?_
  refine wp_region_held_drew (S := fun W => PQ w4 No hx kx xa xl xc Nx nd ks ka kl kc N0 W) (by kernel_rfl) (P.out.step (Below.refl _ _).drew) (fun hS1 => ?_)
  refine wpAnyH_take (i := 0) (oi := { dst := some 92, op := Go.Op.load 29 (Go.Operand.tmp 10), type := 29, pos := "law.go:208", after := #[], guard := none }) (v := (.agg #[.int .i64 hx.kind, .int .i64 hx.op, .int .i64 hx.num, .string ⟨hx.text.toArray⟩, .int .i64 hx.ref.row, .int .i64 hx.ref.col, .bool hx.ref.pr, .bool hx.ref.pc, .int .i64 hx.to.row, .int .i64 hx.to.col, .bool hx.to.pr, .bool hx.to.pc, .int .i64 hx.fn, .slice xa xl xc])) rfl (by kernel_rfl) (by kernel_rfl) (by kernel_rfl) (fun _ _ _ h => h) (yieldsIf_load_mid (by rfl) 29 _ rfl Nx 0 rfl [.int .i64 hx.kind, .int .i64 hx.op, .int .i64 hx.num, .string ⟨hx.text.toArray⟩, .int .i64 hx.ref.row, .int .i64 hx.ref.col, .bool hx.ref.pr, .bool hx.ref.pc, .int .i64 hx.to.row, .int .i64 hx.to.col, .bool hx.to.pr, .bool hx.to.pc, .int .i64 hx.fn, .slice xa xl xc] _ (fun W hW => fun o v h => by rw [cells_of_block hW.b1, ← h]; simp) Try.underlying29 rfl infoExprS) hS1 ?_
  try simp only [Act.put, List.setIfInBounds_toArray, List.set_cons_zero, List.set_cons_succ]
  refine wpAnyH_take (i := 2) (oi := { dst := some 94, op := Go.Op.load 29 (Go.Operand.tmp 4), type := 29, pos := "law.go:208", after := #[], guard := none }) (v := (.agg #[.int .i64 nd.kind, .int .i64 nd.op, .int .i64 nd.num, .string ⟨nd.text.toArray⟩, .int .i64 nd.ref.row, .int .i64 nd.ref.col, .bool nd.ref.pr, .bool nd.ref.pc, .int .i64 nd.to.row, .int .i64 nd.to.col, .bool nd.to.pr, .bool nd.to.pc, .int .i64 nd.fn, .slice ka kl kc])) rfl (by kernel_rfl) (by kernel_rfl) (by kernel_rfl) (fun _ _ _ h => h) (yieldsIf_load_mid (by rfl) 29 _ rfl N0 0 rfl [.int .i64 nd.kind, .int .i64 nd.op, .int .i64 nd.num, .string ⟨nd.text.toArray⟩, .int .i64 nd.ref.row, .int .i64 nd.ref.col, .bool nd.ref.pr, .bool nd.ref.pc, .int .i64 nd.to.row, .int .i64 nd.to.col, .bool nd.to.pr, .bool nd.to.pc, .int .i64 nd.fn, .slice ka kl kc] _ (fun W hW => fun o v h => by rw [cells_of_block hW.b2, ← h]; simp) Try.underlying29 rfl infoExprS) hS1 ?_
  try simp only [Act.put, List.setIfInBounds_toArray, List.set_cons_zero, List.set_cons_succ]
  refine wpAnyH_ready (rs := [1]) (by kernel_rfl) (by simp) ?_
  refine AllReadyH.cons (o := { dst := some 93, op := Go.Op.call { callee := Go.Callee.value (Go.Operand.func 40), args := #[Go.Operand.tmp 92], argTypes := #[29] }, type := 3, pos := "law.go:208", after := #[{ on := 0, ground := Go.Ground.data }], guard := none }) rfl (fun K hK => ?_) AllReadyH.nil
  refine wanted_wp (by rfl) ?_
  go_simp
  go_at_call 40
  have cb := refs_any hx kx _ _ xa xl xc (Nat.le_refl _) hS1.t1 NX.out
  with_reducible refine cb.mono ?_
  clear cb
  rintro e w' ⟨rfl, bq⟩
  refine hK.out _ _ (hS1.step bq) (fun hS1 => ?_)
  clear hK K bq
  try simp only [Act.put, List.setIfInBounds_toArray, List.set_cons_zero, List.set_cons_succ]
  refine wpAnyH_ready (rs := [3]) (by kernel_rfl) (by simp) ?_
  refine AllReadyH.cons (o := { dst := some 95, op := Go.Op.call { callee := Go.Callee.value (Go.Operand.func 40), args := #[Go.Operand.tmp 94], argTypes := #[29] }, type := 3, pos := "law.go:208", after := #[{ on := 2, ground := Go.Ground.data }, { on := 1, ground := Go.Ground.chain }], guard := none }) rfl (fun K hK => ?_) AllReadyH.nil
  refine wanted_wp (by rfl) ?_
  go_simp
  go_at_call 40
  have cb := refs_any nd ks _ _ ka kl kc (Nat.le_refl _) hS1.t2 NT.out
  with_reducible refine cb.mono ?_
  clear cb
  rintro e w' ⟨rfl, bq⟩
  refine hK.out _ _ (hS1.step bq) (fun hS1 => ?_)
  clear hK K bq
  try simp only [Act.put, List.setIfInBounds_toArray, List.set_cons_zero, List.set_cons_succ]
  refine wpAnyH_take (i := 4) (oi := { dst := some 96, op := Go.Op.binOp Go.BinOp.lss 3 (Go.Operand.tmp 93) (Go.Operand.tmp 95) 3, type := 4, pos := "law.go:208", after := #[{ on := 1, ground := Go.Ground.data }, { on := 3, ground := Go.Ground.data }], guard := none }) (v := (.bool true)) rfl (by kernel_rfl) (by kernel_rfl) (by kernel_rfl) (fun _ _ _ h => h) (Or.inl ⟨by rfl, fun W hW => by go_simp; have l := LT.out; unfold refsOf at l; omega⟩) hS1 ?_
  try simp only [Act.put, List.setIfInBounds_toArray, List.set_cons_zero, List.set_cons_succ]
  refine wpAnyH_take (i := 5) (oi := { dst := some 8, op := Go.Op.assign (Go.Operand.tmp 96), type := 4, pos := "law.go:208", after := #[{ on := 4, ground := Go.Ground.data }, { on := 3, ground := Go.Ground.chain }, { on := 0, ground := Go.Ground.phase }, { on := 1, ground := Go.Ground.phase }, { on := 2, ground := Go.Ground.phase }, { on := 3, ground := Go.Ground.phase }, { on := 4, ground := Go.Ground.phase }], guard := none }) (v := (.bool true)) rfl (by kernel_rfl) (by kernel_rfl) (by kernel_rfl) (fun _ _ _ h => h) (Or.inl ⟨by rfl, fun W hW => by first | (go_simp; done) | (go_simp; with_reducible rfl)⟩) hS1 ?_
  try simp only [Act.put, List.setIfInBounds_toArray, List.set_cons_zero, List.set_cons_succ]
  refine wpAnyH_done (by kernel_rfl) ?_ _
  refine NoPanic.normal ?_
  have HS := Lib.hid hS1.bel
  clear hS1
  go_wp2
  go_ret
  exact ⟨rfl, B4.out.trans (HS.out.mono B4.out.size)⟩
end Go.Proofs.Ytkjfeakbhfkldaa
