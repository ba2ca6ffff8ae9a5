/- Shifting: the law's call, one of its kinds. -/
import Derived.Test.YtkjfeakbhfkldaaMhO
namespace Go.Proofs.Ytkjfeakbhfkldaa
open Go.RowKit

set_option maxRecDepth 100000 in
set_option maxHeartbeats 4000000 in
theorem call_paste (nd h : Hd) (ks ks' : Trees) (x y : Int) (w : World) (B B' : Nat) (ka a : Option Addr) (kl kc l c : Nat) (hB : B ≤ w.heap.size) (hB' : B' ≤ w.heap.size) (tv : TreeV w B nd ks ka kl) (tv' : TreeV w B' h ks' a l) (hx : I64 x) (hy : I64 y) :
    Calls Try.prog 33 #[.agg #[.int .i64 1, .int .i64 h.kind, .int .i64 h.op, .int .i64 h.num, .string ⟨h.text.toArray⟩, .int .i64 h.ref.row, .int .i64 h.ref.col, .bool h.ref.pr, .bool h.ref.pc, .int .i64 h.to.row, .int .i64 h.to.col, .bool h.to.pr, .bool h.to.pc, .int .i64 h.fn, .slice a l c, .int .i64 x, .int .i64 y], .agg #[.int .i64 nd.kind, .int .i64 nd.op, .int .i64 nd.num, .string ⟨nd.text.toArray⟩, .int .i64 nd.ref.row, .int .i64 nd.ref.col, .bool nd.ref.pr, .bool nd.ref.pc, .int .i64 nd.to.row, .int .i64 nd.to.col, .bool nd.to.pr, .bool nd.to.pc, .int .i64 nd.fn, .slice ka kl kc]] w fun e w' => Below w.heap.size w w' ∧ ∃ (g g' : Hd) (gk gk' : Trees) (pa qa : Option Addr) (pl pc ql qc : Nat), GX ⟨1, x, y, 0, 0⟩ nd ks g gk ∧ GX ⟨1, x, y, 0, 0⟩ h ks' g' gk' ∧
      e = .returned (.tuple #[.agg #[.int .i64 g.kind, .int .i64 g.op, .int .i64 g.num, .string ⟨g.text.toArray⟩, .int .i64 g.ref.row, .int .i64 g.ref.col, .bool g.ref.pr, .bool g.ref.pc, .int .i64 g.to.row, .int .i64 g.to.col, .bool g.to.pr, .bool g.to.pc, .int .i64 g.fn, .slice pa pl pc], .int .i64 (shErr ⟨1, x, y, 0, 0⟩ nd ks), .agg #[.int .i64 g'.kind, .int .i64 g'.op, .int .i64 g'.num, .string ⟨g'.text.toArray⟩, .int .i64 g'.ref.row, .int .i64 g'.ref.col, .bool g'.ref.pr, .bool g'.ref.pc, .int .i64 g'.to.row, .int .i64 g'.to.col, .bool g'.to.pr, .bool g'.to.pc, .int .i64 g'.fn, .slice qa ql qc], .int .i64 (shErr ⟨1, x, y, 0, 0⟩ h ks')]) ∧ (∃ F, Fresh w' w.heap.size gk (.slice pa pl pc) F) ∧ TreeX w' (OkR w B' w') g' gk' qa ql := by
  have b0 := ext_alloc (ext_alloc (ext_alloc (ext_alloc (Below.refl _ w) (.cells #[.int .i64 1, .int .i64 h.kind, .int .i64 h.op, .int .i64 h.num, .string ⟨h.text.toArray⟩, .int .i64 h.ref.row, .int .i64 h.ref.col, .bool h.ref.pr, .bool h.ref.pc, .int .i64 h.to.row, .int .i64 h.to.col, .bool h.to.pr, .bool h.to.pc, .int .i64 h.fn, .slice a l c, .int .i64 x, .int .i64 y] 60)) (.cells #[.int .i64 nd.kind, .int .i64 nd.op, .int .i64 nd.num, .string ⟨nd.text.toArray⟩, .int .i64 nd.ref.row, .int .i64 nd.ref.col, .bool nd.ref.pr, .bool nd.ref.pc, .int .i64 nd.to.row, .int .i64 nd.to.col, .bool nd.to.pr, .bool nd.to.pc, .int .i64 nd.fn, .slice ka kl kc] 29)) (.cells #[.int .i64 0, .int .i64 0, .int .i64 0, .string ⟨#[]⟩, .int .i64 0, .int .i64 0, .bool false, .bool false, .int .i64 0, .int .i64 0, .bool false, .bool false, .int .i64 0, .slice none 0 0] 29)) (.cells #[.int .i64 0, .int .i64 0, .int .i64 0, .string ⟨#[]⟩, .int .i64 0, .int .i64 0, .bool false, .bool false, .int .i64 0, .int .i64 0, .bool false, .bool false, .int .i64 0, .slice none 0 0] 29)
  obtain ⟨h0, h1, h2, h3⟩ := heap_alloc4 w (.cells #[.int .i64 1, .int .i64 h.kind, .int .i64 h.op, .int .i64 h.num, .string ⟨h.text.toArray⟩, .int .i64 h.ref.row, .int .i64 h.ref.col, .bool h.ref.pr, .bool h.ref.pc, .int .i64 h.to.row, .int .i64 h.to.col, .bool h.to.pr, .bool h.to.pc, .int .i64 h.fn, .slice a l c, .int .i64 x, .int .i64 y] 60) (.cells #[.int .i64 nd.kind, .int .i64 nd.op, .int .i64 nd.num, .string ⟨nd.text.toArray⟩, .int .i64 nd.ref.row, .int .i64 nd.ref.col, .bool nd.ref.pr, .bool nd.ref.pc, .int .i64 nd.to.row, .int .i64 nd.to.col, .bool nd.to.pr, .bool nd.to.pc, .int .i64 nd.fn, .slice ka kl kc] 29) (.cells #[.int .i64 0, .int .i64 0, .int .i64 0, .string ⟨#[]⟩, .int .i64 0, .int .i64 0, .bool false, .bool false, .int .i64 0, .int .i64 0, .bool false, .bool false, .int .i64 0, .slice none 0 0] 29) (.cells #[.int .i64 0, .int .i64 0, .int .i64 0, .string ⟨#[]⟩, .int .i64 0, .int .i64 0, .bool false, .bool false, .int .i64 0, .int .i64 0, .bool false, .bool false, .int .i64 0, .slice none 0 0] 29)
  have T0 := Lib.hid (tv.kept (b0.mono hB) (Nat.le_refl _))
  have T1 := Lib.hid (tv'.kept (b0.mono hB') (Nat.le_refl _))
  have B0 := Lib.hid b0
  have H0 := Lib.hid h0; have H1 := Lib.hid h1; have H2 := Lib.hid h2; have H3 := Lib.hid h3
  have HX := Lib.hid hx; have HY := Lib.hid hy
  clear tv tv' b0 h0 h1 h2 h3 hx hy
  go_enter Try.func33, Try.ntmps33
  go_wp2_with fail
  refine (shPaste_any nd ks x y _ B ka kl kc (by simp; omega) T0.out HX.out HY.out).mono ?_
  rintro e w2 p2
  obtain ⟨b2, g, gk, pa, pl, pc, F, hg, rfl, t2⟩ := p2.any
  have k0 := (b2.block _ (by simp <;> omega)).trans H0.out
  have k2 := (b2.block _ (by simp <;> omega)).trans H2.out
  have k3 := (b2.block _ (by simp)).trans H3.out
  have n1 : w.heap.size + 1 + 1 + 1 < w2.heap.size := lt_of_block k3
  have q2 := ext_alloc b2 (.cells #[.int .i64 g.kind, .int .i64 g.op, .int .i64 g.num, .string ⟨g.text.toArray⟩, .int .i64 g.ref.row, .int .i64 g.ref.col, .bool g.ref.pr, .bool g.ref.pc, .int .i64 g.to.row, .int .i64 g.to.col, .bool g.to.pr, .bool g.to.pc, .int .i64 g.fn, .slice pa pl pc] 29)
  have gx := heap_alloc_new w2 (.cells #[.int .i64 g.kind, .int .i64 g.op, .int .i64 g.num, .string ⟨g.text.toArray⟩, .int .i64 g.ref.row, .int .i64 g.ref.col, .bool g.ref.pr, .bool g.ref.pc, .int .i64 g.to.row, .int .i64 g.to.col, .bool g.to.pr, .bool g.to.pc, .int .i64 g.fn, .slice pa pl pc] 29)
  have k0 := (Below.heap_alloc w2 (.cells #[.int .i64 g.kind, .int .i64 g.op, .int .i64 g.num, .string ⟨g.text.toArray⟩, .int .i64 g.ref.row, .int .i64 g.ref.col, .bool g.ref.pr, .bool g.ref.pc, .int .i64 g.to.row, .int .i64 g.to.col, .bool g.to.pr, .bool g.to.pc, .int .i64 g.fn, .slice pa pl pc] 29) _ (lt_of_block k0)).trans k0
  have k2 := (Below.heap_alloc w2 (.cells #[.int .i64 g.kind, .int .i64 g.op, .int .i64 g.num, .string ⟨g.text.toArray⟩, .int .i64 g.ref.row, .int .i64 g.ref.col, .bool g.ref.pr, .bool g.ref.pc, .int .i64 g.to.row, .int .i64 g.to.col, .bool g.to.pr, .bool g.to.pc, .int .i64 g.fn, .slice pa pl pc] 29) _ (lt_of_block k2)).trans k2
  have k3 := (Below.heap_alloc w2 (.cells #[.int .i64 g.kind, .int .i64 g.op, .int .i64 g.num, .string ⟨g.text.toArray⟩, .int .i64 g.ref.row, .int .i64 g.ref.col, .bool g.ref.pr, .bool g.ref.pc, .int .i64 g.to.row, .int .i64 g.to.col, .bool g.to.pr, .bool g.to.pc, .int .i64 g.fn, .slice pa pl pc] 29) _ (lt_of_block k3)).trans k3
  have t2 := fresh_kept (w' := w2.alloc (.cells #[.int .i64 g.kind, .int .i64 g.op, .int .i64 g.num, .string ⟨g.text.toArray⟩, .int .i64 g.ref.row, .int .i64 g.ref.col, .bool g.ref.pr, .bool g.ref.pc, .int .i64 g.to.row, .int .i64 g.to.col, .bool g.to.pr, .bool g.to.pc, .int .i64 g.fn, .slice pa pl pc] 29)) t2 (fun b _ hb => Below.heap_alloc _ _ _ hb) (by simp)
  have T2 := Lib.hid t2
  have T1 := Lib.hid (T1.out.kept (q2.mono (by simp; omega)) (Nat.le_refl _))
  have B2 := Lib.hid (B0.out.trans (q2.mono B0.out.size))
  have c0 := cells_of_block k0
  have K2 := Lib.hid k2; have K3 := Lib.hid k3; have GG := Lib.hid gx; have HG := Lib.hid hg
  have hh : B' ≤ (w2.alloc (.cells #[.int .i64 g.kind, .int .i64 g.op, .int .i64 g.num, .string ⟨g.text.toArray⟩, .int .i64 g.ref.row, .int .i64 g.ref.col, .bool g.ref.pr, .bool g.ref.pc, .int .i64 g.to.row, .int .i64 g.to.col, .bool g.to.pr, .bool g.to.pc, .int .i64 g.fn, .slice pa pl pc] 29)).heap.size := by have := B2.out.size; omega
  clear p2 b2 k0 k2 k3 q2 gx t2 hg T0
  go_wp2_with fail
  refine (shRefPaste_x h ks' x y _ B' a l c hh T1.out HX.out HY.out).mono ?_
  rintro e w3 p3
  obtain ⟨b3, g', gk', qa, ql, qc, hg', rfl, t3⟩ := p3.any
  have Y2 := (b3.block _ (lt_of_block K2.out)).trans K2.out
  have Y3 := (b3.block _ (lt_of_block K3.out)).trans K3.out
  have YG := (b3.block _ (lt_of_block GG.out)).trans GG.out
  have Y2 := (Below.heap_alloc w3 (.cells #[.int .i64 g'.kind, .int .i64 g'.op, .int .i64 g'.num, .string ⟨g'.text.toArray⟩, .int .i64 g'.ref.row, .int .i64 g'.ref.col, .bool g'.ref.pr, .bool g'.ref.pc, .int .i64 g'.to.row, .int .i64 g'.to.col, .bool g'.to.pr, .bool g'.to.pc, .int .i64 g'.fn, .slice qa ql qc] 29) _ (lt_of_block Y2)).trans Y2
  have Y3 := (Below.heap_alloc w3 (.cells #[.int .i64 g'.kind, .int .i64 g'.op, .int .i64 g'.num, .string ⟨g'.text.toArray⟩, .int .i64 g'.ref.row, .int .i64 g'.ref.col, .bool g'.ref.pr, .bool g'.ref.pc, .int .i64 g'.to.row, .int .i64 g'.to.col, .bool g'.to.pr, .bool g'.to.pc, .int .i64 g'.fn, .slice qa ql qc] 29) _ (lt_of_block Y3)).trans Y3
  have YG := (Below.heap_alloc w3 (.cells #[.int .i64 g'.kind, .int .i64 g'.op, .int .i64 g'.num, .string ⟨g'.text.toArray⟩, .int .i64 g'.ref.row, .int .i64 g'.ref.col, .bool g'.ref.pr, .bool g'.ref.pc, .int .i64 g'.to.row, .int .i64 g'.to.col, .bool g'.to.pr, .bool g'.to.pc, .int .i64 g'.fn, .slice qa ql qc] 29) _ (lt_of_block YG)).trans YG
  have YH := heap_alloc_new w3 (.cells #[.int .i64 g'.kind, .int .i64 g'.op, .int .i64 g'.num, .string ⟨g'.text.toArray⟩, .int .i64 g'.ref.row, .int .i64 g'.ref.col, .bool g'.ref.pr, .bool g'.ref.pc, .int .i64 g'.to.row, .int .i64 g'.to.col, .bool g'.to.pr, .bool g'.to.pc, .int .i64 g'.fn, .slice qa ql qc] 29)
  have q3 := ext_alloc b3 (.cells #[.int .i64 g'.kind, .int .i64 g'.op, .int .i64 g'.num, .string ⟨g'.text.toArray⟩, .int .i64 g'.ref.row, .int .i64 g'.ref.col, .bool g'.ref.pr, .bool g'.ref.pc, .int .i64 g'.to.row, .int .i64 g'.to.col, .bool g'.to.pr, .bool g'.to.pc, .int .i64 g'.fn, .slice qa ql qc] 29)
  have t2 := fresh_kept (w' := w3.alloc (.cells #[.int .i64 g'.kind, .int .i64 g'.op, .int .i64 g'.num, .string ⟨g'.text.toArray⟩, .int .i64 g'.ref.row, .int .i64 g'.ref.col, .bool g'.ref.pr, .bool g'.ref.pc, .int .i64 g'.to.row, .int .i64 g'.to.col, .bool g'.to.pr, .bool g'.to.pc, .int .i64 g'.fn, .slice qa ql qc] 29)) T2.out (fun b _ hb => q3.block b hb) q3.size
  have x3 : TreeX (w3.alloc (.cells #[.int .i64 g'.kind, .int .i64 g'.op, .int .i64 g'.num, .string ⟨g'.text.toArray⟩, .int .i64 g'.ref.row, .int .i64 g'.ref.col, .bool g'.ref.pr, .bool g'.ref.pc, .int .i64 g'.to.row, .int .i64 g'.to.col, .bool g'.to.pr, .bool g'.to.pc, .int .i64 g'.fn, .slice qa ql qc] 29)) (fun b => b < B' ∨ (w.heap.size + 4 ≤ b ∧ b < w3.heap.size)) g' gk' qa ql := t3.kept fun b hb => ⟨by rcases hb with r | ⟨r1, r2⟩; exact .inl r; exact .inr ⟨by simp at r1; omega, r2⟩, Below.heap_alloc _ _ _ (by have := b3.size; rcases hb with r | r <;> omega)⟩
  have X3 := Lib.hid x3
  have T2 := Lib.hid t2
  have B3 := Lib.hid (B2.out.trans (q3.mono B2.out.size))
  have HG' := Lib.hid hg'
  go_wp2_with fail
  have s4 : w3.heap.size < (w3.alloc (.cells #[.int .i64 g'.kind, .int .i64 g'.op, .int .i64 g'.num, .string ⟨g'.text.toArray⟩, .int .i64 g'.ref.row, .int .i64 g'.ref.col, .bool g'.ref.pr, .bool g'.ref.pc, .int .i64 g'.to.row, .int .i64 g'.to.col, .bool g'.to.pr, .bool g'.to.pc, .int .i64 g'.fn, .slice qa ql qc] 29)).heap.size := by simp
  generalize w3.alloc (.cells #[.int .i64 g'.kind, .int .i64 g'.op, .int .i64 g'.num, .string ⟨g'.text.toArray⟩, .int .i64 g'.ref.row, .int .i64 g'.ref.col, .bool g'.ref.pr, .bool g'.ref.pc, .int .i64 g'.to.row, .int .i64 g'.to.col, .bool g'.to.pr, .bool g'.to.pc, .int .i64 g'.fn, .slice qa ql qc] 29) = w4 at Y2 Y3 YG YH T2 B3 X3 s4 ⊢
  have n2 : w2.heap.size < w3.heap.size := by have := b3.size; simp at this; omega
  generalize w3.heap.size = N14 at YH n2 s4 X3 ⊢
  generalize w2.heap.size = N12 at YG n1 n2 ⊢
  have z2 := cells_of_block Y2
  have z3 := cells_of_block Y3
  have zg := cells_of_block YG
  have zh := cells_of_block YH
  have f2 := frees_of_block Y2
  have f3 := frees_of_block Y3
  have key : ∀ W, Sets (fun b => b = w.heap.size + 2 ∨ b = w.heap.size + 3) w4 W → Below w.heap.size w W ∧ ∃ (g1 g1' : Hd) (gk1 gk1' : Trees) (pa1 qa1 : Option Addr) (pl1 pc1 ql1 qc1 : Nat), GX ⟨1, x, y, 0, 0⟩ nd ks g1 gk1 ∧ GX ⟨1, x, y, 0, 0⟩ h ks' g1' gk1' ∧
      Ending.returned (.tuple #[.agg #[.int .i64 g.kind, .int .i64 g.op, .int .i64 g.num, .string ⟨g.text.toArray⟩, .int .i64 g.ref.row, .int .i64 g.ref.col, .bool g.ref.pr, .bool g.ref.pc, .int .i64 g.to.row, .int .i64 g.to.col, .bool g.to.pr, .bool g.to.pc, .int .i64 g.fn, .slice pa pl pc], .int .i64 (shErr ⟨1, x, y, 0, 0⟩ nd ks), .agg #[.int .i64 g'.kind, .int .i64 g'.op, .int .i64 g'.num, .string ⟨g'.text.toArray⟩, .int .i64 g'.ref.row, .int .i64 g'.ref.col, .bool g'.ref.pr, .bool g'.ref.pc, .int .i64 g'.to.row, .int .i64 g'.to.col, .bool g'.to.pr, .bool g'.to.pc, .int .i64 g'.fn, .slice qa ql qc], .int .i64 (shErr ⟨1, x, y, 0, 0⟩ h ks')]) = .returned (.tuple #[.agg #[.int .i64 g1.kind, .int .i64 g1.op, .int .i64 g1.num, .string ⟨g1.text.toArray⟩, .int .i64 g1.ref.row, .int .i64 g1.ref.col, .bool g1.ref.pr, .bool g1.ref.pc, .int .i64 g1.to.row, .int .i64 g1.to.col, .bool g1.to.pr, .bool g1.to.pc, .int .i64 g1.fn, .slice pa1 pl1 pc1], .int .i64 (shErr ⟨1, x, y, 0, 0⟩ nd ks), .agg #[.int .i64 g1'.kind, .int .i64 g1'.op, .int .i64 g1'.num, .string ⟨g1'.text.toArray⟩, .int .i64 g1'.ref.row, .int .i64 g1'.ref.col, .bool g1'.ref.pr, .bool g1'.ref.pc, .int .i64 g1'.to.row, .int .i64 g1'.to.col, .bool g1'.to.pr, .bool g1'.to.pc, .int .i64 g1'.fn, .slice qa1 ql1 qc1], .int .i64 (shErr ⟨1, x, y, 0, 0⟩ h ks')]) ∧ (∃ F, Fresh W w.heap.size gk1 (.slice pa1 pl1 pc1) F) ∧ TreeX W (OkR w B' W) g1' gk1' qa1 ql1 := by
    intro W S
    have f := T2.out
    have hn : ∀ b ∈ F, w.heap.size + 4 ≤ b := fun b hb => by have := f.new b hb; simpa using this
    have hB4 := B3.out.size
    refine ⟨S.below _ _ (by rintro b (rfl | rfl) <;> omega) B3.out, g, g', gk, gk', pa, qa, pl, pc, ql, qc, HG.out, HG'.out, rfl, ⟨F, f.own.kept fun b hb => S.same b (by have := hn b hb; rintro (r | r) <;> omega), f.once, fun b hb => by have := hn b hb; omega, fun b hb => by rw [S.size]; exact f.lt b hb⟩, X3.out.kept fun b hb => ⟨?_, S.same b (by rcases hb with q | q <;> rintro (r | r) <;> omega)⟩⟩
    rcases hb with q | q
    · exact .inl q
    · exact .inr ⟨by omega, by rw [S.size]; omega⟩
  clear T2 B3 HG HG' X3
  have KEY := Lib.hid key
  clear key
  go_region
  all_goals
    go_wp2
    refine bodyPost_ret (v := .tuple #[.agg #[.int .i64 g.kind, .int .i64 g.op, .int .i64 g.num, .string ⟨g.text.toArray⟩, .int .i64 g.ref.row, .int .i64 g.ref.col, .bool g.ref.pr, .bool g.ref.pc, .int .i64 g.to.row, .int .i64 g.to.col, .bool g.to.pr, .bool g.to.pc, .int .i64 g.fn, .slice pa pl pc], .int .i64 (shErr ⟨1, x, y, 0, 0⟩ nd ks), .agg #[.int .i64 g'.kind, .int .i64 g'.op, .int .i64 g'.num, .string ⟨g'.text.toArray⟩, .int .i64 g'.ref.row, .int .i64 g'.ref.col, .bool g'.ref.pr, .bool g'.ref.pc, .int .i64 g'.to.row, .int .i64 g'.to.col, .bool g'.to.pr, .bool g'.to.pc, .int .i64 g'.fn, .slice qa ql qc], .int .i64 (shErr ⟨1, x, y, 0, 0⟩ h ks')]) (by simp [results, Try.results33, go_sem, z2, z3]) rfl ?_
    refine KEY.out _ ?_
    repeat' first | (with_reducible exact Sets.refl) | (with_reducible refine Sets.set ?_ (by first | exact .inl rfl | exact .inr rfl) _) | (with_reducible refine Sets.drew ?_)
end Go.Proofs.Ytkjfeakbhfkldaa
