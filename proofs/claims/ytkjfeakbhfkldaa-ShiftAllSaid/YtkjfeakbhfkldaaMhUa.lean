/- Shifting: ShiftAll: the walk. -/
import Derived.Test.YtkjfeakbhfkldaaMhU
import Derived.Test.YtkjfeakbhfkldaaMhTb
import Derived.Test.YtkjfeakbhfkldaaMhN
import Derived.Test.YtkjfeakbhfkldaaMhC
import Derived.Deep.RegionHeld3
import Derived.BigRegion
namespace Go.Proofs.Ytkjfeakbhfkldaa
open Go.RowKit

theorem op12_tree {w : World} {b off : Nat} {k m n : Int} {nt : Hd} {ta : Option Addr} {tl tc : Nat} (hat : Op12At w b off k nt ta tl tc m n) : w.rangeAt b (off + 1) [.int .i64 nt.kind, .int .i64 nt.op, .int .i64 nt.num, .string ⟨nt.text.toArray⟩, .int .i64 nt.ref.row, .int .i64 nt.ref.col, .bool nt.ref.pr, .bool nt.ref.pc, .int .i64 nt.to.row, .int .i64 nt.to.col, .bool nt.to.pr, .bool nt.to.pc, .int .i64 nt.fn, .slice ta tl tc] := fun j v hv => by
  have h14 : j < 14 := by have := (List.getElem?_eq_some_iff.1 hv).1; simpa using this
  have := hat (1 + j) v (by rw [← hv]; match j, h14 with | 0, _ => rfl | 1, _ => rfl | 2, _ => rfl | 3, _ => rfl | 4, _ => rfl | 5, _ => rfl | 6, _ => rfl | 7, _ => rfl | 8, _ => rfl | 9, _ => rfl | 10, _ => rfl | 11, _ => rfl | 12, _ => rfl | 13, _ => rfl)
  rwa [← Nat.add_assoc] at this
set_option maxRecDepth 100000 in
theorem wpList_load_tree12 {ops : Array Oper} {Q : Exit → Act → World → Prop} {rest : List Oper} {a : Act} {o : Oper} {s : Operand} {w : World} {b off : Nat} {k m n : Int} {nt : Hd} {ta : Option Addr} {tl tc : Nat} (hg : o.guard = none) (ho : o.op = Op.load 29 s) (ha : a.eval s = .pointer (some ⟨b, off + 1, none⟩)) (hat : Op12At w b off k nt ta tl tc m n)
    (h : wpList Try.prog ops Q rest (a.put o.dst (.agg #[.int .i64 nt.kind, .int .i64 nt.op, .int .i64 nt.num, .string ⟨nt.text.toArray⟩, .int .i64 nt.ref.row, .int .i64 nt.ref.col, .bool nt.ref.pr, .bool nt.ref.pc, .int .i64 nt.to.row, .int .i64 nt.to.col, .bool nt.to.pr, .bool nt.to.pc, .int .i64 nt.fn, .slice ta tl tc])) w) : wpList Try.prog ops Q (o :: rest) a w := by
  exact wpList_load_mid hg _ s ho b (off + 1) ha [.int .i64 nt.kind, .int .i64 nt.op, .int .i64 nt.num, .string ⟨nt.text.toArray⟩, .int .i64 nt.ref.row, .int .i64 nt.ref.col, .bool nt.ref.pr, .bool nt.ref.pc, .int .i64 nt.to.row, .int .i64 nt.to.col, .bool nt.to.pr, .bool nt.to.pc, .int .i64 nt.fn, .slice ta tl tc] _ (op12_tree hat) Try.underlying29 rfl infoExprS h
theorem nodes_wt : ∀ ks : Trees, ks.nodes ≤ ks.wt
  | .nil => Nat.le_refl _
  | .cons h k r => by
    have := nodes_wt k; have := nodes_wt r
    simp only [Trees.nodes, Trees.wt, Hd.wt]; omega
theorem small_nodes {h : Hd} {ks : Trees} (s : smallB h ks = true) : ks.nodes ≤ 100000 := by
  have := nodes_wt ks
  simp only [smallB, decide_eq_true_eq] at s
  omega
def AllRel (w : World) (len : Nat) (wr : World) (i : Value) : Prop := ∃ j : Nat, i = .int .i64 j ∧ j ≤ len ∧ Below w.heap.size w wr

set_option maxRecDepth 100000 in
set_option maxHeartbeats 4000000 in
theorem shiftAll_any (w : World) (a : Option Addr) (len cap : Nat) (hops : Ops12In w a len) : Calls Try.prog 9 #[.slice a len cap] w (TruePost w) := by
  have hm := hops.1
  have HO := Lib.hid hops; clear hops
  go_enter Try.func9, Try.ntmps9
  go_wp2_with fail
  refine (lawBegun_any w).mono ?_
  rintro e w1 ⟨rfl, b1⟩
  have hs1 := b1.size
  have B1 := Lib.hid b1; clear b1
  go_wp2_with fail
  go_loopw [3] (fun i wr => AllRel w len wr i) (fun i _ => len - (intOf i).toNat)
  case atStart => exact ⟨0, rfl, Nat.zero_le _, B1.out⟩
  case round =>
    obtain ⟨j, rfl, hj, hb⟩ := hrel
    have hw : w.heap.size ≤ wr.heap.size := hb.size
    by_cases hlt : j < len
    · by_cases h2k : j < 2000
      · obtain ⟨b, off, k, nt, kt, ta, tl, tc, m, n, rfl, hbl, ho, t1, im, iN⟩ := HO.out.2 j hlt
        have hat : Op12At wr b (off + j * 17) k nt ta tl tc m n := fun o v h => (hb.cell (p := ⟨b, off + j * 17 + o, none⟩) hbl).trans (ho o v h)
        have HAT := Lib.hid hat
        have IM := Lib.hid im; have IN := Lib.hid iN
        have hbr : b < wr.heap.size := by omega
        have TV := Lib.hid ((t1.kept hb (Nat.le_refl _)).mono hw)
        have HB := Lib.hid hb
        clear hb t1 hat ho im iN
        cases so : smallB nt kt
        · go_wp2_with (refine wpList_load_tree12 rfl rfl rfl HAT.out ?_)
          refine (small_any nt kt wr wr.heap.size ta tl tc (Nat.le_refl _) TV.out).mono ?_
          rintro e w2 ⟨rfl, b2⟩
          have B2 := Lib.hid (HB.out.trans (b2.mono hw))
          clear b2
          rw [so]
          go_wp2
          exact ⟨⟨j + 1, by go_num, by omega, B2.out⟩, by simp [intOf]; omega⟩
        · have NN := Lib.hid (small_nodes so)
          go_wp2_with (refine wpList_load_tree12 rfl rfl rfl HAT.out ?_)
          refine (small_any nt kt wr wr.heap.size ta tl tc (Nat.le_refl _) TV.out).mono ?_
          rintro e w2 ⟨rfl, b2⟩
          rw [so]
          clear so
          have hbl2 : b < w2.heap.size := by have := b2.size; omega
          have HAT := Lib.hid (show Op12At w2 b (off + j * 17) k nt ta tl tc m n from fun o v h => (b2.cell (p := ⟨b, off + j * 17 + o, none⟩) hbr).trans (HAT.out o v h))
          have TV := Lib.hid ((TV.out.kept b2 (Nat.le_refl _)).mono b2.size)
          have HB := Lib.hid (HB.out.trans (b2.mono hw))
          clear b2 hbr
          go_wp2_with (refine wpList_load_tree12 rfl rfl rfl HAT.out ?_)
          refine (twin10_any nt kt w2 w2.heap.size ta tl tc (Nat.le_refl _) TV.out NN.out).mono ?_
          rintro e w2b ⟨xa, xl, xc, rfl, b3, mt⟩
          have hs3 := b3.size
          have q3 := ext_alloc b3 (.cells #[.int .i64 nt.kind, .int .i64 nt.op, .int .i64 nt.num, .string ⟨nt.text.toArray⟩, .int .i64 nt.ref.row, .int .i64 nt.ref.col, .bool nt.ref.pr, .bool nt.ref.pc, .int .i64 nt.to.row, .int .i64 nt.to.col, .bool nt.to.pr, .bool nt.to.pc, .int .i64 nt.fn, .slice xa xl xc] 29)
          have T4 := heap_alloc_new w2b (.cells #[.int .i64 nt.kind, .int .i64 nt.op, .int .i64 nt.num, .string ⟨nt.text.toArray⟩, .int .i64 nt.ref.row, .int .i64 nt.ref.col, .bool nt.ref.pr, .bool nt.ref.pc, .int .i64 nt.to.row, .int .i64 nt.to.col, .bool nt.to.pr, .bool nt.to.pc, .int .i64 nt.fn, .slice xa xl xc] 29)
          have hat3 : Op12At (w2b.alloc (.cells #[.int .i64 nt.kind, .int .i64 nt.op, .int .i64 nt.num, .string ⟨nt.text.toArray⟩, .int .i64 nt.ref.row, .int .i64 nt.ref.col, .bool nt.ref.pr, .bool nt.ref.pc, .int .i64 nt.to.row, .int .i64 nt.to.col, .bool nt.to.pr, .bool nt.to.pc, .int .i64 nt.fn, .slice xa xl xc] 29)) b (off + j * 17) k nt ta tl tc m n := fun o v h => (q3.cell (p := ⟨b, off + j * 17 + o, none⟩) hbl2).trans (HAT.out o v h)
          have tv3 := (TV.out.kept q3 (Nat.le_refl _)).mono q3.size
          have mt3 : MTree (w2b.alloc (.cells #[.int .i64 nt.kind, .int .i64 nt.op, .int .i64 nt.num, .string ⟨nt.text.toArray⟩, .int .i64 nt.ref.row, .int .i64 nt.ref.col, .bool nt.ref.pr, .bool nt.ref.pc, .int .i64 nt.to.row, .int .i64 nt.to.col, .bool nt.to.pr, .bool nt.to.pc, .int .i64 nt.fn, .slice xa xl xc] 29)) (fun b => b < (w2b.alloc (.cells #[.int .i64 nt.kind, .int .i64 nt.op, .int .i64 nt.num, .string ⟨nt.text.toArray⟩, .int .i64 nt.ref.row, .int .i64 nt.ref.col, .bool nt.ref.pr, .bool nt.ref.pc, .int .i64 nt.to.row, .int .i64 nt.to.col, .bool nt.to.pr, .bool nt.to.pc, .int .i64 nt.fn, .slice xa xl xc] 29)).heap.size) nt kt xa xl xc := mt.kept fun b hb => ⟨by simp; omega, Below.heap_alloc _ _ _ hb.2⟩
          have hb3 := HB.out.trans (q3.mono HB.out.size)
          have bl3 : b < (w2b.alloc (.cells #[.int .i64 nt.kind, .int .i64 nt.op, .int .i64 nt.num, .string ⟨nt.text.toArray⟩, .int .i64 nt.ref.row, .int .i64 nt.ref.col, .bool nt.ref.pr, .bool nt.ref.pc, .int .i64 nt.to.row, .int .i64 nt.to.col, .bool nt.to.pr, .bool nt.to.pc, .int .i64 nt.fn, .slice xa xl xc] 29)).heap.size := Nat.lt_of_lt_of_le hbl2 q3.size
          clear HAT TV HB q3 mt b3 hs3
          go_wp2_with fail
          have hN4 : w2b.heap.size < (w2b.alloc (.cells #[.int .i64 nt.kind, .int .i64 nt.op, .int .i64 nt.num, .string ⟨nt.text.toArray⟩, .int .i64 nt.ref.row, .int .i64 nt.ref.col, .bool nt.ref.pr, .bool nt.ref.pc, .int .i64 nt.to.row, .int .i64 nt.to.col, .bool nt.to.pr, .bool nt.to.pc, .int .i64 nt.fn, .slice xa xl xc] 29)).heap.size := by simp
          generalize w2b.alloc (.cells #[.int .i64 nt.kind, .int .i64 nt.op, .int .i64 nt.num, .string ⟨nt.text.toArray⟩, .int .i64 nt.ref.row, .int .i64 nt.ref.col, .bool nt.ref.pr, .bool nt.ref.pc, .int .i64 nt.to.row, .int .i64 nt.to.col, .bool nt.to.pr, .bool nt.to.pc, .int .i64 nt.fn, .slice xa xl xc] 29) = w3 at T4 hat3 tv3 mt3 hb3 bl3 hN4 ⊢
          generalize w2b.heap.size = N4 at T4 hN4 ⊢
          have T4 := Lib.hid T4; have HAT := Lib.hid hat3; have TV := Lib.hid tv3; have MT := Lib.hid mt3; have HB := Lib.hid hb3; have BL := Lib.hid bl3
          have TX := Lib.hid (MT.out.plain.to (B := w3.heap.size) fun _ h => h)
          clear hat3 tv3 mt3 hb3 bl3 hN4 hbl2 NN
          have cA : ∀ W, Below w3.heap.size w3 W → Calls Try.prog 33 #[.agg #[.int .i64 k, .int .i64 nt.kind, .int .i64 nt.op, .int .i64 nt.num, .string ⟨nt.text.toArray⟩, .int .i64 nt.ref.row, .int .i64 nt.ref.col, .bool nt.ref.pr, .bool nt.ref.pc, .int .i64 nt.to.row, .int .i64 nt.to.col, .bool nt.to.pr, .bool nt.to.pc, .int .i64 nt.fn, .slice ta tl tc, .int .i64 m, .int .i64 n], .agg #[.int .i64 nt.kind, .int .i64 nt.op, .int .i64 nt.num, .string ⟨nt.text.toArray⟩, .int .i64 nt.ref.row, .int .i64 nt.ref.col, .bool nt.ref.pr, .bool nt.ref.pc, .int .i64 nt.to.row, .int .i64 nt.to.col, .bool nt.to.pr, .bool nt.to.pc, .int .i64 nt.fn, .slice xa xl xc]] W (fun e w' => ∃ (g : Hd) (gk : Trees) (pa qa : Option Addr) (pl pc ql qc : Nat) (er : Int) (F : List Nat),
              e = .returned (.tuple #[.agg #[.int .i64 g.kind, .int .i64 g.op, .int .i64 g.num, .string ⟨g.text.toArray⟩, .int .i64 g.ref.row, .int .i64 g.ref.col, .bool g.ref.pr, .bool g.ref.pc, .int .i64 g.to.row, .int .i64 g.to.col, .bool g.to.pr, .bool g.to.pc, .int .i64 g.fn, .slice pa pl pc], .int .i64 er, .agg #[.int .i64 g.kind, .int .i64 g.op, .int .i64 g.num, .string ⟨g.text.toArray⟩, .int .i64 g.ref.row, .int .i64 g.ref.col, .bool g.ref.pr, .bool g.ref.pc, .int .i64 g.to.row, .int .i64 g.to.col, .bool g.to.pr, .bool g.to.pc, .int .i64 g.fn, .slice qa ql qc], .int .i64 er]) ∧ Below W.heap.size W w' ∧ Below w3.heap.size w3 w' ∧ Fresh w' W.heap.size gk (.slice pa pl pc) F ∧ TreeX w' (OkR W w3.heap.size w') g gk qa ql) := fun W q =>
            (callS_any k nt kt m n W w3.heap.size w3.heap.size xa ta xl xc tl tc q.size q.size (TX.out.kept q (Nat.le_refl _)) (TV.out.kept q (Nat.le_refl _)) IM.out IN.out).mono fun e w' ⟨g, gk, pa, qa, pl, pc, ql, qc, er, F, r1, r2, r3, r4⟩ => ⟨g, gk, pa, qa, pl, pc, ql, qc, er, F, r1, r2, q.trans (r2.mono q.size), r3, r4⟩
          have CC := Lib.hid cA
          clear cA
          refine (fun (key : ∀ (W : World) (N5 N7 : Nat) (g : Hd) (pa : Option Addr) (pl pc : Nat) (qa : Option Addr) (ql qc : Nat) (er : Int), (∃ gk, A8 w3 N5 N7 #[.int .i64 g.kind, .int .i64 g.op, .int .i64 g.num, .string ⟨g.text.toArray⟩, .int .i64 g.ref.row, .int .i64 g.ref.col, .bool g.ref.pr, .bool g.ref.pc, .int .i64 g.to.row, .int .i64 g.to.col, .bool g.to.pr, .bool g.to.pc, .int .i64 g.fn, .slice pa pl pc] #[.int .i64 g.kind, .int .i64 g.op, .int .i64 g.num, .string ⟨g.text.toArray⟩, .int .i64 g.ref.row, .int .i64 g.ref.col, .bool g.ref.pr, .bool g.ref.pc, .int .i64 g.to.row, .int .i64 g.to.col, .bool g.to.pr, .bool g.to.pc, .int .i64 g.fn, .slice qa ql qc] g gk pa pl pc qa ql W) → (?KeyQ : World → Nat → Nat → Hd → Option Addr → Nat → Nat → Option Addr → Nat → Nat → Int → Prop) W N5 N7 g pa pl pc qa ql qc er) => ?kmain) ?klater
          case kmain =>
            refine wp_region_noPanic ?_
            refine wp_region_held_drew (S := (fun W => Below w3.heap.size w3 W)) (by kernel_rfl) (Below.refl _ _).drew (fun hS1 => ?_)
            refine wpAnyH_take (i := 0) (oi := { dst := some 35, op := Go.Op.move (Go.Operand.tmp 0), type := 58, pos := "law.go:71", after := #[], guard := none }) (v := (.slice (some ⟨b, off, none⟩) len cap)) rfl (by kernel_rfl) (by kernel_rfl) (by kernel_rfl) (fun _ _ _ h => h) (Or.inl ⟨by rfl, fun W hW => by first | (go_simp; done) | (go_simp; with_reducible rfl)⟩) hS1 ?_
            try simp only [Act.put, List.setIfInBounds_toArray, List.set_cons_zero, List.set_cons_succ]
            refine wpAnyH_take (i := 1) (oi := { dst := some 36, op := Go.Op.move (Go.Operand.tmp 3), type := 3, pos := "law.go:71", after := #[], guard := none }) (v := (.int .i64 j)) rfl (by kernel_rfl) (by kernel_rfl) (by kernel_rfl) (fun _ _ _ h => h) (Or.inl ⟨by rfl, fun W hW => by first | (go_simp; done) | (go_simp; with_reducible rfl)⟩) hS1 ?_
            try simp only [Act.put, List.setIfInBounds_toArray, List.set_cons_zero, List.set_cons_succ]
            refine wpAnyH_take (i := 2) (oi := { dst := some 37, op := Go.Op.indexAddr 58 (Go.Operand.tmp 35) (Go.Operand.tmp 36), type := 0, pos := "law.go:71", after := #[{ on := 0, ground := Go.Ground.data }, { on := 1, ground := Go.Ground.data }], guard := none }) (v := (.pointer (some ⟨b, off + j * 17, none⟩))) rfl (by kernel_rfl) (by kernel_rfl) (by kernel_rfl) (fun _ _ _ h => h) (Or.inl ⟨by rfl, fun W hW => by first | (go_simp; done) | (go_simp; with_reducible rfl)⟩) hS1 ?_
            try simp only [Act.put, List.setIfInBounds_toArray, List.set_cons_zero, List.set_cons_succ]
            refine wpAnyH_take (i := 3) (oi := { dst := some 38, op := Go.Op.load 60 (Go.Operand.tmp 37), type := 60, pos := "law.go:71", after := #[{ on := 2, ground := Go.Ground.data }], guard := none }) (v := (.agg #[.int .i64 k, .int .i64 nt.kind, .int .i64 nt.op, .int .i64 nt.num, .string ⟨nt.text.toArray⟩, .int .i64 nt.ref.row, .int .i64 nt.ref.col, .bool nt.ref.pr, .bool nt.ref.pc, .int .i64 nt.to.row, .int .i64 nt.to.col, .bool nt.to.pr, .bool nt.to.pc, .int .i64 nt.fn, .slice ta tl tc, .int .i64 m, .int .i64 n])) rfl (by kernel_rfl) (by kernel_rfl) (by kernel_rfl) (fun _ _ _ h => h) (yieldsIf_load_mid (by rfl) 60 _ rfl b (off + j * 17) rfl [.int .i64 k, .int .i64 nt.kind, .int .i64 nt.op, .int .i64 nt.num, .string ⟨nt.text.toArray⟩, .int .i64 nt.ref.row, .int .i64 nt.ref.col, .bool nt.ref.pr, .bool nt.ref.pc, .int .i64 nt.to.row, .int .i64 nt.to.col, .bool nt.to.pr, .bool nt.to.pc, .int .i64 nt.fn, .slice ta tl tc, .int .i64 m, .int .i64 n] _ (fun W hW => fun o v h => (hW.cell (p := ⟨b, off + j * 17 + o, none⟩) BL.out).trans (HAT.out o v (by simpa using h))) Try.underlying60 rfl infoOp12) hS1 ?_
            try simp only [Act.put, List.setIfInBounds_toArray, List.set_cons_zero, List.set_cons_succ]
            refine wpAnyH_take (i := 4) (oi := { dst := some 39, op := Go.Op.load 29 (Go.Operand.tmp 4), type := 29, pos := "law.go:71", after := #[], guard := none }) (v := (.agg #[.int .i64 nt.kind, .int .i64 nt.op, .int .i64 nt.num, .string ⟨nt.text.toArray⟩, .int .i64 nt.ref.row, .int .i64 nt.ref.col, .bool nt.ref.pr, .bool nt.ref.pc, .int .i64 nt.to.row, .int .i64 nt.to.col, .bool nt.to.pr, .bool nt.to.pc, .int .i64 nt.fn, .slice xa xl xc])) rfl (by kernel_rfl) (by kernel_rfl) (by kernel_rfl) (fun _ _ _ h => h) (yieldsIf_load_mid (by rfl) 29 _ rfl N4 0 rfl [.int .i64 nt.kind, .int .i64 nt.op, .int .i64 nt.num, .string ⟨nt.text.toArray⟩, .int .i64 nt.ref.row, .int .i64 nt.ref.col, .bool nt.ref.pr, .bool nt.ref.pc, .int .i64 nt.to.row, .int .i64 nt.to.col, .bool nt.to.pr, .bool nt.to.pc, .int .i64 nt.fn, .slice xa xl xc] _ (fun W hW => fun o v h => by rw [cells_of_block ((hW.block _ (lt_of_block T4.out)).trans T4.out), ← h]; simp) Try.underlying29 rfl infoExprS) hS1 ?_
            try simp only [Act.put, List.setIfInBounds_toArray, List.set_cons_zero, List.set_cons_succ]
            refine (fun (keyB : ∀ (W : World) (N5 N7 : Nat) (g : Hd) (pa : Option Addr) (pl pc : Nat) (qa : Option Addr) (ql qc : Nat) (er : Int), (∃ gk, A8 w3 N5 N7 #[.int .i64 0, .int .i64 0, .int .i64 0, .string ⟨#[]⟩, .int .i64 0, .int .i64 0, .bool false, .bool false, .int .i64 0, .int .i64 0, .bool false, .bool false, .int .i64 0, .slice none 0 0] #[.int .i64 0, .int .i64 0, .int .i64 0, .string ⟨#[]⟩, .int .i64 0, .int .i64 0, .bool false, .bool false, .int .i64 0, .int .i64 0, .bool false, .bool false, .int .i64 0, .slice none 0 0] g gk pa pl pc qa ql W) → (?KeyB : World → Nat → Nat → Hd → Option Addr → Nat → Nat → Option Addr → Nat → Nat → Int → Prop) W N5 N7 g pa pl pc qa ql qc er) => ?kways) ?kstores
            case kways =>
              refine wpAnyH_ready (rs := [5, 11, 12]) (by kernel_rfl) (by simp) ?_
              refine AllReadyH.cons (o := { dst := some 40, op := Go.Op.call { callee := Go.Callee.value (Go.Operand.func 33), args := #[Go.Operand.tmp 38, Go.Operand.tmp 39], argTypes := #[60, 29] }, type := 61, pos := "law.go:71", after := #[{ on := 3, ground := Go.Ground.data }, { on := 4, ground := Go.Ground.data }], guard := none }) rfl (fun K hK => ?_) ?_
              · refine wanted_wp (by rfl) ?_
                go_simp
                go_at_call 33
                with_reducible refine (CC.out _ hS1).mono ?_
                rintro e w' ⟨g, gk, pa, qa, pl, pc, ql, qc, er, F, rfl, bq, bw, hfr, hx⟩
                refine hK.out _ _ bw (fun hS1 => ?_)
                clear hK K
                try simp only [Act.put, List.setIfInBounds_toArray, List.set_cons_zero, List.set_cons_succ]
                refine wpAnyH_take (i := 6) (oi := { dst := some 34, op := Go.Op.move (Go.Operand.tmp 40), type := 61, pos := "law.go:71", after := #[{ on := 5, ground := Go.Ground.data }], guard := none }) (v := (.tuple #[.agg #[.int .i64 g.kind, .int .i64 g.op, .int .i64 g.num, .string ⟨g.text.toArray⟩, .int .i64 g.ref.row, .int .i64 g.ref.col, .bool g.ref.pr, .bool g.ref.pc, .int .i64 g.to.row, .int .i64 g.to.col, .bool g.to.pr, .bool g.to.pc, .int .i64 g.fn, .slice pa pl pc], .int .i64 er, .agg #[.int .i64 g.kind, .int .i64 g.op, .int .i64 g.num, .string ⟨g.text.toArray⟩, .int .i64 g.ref.row, .int .i64 g.ref.col, .bool g.ref.pr, .bool g.ref.pc, .int .i64 g.to.row, .int .i64 g.to.col, .bool g.to.pr, .bool g.to.pc, .int .i64 g.fn, .slice qa ql qc], .int .i64 er])) rfl (by kernel_rfl) (by kernel_rfl) (by kernel_rfl) (fun _ _ _ h => h) (Or.inl ⟨by rfl, fun W hW => by first | (go_simp; done) | (go_simp; with_reducible rfl)⟩) hS1 ?_
                try simp only [Act.put, List.setIfInBounds_toArray, List.set_cons_zero, List.set_cons_succ]
                refine wpAnyH_take (i := 7) (oi := { dst := some 41, op := Go.Op.extract (Go.Operand.tmp 34) 0, type := 29, pos := "law.go:71", after := #[{ on := 6, ground := Go.Ground.data }], guard := none }) (v := (.agg #[.int .i64 g.kind, .int .i64 g.op, .int .i64 g.num, .string ⟨g.text.toArray⟩, .int .i64 g.ref.row, .int .i64 g.ref.col, .bool g.ref.pr, .bool g.ref.pc, .int .i64 g.to.row, .int .i64 g.to.col, .bool g.to.pr, .bool g.to.pc, .int .i64 g.fn, .slice pa pl pc])) rfl (by kernel_rfl) (by kernel_rfl) (by kernel_rfl) (fun _ _ _ h => h) (Or.inl ⟨by rfl, fun W hW => by first | (go_simp; done) | (go_simp; with_reducible rfl)⟩) hS1 ?_
                try simp only [Act.put, List.setIfInBounds_toArray, List.set_cons_zero, List.set_cons_succ]
                refine wpAnyH_take (i := 8) (oi := { dst := some 42, op := Go.Op.extract (Go.Operand.tmp 34) 1, type := 38, pos := "law.go:71", after := #[{ on := 6, ground := Go.Ground.data }, { on := 13, ground := Go.Ground.gcOnly Go.Departure.lateStores }], guard := none }) (v := (.int .i64 er)) rfl (by kernel_rfl) (by kernel_rfl) (by kernel_rfl) (fun _ _ _ h => h) (Or.inl ⟨by rfl, fun W hW => by first | (go_simp; done) | (go_simp; with_reducible rfl)⟩) hS1 ?_
                try simp only [Act.put, List.setIfInBounds_toArray, List.set_cons_zero, List.set_cons_succ]
                refine wpAnyH_take (i := 9) (oi := { dst := some 43, op := Go.Op.extract (Go.Operand.tmp 34) 2, type := 29, pos := "law.go:71", after := #[{ on := 6, ground := Go.Ground.data }, { on := 14, ground := Go.Ground.gcOnly Go.Departure.lateStores }], guard := none }) (v := (.agg #[.int .i64 g.kind, .int .i64 g.op, .int .i64 g.num, .string ⟨g.text.toArray⟩, .int .i64 g.ref.row, .int .i64 g.ref.col, .bool g.ref.pr, .bool g.ref.pc, .int .i64 g.to.row, .int .i64 g.to.col, .bool g.to.pr, .bool g.to.pc, .int .i64 g.fn, .slice qa ql qc])) rfl (by kernel_rfl) (by kernel_rfl) (by kernel_rfl) (fun _ _ _ h => h) (Or.inl ⟨by rfl, fun W hW => by first | (go_simp; done) | (go_simp; with_reducible rfl)⟩) hS1 ?_
                try simp only [Act.put, List.setIfInBounds_toArray, List.set_cons_zero, List.set_cons_succ]
                refine wpAnyH_take (i := 10) (oi := { dst := some 44, op := Go.Op.extract (Go.Operand.tmp 34) 3, type := 38, pos := "law.go:71", after := #[{ on := 6, ground := Go.Ground.data }, { on := 15, ground := Go.Ground.gcOnly Go.Departure.lateStores }], guard := none }) (v := (.int .i64 er)) rfl (by kernel_rfl) (by kernel_rfl) (by kernel_rfl) (fun _ _ _ h => h) (Or.inl ⟨by rfl, fun W hW => by first | (go_simp; done) | (go_simp; with_reducible rfl)⟩) hS1 ?_
                try simp only [Act.put, List.setIfInBounds_toArray, List.set_cons_zero, List.set_cons_succ]
                refine wpAnyH_ready (rs := [11, 12]) (by kernel_rfl) (by simp) ?_
                refine AllReadyH.cons (o := { dst := some 5, op := Go.Op.alloc 29, type := 0, pos := "law.go:71", after := #[], guard := none }) rfl (fun K hK => ?_) ?_
                · refine wanted_wp (by rfl) ?_
                  go_simp
                  refine hK.out _ _ (ext_alloc hS1 _) (fun hS1 => ?_)
                  clear hK K
                  try simp only [Act.put, List.setIfInBounds_toArray, List.set_cons_zero, List.set_cons_succ]
                  refine wpAnyH_ready (rs := [12]) (by kernel_rfl) (by simp) ?_
                  refine AllReadyH.cons (o := { dst := some 7, op := Go.Op.alloc 29, type := 0, pos := "law.go:71", after := #[], guard := none }) rfl (fun K hK => ?_) ?_
                  · refine wanted_wp (by rfl) ?_
                    go_simp
                    refine hK.out _ _ (ext_alloc hS1 _) (fun hS1 => ?_)
                    clear hK K
                    try simp only [Act.put, List.setIfInBounds_toArray, List.set_cons_zero, List.set_cons_succ]
                    have a8 : A8 w3 (w'.heap.size) (w'.heap.size + 1) #[.int .i64 0, .int .i64 0, .int .i64 0, .string ⟨#[]⟩, .int .i64 0, .int .i64 0, .bool false, .bool false, .int .i64 0, .int .i64 0, .bool false, .bool false, .int .i64 0, .slice none 0 0] #[.int .i64 0, .int .i64 0, .int .i64 0, .string ⟨#[]⟩, .int .i64 0, .int .i64 0, .bool false, .bool false, .int .i64 0, .int .i64 0, .bool false, .bool false, .int .i64 0, .slice none 0 0] g gk pa pl pc qa ql ((w'.alloc (.cells #[.int .i64 0, .int .i64 0, .int .i64 0, .string ⟨#[]⟩, .int .i64 0, .int .i64 0, .bool false, .bool false, .int .i64 0, .int .i64 0, .bool false, .bool false, .int .i64 0, .slice none 0 0] 29)).alloc (.cells #[.int .i64 0, .int .i64 0, .int .i64 0, .string ⟨#[]⟩, .int .i64 0, .int .i64 0, .bool false, .bool false, .int .i64 0, .int .i64 0, .bool false, .bool false, .int .i64 0, .slice none 0 0] 29)) := A8.of (W1 := w3.drew) hfr hx (by simp <;> omega) hS1 bw.size (fun b hb => (Below.heap_alloc _ _ _ (by simp; omega)).trans (Below.heap_alloc _ _ _ hb)) (by simp; omega) ⟨by have := bw.size; omega, .inr (by omega)⟩ ⟨by have := bw.size; omega, .inr (by omega)⟩ (by omega) (heap_alloc2_old w' (.cells #[.int .i64 0, .int .i64 0, .int .i64 0, .string ⟨#[]⟩, .int .i64 0, .int .i64 0, .bool false, .bool false, .int .i64 0, .int .i64 0, .bool false, .bool false, .int .i64 0, .slice none 0 0] 29) (.cells #[.int .i64 0, .int .i64 0, .int .i64 0, .string ⟨#[]⟩, .int .i64 0, .int .i64 0, .bool false, .bool false, .int .i64 0, .int .i64 0, .bool false, .bool false, .int .i64 0, .slice none 0 0] 29)) (heap_alloc2_new w' (.cells #[.int .i64 0, .int .i64 0, .int .i64 0, .string ⟨#[]⟩, .int .i64 0, .int .i64 0, .bool false, .bool false, .int .i64 0, .int .i64 0, .bool false, .bool false, .int .i64 0, .slice none 0 0] 29) (.cells #[.int .i64 0, .int .i64 0, .int .i64 0, .string ⟨#[]⟩, .int .i64 0, .int .i64 0, .bool false, .bool false, .int .i64 0, .int .i64 0, .bool false, .bool false, .int .i64 0, .slice none 0 0] 29))
                    refine wpAnyH_listed (f' := 4) (l' := #[true, true, true, true, true, true, true, true, true, true, true, true, true, false, false, false, false]) (by kernel_rfl) (by kernel_rfl) ?_
                    generalize ((w'.alloc (.cells #[.int .i64 0, .int .i64 0, .int .i64 0, .string ⟨#[]⟩, .int .i64 0, .int .i64 0, .bool false, .bool false, .int .i64 0, .int .i64 0, .bool false, .bool false, .int .i64 0, .slice none 0 0] 29)).alloc (.cells #[.int .i64 0, .int .i64 0, .int .i64 0, .string ⟨#[]⟩, .int .i64 0, .int .i64 0, .bool false, .bool false, .int .i64 0, .int .i64 0, .bool false, .bool false, .int .i64 0, .slice none 0 0] 29)) = w9 at a8 ⊢
                    generalize hN7 : w'.heap.size + 1 = N7 at a8 ⊢
                    generalize hN5 : w'.heap.size = N5 at a8 ⊢
                    exact keyB w9 N5 N7 g pa pl pc qa ql qc er ⟨gk, a8⟩
                  exact AllReadyH.nil
                refine AllReadyH.cons (o := { dst := some 7, op := Go.Op.alloc 29, type := 0, pos := "law.go:71", after := #[], guard := none }) rfl (fun K hK => ?_) ?_
                · refine wanted_wp (by rfl) ?_
                  go_simp
                  refine hK.out _ _ (ext_alloc hS1 _) (fun hS1 => ?_)
                  clear hK K
                  try simp only [Act.put, List.setIfInBounds_toArray, List.set_cons_zero, List.set_cons_succ]
                  refine wpAnyH_ready (rs := [11]) (by kernel_rfl) (by simp) ?_
                  refine AllReadyH.cons (o := { dst := some 5, op := Go.Op.alloc 29, type := 0, pos := "law.go:71", after := #[], guard := none }) rfl (fun K hK => ?_) ?_
                  · refine wanted_wp (by rfl) ?_
                    go_simp
                    refine hK.out _ _ (ext_alloc hS1 _) (fun hS1 => ?_)
                    clear hK K
                    try simp only [Act.put, List.setIfInBounds_toArray, List.set_cons_zero, List.set_cons_succ]
                    have a8 : A8 w3 (w'.heap.size + 1) (w'.heap.size) #[.int .i64 0, .int .i64 0, .int .i64 0, .string ⟨#[]⟩, .int .i64 0, .int .i64 0, .bool false, .bool false, .int .i64 0, .int .i64 0, .bool false, .bool false, .int .i64 0, .slice none 0 0] #[.int .i64 0, .int .i64 0, .int .i64 0, .string ⟨#[]⟩, .int .i64 0, .int .i64 0, .bool false, .bool false, .int .i64 0, .int .i64 0, .bool false, .bool false, .int .i64 0, .slice none 0 0] g gk pa pl pc qa ql ((w'.alloc (.cells #[.int .i64 0, .int .i64 0, .int .i64 0, .string ⟨#[]⟩, .int .i64 0, .int .i64 0, .bool false, .bool false, .int .i64 0, .int .i64 0, .bool false, .bool false, .int .i64 0, .slice none 0 0] 29)).alloc (.cells #[.int .i64 0, .int .i64 0, .int .i64 0, .string ⟨#[]⟩, .int .i64 0, .int .i64 0, .bool false, .bool false, .int .i64 0, .int .i64 0, .bool false, .bool false, .int .i64 0, .slice none 0 0] 29)) := A8.of (W1 := w3.drew) hfr hx (by simp <;> omega) hS1 bw.size (fun b hb => (Below.heap_alloc _ _ _ (by simp; omega)).trans (Below.heap_alloc _ _ _ hb)) (by simp; omega) ⟨by have := bw.size; omega, .inr (by omega)⟩ ⟨by have := bw.size; omega, .inr (by omega)⟩ (by omega) (heap_alloc2_new w' (.cells #[.int .i64 0, .int .i64 0, .int .i64 0, .string ⟨#[]⟩, .int .i64 0, .int .i64 0, .bool false, .bool false, .int .i64 0, .int .i64 0, .bool false, .bool false, .int .i64 0, .slice none 0 0] 29) (.cells #[.int .i64 0, .int .i64 0, .int .i64 0, .string ⟨#[]⟩, .int .i64 0, .int .i64 0, .bool false, .bool false, .int .i64 0, .int .i64 0, .bool false, .bool false, .int .i64 0, .slice none 0 0] 29)) (heap_alloc2_old w' (.cells #[.int .i64 0, .int .i64 0, .int .i64 0, .string ⟨#[]⟩, .int .i64 0, .int .i64 0, .bool false, .bool false, .int .i64 0, .int .i64 0, .bool false, .bool false, .int .i64 0, .slice none 0 0] 29) (.cells #[.int .i64 0, .int .i64 0, .int .i64 0, .string ⟨#[]⟩, .int .i64 0, .int .i64 0, .bool false, .bool false, .int .i64 0, .int .i64 0, .bool false, .bool false, .int .i64 0, .slice none 0 0] 29))
                    refine wpAnyH_listed (f' := 4) (l' := #[true, true, true, true, true, true, true, true, true, true, true, true, true, false, false, false, false]) (by kernel_rfl) (by kernel_rfl) ?_
                    exact keyB ((w'.alloc (.cells #[.int .i64 0, .int .i64 0, .int .i64 0, .string ⟨#[]⟩, .int .i64 0, .int .i64 0, .bool false, .bool false, .int .i64 0, .int .i64 0, .bool false, .bool false, .int .i64 0, .slice none 0 0] 29)).alloc (.cells #[.int .i64 0, .int .i64 0, .int .i64 0, .string ⟨#[]⟩, .int .i64 0, .int .i64 0, .bool false, .bool false, .int .i64 0, .int .i64 0, .bool false, .bool false, .int .i64 0, .slice none 0 0] 29)) (w'.heap.size + 1) (w'.heap.size) g pa pl pc qa ql qc er ⟨gk, a8⟩
                  exact AllReadyH.nil
                exact AllReadyH.nil
              refine AllReadyH.cons (o := { dst := some 5, op := Go.Op.alloc 29, type := 0, pos := "law.go:71", after := #[], guard := none }) rfl (fun K hK => ?_) ?_
              · refine wanted_wp (by rfl) ?_
                go_simp
                refine hK.out _ _ (ext_alloc hS1 _) (fun hS1 => ?_)
                clear hK K
                try simp only [Act.put, List.setIfInBounds_toArray, List.set_cons_zero, List.set_cons_succ]
                refine wpAnyH_ready (rs := [5, 12]) (by kernel_rfl) (by simp) ?_
                refine AllReadyH.cons (o := { dst := some 40, op := Go.Op.call { callee := Go.Callee.value (Go.Operand.func 33), args := #[Go.Operand.tmp 38, Go.Operand.tmp 39], argTypes := #[60, 29] }, type := 61, pos := "law.go:71", after := #[{ on := 3, ground := Go.Ground.data }, { on := 4, ground := Go.Ground.data }], guard := none }) rfl (fun K hK => ?_) ?_
                · refine wanted_wp (by rfl) ?_
                  go_simp
                  go_at_call 33
                  with_reducible refine (CC.out _ hS1).mono ?_
                  rintro e w' ⟨g, gk, pa, qa, pl, pc, ql, qc, er, F, rfl, bq, bw, hfr, hx⟩
                  refine hK.out _ _ bw (fun hS1 => ?_)
                  clear hK K
                  try simp only [Act.put, List.setIfInBounds_toArray, List.set_cons_zero, List.set_cons_succ]
                  refine wpAnyH_take (i := 6) (oi := { dst := some 34, op := Go.Op.move (Go.Operand.tmp 40), type := 61, pos := "law.go:71", after := #[{ on := 5, ground := Go.Ground.data }], guard := none }) (v := (.tuple #[.agg #[.int .i64 g.kind, .int .i64 g.op, .int .i64 g.num, .string ⟨g.text.toArray⟩, .int .i64 g.ref.row, .int .i64 g.ref.col, .bool g.ref.pr, .bool g.ref.pc, .int .i64 g.to.row, .int .i64 g.to.col, .bool g.to.pr, .bool g.to.pc, .int .i64 g.fn, .slice pa pl pc], .int .i64 er, .agg #[.int .i64 g.kind, .int .i64 g.op, .int .i64 g.num, .string ⟨g.text.toArray⟩, .int .i64 g.ref.row, .int .i64 g.ref.col, .bool g.ref.pr, .bool g.ref.pc, .int .i64 g.to.row, .int .i64 g.to.col, .bool g.to.pr, .bool g.to.pc, .int .i64 g.fn, .slice qa ql qc], .int .i64 er])) rfl (by kernel_rfl) (by kernel_rfl) (by kernel_rfl) (fun _ _ _ h => h) (Or.inl ⟨by rfl, fun W hW => by first | (go_simp; done) | (go_simp; with_reducible rfl)⟩) hS1 ?_
                  try simp only [Act.put, List.setIfInBounds_toArray, List.set_cons_zero, List.set_cons_succ]
                  refine wpAnyH_take (i := 7) (oi := { dst := some 41, op := Go.Op.extract (Go.Operand.tmp 34) 0, type := 29, pos := "law.go:71", after := #[{ on := 6, ground := Go.Ground.data }], guard := none }) (v := (.agg #[.int .i64 g.kind, .int .i64 g.op, .int .i64 g.num, .string ⟨g.text.toArray⟩, .int .i64 g.ref.row, .int .i64 g.ref.col, .bool g.ref.pr, .bool g.ref.pc, .int .i64 g.to.row, .int .i64 g.to.col, .bool g.to.pr, .bool g.to.pc, .int .i64 g.fn, .slice pa pl pc])) rfl (by kernel_rfl) (by kernel_rfl) (by kernel_rfl) (fun _ _ _ h => h) (Or.inl ⟨by rfl, fun W hW => by first | (go_simp; done) | (go_simp; with_reducible rfl)⟩) hS1 ?_
                  try simp only [Act.put, List.setIfInBounds_toArray, List.set_cons_zero, List.set_cons_succ]
                  refine wpAnyH_take (i := 8) (oi := { dst := some 42, op := Go.Op.extract (Go.Operand.tmp 34) 1, type := 38, pos := "law.go:71", after := #[{ on := 6, ground := Go.Ground.data }, { on := 13, ground := Go.Ground.gcOnly Go.Departure.lateStores }], guard := none }) (v := (.int .i64 er)) rfl (by kernel_rfl) (by kernel_rfl) (by kernel_rfl) (fun _ _ _ h => h) (Or.inl ⟨by rfl, fun W hW => by first | (go_simp; done) | (go_simp; with_reducible rfl)⟩) hS1 ?_
                  try simp only [Act.put, List.setIfInBounds_toArray, List.set_cons_zero, List.set_cons_succ]
                  refine wpAnyH_take (i := 9) (oi := { dst := some 43, op := Go.Op.extract (Go.Operand.tmp 34) 2, type := 29, pos := "law.go:71", after := #[{ on := 6, ground := Go.Ground.data }, { on := 14, ground := Go.Ground.gcOnly Go.Departure.lateStores }], guard := none }) (v := (.agg #[.int .i64 g.kind, .int .i64 g.op, .int .i64 g.num, .string ⟨g.text.toArray⟩, .int .i64 g.ref.row, .int .i64 g.ref.col, .bool g.ref.pr, .bool g.ref.pc, .int .i64 g.to.row, .int .i64 g.to.col, .bool g.to.pr, .bool g.to.pc, .int .i64 g.fn, .slice qa ql qc])) rfl (by kernel_rfl) (by kernel_rfl) (by kernel_rfl) (fun _ _ _ h => h) (Or.inl ⟨by rfl, fun W hW => by first | (go_simp; done) | (go_simp; with_reducible rfl)⟩) hS1 ?_
                  try simp only [Act.put, List.setIfInBounds_toArray, List.set_cons_zero, List.set_cons_succ]
                  refine wpAnyH_take (i := 10) (oi := { dst := some 44, op := Go.Op.extract (Go.Operand.tmp 34) 3, type := 38, pos := "law.go:71", after := #[{ on := 6, ground := Go.Ground.data }, { on := 15, ground := Go.Ground.gcOnly Go.Departure.lateStores }], guard := none }) (v := (.int .i64 er)) rfl (by kernel_rfl) (by kernel_rfl) (by kernel_rfl) (fun _ _ _ h => h) (Or.inl ⟨by rfl, fun W hW => by first | (go_simp; done) | (go_simp; with_reducible rfl)⟩) hS1 ?_
                  try simp only [Act.put, List.setIfInBounds_toArray, List.set_cons_zero, List.set_cons_succ]
                  refine wpAnyH_ready (rs := [12]) (by kernel_rfl) (by simp) ?_
                  refine AllReadyH.cons (o := { dst := some 7, op := Go.Op.alloc 29, type := 0, pos := "law.go:71", after := #[], guard := none }) rfl (fun K hK => ?_) ?_
                  · refine wanted_wp (by rfl) ?_
                    go_simp
                    refine hK.out _ _ (ext_alloc hS1 _) (fun hS1 => ?_)
                    clear hK K
                    try simp only [Act.put, List.setIfInBounds_toArray, List.set_cons_zero, List.set_cons_succ]
                    have a8 : A8 w3 (w3.heap.size) (w'.heap.size) #[.int .i64 0, .int .i64 0, .int .i64 0, .string ⟨#[]⟩, .int .i64 0, .int .i64 0, .bool false, .bool false, .int .i64 0, .int .i64 0, .bool false, .bool false, .int .i64 0, .slice none 0 0] #[.int .i64 0, .int .i64 0, .int .i64 0, .string ⟨#[]⟩, .int .i64 0, .int .i64 0, .bool false, .bool false, .int .i64 0, .int .i64 0, .bool false, .bool false, .int .i64 0, .slice none 0 0] g gk pa pl pc qa ql (w'.alloc (.cells #[.int .i64 0, .int .i64 0, .int .i64 0, .string ⟨#[]⟩, .int .i64 0, .int .i64 0, .bool false, .bool false, .int .i64 0, .int .i64 0, .bool false, .bool false, .int .i64 0, .slice none 0 0] 29)) := A8.of (W1 := (w3.alloc (.cells #[.int .i64 0, .int .i64 0, .int .i64 0, .string ⟨#[]⟩, .int .i64 0, .int .i64 0, .bool false, .bool false, .int .i64 0, .int .i64 0, .bool false, .bool false, .int .i64 0, .slice none 0 0] 29)).drew) hfr hx (by simp <;> omega) hS1 bw.size (fun b hb => Below.heap_alloc _ _ _ hb) (by simp) ⟨Nat.le_refl _, .inl (by simp)⟩ ⟨by have := bw.size; omega, .inr (by omega)⟩ (by have := bq.size; simp at this; omega) ((Below.heap_alloc w' _ _ (lt_of_block (kept_new bq))).trans (kept_new bq)) (heap_alloc_new w' (.cells #[.int .i64 0, .int .i64 0, .int .i64 0, .string ⟨#[]⟩, .int .i64 0, .int .i64 0, .bool false, .bool false, .int .i64 0, .int .i64 0, .bool false, .bool false, .int .i64 0, .slice none 0 0] 29))
                    refine wpAnyH_listed (f' := 4) (l' := #[true, true, true, true, true, true, true, true, true, true, true, true, true, false, false, false, false]) (by kernel_rfl) (by kernel_rfl) ?_
                    exact keyB (w'.alloc (.cells #[.int .i64 0, .int .i64 0, .int .i64 0, .string ⟨#[]⟩, .int .i64 0, .int .i64 0, .bool false, .bool false, .int .i64 0, .int .i64 0, .bool false, .bool false, .int .i64 0, .slice none 0 0] 29)) (w3.heap.size) (w'.heap.size) g pa pl pc qa ql qc er ⟨gk, a8⟩
                  exact AllReadyH.nil
                refine AllReadyH.cons (o := { dst := some 7, op := Go.Op.alloc 29, type := 0, pos := "law.go:71", after := #[], guard := none }) rfl (fun K hK => ?_) ?_
                · refine wanted_wp (by rfl) ?_
                  go_simp
                  refine hK.out _ _ (ext_alloc hS1 _) (fun hS1 => ?_)
                  clear hK K
                  try simp only [Act.put, List.setIfInBounds_toArray, List.set_cons_zero, List.set_cons_succ]
                  refine wpAnyH_ready (rs := [5]) (by kernel_rfl) (by simp) ?_
                  refine AllReadyH.cons (o := { dst := some 40, op := Go.Op.call { callee := Go.Callee.value (Go.Operand.func 33), args := #[Go.Operand.tmp 38, Go.Operand.tmp 39], argTypes := #[60, 29] }, type := 61, pos := "law.go:71", after := #[{ on := 3, ground := Go.Ground.data }, { on := 4, ground := Go.Ground.data }], guard := none }) rfl (fun K hK => ?_) ?_
                  · refine wanted_wp (by rfl) ?_
                    go_simp
                    go_at_call 33
                    with_reducible refine (CC.out _ hS1).mono ?_
                    rintro e w' ⟨g, gk, pa, qa, pl, pc, ql, qc, er, F, rfl, bq, bw, hfr, hx⟩
                    refine hK.out _ _ bw (fun hS1 => ?_)
                    clear hK K
                    try simp only [Act.put, List.setIfInBounds_toArray, List.set_cons_zero, List.set_cons_succ]
                    refine wpAnyH_take (i := 6) (oi := { dst := some 34, op := Go.Op.move (Go.Operand.tmp 40), type := 61, pos := "law.go:71", after := #[{ on := 5, ground := Go.Ground.data }], guard := none }) (v := (.tuple #[.agg #[.int .i64 g.kind, .int .i64 g.op, .int .i64 g.num, .string ⟨g.text.toArray⟩, .int .i64 g.ref.row, .int .i64 g.ref.col, .bool g.ref.pr, .bool g.ref.pc, .int .i64 g.to.row, .int .i64 g.to.col, .bool g.to.pr, .bool g.to.pc, .int .i64 g.fn, .slice pa pl pc], .int .i64 er, .agg #[.int .i64 g.kind, .int .i64 g.op, .int .i64 g.num, .string ⟨g.text.toArray⟩, .int .i64 g.ref.row, .int .i64 g.ref.col, .bool g.ref.pr, .bool g.ref.pc, .int .i64 g.to.row, .int .i64 g.to.col, .bool g.to.pr, .bool g.to.pc, .int .i64 g.fn, .slice qa ql qc], .int .i64 er])) rfl (by kernel_rfl) (by kernel_rfl) (by kernel_rfl) (fun _ _ _ h => h) (Or.inl ⟨by rfl, fun W hW => by first | (go_simp; done) | (go_simp; with_reducible rfl)⟩) hS1 ?_
                    try simp only [Act.put, List.setIfInBounds_toArray, List.set_cons_zero, List.set_cons_succ]
                    refine wpAnyH_take (i := 7) (oi := { dst := some 41, op := Go.Op.extract (Go.Operand.tmp 34) 0, type := 29, pos := "law.go:71", after := #[{ on := 6, ground := Go.Ground.data }], guard := none }) (v := (.agg #[.int .i64 g.kind, .int .i64 g.op, .int .i64 g.num, .string ⟨g.text.toArray⟩, .int .i64 g.ref.row, .int .i64 g.ref.col, .bool g.ref.pr, .bool g.ref.pc, .int .i64 g.to.row, .int .i64 g.to.col, .bool g.to.pr, .bool g.to.pc, .int .i64 g.fn, .slice pa pl pc])) rfl (by kernel_rfl) (by kernel_rfl) (by kernel_rfl) (fun _ _ _ h => h) (Or.inl ⟨by rfl, fun W hW => by first | (go_simp; done) | (go_simp; with_reducible rfl)⟩) hS1 ?_
                    try simp only [Act.put, List.setIfInBounds_toArray, List.set_cons_zero, List.set_cons_succ]
                    refine wpAnyH_take (i := 8) (oi := { dst := some 42, op := Go.Op.extract (Go.Operand.tmp 34) 1, type := 38, pos := "law.go:71", after := #[{ on := 6, ground := Go.Ground.data }, { on := 13, ground := Go.Ground.gcOnly Go.Departure.lateStores }], guard := none }) (v := (.int .i64 er)) rfl (by kernel_rfl) (by kernel_rfl) (by kernel_rfl) (fun _ _ _ h => h) (Or.inl ⟨by rfl, fun W hW => by first | (go_simp; done) | (go_simp; with_reducible rfl)⟩) hS1 ?_
                    try simp only [Act.put, List.setIfInBounds_toArray, List.set_cons_zero, List.set_cons_succ]
                    refine wpAnyH_take (i := 9) (oi := { dst := some 43, op := Go.Op.extract (Go.Operand.tmp 34) 2, type := 29, pos := "law.go:71", after := #[{ on := 6, ground := Go.Ground.data }, { on := 14, ground := Go.Ground.gcOnly Go.Departure.lateStores }], guard := none }) (v := (.agg #[.int .i64 g.kind, .int .i64 g.op, .int .i64 g.num, .string ⟨g.text.toArray⟩, .int .i64 g.ref.row, .int .i64 g.ref.col, .bool g.ref.pr, .bool g.ref.pc, .int .i64 g.to.row, .int .i64 g.to.col, .bool g.to.pr, .bool g.to.pc, .int .i64 g.fn, .slice qa ql qc])) rfl (by kernel_rfl) (by kernel_rfl) (by kernel_rfl) (fun _ _ _ h => h) (Or.inl ⟨by rfl, fun W hW => by first | (go_simp; done) | (go_simp; with_reducible rfl)⟩) hS1 ?_
                    try simp only [Act.put, List.setIfInBounds_toArray, List.set_cons_zero, List.set_cons_succ]
                    refine wpAnyH_take (i := 10) (oi := { dst := some 44, op := Go.Op.extract (Go.Operand.tmp 34) 3, type := 38, pos := "law.go:71", after := #[{ on := 6, ground := Go.Ground.data }, { on := 15, ground := Go.Ground.gcOnly Go.Departure.lateStores }], guard := none }) (v := (.int .i64 er)) rfl (by kernel_rfl) (by kernel_rfl) (by kernel_rfl) (fun _ _ _ h => h) (Or.inl ⟨by rfl, fun W hW => by first | (go_simp; done) | (go_simp; with_reducible rfl)⟩) hS1 ?_
                    try simp only [Act.put, List.setIfInBounds_toArray, List.set_cons_zero, List.set_cons_succ]
                    have a8 : A8 w3 (w3.heap.size) (w3.heap.size + 1) #[.int .i64 0, .int .i64 0, .int .i64 0, .string ⟨#[]⟩, .int .i64 0, .int .i64 0, .bool false, .bool false, .int .i64 0, .int .i64 0, .bool false, .bool false, .int .i64 0, .slice none 0 0] #[.int .i64 0, .int .i64 0, .int .i64 0, .string ⟨#[]⟩, .int .i64 0, .int .i64 0, .bool false, .bool false, .int .i64 0, .int .i64 0, .bool false, .bool false, .int .i64 0, .slice none 0 0] g gk pa pl pc qa ql w' := A8.of (W1 := ((w3.alloc (.cells #[.int .i64 0, .int .i64 0, .int .i64 0, .string ⟨#[]⟩, .int .i64 0, .int .i64 0, .bool false, .bool false, .int .i64 0, .int .i64 0, .bool false, .bool false, .int .i64 0, .slice none 0 0] 29)).alloc (.cells #[.int .i64 0, .int .i64 0, .int .i64 0, .string ⟨#[]⟩, .int .i64 0, .int .i64 0, .bool false, .bool false, .int .i64 0, .int .i64 0, .bool false, .bool false, .int .i64 0, .slice none 0 0] 29)).drew) hfr hx (by simp <;> omega) hS1 bw.size (fun b _ => rfl) (Nat.le_refl _) ⟨Nat.le_refl _, .inl (by simp <;> omega)⟩ ⟨by omega, .inl (by simp)⟩ (by omega) ((kept_new2a bq).1) ((kept_new2a bq).2)
                    refine wpAnyH_listed (f' := 4) (l' := #[true, true, true, true, true, true, true, true, true, true, true, true, true, false, false, false, false]) (by kernel_rfl) (by kernel_rfl) ?_
                    exact keyB w' (w3.heap.size) (w3.heap.size + 1) g pa pl pc qa ql qc er ⟨gk, a8⟩
                  exact AllReadyH.nil
                exact AllReadyH.nil
              refine AllReadyH.cons (o := { dst := some 7, op := Go.Op.alloc 29, type := 0, pos := "law.go:71", after := #[], guard := none }) rfl (fun K hK => ?_) ?_
              · refine wanted_wp (by rfl) ?_
                go_simp
                refine hK.out _ _ (ext_alloc hS1 _) (fun hS1 => ?_)
                clear hK K
                try simp only [Act.put, List.setIfInBounds_toArray, List.set_cons_zero, List.set_cons_succ]
                refine wpAnyH_ready (rs := [5, 11]) (by kernel_rfl) (by simp) ?_
                refine AllReadyH.cons (o := { dst := some 40, op := Go.Op.call { callee := Go.Callee.value (Go.Operand.func 33), args := #[Go.Operand.tmp 38, Go.Operand.tmp 39], argTypes := #[60, 29] }, type := 61, pos := "law.go:71", after := #[{ on := 3, ground := Go.Ground.data }, { on := 4, ground := Go.Ground.data }], guard := none }) rfl (fun K hK => ?_) ?_
                · refine wanted_wp (by rfl) ?_
                  go_simp
                  go_at_call 33
                  with_reducible refine (CC.out _ hS1).mono ?_
                  rintro e w' ⟨g, gk, pa, qa, pl, pc, ql, qc, er, F, rfl, bq, bw, hfr, hx⟩
                  refine hK.out _ _ bw (fun hS1 => ?_)
                  clear hK K
                  try simp only [Act.put, List.setIfInBounds_toArray, List.set_cons_zero, List.set_cons_succ]
                  refine wpAnyH_take (i := 6) (oi := { dst := some 34, op := Go.Op.move (Go.Operand.tmp 40), type := 61, pos := "law.go:71", after := #[{ on := 5, ground := Go.Ground.data }], guard := none }) (v := (.tuple #[.agg #[.int .i64 g.kind, .int .i64 g.op, .int .i64 g.num, .string ⟨g.text.toArray⟩, .int .i64 g.ref.row, .int .i64 g.ref.col, .bool g.ref.pr, .bool g.ref.pc, .int .i64 g.to.row, .int .i64 g.to.col, .bool g.to.pr, .bool g.to.pc, .int .i64 g.fn, .slice pa pl pc], .int .i64 er, .agg #[.int .i64 g.kind, .int .i64 g.op, .int .i64 g.num, .string ⟨g.text.toArray⟩, .int .i64 g.ref.row, .int .i64 g.ref.col, .bool g.ref.pr, .bool g.ref.pc, .int .i64 g.to.row, .int .i64 g.to.col, .bool g.to.pr, .bool g.to.pc, .int .i64 g.fn, .slice qa ql qc], .int .i64 er])) rfl (by kernel_rfl) (by kernel_rfl) (by kernel_rfl) (fun _ _ _ h => h) (Or.inl ⟨by rfl, fun W hW => by first | (go_simp; done) | (go_simp; with_reducible rfl)⟩) hS1 ?_
                  try simp only [Act.put, List.setIfInBounds_toArray, List.set_cons_zero, List.set_cons_succ]
                  refine wpAnyH_take (i := 7) (oi := { dst := some 41, op := Go.Op.extract (Go.Operand.tmp 34) 0, type := 29, pos := "law.go:71", after := #[{ on := 6, ground := Go.Ground.data }], guard := none }) (v := (.agg #[.int .i64 g.kind, .int .i64 g.op, .int .i64 g.num, .string ⟨g.text.toArray⟩, .int .i64 g.ref.row, .int .i64 g.ref.col, .bool g.ref.pr, .bool g.ref.pc, .int .i64 g.to.row, .int .i64 g.to.col, .bool g.to.pr, .bool g.to.pc, .int .i64 g.fn, .slice pa pl pc])) rfl (by kernel_rfl) (by kernel_rfl) (by kernel_rfl) (fun _ _ _ h => h) (Or.inl ⟨by rfl, fun W hW => by first | (go_simp; done) | (go_simp; with_reducible rfl)⟩) hS1 ?_
                  try simp only [Act.put, List.setIfInBounds_toArray, List.set_cons_zero, List.set_cons_succ]
                  refine wpAnyH_take (i := 8) (oi := { dst := some 42, op := Go.Op.extract (Go.Operand.tmp 34) 1, type := 38, pos := "law.go:71", after := #[{ on := 6, ground := Go.Ground.data }, { on := 13, ground := Go.Ground.gcOnly Go.Departure.lateStores }], guard := none }) (v := (.int .i64 er)) rfl (by kernel_rfl) (by kernel_rfl) (by kernel_rfl) (fun _ _ _ h => h) (Or.inl ⟨by rfl, fun W hW => by first | (go_simp; done) | (go_simp; with_reducible rfl)⟩) hS1 ?_
                  try simp only [Act.put, List.setIfInBounds_toArray, List.set_cons_zero, List.set_cons_succ]
                  refine wpAnyH_take (i := 9) (oi := { dst := some 43, op := Go.Op.extract (Go.Operand.tmp 34) 2, type := 29, pos := "law.go:71", after := #[{ on := 6, ground := Go.Ground.data }, { on := 14, ground := Go.Ground.gcOnly Go.Departure.lateStores }], guard := none }) (v := (.agg #[.int .i64 g.kind, .int .i64 g.op, .int .i64 g.num, .string ⟨g.text.toArray⟩, .int .i64 g.ref.row, .int .i64 g.ref.col, .bool g.ref.pr, .bool g.ref.pc, .int .i64 g.to.row, .int .i64 g.to.col, .bool g.to.pr, .bool g.to.pc, .int .i64 g.fn, .slice qa ql qc])) rfl (by kernel_rfl) (by kernel_rfl) (by kernel_rfl) (fun _ _ _ h => h) (Or.inl ⟨by rfl, fun W hW => by first | (go_simp; done) | (go_simp; with_reducible rfl)⟩) hS1 ?_
                  try simp only [Act.put, List.setIfInBounds_toArray, List.set_cons_zero, List.set_cons_succ]
                  refine wpAnyH_take (i := 10) (oi := { dst := some 44, op := Go.Op.extract (Go.Operand.tmp 34) 3, type := 38, pos := "law.go:71", after := #[{ on := 6, ground := Go.Ground.data }, { on := 15, ground := Go.Ground.gcOnly Go.Departure.lateStores }], guard := none }) (v := (.int .i64 er)) rfl (by kernel_rfl) (by kernel_rfl) (by kernel_rfl) (fun _ _ _ h => h) (Or.inl ⟨by rfl, fun W hW => by first | (go_simp; done) | (go_simp; with_reducible rfl)⟩) hS1 ?_
                  try simp only [Act.put, List.setIfInBounds_toArray, List.set_cons_zero, List.set_cons_succ]
                  refine wpAnyH_ready (rs := [11]) (by kernel_rfl) (by simp) ?_
                  refine AllReadyH.cons (o := { dst := some 5, op := Go.Op.alloc 29, type := 0, pos := "law.go:71", after := #[], guard := none }) rfl (fun K hK => ?_) ?_
                  · refine wanted_wp (by rfl) ?_
                    go_simp
                    refine hK.out _ _ (ext_alloc hS1 _) (fun hS1 => ?_)
                    clear hK K
                    try simp only [Act.put, List.setIfInBounds_toArray, List.set_cons_zero, List.set_cons_succ]
                    have a8 : A8 w3 (w'.heap.size) (w3.heap.size) #[.int .i64 0, .int .i64 0, .int .i64 0, .string ⟨#[]⟩, .int .i64 0, .int .i64 0, .bool false, .bool false, .int .i64 0, .int .i64 0, .bool false, .bool false, .int .i64 0, .slice none 0 0] #[.int .i64 0, .int .i64 0, .int .i64 0, .string ⟨#[]⟩, .int .i64 0, .int .i64 0, .bool false, .bool false, .int .i64 0, .int .i64 0, .bool false, .bool false, .int .i64 0, .slice none 0 0] g gk pa pl pc qa ql (w'.alloc (.cells #[.int .i64 0, .int .i64 0, .int .i64 0, .string ⟨#[]⟩, .int .i64 0, .int .i64 0, .bool false, .bool false, .int .i64 0, .int .i64 0, .bool false, .bool false, .int .i64 0, .slice none 0 0] 29)) := A8.of (W1 := (w3.alloc (.cells #[.int .i64 0, .int .i64 0, .int .i64 0, .string ⟨#[]⟩, .int .i64 0, .int .i64 0, .bool false, .bool false, .int .i64 0, .int .i64 0, .bool false, .bool false, .int .i64 0, .slice none 0 0] 29)).drew) hfr hx (by simp <;> omega) hS1 bw.size (fun b hb => Below.heap_alloc _ _ _ hb) (by simp) ⟨by have := bw.size; omega, .inr (by omega)⟩ ⟨Nat.le_refl _, .inl (by simp)⟩ (by have := bq.size; simp at this; omega) (heap_alloc_new w' (.cells #[.int .i64 0, .int .i64 0, .int .i64 0, .string ⟨#[]⟩, .int .i64 0, .int .i64 0, .bool false, .bool false, .int .i64 0, .int .i64 0, .bool false, .bool false, .int .i64 0, .slice none 0 0] 29)) ((Below.heap_alloc w' _ _ (lt_of_block (kept_new bq))).trans (kept_new bq))
                    refine wpAnyH_listed (f' := 4) (l' := #[true, true, true, true, true, true, true, true, true, true, true, true, true, false, false, false, false]) (by kernel_rfl) (by kernel_rfl) ?_
                    exact keyB (w'.alloc (.cells #[.int .i64 0, .int .i64 0, .int .i64 0, .string ⟨#[]⟩, .int .i64 0, .int .i64 0, .bool false, .bool false, .int .i64 0, .int .i64 0, .bool false, .bool false, .int .i64 0, .slice none 0 0] 29)) (w'.heap.size) (w3.heap.size) g pa pl pc qa ql qc er ⟨gk, a8⟩
                  exact AllReadyH.nil
                refine AllReadyH.cons (o := { dst := some 5, op := Go.Op.alloc 29, type := 0, pos := "law.go:71", after := #[], guard := none }) rfl (fun K hK => ?_) ?_
                · refine wanted_wp (by rfl) ?_
                  go_simp
                  refine hK.out _ _ (ext_alloc hS1 _) (fun hS1 => ?_)
                  clear hK K
                  try simp only [Act.put, List.setIfInBounds_toArray, List.set_cons_zero, List.set_cons_succ]
                  refine wpAnyH_ready (rs := [5]) (by kernel_rfl) (by simp) ?_
                  refine AllReadyH.cons (o := { dst := some 40, op := Go.Op.call { callee := Go.Callee.value (Go.Operand.func 33), args := #[Go.Operand.tmp 38, Go.Operand.tmp 39], argTypes := #[60, 29] }, type := 61, pos := "law.go:71", after := #[{ on := 3, ground := Go.Ground.data }, { on := 4, ground := Go.Ground.data }], guard := none }) rfl (fun K hK => ?_) ?_
                  · refine wanted_wp (by rfl) ?_
                    go_simp
                    go_at_call 33
                    with_reducible refine (CC.out _ hS1).mono ?_
                    rintro e w' ⟨g, gk, pa, qa, pl, pc, ql, qc, er, F, rfl, bq, bw, hfr, hx⟩
                    refine hK.out _ _ bw (fun hS1 => ?_)
                    clear hK K
                    try simp only [Act.put, List.setIfInBounds_toArray, List.set_cons_zero, List.set_cons_succ]
                    refine wpAnyH_take (i := 6) (oi := { dst := some 34, op := Go.Op.move (Go.Operand.tmp 40), type := 61, pos := "law.go:71", after := #[{ on := 5, ground := Go.Ground.data }], guard := none }) (v := (.tuple #[.agg #[.int .i64 g.kind, .int .i64 g.op, .int .i64 g.num, .string ⟨g.text.toArray⟩, .int .i64 g.ref.row, .int .i64 g.ref.col, .bool g.ref.pr, .bool g.ref.pc, .int .i64 g.to.row, .int .i64 g.to.col, .bool g.to.pr, .bool g.to.pc, .int .i64 g.fn, .slice pa pl pc], .int .i64 er, .agg #[.int .i64 g.kind, .int .i64 g.op, .int .i64 g.num, .string ⟨g.text.toArray⟩, .int .i64 g.ref.row, .int .i64 g.ref.col, .bool g.ref.pr, .bool g.ref.pc, .int .i64 g.to.row, .int .i64 g.to.col, .bool g.to.pr, .bool g.to.pc, .int .i64 g.fn, .slice qa ql qc], .int .i64 er])) rfl (by kernel_rfl) (by kernel_rfl) (by kernel_rfl) (fun _ _ _ h => h) (Or.inl ⟨by rfl, fun W hW => by first | (go_simp; done) | (go_simp; with_reducible rfl)⟩) hS1 ?_
                    try simp only [Act.put, List.setIfInBounds_toArray, List.set_cons_zero, List.set_cons_succ]
                    refine wpAnyH_take (i := 7) (oi := { dst := some 41, op := Go.Op.extract (Go.Operand.tmp 34) 0, type := 29, pos := "law.go:71", after := #[{ on := 6, ground := Go.Ground.data }], guard := none }) (v := (.agg #[.int .i64 g.kind, .int .i64 g.op, .int .i64 g.num, .string ⟨g.text.toArray⟩, .int .i64 g.ref.row, .int .i64 g.ref.col, .bool g.ref.pr, .bool g.ref.pc, .int .i64 g.to.row, .int .i64 g.to.col, .bool g.to.pr, .bool g.to.pc, .int .i64 g.fn, .slice pa pl pc])) rfl (by kernel_rfl) (by kernel_rfl) (by kernel_rfl) (fun _ _ _ h => h) (Or.inl ⟨by rfl, fun W hW => by first | (go_simp; done) | (go_simp; with_reducible rfl)⟩) hS1 ?_
                    try simp only [Act.put, List.setIfInBounds_toArray, List.set_cons_zero, List.set_cons_succ]
                    refine wpAnyH_take (i := 8) (oi := { dst := some 42, op := Go.Op.extract (Go.Operand.tmp 34) 1, type := 38, pos := "law.go:71", after := #[{ on := 6, ground := Go.Ground.data }, { on := 13, ground := Go.Ground.gcOnly Go.Departure.lateStores }], guard := none }) (v := (.int .i64 er)) rfl (by kernel_rfl) (by kernel_rfl) (by kernel_rfl) (fun _ _ _ h => h) (Or.inl ⟨by rfl, fun W hW => by first | (go_simp; done) | (go_simp; with_reducible rfl)⟩) hS1 ?_
                    try simp only [Act.put, List.setIfInBounds_toArray, List.set_cons_zero, List.set_cons_succ]
                    refine wpAnyH_take (i := 9) (oi := { dst := some 43, op := Go.Op.extract (Go.Operand.tmp 34) 2, type := 29, pos := "law.go:71", after := #[{ on := 6, ground := Go.Ground.data }, { on := 14, ground := Go.Ground.gcOnly Go.Departure.lateStores }], guard := none }) (v := (.agg #[.int .i64 g.kind, .int .i64 g.op, .int .i64 g.num, .string ⟨g.text.toArray⟩, .int .i64 g.ref.row, .int .i64 g.ref.col, .bool g.ref.pr, .bool g.ref.pc, .int .i64 g.to.row, .int .i64 g.to.col, .bool g.to.pr, .bool g.to.pc, .int .i64 g.fn, .slice qa ql qc])) rfl (by kernel_rfl) (by kernel_rfl) (by kernel_rfl) (fun _ _ _ h => h) (Or.inl ⟨by rfl, fun W hW => by first | (go_simp; done) | (go_simp; with_reducible rfl)⟩) hS1 ?_
                    try simp only [Act.put, List.setIfInBounds_toArray, List.set_cons_zero, List.set_cons_succ]
                    refine wpAnyH_take (i := 10) (oi := { dst := some 44, op := Go.Op.extract (Go.Operand.tmp 34) 3, type := 38, pos := "law.go:71", after := #[{ on := 6, ground := Go.Ground.data }, { on := 15, ground := Go.Ground.gcOnly Go.Departure.lateStores }], guard := none }) (v := (.int .i64 er)) rfl (by kernel_rfl) (by kernel_rfl) (by kernel_rfl) (fun _ _ _ h => h) (Or.inl ⟨by rfl, fun W hW => by first | (go_simp; done) | (go_simp; with_reducible rfl)⟩) hS1 ?_
                    try simp only [Act.put, List.setIfInBounds_toArray, List.set_cons_zero, List.set_cons_succ]
                    have a8 : A8 w3 (w3.heap.size + 1) (w3.heap.size) #[.int .i64 0, .int .i64 0, .int .i64 0, .string ⟨#[]⟩, .int .i64 0, .int .i64 0, .bool false, .bool false, .int .i64 0, .int .i64 0, .bool false, .bool false, .int .i64 0, .slice none 0 0] #[.int .i64 0, .int .i64 0, .int .i64 0, .string ⟨#[]⟩, .int .i64 0, .int .i64 0, .bool false, .bool false, .int .i64 0, .int .i64 0, .bool false, .bool false, .int .i64 0, .slice none 0 0] g gk pa pl pc qa ql w' := A8.of (W1 := ((w3.alloc (.cells #[.int .i64 0, .int .i64 0, .int .i64 0, .string ⟨#[]⟩, .int .i64 0, .int .i64 0, .bool false, .bool false, .int .i64 0, .int .i64 0, .bool false, .bool false, .int .i64 0, .slice none 0 0] 29)).alloc (.cells #[.int .i64 0, .int .i64 0, .int .i64 0, .string ⟨#[]⟩, .int .i64 0, .int .i64 0, .bool false, .bool false, .int .i64 0, .int .i64 0, .bool false, .bool false, .int .i64 0, .slice none 0 0] 29)).drew) hfr hx (by simp <;> omega) hS1 bw.size (fun b _ => rfl) (Nat.le_refl _) ⟨by omega, .inl (by simp)⟩ ⟨Nat.le_refl _, .inl (by simp <;> omega)⟩ (by omega) ((kept_new2a bq).2) ((kept_new2a bq).1)
                    refine wpAnyH_listed (f' := 4) (l' := #[true, true, true, true, true, true, true, true, true, true, true, true, true, false, false, false, false]) (by kernel_rfl) (by kernel_rfl) ?_
                    exact keyB w' (w3.heap.size + 1) (w3.heap.size) g pa pl pc qa ql qc er ⟨gk, a8⟩
                  exact AllReadyH.nil
                exact AllReadyH.nil
              exact AllReadyH.nil
            case kstores =>
              intro W N5 N7 g pa pl pc qa ql qc er ⟨gk, a8⟩
              have hS1 := a8.bel
              refine wpAnyH_ready (rs := [13]) (by kernel_rfl) (by simp) ?_
              refine AllReadyH.cons (o := { dst := none, op := Go.Op.store 29 (Go.Operand.tmp 5) (Go.Operand.tmp 41), type := 0, pos := "law.go:71", after := #[{ on := 11, ground := Go.Ground.data }, { on := 7, ground := Go.Ground.data }, { on := 5, ground := Go.Ground.chain }, { on := 0, ground := Go.Ground.phase }, { on := 1, ground := Go.Ground.phase }, { on := 2, ground := Go.Ground.phase }, { on := 3, ground := Go.Ground.phase }, { on := 4, ground := Go.Ground.phase }, { on := 5, ground := Go.Ground.phase }, { on := 6, ground := Go.Ground.phase }, { on := 7, ground := Go.Ground.phase }, { on := 8, ground := Go.Ground.textOnly Go.Departure.lateStores }, { on := 9, ground := Go.Ground.textOnly Go.Departure.lateStores }, { on := 10, ground := Go.Ground.textOnly Go.Departure.lateStores }, { on := 11, ground := Go.Ground.phase }, { on := 12, ground := Go.Ground.phase }], guard := none }) rfl (fun K hK => ?_) ?_
              · refine wanted_wp (by rfl) ?_
                refine wp_store_mid 29 _ _ rfl N5 0 #[.int .i64 g.kind, .int .i64 g.op, .int .i64 g.num, .string ⟨g.text.toArray⟩, .int .i64 g.ref.row, .int .i64 g.ref.col, .bool g.ref.pr, .bool g.ref.pc, .int .i64 g.to.row, .int .i64 g.to.col, .bool g.to.pr, .bool g.to.pc, .int .i64 g.fn, .slice pa pl pc] rfl rfl (show World.there W N5 0 14 from there_box a8.b5) infoExprS (by simp [Value.oneCell']) ?_
                have a8 := a8.set5 (vs := [.int .i64 g.kind, .int .i64 g.op, .int .i64 g.num, .string ⟨g.text.toArray⟩, .int .i64 g.ref.row, .int .i64 g.ref.col, .bool g.ref.pr, .bool g.ref.pc, .int .i64 g.to.row, .int .i64 g.to.col, .bool g.to.pr, .bool g.to.pc, .int .i64 g.fn, .slice pa pl pc]) rfl
                change K _ (World.setCells W N5 0 [.int .i64 g.kind, .int .i64 g.op, .int .i64 g.num, .string ⟨g.text.toArray⟩, .int .i64 g.ref.row, .int .i64 g.ref.col, .bool g.ref.pr, .bool g.ref.pc, .int .i64 g.to.row, .int .i64 g.to.col, .bool g.to.pr, .bool g.to.pc, .int .i64 g.fn, .slice pa pl pc])
                generalize World.setCells W N5 0 [.int .i64 g.kind, .int .i64 g.op, .int .i64 g.num, .string ⟨g.text.toArray⟩, .int .i64 g.ref.row, .int .i64 g.ref.col, .bool g.ref.pr, .bool g.ref.pc, .int .i64 g.to.row, .int .i64 g.to.col, .bool g.to.pr, .bool g.to.pc, .int .i64 g.fn, .slice pa pl pc] = W1 at a8 ⊢
                refine hK.out _ _ a8.bel (fun hS1 => ?_)
                clear hK K
                try simp only [Act.put, List.setIfInBounds_toArray, List.set_cons_zero, List.set_cons_succ]
                refine wpAnyH_take (i := 14) (oi := { dst := some 6, op := Go.Op.assign (Go.Operand.tmp 42), type := 38, pos := "law.go:71", after := #[{ on := 8, ground := Go.Ground.data }, { on := 13, ground := Go.Ground.chain }, { on := 0, ground := Go.Ground.phase }, { on := 1, ground := Go.Ground.phase }, { on := 2, ground := Go.Ground.phase }, { on := 3, ground := Go.Ground.phase }, { on := 4, ground := Go.Ground.phase }, { on := 5, ground := Go.Ground.phase }, { on := 6, ground := Go.Ground.phase }, { on := 7, ground := Go.Ground.phase }, { on := 8, ground := Go.Ground.phase }, { on := 9, ground := Go.Ground.textOnly Go.Departure.lateStores }, { on := 10, ground := Go.Ground.textOnly Go.Departure.lateStores }, { on := 11, ground := Go.Ground.phase }, { on := 12, ground := Go.Ground.phase }, { on := 13, ground := Go.Ground.phase }], guard := none }) (v := (.int .i64 er)) rfl (by kernel_rfl) (by kernel_rfl) (by kernel_rfl) (fun _ _ _ h => h) (Or.inl ⟨by rfl, fun W hW => by first | (go_simp; done) | (go_simp; with_reducible rfl)⟩) hS1 ?_
                try simp only [Act.put, List.setIfInBounds_toArray, List.set_cons_zero, List.set_cons_succ]
                refine wpAnyH_ready (rs := [15]) (by kernel_rfl) (by simp) ?_
                refine AllReadyH.cons (o := { dst := none, op := Go.Op.store 29 (Go.Operand.tmp 7) (Go.Operand.tmp 43), type := 0, pos := "law.go:71", after := #[{ on := 12, ground := Go.Ground.data }, { on := 9, ground := Go.Ground.data }, { on := 14, ground := Go.Ground.chain }, { on := 0, ground := Go.Ground.phase }, { on := 1, ground := Go.Ground.phase }, { on := 2, ground := Go.Ground.phase }, { on := 3, ground := Go.Ground.phase }, { on := 4, ground := Go.Ground.phase }, { on := 5, ground := Go.Ground.phase }, { on := 6, ground := Go.Ground.phase }, { on := 7, ground := Go.Ground.phase }, { on := 8, ground := Go.Ground.phase }, { on := 9, ground := Go.Ground.phase }, { on := 10, ground := Go.Ground.textOnly Go.Departure.lateStores }, { on := 11, ground := Go.Ground.phase }, { on := 12, ground := Go.Ground.phase }, { on := 13, ground := Go.Ground.phase }, { on := 14, ground := Go.Ground.phase }], guard := none }) rfl (fun K hK => ?_) ?_
                · refine wanted_wp (by rfl) ?_
                  refine wp_store_mid 29 _ _ rfl N7 0 #[.int .i64 g.kind, .int .i64 g.op, .int .i64 g.num, .string ⟨g.text.toArray⟩, .int .i64 g.ref.row, .int .i64 g.ref.col, .bool g.ref.pr, .bool g.ref.pc, .int .i64 g.to.row, .int .i64 g.to.col, .bool g.to.pr, .bool g.to.pc, .int .i64 g.fn, .slice qa ql qc] rfl rfl (show World.there W1 N7 0 14 from there_box a8.b7) infoExprS (by simp [Value.oneCell']) ?_
                  have a8 := a8.set7 (vs := [.int .i64 g.kind, .int .i64 g.op, .int .i64 g.num, .string ⟨g.text.toArray⟩, .int .i64 g.ref.row, .int .i64 g.ref.col, .bool g.ref.pr, .bool g.ref.pc, .int .i64 g.to.row, .int .i64 g.to.col, .bool g.to.pr, .bool g.to.pc, .int .i64 g.fn, .slice qa ql qc]) rfl
                  change K _ (World.setCells W1 N7 0 [.int .i64 g.kind, .int .i64 g.op, .int .i64 g.num, .string ⟨g.text.toArray⟩, .int .i64 g.ref.row, .int .i64 g.ref.col, .bool g.ref.pr, .bool g.ref.pc, .int .i64 g.to.row, .int .i64 g.to.col, .bool g.to.pr, .bool g.to.pc, .int .i64 g.fn, .slice qa ql qc])
                  generalize World.setCells W1 N7 0 [.int .i64 g.kind, .int .i64 g.op, .int .i64 g.num, .string ⟨g.text.toArray⟩, .int .i64 g.ref.row, .int .i64 g.ref.col, .bool g.ref.pr, .bool g.ref.pc, .int .i64 g.to.row, .int .i64 g.to.col, .bool g.to.pr, .bool g.to.pc, .int .i64 g.fn, .slice qa ql qc] = W2 at a8 ⊢
                  refine hK.out _ _ a8.bel (fun hS1 => ?_)
                  clear hK K
                  try simp only [Act.put, List.setIfInBounds_toArray, List.set_cons_zero, List.set_cons_succ]
                  refine wpAnyH_take (i := 16) (oi := { dst := some 8, op := Go.Op.assign (Go.Operand.tmp 44), type := 38, pos := "law.go:71", after := #[{ on := 10, ground := Go.Ground.data }, { on := 15, ground := Go.Ground.chain }, { on := 0, ground := Go.Ground.phase }, { on := 1, ground := Go.Ground.phase }, { on := 2, ground := Go.Ground.phase }, { on := 3, ground := Go.Ground.phase }, { on := 4, ground := Go.Ground.phase }, { on := 5, ground := Go.Ground.phase }, { on := 6, ground := Go.Ground.phase }, { on := 7, ground := Go.Ground.phase }, { on := 8, ground := Go.Ground.phase }, { on := 9, ground := Go.Ground.phase }, { on := 10, ground := Go.Ground.phase }, { on := 11, ground := Go.Ground.phase }, { on := 12, ground := Go.Ground.phase }, { on := 13, ground := Go.Ground.phase }, { on := 14, ground := Go.Ground.phase }, { on := 15, ground := Go.Ground.phase }], guard := none }) (v := (.int .i64 er)) rfl (by kernel_rfl) (by kernel_rfl) (by kernel_rfl) (fun _ _ _ h => h) (Or.inl ⟨by rfl, fun W hW => by first | (go_simp; done) | (go_simp; with_reducible rfl)⟩) hS1 ?_
                  try simp only [Act.put, List.setIfInBounds_toArray, List.set_cons_zero, List.set_cons_succ]
                  refine wpAnyH_done (by kernel_rfl) ?_ _
                  refine NoPanic.normal ?_
                  exact key W2 N5 N7 g pa pl pc qa ql qc er ⟨gk, a8⟩
                exact AllReadyH.nil
              exact AllReadyH.nil
          case klater =>
            intro W N5 N7 g pa pl pc qa ql qc er ⟨gk, a9⟩
            have A9 := Lib.hid a9
            clear a9 CC
            go_wp2_with fail
            refine wp_region_noPanic ?_
            refine wp_region_held_drew (S := (fun W => A8 w3 N5 N7 #[.int .i64 g.kind, .int .i64 g.op, .int .i64 g.num, .string ⟨g.text.toArray⟩, .int .i64 g.ref.row, .int .i64 g.ref.col, .bool g.ref.pr, .bool g.ref.pc, .int .i64 g.to.row, .int .i64 g.to.col, .bool g.to.pr, .bool g.to.pc, .int .i64 g.fn, .slice pa pl pc] #[.int .i64 g.kind, .int .i64 g.op, .int .i64 g.num, .string ⟨g.text.toArray⟩, .int .i64 g.ref.row, .int .i64 g.ref.col, .bool g.ref.pr, .bool g.ref.pc, .int .i64 g.to.row, .int .i64 g.to.col, .bool g.to.pr, .bool g.to.pc, .int .i64 g.fn, .slice qa ql qc] g gk pa pl pc qa ql W)) (by kernel_rfl) (A9.out.step (Below.refl _ _).drew) (fun hS1 => ?_)
            refine wpAnyH_take (i := 0) (oi := { dst := some 45, op := Go.Op.move (Go.Operand.tmp 6), type := 38, pos := "law.go:72", after := #[], guard := none }) (v := (.int .i64 er)) rfl (by kernel_rfl) (by kernel_rfl) (by kernel_rfl) (fun _ _ _ h => h) (Or.inl ⟨by rfl, fun W hW => by first | (go_simp; done) | (go_simp; with_reducible rfl)⟩) hS1 ?_
            try simp only [Act.put, List.setIfInBounds_toArray, List.set_cons_zero, List.set_cons_succ]
            refine wpAnyH_take (i := 1) (oi := { dst := some 46, op := Go.Op.move (Go.Operand.tmp 8), type := 38, pos := "law.go:72", after := #[], guard := none }) (v := (.int .i64 er)) rfl (by kernel_rfl) (by kernel_rfl) (by kernel_rfl) (fun _ _ _ h => h) (Or.inl ⟨by rfl, fun W hW => by first | (go_simp; done) | (go_simp; with_reducible rfl)⟩) hS1 ?_
            try simp only [Act.put, List.setIfInBounds_toArray, List.set_cons_zero, List.set_cons_succ]
            refine wpAnyH_take (i := 2) (oi := { dst := some 47, op := Go.Op.binOp Go.BinOp.neq 38 (Go.Operand.tmp 45) (Go.Operand.tmp 46) 38, type := 4, pos := "law.go:72", after := #[{ on := 0, ground := Go.Ground.data }, { on := 1, ground := Go.Ground.data }], guard := none }) (v := (.bool false)) rfl (by kernel_rfl) (by kernel_rfl) (by kernel_rfl) (fun _ _ _ h => h) (Or.inl ⟨by rfl, fun W hW => by first | (go_simp; done) | (go_simp; with_reducible rfl)⟩) hS1 ?_
            try simp only [Act.put, List.setIfInBounds_toArray, List.set_cons_zero, List.set_cons_succ]
            refine wpAnyH_take (i := 3) (oi := { dst := some 48, op := Go.Op.move (Go.Operand.tmp 47), type := 4, pos := "law.go:72", after := #[{ on := 2, ground := Go.Ground.data }], guard := none }) (v := (.bool false)) rfl (by kernel_rfl) (by kernel_rfl) (by kernel_rfl) (fun _ _ _ h => h) (Or.inl ⟨by rfl, fun W hW => by first | (go_simp; done) | (go_simp; with_reducible rfl)⟩) hS1 ?_
            try simp only [Act.put, List.setIfInBounds_toArray, List.set_cons_zero, List.set_cons_succ]
            refine wpAnyH_take (i := 4) (oi := { dst := some 49, op := Go.Op.load 29 (Go.Operand.tmp 5), type := 29, pos := "law.go:72", after := #[{ on := 3, ground := Go.Ground.guard }], guard := some (3, false) }) (v := (.agg #[.int .i64 g.kind, .int .i64 g.op, .int .i64 g.num, .string ⟨g.text.toArray⟩, .int .i64 g.ref.row, .int .i64 g.ref.col, .bool g.ref.pr, .bool g.ref.pc, .int .i64 g.to.row, .int .i64 g.to.col, .bool g.to.pr, .bool g.to.pc, .int .i64 g.fn, .slice pa pl pc])) rfl (by kernel_rfl) (by kernel_rfl) (by kernel_rfl) (fun _ _ _ h => h) (yieldsIf_load_mid (by rfl) 29 _ rfl N5 0 rfl [.int .i64 g.kind, .int .i64 g.op, .int .i64 g.num, .string ⟨g.text.toArray⟩, .int .i64 g.ref.row, .int .i64 g.ref.col, .bool g.ref.pr, .bool g.ref.pc, .int .i64 g.to.row, .int .i64 g.to.col, .bool g.to.pr, .bool g.to.pc, .int .i64 g.fn, .slice pa pl pc] _ (fun W hW => fun o v h => by rw [cells_of_block hW.b5, ← h]; simp) Try.underlying29 rfl infoExprS) hS1 ?_
            try simp only [Act.put, List.setIfInBounds_toArray, List.set_cons_zero, List.set_cons_succ]
            refine wpAnyH_take (i := 5) (oi := { dst := some 50, op := Go.Op.load 29 (Go.Operand.tmp 7), type := 29, pos := "law.go:72", after := #[{ on := 3, ground := Go.Ground.guard }], guard := some (3, false) }) (v := (.agg #[.int .i64 g.kind, .int .i64 g.op, .int .i64 g.num, .string ⟨g.text.toArray⟩, .int .i64 g.ref.row, .int .i64 g.ref.col, .bool g.ref.pr, .bool g.ref.pc, .int .i64 g.to.row, .int .i64 g.to.col, .bool g.to.pr, .bool g.to.pc, .int .i64 g.fn, .slice qa ql qc])) rfl (by kernel_rfl) (by kernel_rfl) (by kernel_rfl) (fun _ _ _ h => h) (yieldsIf_load_mid (by rfl) 29 _ rfl N7 0 rfl [.int .i64 g.kind, .int .i64 g.op, .int .i64 g.num, .string ⟨g.text.toArray⟩, .int .i64 g.ref.row, .int .i64 g.ref.col, .bool g.ref.pr, .bool g.ref.pc, .int .i64 g.to.row, .int .i64 g.to.col, .bool g.to.pr, .bool g.to.pc, .int .i64 g.fn, .slice qa ql qc] _ (fun W hW => fun o v h => by rw [cells_of_block hW.b7, ← h]; simp) Try.underlying29 rfl infoExprS) hS1 ?_
            try simp only [Act.put, List.setIfInBounds_toArray, List.set_cons_zero, List.set_cons_succ]
            refine wpAnyH_ready (rs := [6]) (by kernel_rfl) (by simp) ?_
            refine AllReadyH.cons (o := { dst := some 51, op := Go.Op.call { callee := Go.Callee.value (Go.Operand.func 34), args := #[Go.Operand.tmp 49, Go.Operand.tmp 50], argTypes := #[29, 29] }, type := 4, pos := "law.go:72", after := #[{ on := 4, ground := Go.Ground.data }, { on := 5, ground := Go.Ground.data }, { on := 3, ground := Go.Ground.chain }, { on := 3, ground := Go.Ground.guard }], guard := some (3, false) }) rfl (fun K hK => ?_) AllReadyH.nil
            refine wanted_wp (by rfl) ?_
            go_simp
            go_at_call 34
            with_reducible refine (lawEq_yes g g gk gk ⟨rfl, rfl⟩ _ _ _ pa qa pl pc ql qc (Nat.le_refl _) (Nat.le_refl _) hS1.t5 hS1.t7v).mono ?_
            rintro e w' ⟨rfl, bq⟩
            refine hK.out _ _ (hS1.step bq) (fun hS1 => ?_)
            clear hK K bq
            try simp only [Act.put, List.setIfInBounds_toArray, List.set_cons_zero, List.set_cons_succ]
            refine wpAnyH_take (i := 7) (oi := { dst := some 52, op := Go.Op.unOp Go.UnOp.not 4 (Go.Operand.tmp 51), type := 4, pos := "law.go:72", after := #[{ on := 6, ground := Go.Ground.data }, { on := 3, ground := Go.Ground.guard }], guard := some (3, false) }) (v := (.bool false)) rfl (by kernel_rfl) (by kernel_rfl) (by kernel_rfl) (fun _ _ _ h => h) (Or.inl ⟨by rfl, fun W hW => by first | (go_simp; done) | (go_simp; with_reducible rfl)⟩) hS1 ?_
            try simp only [Act.put, List.setIfInBounds_toArray, List.set_cons_zero, List.set_cons_succ]
            refine wpAnyH_take (i := 8) (oi := { dst := some 53, op := Go.Op.pick (Go.Operand.tmp 48) (Go.Operand.const (Go.Value.bool true)) (Go.Operand.tmp 52), type := 4, pos := "law.go:72", after := #[{ on := 3, ground := Go.Ground.data }, { on := 7, ground := Go.Ground.data }], guard := none }) (v := (.bool false)) rfl (by kernel_rfl) (by kernel_rfl) (by kernel_rfl) (fun _ _ _ h => h) (Or.inl ⟨by rfl, fun W hW => by first | (go_simp; done) | (go_simp; with_reducible rfl)⟩) hS1 ?_
            try simp only [Act.put, List.setIfInBounds_toArray, List.set_cons_zero, List.set_cons_succ]
            refine wpAnyH_take (i := 9) (oi := { dst := some 54, op := Go.Op.move (Go.Operand.tmp 53), type := 4, pos := "law.go:72", after := #[{ on := 8, ground := Go.Ground.data }, { on := 6, ground := Go.Ground.chain }], guard := none }) (v := (.bool false)) rfl (by kernel_rfl) (by kernel_rfl) (by kernel_rfl) (fun _ _ _ h => h) (Or.inl ⟨by rfl, fun W hW => by first | (go_simp; done) | (go_simp; with_reducible rfl)⟩) hS1 ?_
            try simp only [Act.put, List.setIfInBounds_toArray, List.set_cons_zero, List.set_cons_succ]
            refine wpAnyH_take (i := 10) (oi := { dst := some 55, op := Go.Op.load 29 (Go.Operand.tmp 4), type := 29, pos := "law.go:72", after := #[{ on := 9, ground := Go.Ground.guard }], guard := some (9, false) }) (v := (.agg #[.int .i64 nt.kind, .int .i64 nt.op, .int .i64 nt.num, .string ⟨nt.text.toArray⟩, .int .i64 nt.ref.row, .int .i64 nt.ref.col, .bool nt.ref.pr, .bool nt.ref.pc, .int .i64 nt.to.row, .int .i64 nt.to.col, .bool nt.to.pr, .bool nt.to.pc, .int .i64 nt.fn, .slice xa xl xc])) rfl (by kernel_rfl) (by kernel_rfl) (by kernel_rfl) (fun _ _ _ h => h) (yieldsIf_load_mid (by rfl) 29 _ rfl N4 0 rfl [.int .i64 nt.kind, .int .i64 nt.op, .int .i64 nt.num, .string ⟨nt.text.toArray⟩, .int .i64 nt.ref.row, .int .i64 nt.ref.col, .bool nt.ref.pr, .bool nt.ref.pc, .int .i64 nt.to.row, .int .i64 nt.to.col, .bool nt.to.pr, .bool nt.to.pc, .int .i64 nt.fn, .slice xa xl xc] _ (fun W hW => fun o v h => by rw [cells_of_block ((hW.bel.block _ (lt_of_block T4.out)).trans T4.out), ← h]; simp) Try.underlying29 rfl infoExprS) hS1 ?_
            try simp only [Act.put, List.setIfInBounds_toArray, List.set_cons_zero, List.set_cons_succ]
            refine wpAnyH_take (i := 11) (oi := { dst := some 56, op := Go.Op.move (Go.Operand.tmp 0), type := 58, pos := "law.go:72", after := #[{ on := 9, ground := Go.Ground.guard }], guard := some (9, false) }) (v := (.slice (some ⟨b, off, none⟩) len cap)) rfl (by kernel_rfl) (by kernel_rfl) (by kernel_rfl) (fun _ _ _ h => h) (Or.inl ⟨by rfl, fun W hW => by first | (go_simp; done) | (go_simp; with_reducible rfl)⟩) hS1 ?_
            try simp only [Act.put, List.setIfInBounds_toArray, List.set_cons_zero, List.set_cons_succ]
            refine wpAnyH_take (i := 12) (oi := { dst := some 57, op := Go.Op.move (Go.Operand.tmp 3), type := 3, pos := "law.go:72", after := #[{ on := 9, ground := Go.Ground.guard }], guard := some (9, false) }) (v := (.int .i64 j)) rfl (by kernel_rfl) (by kernel_rfl) (by kernel_rfl) (fun _ _ _ h => h) (Or.inl ⟨by rfl, fun W hW => by first | (go_simp; done) | (go_simp; with_reducible rfl)⟩) hS1 ?_
            try simp only [Act.put, List.setIfInBounds_toArray, List.set_cons_zero, List.set_cons_succ]
            refine wpAnyH_take (i := 13) (oi := { dst := some 58, op := Go.Op.indexAddr 58 (Go.Operand.tmp 56) (Go.Operand.tmp 57), type := 0, pos := "law.go:72", after := #[{ on := 11, ground := Go.Ground.data }, { on := 12, ground := Go.Ground.data }, { on := 9, ground := Go.Ground.guard }], guard := some (9, false) }) (v := (.pointer (some ⟨b, off + j * 17, none⟩))) rfl (by kernel_rfl) (by kernel_rfl) (by kernel_rfl) (fun _ _ _ h => h) (Or.inl ⟨by rfl, fun W hW => by first | (go_simp; done) | (go_simp; with_reducible rfl)⟩) hS1 ?_
            try simp only [Act.put, List.setIfInBounds_toArray, List.set_cons_zero, List.set_cons_succ]
            refine wpAnyH_take (i := 14) (oi := { dst := some 59, op := Go.Op.fieldAddr 60 (Go.Operand.tmp 58) 1, type := 0, pos := "law.go:72", after := #[{ on := 13, ground := Go.Ground.data }, { on := 9, ground := Go.Ground.guard }], guard := some (9, false) }) (v := (.pointer (some ⟨b, off + j * 17 + 1, none⟩))) rfl (by kernel_rfl) (by kernel_rfl) (by kernel_rfl) (fun _ _ _ h => h) (Or.inl ⟨by rfl, fun W hW => by first | (go_simp; done) | (go_simp; with_reducible rfl)⟩) hS1 ?_
            try simp only [Act.put, List.setIfInBounds_toArray, List.set_cons_zero, List.set_cons_succ]
            refine wpAnyH_take (i := 15) (oi := { dst := some 60, op := Go.Op.load 29 (Go.Operand.tmp 59), type := 29, pos := "law.go:72", after := #[{ on := 14, ground := Go.Ground.data }, { on := 9, ground := Go.Ground.guard }], guard := some (9, false) }) (v := (.agg #[.int .i64 nt.kind, .int .i64 nt.op, .int .i64 nt.num, .string ⟨nt.text.toArray⟩, .int .i64 nt.ref.row, .int .i64 nt.ref.col, .bool nt.ref.pr, .bool nt.ref.pc, .int .i64 nt.to.row, .int .i64 nt.to.col, .bool nt.to.pr, .bool nt.to.pc, .int .i64 nt.fn, .slice ta tl tc])) rfl (by kernel_rfl) (by kernel_rfl) (by kernel_rfl) (fun _ _ _ h => h) (yieldsIf_load_mid (by rfl) 29 _ rfl b (off + j * 17 + 1) rfl [.int .i64 nt.kind, .int .i64 nt.op, .int .i64 nt.num, .string ⟨nt.text.toArray⟩, .int .i64 nt.ref.row, .int .i64 nt.ref.col, .bool nt.ref.pr, .bool nt.ref.pc, .int .i64 nt.to.row, .int .i64 nt.to.col, .bool nt.to.pr, .bool nt.to.pc, .int .i64 nt.fn, .slice ta tl tc] _ (fun W hW => op12_tree fun o v h => (hW.bel.cell (p := ⟨b, off + j * 17 + o, none⟩) BL.out).trans (HAT.out o v h)) Try.underlying29 rfl infoExprS) hS1 ?_
            try simp only [Act.put, List.setIfInBounds_toArray, List.set_cons_zero, List.set_cons_succ]
            refine wpAnyH_ready (rs := [16]) (by kernel_rfl) (by simp) ?_
            refine AllReadyH.cons (o := { dst := some 61, op := Go.Op.call { callee := Go.Callee.value (Go.Operand.func 35), args := #[Go.Operand.tmp 55, Go.Operand.tmp 60], argTypes := #[29, 29] }, type := 4, pos := "law.go:72", after := #[{ on := 10, ground := Go.Ground.data }, { on := 15, ground := Go.Ground.data }, { on := 9, ground := Go.Ground.chain }, { on := 9, ground := Go.Ground.guard }], guard := some (9, false) }) rfl (fun K hK => ?_) AllReadyH.nil
            refine wanted_wp (by rfl) ?_
            go_simp
            go_at_call 35
            with_reducible refine (kept_any nt kt _ (fun b => b < w3.heap.size) w3.heap.size xa ta xl xc tl tc (fun b hb => Nat.lt_of_lt_of_le hb hS1.bel.size) hS1.bel.size (MT.out.kept fun b hb => ⟨hb, hS1.bel.block b hb⟩) (TV.out.kept hS1.bel (Nat.le_refl _))).mono ?_
            rintro e w' ⟨rfl, bq⟩
            refine hK.out _ _ (hS1.step bq) (fun hS1 => ?_)
            clear hK K bq
            try simp only [Act.put, List.setIfInBounds_toArray, List.set_cons_zero, List.set_cons_succ]
            refine wpAnyH_take (i := 17) (oi := { dst := some 62, op := Go.Op.unOp Go.UnOp.not 4 (Go.Operand.tmp 61), type := 4, pos := "law.go:72", after := #[{ on := 16, ground := Go.Ground.data }, { on := 9, ground := Go.Ground.guard }], guard := some (9, false) }) (v := (.bool false)) rfl (by kernel_rfl) (by kernel_rfl) (by kernel_rfl) (fun _ _ _ h => h) (Or.inl ⟨by rfl, fun W hW => by first | (go_simp; done) | (go_simp; with_reducible rfl)⟩) hS1 ?_
            try simp only [Act.put, List.setIfInBounds_toArray, List.set_cons_zero, List.set_cons_succ]
            refine wpAnyH_take (i := 18) (oi := { dst := some 63, op := Go.Op.pick (Go.Operand.tmp 54) (Go.Operand.const (Go.Value.bool true)) (Go.Operand.tmp 62), type := 4, pos := "law.go:72", after := #[{ on := 9, ground := Go.Ground.data }, { on := 17, ground := Go.Ground.data }], guard := none }) (v := (.bool false)) rfl (by kernel_rfl) (by kernel_rfl) (by kernel_rfl) (fun _ _ _ h => h) (Or.inl ⟨by rfl, fun W hW => by first | (go_simp; done) | (go_simp; with_reducible rfl)⟩) hS1 ?_
            try simp only [Act.put, List.setIfInBounds_toArray, List.set_cons_zero, List.set_cons_succ]
            refine wpAnyH_done (by kernel_rfl) ?_ _
            refine NoPanic.normal ?_
            have BE := Lib.hid (HB.out.trans (hS1.bel.mono HB.out.size))
            clear hS1
            go_wp2
            exact ⟨⟨j + 1, by go_num, by omega, BE.out⟩, by simp [intOf]; omega⟩
      · have HB := Lib.hid hb
        clear hb
        go_wp2
        go_ret
        exact ⟨rfl, HB.out⟩
    · have HB := Lib.hid hb
      clear hb
      go_wp2
      go_ret
      exact ⟨rfl, HB.out⟩
end Go.Proofs.Ytkjfeakbhfkldaa
