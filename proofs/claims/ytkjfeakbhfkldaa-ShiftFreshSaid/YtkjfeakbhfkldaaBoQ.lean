/- law10's Quiet, and ShiftFresh: the answers of a shift share no list with each other, and those that are kept stay as they were. -/
import Derived.Test.YtkjfeakbhfkldaaBoP
import Derived.Test.YtkjfeakbhfkldaaMhM
import Derived.Test.YtkjfeakbhfkldaaMhU
import Derived.Test.YtkjfeakbhfkldaaMhTb
import Derived.Test.YtkjfeakbhfkldaaMhN
import Derived.Test.YtkjfeakbhfkldaaMhC
import Derived.Deep.RegionHeld3
import Derived.BigRegion
namespace Go.Proofs.Ytkjfeakbhfkldaa
open Go.RowKit

theorem op12_tree {w : World} {b off : Nat} {k m n : Int} {nt : Hd} {ta : Option Addr} {tl tc : Nat} (hat : Op12At w b off k nt ta tl tc m n) : w.rangeAt b (off + 1) [.int .i64 nt.kind, .int .i64 nt.op, .int .i64 nt.num, .string ⟨nt.text.toArray⟩, .int .i64 nt.ref.row, .int .i64 nt.ref.col, .bool nt.ref.pr, .bool nt.ref.pc, .int .i64 nt.to.row, .int .i64 nt.to.col, .bool nt.to.pr, .bool nt.to.pc, .int .i64 nt.fn, .slice ta tl tc] := fun j v hv => by
  have h14 : j < 14 := by have := (List.getElem?_eq_some_iff.1 hv).1; simpa using this
  have := hat (1 + j) v (by rw [← hv]; match j, h14 with | 0, _ => rfl | 1, _ => rfl | 2, _ => rfl | 3, _ => rfl | 4, _ => rfl | 5, _ => rfl | 6, _ => rfl | 7, _ => rfl | 8, _ => rfl | 9, _ => rfl | 10, _ => rfl | 11, _ => rfl | 12, _ => rfl | 13, _ => rfl)
  rwa [← Nat.add_assoc] at this
set_option maxRecDepth 100000 in
theorem wpList_load_tree12 {ops : Array Oper} {Q : Exit → Act → World → Prop} {rest : List Oper} {a : Act} {o : Oper} {s : Operand} {w : World} {b off : Nat} {k m n : Int} {nt : Hd} {ta : Option Addr} {tl tc : Nat} (hg : o.guard = none) (ho : o.op = Op.load 29 s) (ha : a.eval s = .pointer (some ⟨b, off + 1, none⟩)) (hat : Op12At w b off k nt ta tl tc m n)
    (h : wpList Try.prog ops Q rest (a.put o.dst (.agg #[.int .i64 nt.kind, .int .i64 nt.op, .int .i64 nt.num, .string ⟨nt.text.toArray⟩, .int .i64 nt.ref.row, .int .i64 nt.ref.col, .bool nt.ref.pr, .bool nt.ref.pc, .int .i64 nt.to.row, .int .i64 nt.to.col, .bool nt.to.pr, .bool nt.to.pc, .int .i64 nt.fn, .slice ta tl tc])) w) : wpList Try.prog ops Q (o :: rest) a w := by
  exact wpList_load_mid hg _ s ho b (off + 1) ha [.int .i64 nt.kind, .int .i64 nt.op, .int .i64 nt.num, .string ⟨nt.text.toArray⟩, .int .i64 nt.ref.row, .int .i64 nt.ref.col, .bool nt.ref.pr, .bool nt.ref.pc, .int .i64 nt.to.row, .int .i64 nt.to.col, .bool nt.to.pr, .bool nt.to.pc, .int .i64 nt.fn, .slice ta tl tc] _ (op12_tree hat) Try.underlying29 rfl infoExprS h
theorem nodes_wt : ∀ ks : Trees, ks.nodes ≤ ks.wt
  | .nil => Nat.le_refl _
  | .cons h k r => by
    have := nodes_wt k; have := nodes_wt r
    simp only [Trees.nodes, Trees.wt, Hd.wt]; omega
end Go.Proofs.Ytkjfeakbhfkldaa

namespace Go.Proofs.Ytkjfeakbhfkldaa
open Go.RowKit

/-- Blocks that are never written: the caller's, and those of class 5. -/
def okq (b : Nat) (cl : Nat → Nat) (N k : Nat) : Prop := k < b ∨ (cl k = 5 ∧ k < N)
theorem TreeX.kept9 {w w' : World} {ok ok' : Nat → Prop} {h : Hd} {ks : Trees} {ka : Option Addr} {kl : Nat} (t : TreeX w ok h ks ka kl) (hk : ∀ b, ok b → ok' b ∧ w'.heap[b]? = w.heap[b]?) : TreeX w' ok' h ks ka kl := ⟨t.len, t.max, t.hok, t.row.kept hk⟩
theorem TreeX.frm {b N N' : Nat} {cl cl' : Nat → Nat} {W W' : World} {P : Nat → Prop} {h : Hd} {ks : Trees} {ka : Option Addr} {kl : Nat} (t : TreeX W (okq b cl N) h ks ka kl) (f : Frm P cl N cl' W W') (h5 : P 5) (bel : Below b W W') (hN : N ≤ N') : TreeX W' (okq b cl' N') h ks ka kl :=
  t.kept9 fun k hk => by
    rcases hk with q | ⟨q1, q2⟩
    · exact ⟨.inl q, bel.block k q⟩
    · obtain ⟨e1, e2⟩ := f k q2 (by rw [q1]; exact h5)
      exact ⟨.inr ⟨e1.trans q1, by omega⟩, e2⟩
theorem TreeX.lt {b N : Nat} {cl : Nat → Nat} {W : World} {h : Hd} {ks : Trees} {ka : Option Addr} {kl : Nat} (t : TreeX W (okq b cl N) h ks ka kl) (hb : b ≤ N) : TreeV W N h ks ka kl := ⟨t.len, t.max, t.hok, t.row.to fun k hk => by
  rcases hk with q | q
  · omega
  · exact q.2⟩
structure QE where
  h : Hd
  k : Trees
  a : Option Addr
  l : Nat
  c : Nat
  a' : Option Addr
  l' : Nat
  c' : Nat
def qT (es : List QE) : List Value := (es.map fun q => q.h.vals (.slice q.a q.l q.c)).flatten
def qW (es : List QE) : List Value := (es.map fun q => q.h.vals (.slice q.a' q.l' q.c')).flatten
theorem flat_len {α : Type} (f : α → List Value) (hf : ∀ q, (f q).length = 14) : ∀ es : List α, ((es.map f).flatten).length = es.length * 14
  | [] => rfl
  | q :: es => by rw [List.map_cons, List.flatten_cons, List.length_append, flat_len f hf es, hf, List.length_cons]; omega
theorem flat_get {α : Type} (f : α → List Value) (hf : ∀ q, (f q).length = 14) : ∀ (es : List α) (i j : Nat) (q : α), es[i]? = some q → j < 14 → ((es.map f).flatten)[i * 14 + j]? = (f q)[j]?
  | [], i, j, q, h, _ => by simp at h
  | x :: es, 0, j, q, h, hj => by
    simp only [List.getElem?_cons_zero, Option.some.injEq] at h
    subst h
    rw [List.map_cons, List.flatten_cons, List.getElem?_append_left (by rw [hf]; omega)]
    congr 1; omega
  | x :: es, i + 1, j, q, h, hj => by
    rw [List.map_cons, List.flatten_cons, List.getElem?_append_right (by rw [hf]; omega), hf]
    have := flat_get f hf es i j q (by simpa using h) hj
    rw [← this]
    congr 1; omega
theorem qT_snoc (es : List QE) (q : QE) : qT (es ++ [q]) = qT es ++ q.h.vals (.slice q.a q.l q.c) := by unfold qT; simp
theorem qW_snoc (es : List QE) (q : QE) : qW (es ++ [q]) = qW es ++ q.h.vals (.slice q.a' q.l' q.c') := by unfold qW; simp
theorem qT_len (es : List QE) : (qT es).length = es.length * 14 := flat_len _ (fun _ => rfl) es
theorem qW_len (es : List QE) : (qW es).length = es.length * 14 := flat_len _ (fun _ => rfl) es
/-- The box of a Quiet and its two rows (n0, n1 elements). -/
structure QiS (b N : Nat) (cl : Nat → Nat) (Qx : Nat) (x0 x1 vT vW : Value) (n0 n1 : Nat) (c0 c1 : List Value) (W : World) : Prop where
  box : W.heap[Qx]? = some (.cells #[x0, x1] 79 (0, 0))
  bx : cl Qx = 8 ∧ Qx < N ∧ b ≤ Qx
  rT : Rw b N cl 3 29 14 W vT n0 c0
  rW : Rw b N cl 4 29 14 W vW n1 c1
section
variable {b N N' Qx n0 n1 g cap : Nat} {cl cl' : Nat → Nat} {x0 x1 vT vW v : Value} {c0 c1 nc vs : List Value} {W W' W1 : World} {P : Nat → Prop} {o : Obj}
theorem QiS.frm (s : QiS b N cl Qx x0 x1 vT vW n0 n1 c0 c1 W) (f : Frm P cl N cl' W W') (hN : N ≤ N') (h3 : P 3) (h4 : P 4) (h8 : P 8) : QiS b N' cl' Qx x0 x1 vT vW n0 n1 c0 c1 W' where
  box := (f Qx s.bx.2.1 (by rw [s.bx.1]; exact h8)).2.trans s.box
  bx := ⟨(f Qx s.bx.2.1 (by rw [s.bx.1]; exact h8)).1.trans s.bx.1, by have := s.bx.2.1; omega, s.bx.2.2⟩
  rT := s.rT.frm f h3 hN
  rW := s.rW.frm f h4 hN
theorem QiS.set0 (s : QiS b N cl Qx x0 x1 vT vW n0 n1 c0 c1 W) (y : Value) : QiS b N cl Qx y x1 vT vW n0 n1 c0 c1 (W.setCell ⟨Qx, 0, none⟩ y) ∧ Frm (· ≠ 8) cl N cl W (W.setCell ⟨Qx, 0, none⟩ y) := by
  have f : Frm (· ≠ 8) cl N cl W (W.setCell ⟨Qx, 0, none⟩ y) := fun x _ hc => ⟨rfl, heap_setCell_other _ _ _ _ (by intro q; exact hc (by rw [q]; exact s.bx.1))⟩
  exact ⟨⟨by rw [heap_setCell_same _ _ 0 _ _ _ s.box]; rfl, s.bx, s.rT.frm f (by omega) (Nat.le_refl _), s.rW.frm f (by omega) (Nat.le_refl _)⟩, f⟩
theorem QiS.set1 (s : QiS b N cl Qx x0 x1 vT vW n0 n1 c0 c1 W) (y : Value) : QiS b N cl Qx x0 y vT vW n0 n1 c0 c1 (W.setCell ⟨Qx, 1, none⟩ y) ∧ Frm (· ≠ 8) cl N cl W (W.setCell ⟨Qx, 1, none⟩ y) := by
  have f : Frm (· ≠ 8) cl N cl W (W.setCell ⟨Qx, 1, none⟩ y) := fun x _ hc => ⟨rfl, heap_setCell_other _ _ _ _ (by intro q; exact hc (by rw [q]; exact s.bx.1))⟩
  exact ⟨⟨by rw [heap_setCell_same _ _ 1 _ _ _ s.box]; rfl, s.bx, s.rT.frm f (by omega) (Nat.le_refl _), s.rW.frm f (by omega) (Nat.le_refl _)⟩, f⟩
theorem QiS.last0 {m : Nat} (s : QiS b N cl Qx x0 x1 (.slice (some ⟨g, 0, none⟩) (m + 1) cap) vW (m + 1) n1 (c0 ++ nc) c1 W) (hx : c0.length = m * 14) (hv : vs.length = 14) : QiS b N cl Qx x0 x1 (.slice (some ⟨g, 0, none⟩) (m + 1) cap) vW (m + 1) n1 (c0 ++ vs) c1 (W.setCells g (m * 14) vs) ∧ Frm (· ≠ 3) cl N cl W (W.setCells g (m * 14) vs) := by
  have f : Frm (· ≠ 3) cl N cl W (W.setCells g (m * 14) vs) := fun x _ hc => ⟨rfl, setCells_other (fun q => hc (by rw [q]; exact (s.rT.cls g rfl).1)) _ _ _⟩
  exact ⟨⟨(f Qx s.bx.2.1 (by rw [s.bx.1]; omega)).2.trans s.box, s.bx, s.rT.last hx hv, s.rW.frm f (by omega) (Nat.le_refl _)⟩, f⟩
theorem QiS.last1 {m : Nat} (s : QiS b N cl Qx x0 x1 vT (.slice (some ⟨g, 0, none⟩) (m + 1) cap) n0 (m + 1) c0 (c1 ++ nc) W) (hx : c1.length = m * 14) (hv : vs.length = 14) : QiS b N cl Qx x0 x1 vT (.slice (some ⟨g, 0, none⟩) (m + 1) cap) n0 (m + 1) c0 (c1 ++ vs) (W.setCells g (m * 14) vs) ∧ Frm (· ≠ 4) cl N cl W (W.setCells g (m * 14) vs) := by
  have f : Frm (· ≠ 4) cl N cl W (W.setCells g (m * 14) vs) := fun x _ hc => ⟨rfl, setCells_other (fun q => hc (by rw [q]; exact (s.rW.cls g rfl).1)) _ _ _⟩
  exact ⟨⟨(f Qx s.bx.2.1 (by rw [s.bx.1]; omega)).2.trans s.box, s.bx, s.rT.frm f (by omega) (Nat.le_refl _), s.rW.last hx hv⟩, f⟩
theorem QiS.app0 (s : QiS b W.heap.size cl Qx x0 x1 vT vW n0 n1 c0 c1 W) (hbW : b ≤ W.heap.size) (hown : W1.ownsRow b 29 14 (.slice (some ⟨g, 0, none⟩) (n0 + 1) cap) (n0 + 1) (c0 ++ nc)) (hgrow : (W.alloc o).grownBy W1 vT.ownBlock) (hat : vT.ownBlock = some g ∨ g = (W.alloc o).heap.size) :
    QiS b W1.heap.size (upc cl W.heap.size 3) Qx x0 x1 (.slice (some ⟨g, 0, none⟩) (n0 + 1) cap) vW (n0 + 1) n1 (c0 ++ nc) c1 W1 ∧ Frm (· ≠ 3) cl W.heap.size (upc cl W.heap.size 3) W W1 ∧ Below b W W1 := by
  have bel : Below b W W1 := ((Below.refl b W).alloc hbW o).grown hgrow (by simp; omega) (fun k hk => (World.ownsRow.lt s.rT.own k hk).1)
  have f1 : Frm (· ≠ 3) cl W.heap.size (upc cl W.heap.size 3) W W1 := Frm.but fun x hx hc => grow_same9 hgrow x hx fun e => hc (s.rT.cls x e).1
  have q := f1 Qx s.bx.2.1 (by rw [s.bx.1]; omega)
  exact ⟨⟨q.2.trans s.box, ⟨q.1.trans s.bx.1, by have := s.bx.2.1; have := bel.size; omega, s.bx.2.2⟩, s.rT.make hown (hat.imp (fun e => e.symm) (fun e k hk => by
    simp only [Value.ownBlock, Option.some.injEq] at hk
    rw [← hk, e]; simp)) (Nat.le_refl _), s.rW.frm f1 (by omega) bel.size⟩, f1, bel⟩
theorem QiS.app1 (s : QiS b W.heap.size cl Qx x0 x1 vT vW n0 n1 c0 c1 W) (hbW : b ≤ W.heap.size) (hown : W1.ownsRow b 29 14 (.slice (some ⟨g, 0, none⟩) (n1 + 1) cap) (n1 + 1) (c1 ++ nc)) (hgrow : (W.alloc o).grownBy W1 vW.ownBlock) (hat : vW.ownBlock = some g ∨ g = (W.alloc o).heap.size) :
    QiS b W1.heap.size (upc cl W.heap.size 4) Qx x0 x1 vT (.slice (some ⟨g, 0, none⟩) (n1 + 1) cap) n0 (n1 + 1) c0 (c1 ++ nc) W1 ∧ Frm (· ≠ 4) cl W.heap.size (upc cl W.heap.size 4) W W1 ∧ Below b W W1 := by
  have bel : Below b W W1 := ((Below.refl b W).alloc hbW o).grown hgrow (by simp; omega) (fun k hk => (World.ownsRow.lt s.rW.own k hk).1)
  have f1 : Frm (· ≠ 4) cl W.heap.size (upc cl W.heap.size 4) W W1 := Frm.but fun x hx hc => grow_same9 hgrow x hx fun e => hc (s.rW.cls x e).1
  have q := f1 Qx s.bx.2.1 (by rw [s.bx.1]; omega)
  exact ⟨⟨q.2.trans s.box, ⟨q.1.trans s.bx.1, by have := s.bx.2.1; have := bel.size; omega, s.bx.2.2⟩, s.rT.frm f1 (by omega) bel.size, s.rW.make hown (hat.imp (fun e => e.symm) (fun e k hk => by
    simp only [Value.ownBlock, Option.some.injEq] at hk
    rw [← hk, e]; simp)) (Nat.le_refl _)⟩, f1, bel⟩
end
end Go.Proofs.Ytkjfeakbhfkldaa

namespace Go.Proofs.Ytkjfeakbhfkldaa
open Go.RowKit

noncomputable def kpR (n : Nat) : Code := (regionB n ((Try.f44.body.map regionsB).getD [])).getD .skip
theorem there_mid {w : World} {N off n : Nat} {cs : Array Value} {T : TypeId} (hb : w.heap[N]? = some (.cells cs T (0, 0))) (hl : off + n ≤ cs.size) : w.there N off n := fun j hj => by
  have : off + j < cs.size := by omega
  rw [cells_of_block hb, frees_of_block hb]; simp [this]
set_option maxRecDepth 1000000 in
set_option maxHeartbeats 16000000 in
theorem kp_r2 {Q : Exit → Act → World → Prop} {b Qx B1 nn kT pl pc : Nat} {cl : Nat → Nat} {W : World} {h : Hd} {aT pa : Option Addr} {cc : List Value} {x1 vW : Value} {n1 : Nat} {c1 : List Value} {u1 u2 u3 u5 u6 u7 u8 u9 u10 u11 u12 u13 u14 u15 u16 u17 u18 u19 u20 u21 u22 u23 u24 u25 u26 u27 u28 u29 u30 u31 u32 u33 : Value}
    (QS : Hid (QiS b W.heap.size cl Qx (.slice aT nn kT) x1 (.slice aT nn kT) vW nn n1 cc c1 W)) (HB : Hid (W.heap[B1]? = some (.cells #[.int .i64 h.kind, .int .i64 h.op, .int .i64 h.num, .string ⟨h.text.toArray⟩, .int .i64 h.ref.row, .int .i64 h.ref.col, .bool h.ref.pr, .bool h.ref.pc, .int .i64 h.to.row, .int .i64 h.to.col, .bool h.to.pr, .bool h.to.pc, .int .i64 h.fn, .slice pa pl pc] 29 (0, 0)))) (hcl9 : cl B1 = 9) (hbW : b ≤ W.heap.size) (hnn : nn ≤ 1000000)
    (hexit : Hid (∀ (v12 v13 v14 v15 v16 v17 v18 v19 v20 v21 v22 : Value) (g cap : Nat) (cl1 : Nat → Nat) (W' : World), Hid (QiS b W'.heap.size cl1 Qx (.slice (some ⟨g, 0, none⟩) (nn + 1) cap) x1 (.slice (some ⟨g, 0, none⟩) (nn + 1) cap) vW (nn + 1) n1 (cc ++ [.int .i64 h.kind, .int .i64 h.op, .int .i64 h.num, .string ⟨h.text.toArray⟩, .int .i64 h.ref.row, .int .i64 h.ref.col, .bool h.ref.pr, .bool h.ref.pc, .int .i64 h.to.row, .int .i64 h.to.col, .bool h.to.pr, .bool h.to.pc, .int .i64 h.fn, .slice pa pl pc]) c1 W') → Hid (Frm (fun c => c ≠ 3 ∧ c ≠ 8) cl W.heap.size cl1 W W') → Below b W W' → Q .normal ⟨List.toArray ((.pointer (some ⟨Qx, 0, none⟩)) :: u1 :: u2 :: u3 :: (.pointer (some ⟨B1, 0, none⟩)) :: u5 :: u6 :: u7 :: u8 :: u9 :: u10 :: u11 :: v12 :: v13 :: v14 :: v15 :: v16 :: v17 :: v18 :: v19 :: v20 :: v21 :: v22 :: u23 :: u24 :: u25 :: u26 :: u27 :: u28 :: u29 :: u30 :: u31 :: u32 :: u33 :: []), []⟩ W')) :
    Code.wp Try.prog (kpR 2) Q ⟨List.toArray ((.pointer (some ⟨Qx, 0, none⟩)) :: u1 :: u2 :: u3 :: (.pointer (some ⟨B1, 0, none⟩)) :: u5 :: u6 :: u7 :: u8 :: u9 :: u10 :: u11 :: u12 :: u13 :: u14 :: u15 :: u16 :: u17 :: u18 :: u19 :: u20 :: u21 :: u22 :: u23 :: u24 :: u25 :: u26 :: u27 :: u28 :: u29 :: u30 :: u31 :: u32 :: u33 :: []), []⟩ W := by
  conv => arg 2; whnf
  obtain ⟨i0, hi, hz0, hz1, hz2⟩ := info_parts infoExpr
  have HLT := Lib.hid (lt_of_block HB.out)
  have HNB : Hid ((Value.slice aT nn kT).ownBlock ≠ some B1) := Lib.hid fun q => by have h2 := (QS.out.rT.cls B1 q).1; omega
  have QD : Hid (QiS b W.drew.heap.size cl Qx (.slice aT nn kT) x1 (.slice aT nn kT) vW nn n1 cc c1 W.drew) := Lib.hid (QS.out.frm (P := fun _ => True) (fun x _ _ => ⟨rfl, rfl⟩ : Frm (fun _ => True) cl W.heap.size cl W W.drew) (Nat.le_refl _) trivial trivial trivial)
  have ROW : Hid (W.drew.ownsRow b 29 14 (.slice aT nn kT) nn cc) := Lib.hid QD.out.rT.own
  have hcc : cc.length = nn * 14 := QS.out.rT.own.1
  have b0 : W.cell? ⟨Qx, 0, none⟩ = some (.slice aT nn kT) := (cells_of_block QS.out.box 0).trans rfl
  refine wp_region_noPanic ?_
  refine wp_region_held_drew (S := (fun w => w.heap[B1]? = some (.cells #[.int .i64 h.kind, .int .i64 h.op, .int .i64 h.num, .string ⟨h.text.toArray⟩, .int .i64 h.ref.row, .int .i64 h.ref.col, .bool h.ref.pr, .bool h.ref.pc, .int .i64 h.to.row, .int .i64 h.to.col, .bool h.to.pr, .bool h.to.pc, .int .i64 h.fn, .slice pa pl pc] 29 (0, 0)))) (by kernel_rfl) HB.out (fun hS1 => ?_)
  refine wpAnyH_take (i := 0) (oi := { dst := some 12, op := Go.Op.move (Go.Operand.tmp 0), type := 77, pos := "memory.go:149", after := #[], guard := none }) (v := (.pointer (some ⟨Qx, 0, none⟩))) rfl (by kernel_rfl) (by kernel_rfl) (by kernel_rfl) (fun _ _ _ h => h) (Or.inl ⟨by rfl, fun W hW => by first | (go_simp; done) | (go_simp; with_reducible rfl)⟩) hS1 ?_
  try simp only [Act.put, List.setIfInBounds_toArray, List.set_cons_zero, List.set_cons_succ]
  refine wpAnyH_take (i := 1) (oi := { dst := some 13, op := Go.Op.nilCheck (Go.Operand.tmp 12), type := 0, pos := "memory.go:149", after := #[{ on := 0, ground := Go.Ground.data }], guard := none }) (v := (.pointer (some ⟨Qx, 0, none⟩))) rfl (by kernel_rfl) (by kernel_rfl) (by kernel_rfl) (fun _ _ _ h => h) (Or.inl ⟨by rfl, fun W hW => by first | (go_simp; done) | (go_simp; with_reducible rfl)⟩) hS1 ?_
  try simp only [Act.put, List.setIfInBounds_toArray, List.set_cons_zero, List.set_cons_succ]
  refine wpAnyH_take (i := 2) (oi := { dst := some 14, op := Go.Op.fieldAddr 79 (Go.Operand.tmp 13) 0, type := 0, pos := "memory.go:149", after := #[{ on := 1, ground := Go.Ground.data }], guard := none }) (v := (.pointer (some ⟨Qx, 0, none⟩))) rfl (by kernel_rfl) (by kernel_rfl) (by kernel_rfl) (fun _ _ _ h => h) (Or.inl ⟨by rfl, fun W hW => by first | (go_simp; done) | (go_simp; with_reducible rfl)⟩) hS1 ?_
  try simp only [Act.put, List.setIfInBounds_toArray, List.set_cons_zero, List.set_cons_succ]
  refine wpAnyH_take (i := 4) (oi := { dst := some 16, op := Go.Op.load 29 (Go.Operand.tmp 4), type := 29, pos := "memory.go:149", after := #[], guard := none }) (v := (.agg #[.int .i64 h.kind, .int .i64 h.op, .int .i64 h.num, .string ⟨h.text.toArray⟩, .int .i64 h.ref.row, .int .i64 h.ref.col, .bool h.ref.pr, .bool h.ref.pc, .int .i64 h.to.row, .int .i64 h.to.col, .bool h.to.pr, .bool h.to.pc, .int .i64 h.fn, .slice pa pl pc])) rfl (by kernel_rfl) (by kernel_rfl) (by kernel_rfl) (fun _ _ _ h => h) (yieldsIf_load_mid (by rfl) 29 _ rfl B1 0 rfl [.int .i64 h.kind, .int .i64 h.op, .int .i64 h.num, .string ⟨h.text.toArray⟩, .int .i64 h.ref.row, .int .i64 h.ref.col, .bool h.ref.pr, .bool h.ref.pc, .int .i64 h.to.row, .int .i64 h.to.col, .bool h.to.pr, .bool h.to.pc, .int .i64 h.fn, .slice pa pl pc] _ (fun W hW => fun o v h => by rw [cells_of_block hW, ← h]; simp) Try.underlying29 rfl infoExpr10) hS1 ?_
  try simp only [Act.put, List.setIfInBounds_toArray, List.set_cons_zero, List.set_cons_succ]
  refine wpAnyH_ready (rs := [3, 6]) (by kernel_rfl) (by simp) ?_
  refine AllReadyH.cons (o := { dst := some 15, op := Go.Op.load 27 (Go.Operand.tmp 14), type := 27, pos := "memory.go:149", after := #[{ on := 2, ground := Go.Ground.data }], guard := none }) rfl (fun K hK => ?_) ?_
  · refine wanted_wp10 (by rfl) ?_
    have b2 := b0
    go_simp
    refine hK.out _ _ hS1 (fun hS1 => ?_)
    clear hK K
    try simp only [Act.put, List.setIfInBounds_toArray, List.set_cons_zero, List.set_cons_succ]
    refine wpAnyH_take (i := 5) (oi := { dst := some 17, op := Go.Op.call { callee := Go.Callee.builtin Go.Builtin.len, args := #[Go.Operand.tmp 15], argTypes := #[27] }, type := 3, pos := "memory.go:149", after := #[{ on := 3, ground := Go.Ground.data }], guard := none }) (v := (.int .i64 (nn : Int))) rfl (by kernel_rfl) (by kernel_rfl) (by kernel_rfl) (fun _ _ _ h => h) (Or.inl ⟨by rfl, fun W hW => by first | (go_simp; done) | (go_simp; with_reducible rfl)⟩) hS1 ?_
    try simp only [Act.put, List.setIfInBounds_toArray, List.set_cons_zero, List.set_cons_succ]
    refine wpAnyH_ready (rs := [6]) (by kernel_rfl) (by simp) ?_
    refine AllReadyH.cons (o := { dst := some 18, op := Go.Op.buildSlice 27 1 #[(0, Go.Operand.const (Go.Value.agg #[Go.Value.int Go.IntKind.i64 0, Go.Value.int Go.IntKind.i64 0, Go.Value.int Go.IntKind.i64 0, Go.Value.string { data := #[] }, Go.Value.int Go.IntKind.i64 0, Go.Value.int Go.IntKind.i64 0, Go.Value.bool false, Go.Value.bool false, Go.Value.int Go.IntKind.i64 0, Go.Value.int Go.IntKind.i64 0, Go.Value.bool false, Go.Value.bool false, Go.Value.int Go.IntKind.i64 0, Go.Value.slice none 0 0]))], type := 27, pos := "memory.go:149", after := #[], guard := none }) rfl (fun K hK => ?_) ?_
    · refine wanted_wp10 (by rfl) ?_
      go_simp
      refine hK.out _ _ ((Below.heap_alloc _ _ _ HLT.out).trans hS1) (fun hS1 => ?_)
      clear hK K
      try simp only [Act.put, List.setIfInBounds_toArray, List.set_cons_zero, List.set_cons_succ]
      refine wpAnyH_ready (rs := [7]) (by kernel_rfl) (by simp) ?_
      refine AllReadyH.cons (o := { dst := some 19, op := Go.Op.call { callee := Go.Callee.builtin Go.Builtin.append, args := #[Go.Operand.tmp 15, Go.Operand.tmp 18], argTypes := #[27, 27] }, type := 27, pos := "memory.go:149", after := #[{ on := 3, ground := Go.Ground.data }, { on := 6, ground := Go.Ground.data }, { on := 0, ground := Go.Ground.phase }, { on := 1, ground := Go.Ground.phase }, { on := 2, ground := Go.Ground.phase }, { on := 3, ground := Go.Ground.phase }, { on := 4, ground := Go.Ground.phase }, { on := 5, ground := Go.Ground.phase }, { on := 6, ground := Go.Ground.phase }], guard := none }) rfl (fun K hK => ?_) ?_
      · refine wanted_wp10 (by rfl) ?_
        refine wp_append_lies _ (.tmp 15) (.tmp 18) 27 rfl b 29 i0 _ 14 120 Try.underlying27 hi hz0 hz1 hz2 rfl (by decide) (.slice aT nn kT) nn cc rfl (World.ownsRow.alloc ROW.out _) ⟨W.drew.heap.size, 0, none⟩ 1 1 [.int .i64 0, .int .i64 0, .int .i64 0, .string ⟨#[]⟩, .int .i64 0, .int .i64 0, .bool false, .bool false, .int .i64 0, .int .i64 0, .bool false, .bool false, .int .i64 0, .slice none 0 0] rfl rfl (World.news_of_block (heap_alloc_new W.drew _)) (by simp [Value.oneCell']) (by decide) (by unfold maxLen; omega) (by omega) (by simp; show b ≤ W.heap.size + 1; omega) _ rfl ?_
        intro g cap w3 hown hgrow hat _
        have hgrow : (W.drew.alloc (.cells #[.int .i64 0, .int .i64 0, .int .i64 0, .string ⟨#[]⟩, .int .i64 0, .int .i64 0, .bool false, .bool false, .int .i64 0, .int .i64 0, .bool false, .bool false, .int .i64 0, .slice none 0 0] 29)).grownBy w3 (Value.slice aT nn kT).ownBlock := hgrow
        obtain ⟨s1, f1, b1⟩ := QD.out.app0 hbW hown hgrow (hat.imp_right fun q => by rw [q]; rfl)
        have S1 := Lib.hid s1
        have F1 : Hid (Frm (· ≠ 3) cl W.heap.size (upc cl W.heap.size 3) W w3) := Lib.hid f1
        have BL : Hid (Below b W w3) := Lib.hid (((Below.refl b W).drew).trans b1)
        have hB1 := (grow_same9 hgrow B1 HLT.out HNB.out).trans HB.out
        have bx1 : w3.cell? ⟨Qx, 0, none⟩ = some (.slice aT nn kT) := (cells_of_block S1.out.box 0).trans rfl
        have fx1 := frees_of_block S1.out.box 0
        obtain ⟨cur, hcur, hcap, hcz⟩ := S1.out.rT.cur
        have HCUR := Lib.hid hcur
        have hroom : nn * 14 + 14 ≤ cur.size := by rw [hcz]; omega
        have hgQ : g ≠ Qx := fun q => by have h1 := S1.out.bx.1; have h2 := (S1.out.rT.cls g rfl).1; rw [q] at h2; omega
        have hgB : B1 ≠ g := fun q => by have h1 := (F1.out B1 HLT.out (by rw [hcl9]; omega)).1; have h2 := (S1.out.rT.cls g rfl).1; rw [← q] at h2; have h4 : cl B1 = 3 := h1.symm.trans h2; omega
        have hQB : B1 ≠ Qx := fun q => by have h1 := QS.out.bx.1; rw [← q, hcl9] at h1; omega
        clear hown hgrow hat hcur hcap hcz s1 f1 b1
        refine hK.out _ _ hB1 (fun hS1 => ?_)
        clear hK K
        try simp only [Act.put, List.setIfInBounds_toArray, List.set_cons_zero, List.set_cons_succ]
        refine wpAnyH_take (i := 8) (oi := { dst := some 20, op := Go.Op.indexAddr 27 (Go.Operand.tmp 19) (Go.Operand.tmp 17), type := 0, pos := "memory.go:149", after := #[{ on := 7, ground := Go.Ground.data }, { on := 5, ground := Go.Ground.data }, { on := 0, ground := Go.Ground.phase }, { on := 1, ground := Go.Ground.phase }, { on := 2, ground := Go.Ground.phase }, { on := 3, ground := Go.Ground.phase }, { on := 4, ground := Go.Ground.phase }, { on := 5, ground := Go.Ground.phase }, { on := 6, ground := Go.Ground.phase }, { on := 7, ground := Go.Ground.phase }, { on := 12, ground := Go.Ground.gcOnly Go.Departure.appendInPlace }], guard := none }) (v := (.pointer (some ⟨g, nn * 14, none⟩))) rfl (by kernel_rfl) (by kernel_rfl) (by kernel_rfl) (fun _ _ _ h => h) (Or.inl ⟨by rfl, fun W hW => by go_simp; intro hh; omega⟩) hS1 ?_
        try simp only [Act.put, List.setIfInBounds_toArray, List.set_cons_zero, List.set_cons_succ]
        refine wpAnyH_take (i := 10) (oi := { dst := some 21, op := Go.Op.nilCheck (Go.Operand.tmp 12), type := 0, pos := "memory.go:149", after := #[{ on := 0, ground := Go.Ground.data }, { on := 0, ground := Go.Ground.phase }, { on := 1, ground := Go.Ground.phase }, { on := 2, ground := Go.Ground.phase }, { on := 3, ground := Go.Ground.phase }, { on := 4, ground := Go.Ground.phase }, { on := 5, ground := Go.Ground.phase }, { on := 6, ground := Go.Ground.phase }, { on := 7, ground := Go.Ground.phase }, { on := 8, ground := Go.Ground.textOnly Go.Departure.appendInPlace }, { on := 9, ground := Go.Ground.textOnly Go.Departure.appendInPlace }], guard := none }) (v := (.pointer (some ⟨Qx, 0, none⟩))) rfl (by kernel_rfl) (by kernel_rfl) (by kernel_rfl) (fun _ _ _ h => h) (Or.inl ⟨by rfl, fun W hW => by first | (go_simp; done) | (go_simp; with_reducible rfl)⟩) hS1 ?_
        try simp only [Act.put, List.setIfInBounds_toArray, List.set_cons_zero, List.set_cons_succ]
        refine wpAnyH_take (i := 11) (oi := { dst := some 22, op := Go.Op.fieldAddr 79 (Go.Operand.tmp 21) 0, type := 0, pos := "memory.go:149", after := #[{ on := 10, ground := Go.Ground.data }, { on := 0, ground := Go.Ground.phase }, { on := 1, ground := Go.Ground.phase }, { on := 2, ground := Go.Ground.phase }, { on := 3, ground := Go.Ground.phase }, { on := 4, ground := Go.Ground.phase }, { on := 5, ground := Go.Ground.phase }, { on := 6, ground := Go.Ground.phase }, { on := 7, ground := Go.Ground.phase }, { on := 8, ground := Go.Ground.textOnly Go.Departure.appendInPlace }, { on := 9, ground := Go.Ground.textOnly Go.Departure.appendInPlace }], guard := none }) (v := (.pointer (some ⟨Qx, 0, none⟩))) rfl (by kernel_rfl) (by kernel_rfl) (by kernel_rfl) (fun _ _ _ h => h) (Or.inl ⟨by rfl, fun W hW => by first | (go_simp; done) | (go_simp; with_reducible rfl)⟩) hS1 ?_
        try simp only [Act.put, List.setIfInBounds_toArray, List.set_cons_zero, List.set_cons_succ]
        refine wpAnyH_ready (rs := [9, 12]) (by kernel_rfl) (by simp) ?_
        refine AllReadyH.cons (o := { dst := none, op := Go.Op.store 29 (Go.Operand.tmp 20) (Go.Operand.tmp 16), type := 0, pos := "memory.go:149", after := #[{ on := 8, ground := Go.Ground.data }, { on := 4, ground := Go.Ground.data }, { on := 7, ground := Go.Ground.chain }, { on := 0, ground := Go.Ground.phase }, { on := 1, ground := Go.Ground.phase }, { on := 2, ground := Go.Ground.phase }, { on := 3, ground := Go.Ground.phase }, { on := 4, ground := Go.Ground.phase }, { on := 5, ground := Go.Ground.phase }, { on := 6, ground := Go.Ground.phase }, { on := 7, ground := Go.Ground.phase }, { on := 12, ground := Go.Ground.gcOnly Go.Departure.appendInPlace }], guard := none }) rfl (fun K hK => ?_) ?_
        · refine wanted_wp10 (by rfl) ?_
          refine wp_store_mid 29 _ _ rfl g (nn * 14) #[.int .i64 h.kind, .int .i64 h.op, .int .i64 h.num, .string ⟨h.text.toArray⟩, .int .i64 h.ref.row, .int .i64 h.ref.col, .bool h.ref.pr, .bool h.ref.pc, .int .i64 h.to.row, .int .i64 h.to.col, .bool h.to.pr, .bool h.to.pc, .int .i64 h.fn, .slice pa pl pc] rfl rfl (show World.there w3 g (nn * 14) 14 from there_mid HCUR.out hroom) infoExpr10 (by simp [Value.oneCell']) ?_
          change K _ (World.setCells w3 g (nn * 14) [.int .i64 h.kind, .int .i64 h.op, .int .i64 h.num, .string ⟨h.text.toArray⟩, .int .i64 h.ref.row, .int .i64 h.ref.col, .bool h.ref.pr, .bool h.ref.pc, .int .i64 h.to.row, .int .i64 h.to.col, .bool h.to.pr, .bool h.to.pc, .int .i64 h.fn, .slice pa pl pc])
          obtain ⟨s2, f2⟩ := S1.out.last0 (vs := [.int .i64 h.kind, .int .i64 h.op, .int .i64 h.num, .string ⟨h.text.toArray⟩, .int .i64 h.ref.row, .int .i64 h.ref.col, .bool h.ref.pr, .bool h.ref.pc, .int .i64 h.to.row, .int .i64 h.to.col, .bool h.to.pr, .bool h.to.pc, .int .i64 h.fn, .slice pa pl pc]) hcc rfl
          have b2 : Below b w3 (World.setCells w3 g (nn * 14) [.int .i64 h.kind, .int .i64 h.op, .int .i64 h.num, .string ⟨h.text.toArray⟩, .int .i64 h.ref.row, .int .i64 h.ref.col, .bool h.ref.pr, .bool h.ref.pc, .int .i64 h.to.row, .int .i64 h.to.col, .bool h.to.pr, .bool h.to.pc, .int .i64 h.fn, .slice pa pl pc]) := setCells_below (World.ownsRow.lt S1.out.rT.own g rfl).1 _ _ (Below.refl b w3)
          have z2 : (World.setCells w3 g (nn * 14) [.int .i64 h.kind, .int .i64 h.op, .int .i64 h.num, .string ⟨h.text.toArray⟩, .int .i64 h.ref.row, .int .i64 h.ref.col, .bool h.ref.pr, .bool h.ref.pc, .int .i64 h.to.row, .int .i64 h.to.col, .bool h.to.pr, .bool h.to.pc, .int .i64 h.fn, .slice pa pl pc]).heap.size = w3.heap.size := setCells_size _ _ _ _
          have h2 := (setCells_other hgB [.int .i64 h.kind, .int .i64 h.op, .int .i64 h.num, .string ⟨h.text.toArray⟩, .int .i64 h.ref.row, .int .i64 h.ref.col, .bool h.ref.pr, .bool h.ref.pc, .int .i64 h.to.row, .int .i64 h.to.col, .bool h.to.pr, .bool h.to.pc, .int .i64 h.fn, .slice pa pl pc] (nn * 14) w3).trans hS1
          generalize World.setCells w3 g (nn * 14) [.int .i64 h.kind, .int .i64 h.op, .int .i64 h.num, .string ⟨h.text.toArray⟩, .int .i64 h.ref.row, .int .i64 h.ref.col, .bool h.ref.pr, .bool h.ref.pc, .int .i64 h.to.row, .int .i64 h.to.col, .bool h.to.pr, .bool h.to.pc, .int .i64 h.fn, .slice pa pl pc] = w4 at s2 f2 b2 z2 h2 ⊢
          refine hK.out _ _ h2 (fun hS1 => ?_)
          clear hK K
          try simp only [Act.put]
          refine wpAnyH_ready (rs := [12]) (by kernel_rfl) (by simp) ?_
          refine AllReadyH.cons (o := { dst := none, op := Go.Op.store 27 (Go.Operand.tmp 22) (Go.Operand.tmp 19), type := 0, pos := "memory.go:149", after := #[{ on := 11, ground := Go.Ground.data }, { on := 7, ground := Go.Ground.data }, { on := 7, ground := Go.Ground.chain }, { on := 9, ground := Go.Ground.textOnly Go.Departure.appendInPlace }, { on := 0, ground := Go.Ground.phase }, { on := 1, ground := Go.Ground.phase }, { on := 2, ground := Go.Ground.phase }, { on := 3, ground := Go.Ground.phase }, { on := 4, ground := Go.Ground.phase }, { on := 5, ground := Go.Ground.phase }, { on := 6, ground := Go.Ground.phase }, { on := 7, ground := Go.Ground.phase }, { on := 8, ground := Go.Ground.textOnly Go.Departure.appendInPlace }, { on := 9, ground := Go.Ground.textOnly Go.Departure.appendInPlace }], guard := none }) rfl (fun K hK => ?_) ?_
          · refine wanted_wp10 (by rfl) ?_
            have bx2 : w4.cell? ⟨Qx, 0, none⟩ = some (.slice aT nn kT) := (cells_of_block s2.box 0).trans rfl
            have fx2 := frees_of_block s2.box 0
            obtain ⟨s3, f3⟩ := s2.set0 (.slice (some ⟨g, 0, none⟩) (nn + 1) cap)
            have b3 : Below b w4 (w4.setCell ⟨Qx, 0, none⟩ (.slice (some ⟨g, 0, none⟩) (nn + 1) cap)) := (Below.refl b w4).setCell (p := ⟨Qx, 0, none⟩) S1.out.bx.2.2 _
            clear bx1 fx1
            go_simp
            refine hK.out _ _ ((heap_setCell_other _ _ _ _ hQB).trans hS1) (fun hS1 => ?_)
            clear hK K
            try simp only [Act.put]
            refine wpAnyH_done (by kernel_rfl) ?_ _
            refine NoPanic.normal ?_
            exact hexit.out _ _ _ _ _ _ _ _ _ _ _ _ _ _ _ (Lib.hid (by rw [setCell_hsize, z2]; exact s3)) (Lib.hid ((F1.out.mono fun c h => h.1).trans ((f2.mono fun c h => h.1).trans (f3.mono fun c h => h.2) (Nat.le_refl _)) BL.out.size)) (BL.out.trans (b2.trans b3))
          exact AllReadyH.nil
        refine AllReadyH.cons (o := { dst := none, op := Go.Op.store 27 (Go.Operand.tmp 22) (Go.Operand.tmp 19), type := 0, pos := "memory.go:149", after := #[{ on := 11, ground := Go.Ground.data }, { on := 7, ground := Go.Ground.data }, { on := 7, ground := Go.Ground.chain }, { on := 9, ground := Go.Ground.textOnly Go.Departure.appendInPlace }, { on := 0, ground := Go.Ground.phase }, { on := 1, ground := Go.Ground.phase }, { on := 2, ground := Go.Ground.phase }, { on := 3, ground := Go.Ground.phase }, { on := 4, ground := Go.Ground.phase }, { on := 5, ground := Go.Ground.phase }, { on := 6, ground := Go.Ground.phase }, { on := 7, ground := Go.Ground.phase }, { on := 8, ground := Go.Ground.textOnly Go.Departure.appendInPlace }, { on := 9, ground := Go.Ground.textOnly Go.Departure.appendInPlace }], guard := none }) rfl (fun K hK => ?_) ?_
        · refine wanted_wp10 (by rfl) ?_
          go_simp
          obtain ⟨s2, f2⟩ := S1.out.set0 (.slice (some ⟨g, 0, none⟩) (nn + 1) cap)
          have b2 : Below b w3 (w3.setCell ⟨Qx, 0, none⟩ (.slice (some ⟨g, 0, none⟩) (nn + 1) cap)) := (Below.refl b w3).setCell (p := ⟨Qx, 0, none⟩) S1.out.bx.2.2 _
          have z2 := setCell_hsize w3 ⟨Qx, 0, none⟩ (.slice (some ⟨g, 0, none⟩) (nn + 1) cap)
          have h2 := (heap_setCell_other w3 ⟨Qx, 0, none⟩ B1 (.slice (some ⟨g, 0, none⟩) (nn + 1) cap) hQB).trans hS1
          have hc2 := (heap_setCell_other w3 ⟨Qx, 0, none⟩ g (.slice (some ⟨g, 0, none⟩) (nn + 1) cap) hgQ).trans HCUR.out
          generalize World.setCell w3 ⟨Qx, 0, none⟩ (.slice (some ⟨g, 0, none⟩) (nn + 1) cap) = w4 at s2 f2 b2 z2 h2 hc2 ⊢
          refine hK.out _ _ h2 (fun hS1 => ?_)
          clear hK K
          try simp only [Act.put]
          refine wpAnyH_ready (rs := [9]) (by kernel_rfl) (by simp) ?_
          refine AllReadyH.cons (o := { dst := none, op := Go.Op.store 29 (Go.Operand.tmp 20) (Go.Operand.tmp 16), type := 0, pos := "memory.go:149", after := #[{ on := 8, ground := Go.Ground.data }, { on := 4, ground := Go.Ground.data }, { on := 7, ground := Go.Ground.chain }, { on := 0, ground := Go.Ground.phase }, { on := 1, ground := Go.Ground.phase }, { on := 2, ground := Go.Ground.phase }, { on := 3, ground := Go.Ground.phase }, { on := 4, ground := Go.Ground.phase }, { on := 5, ground := Go.Ground.phase }, { on := 6, ground := Go.Ground.phase }, { on := 7, ground := Go.Ground.phase }, { on := 12, ground := Go.Ground.gcOnly Go.Departure.appendInPlace }], guard := none }) rfl (fun K hK => ?_) ?_
          · refine wanted_wp10 (by rfl) ?_
            refine wp_store_mid 29 _ _ rfl g (nn * 14) #[.int .i64 h.kind, .int .i64 h.op, .int .i64 h.num, .string ⟨h.text.toArray⟩, .int .i64 h.ref.row, .int .i64 h.ref.col, .bool h.ref.pr, .bool h.ref.pc, .int .i64 h.to.row, .int .i64 h.to.col, .bool h.to.pr, .bool h.to.pc, .int .i64 h.fn, .slice pa pl pc] rfl rfl (show World.there w4 g (nn * 14) 14 from there_mid hc2 hroom) infoExpr10 (by simp [Value.oneCell']) ?_
            change K _ (World.setCells w4 g (nn * 14) [.int .i64 h.kind, .int .i64 h.op, .int .i64 h.num, .string ⟨h.text.toArray⟩, .int .i64 h.ref.row, .int .i64 h.ref.col, .bool h.ref.pr, .bool h.ref.pc, .int .i64 h.to.row, .int .i64 h.to.col, .bool h.to.pr, .bool h.to.pc, .int .i64 h.fn, .slice pa pl pc])
            obtain ⟨s3, f3⟩ := s2.last0 (vs := [.int .i64 h.kind, .int .i64 h.op, .int .i64 h.num, .string ⟨h.text.toArray⟩, .int .i64 h.ref.row, .int .i64 h.ref.col, .bool h.ref.pr, .bool h.ref.pc, .int .i64 h.to.row, .int .i64 h.to.col, .bool h.to.pr, .bool h.to.pc, .int .i64 h.fn, .slice pa pl pc]) hcc rfl
            have b3 : Below b w4 (World.setCells w4 g (nn * 14) [.int .i64 h.kind, .int .i64 h.op, .int .i64 h.num, .string ⟨h.text.toArray⟩, .int .i64 h.ref.row, .int .i64 h.ref.col, .bool h.ref.pr, .bool h.ref.pc, .int .i64 h.to.row, .int .i64 h.to.col, .bool h.to.pr, .bool h.to.pc, .int .i64 h.fn, .slice pa pl pc]) := setCells_below (World.ownsRow.lt S1.out.rT.own g rfl).1 _ _ (Below.refl b w4)
            have z3 : (World.setCells w4 g (nn * 14) [.int .i64 h.kind, .int .i64 h.op, .int .i64 h.num, .string ⟨h.text.toArray⟩, .int .i64 h.ref.row, .int .i64 h.ref.col, .bool h.ref.pr, .bool h.ref.pc, .int .i64 h.to.row, .int .i64 h.to.col, .bool h.to.pr, .bool h.to.pc, .int .i64 h.fn, .slice pa pl pc]).heap.size = w4.heap.size := setCells_size _ _ _ _
            have h3 := (setCells_other hgB [.int .i64 h.kind, .int .i64 h.op, .int .i64 h.num, .string ⟨h.text.toArray⟩, .int .i64 h.ref.row, .int .i64 h.ref.col, .bool h.ref.pr, .bool h.ref.pc, .int .i64 h.to.row, .int .i64 h.to.col, .bool h.to.pr, .bool h.to.pc, .int .i64 h.fn, .slice pa pl pc] (nn * 14) w4).trans hS1
            generalize World.setCells w4 g (nn * 14) [.int .i64 h.kind, .int .i64 h.op, .int .i64 h.num, .string ⟨h.text.toArray⟩, .int .i64 h.ref.row, .int .i64 h.ref.col, .bool h.ref.pr, .bool h.ref.pc, .int .i64 h.to.row, .int .i64 h.to.col, .bool h.to.pr, .bool h.to.pc, .int .i64 h.fn, .slice pa pl pc] = w5 at s3 f3 b3 z3 h3 ⊢
            refine hK.out _ _ h3 (fun hS1 => ?_)
            clear hK K
            try simp only [Act.put]
            refine wpAnyH_done (by kernel_rfl) ?_ _
            refine NoPanic.normal ?_
            exact hexit.out _ _ _ _ _ _ _ _ _ _ _ _ _ _ _ (Lib.hid (by rw [z3, z2]; exact s3)) (Lib.hid ((F1.out.mono fun c h => h.1).trans ((f2.mono fun c h => h.2).trans (f3.mono fun c h => h.1) (Nat.le_refl _)) BL.out.size)) (BL.out.trans (b2.trans b3))
          exact AllReadyH.nil
        exact AllReadyH.nil
      exact AllReadyH.nil
    exact AllReadyH.nil
  refine AllReadyH.cons (o := { dst := some 18, op := Go.Op.buildSlice 27 1 #[(0, Go.Operand.const (Go.Value.agg #[Go.Value.int Go.IntKind.i64 0, Go.Value.int Go.IntKind.i64 0, Go.Value.int Go.IntKind.i64 0, Go.Value.string { data := #[] }, Go.Value.int Go.IntKind.i64 0, Go.Value.int Go.IntKind.i64 0, Go.Value.bool false, Go.Value.bool false, Go.Value.int Go.IntKind.i64 0, Go.Value.int Go.IntKind.i64 0, Go.Value.bool false, Go.Value.bool false, Go.Value.int Go.IntKind.i64 0, Go.Value.slice none 0 0]))], type := 27, pos := "memory.go:149", after := #[], guard := none }) rfl (fun K hK => ?_) ?_
  · refine wanted_wp10 (by rfl) ?_
    go_simp
    refine hK.out _ _ ((Below.heap_alloc _ _ _ HLT.out).trans hS1) (fun hS1 => ?_)
    clear hK K
    try simp only [Act.put, List.setIfInBounds_toArray, List.set_cons_zero, List.set_cons_succ]
    refine wpAnyH_ready (rs := [3]) (by kernel_rfl) (by simp) ?_
    refine AllReadyH.cons (o := { dst := some 15, op := Go.Op.load 27 (Go.Operand.tmp 14), type := 27, pos := "memory.go:149", after := #[{ on := 2, ground := Go.Ground.data }], guard := none }) rfl (fun K hK => ?_) ?_
    · refine wanted_wp10 (by rfl) ?_
      have b2 := (World.cell?_of_block (a := ⟨Qx, 0, none⟩) (Below.heap_alloc W (.cells #[.int .i64 0, .int .i64 0, .int .i64 0, .string ⟨#[]⟩, .int .i64 0, .int .i64 0, .bool false, .bool false, .int .i64 0, .int .i64 0, .bool false, .bool false, .int .i64 0, .slice none 0 0] 29) _ QS.out.bx.2.1)).trans b0
      go_simp
      refine hK.out _ _ hS1 (fun hS1 => ?_)
      clear hK K
      try simp only [Act.put, List.setIfInBounds_toArray, List.set_cons_zero, List.set_cons_succ]
      refine wpAnyH_take (i := 5) (oi := { dst := some 17, op := Go.Op.call { callee := Go.Callee.builtin Go.Builtin.len, args := #[Go.Operand.tmp 15], argTypes := #[27] }, type := 3, pos := "memory.go:149", after := #[{ on := 3, ground := Go.Ground.data }], guard := none }) (v := (.int .i64 (nn : Int))) rfl (by kernel_rfl) (by kernel_rfl) (by kernel_rfl) (fun _ _ _ h => h) (Or.inl ⟨by rfl, fun W hW => by first | (go_simp; done) | (go_simp; with_reducible rfl)⟩) hS1 ?_
      try simp only [Act.put, List.setIfInBounds_toArray, List.set_cons_zero, List.set_cons_succ]
      refine wpAnyH_ready (rs := [7]) (by kernel_rfl) (by simp) ?_
      refine AllReadyH.cons (o := { dst := some 19, op := Go.Op.call { callee := Go.Callee.builtin Go.Builtin.append, args := #[Go.Operand.tmp 15, Go.Operand.tmp 18], argTypes := #[27, 27] }, type := 27, pos := "memory.go:149", after := #[{ on := 3, ground := Go.Ground.data }, { on := 6, ground := Go.Ground.data }, { on := 0, ground := Go.Ground.phase }, { on := 1, ground := Go.Ground.phase }, { on := 2, ground := Go.Ground.phase }, { on := 3, ground := Go.Ground.phase }, { on := 4, ground := Go.Ground.phase }, { on := 5, ground := Go.Ground.phase }, { on := 6, ground := Go.Ground.phase }], guard := none }) rfl (fun K hK => ?_) ?_
      · refine wanted_wp10 (by rfl) ?_
        refine wp_append_lies _ (.tmp 15) (.tmp 18) 27 rfl b 29 i0 _ 14 120 Try.underlying27 hi hz0 hz1 hz2 rfl (by decide) (.slice aT nn kT) nn cc rfl (World.ownsRow.alloc ROW.out _) ⟨W.drew.heap.size, 0, none⟩ 1 1 [.int .i64 0, .int .i64 0, .int .i64 0, .string ⟨#[]⟩, .int .i64 0, .int .i64 0, .bool false, .bool false, .int .i64 0, .int .i64 0, .bool false, .bool false, .int .i64 0, .slice none 0 0] rfl rfl (World.news_of_block (heap_alloc_new W.drew _)) (by simp [Value.oneCell']) (by decide) (by unfold maxLen; omega) (by omega) (by simp; show b ≤ W.heap.size + 1; omega) _ rfl ?_
        intro g cap w3 hown hgrow hat _
        have hgrow : (W.drew.alloc (.cells #[.int .i64 0, .int .i64 0, .int .i64 0, .string ⟨#[]⟩, .int .i64 0, .int .i64 0, .bool false, .bool false, .int .i64 0, .int .i64 0, .bool false, .bool false, .int .i64 0, .slice none 0 0] 29)).grownBy w3 (Value.slice aT nn kT).ownBlock := hgrow
        obtain ⟨s1, f1, b1⟩ := QD.out.app0 hbW hown hgrow (hat.imp_right fun q => by rw [q]; rfl)
        have S1 := Lib.hid s1
        have F1 : Hid (Frm (· ≠ 3) cl W.heap.size (upc cl W.heap.size 3) W w3) := Lib.hid f1
        have BL : Hid (Below b W w3) := Lib.hid (((Below.refl b W).drew).trans b1)
        have hB1 := (grow_same9 hgrow B1 HLT.out HNB.out).trans HB.out
        have bx1 : w3.cell? ⟨Qx, 0, none⟩ = some (.slice aT nn kT) := (cells_of_block S1.out.box 0).trans rfl
        have fx1 := frees_of_block S1.out.box 0
        obtain ⟨cur, hcur, hcap, hcz⟩ := S1.out.rT.cur
        have HCUR := Lib.hid hcur
        have hroom : nn * 14 + 14 ≤ cur.size := by rw [hcz]; omega
        have hgQ : g ≠ Qx := fun q => by have h1 := S1.out.bx.1; have h2 := (S1.out.rT.cls g rfl).1; rw [q] at h2; omega
        have hgB : B1 ≠ g := fun q => by have h1 := (F1.out B1 HLT.out (by rw [hcl9]; omega)).1; have h2 := (S1.out.rT.cls g rfl).1; rw [← q] at h2; have h4 : cl B1 = 3 := h1.symm.trans h2; omega
        have hQB : B1 ≠ Qx := fun q => by have h1 := QS.out.bx.1; rw [← q, hcl9] at h1; omega
        clear hown hgrow hat hcur hcap hcz s1 f1 b1
        refine hK.out _ _ hB1 (fun hS1 => ?_)
        clear hK K
        try simp only [Act.put, List.setIfInBounds_toArray, List.set_cons_zero, List.set_cons_succ]
        refine wpAnyH_take (i := 8) (oi := { dst := some 20, op := Go.Op.indexAddr 27 (Go.Operand.tmp 19) (Go.Operand.tmp 17), type := 0, pos := "memory.go:149", after := #[{ on := 7, ground := Go.Ground.data }, { on := 5, ground := Go.Ground.data }, { on := 0, ground := Go.Ground.phase }, { on := 1, ground := Go.Ground.phase }, { on := 2, ground := Go.Ground.phase }, { on := 3, ground := Go.Ground.phase }, { on := 4, ground := Go.Ground.phase }, { on := 5, ground := Go.Ground.phase }, { on := 6, ground := Go.Ground.phase }, { on := 7, ground := Go.Ground.phase }, { on := 12, ground := Go.Ground.gcOnly Go.Departure.appendInPlace }], guard := none }) (v := (.pointer (some ⟨g, nn * 14, none⟩))) rfl (by kernel_rfl) (by kernel_rfl) (by kernel_rfl) (fun _ _ _ h => h) (Or.inl ⟨by rfl, fun W hW => by go_simp; intro hh; omega⟩) hS1 ?_
        try simp only [Act.put, List.setIfInBounds_toArray, List.set_cons_zero, List.set_cons_succ]
        refine wpAnyH_take (i := 10) (oi := { dst := some 21, op := Go.Op.nilCheck (Go.Operand.tmp 12), type := 0, pos := "memory.go:149", after := #[{ on := 0, ground := Go.Ground.data }, { on := 0, ground := Go.Ground.phase }, { on := 1, ground := Go.Ground.phase }, { on := 2, ground := Go.Ground.phase }, { on := 3, ground := Go.Ground.phase }, { on := 4, ground := Go.Ground.phase }, { on := 5, ground := Go.Ground.phase }, { on := 6, ground := Go.Ground.phase }, { on := 7, ground := Go.Ground.phase }, { on := 8, ground := Go.Ground.textOnly Go.Departure.appendInPlace }, { on := 9, ground := Go.Ground.textOnly Go.Departure.appendInPlace }], guard := none }) (v := (.pointer (some ⟨Qx, 0, none⟩))) rfl (by kernel_rfl) (by kernel_rfl) (by kernel_rfl) (fun _ _ _ h => h) (Or.inl ⟨by rfl, fun W hW => by first | (go_simp; done) | (go_simp; with_reducible rfl)⟩) hS1 ?_
        try simp only [Act.put, List.setIfInBounds_toArray, List.set_cons_zero, List.set_cons_succ]
        refine wpAnyH_take (i := 11) (oi := { dst := some 22, op := Go.Op.fieldAddr 79 (Go.Operand.tmp 21) 0, type := 0, pos := "memory.go:149", after := #[{ on := 10, ground := Go.Ground.data }, { on := 0, ground := Go.Ground.phase }, { on := 1, ground := Go.Ground.phase }, { on := 2, ground := Go.Ground.phase }, { on := 3, ground := Go.Ground.phase }, { on := 4, ground := Go.Ground.phase }, { on := 5, ground := Go.Ground.phase }, { on := 6, ground := Go.Ground.phase }, { on := 7, ground := Go.Ground.phase }, { on := 8, ground := Go.Ground.textOnly Go.Departure.appendInPlace }, { on := 9, ground := Go.Ground.textOnly Go.Departure.appendInPlace }], guard := none }) (v := (.pointer (some ⟨Qx, 0, none⟩))) rfl (by kernel_rfl) (by kernel_rfl) (by kernel_rfl) (fun _ _ _ h => h) (Or.inl ⟨by rfl, fun W hW => by first | (go_simp; done) | (go_simp; with_reducible rfl)⟩) hS1 ?_
        try simp only [Act.put, List.setIfInBounds_toArray, List.set_cons_zero, List.set_cons_succ]
        refine wpAnyH_ready (rs := [9, 12]) (by kernel_rfl) (by simp) ?_
        refine AllReadyH.cons (o := { dst := none, op := Go.Op.store 29 (Go.Operand.tmp 20) (Go.Operand.tmp 16), type := 0, pos := "memory.go:149", after := #[{ on := 8, ground := Go.Ground.data }, { on := 4, ground := Go.Ground.data }, { on := 7, ground := Go.Ground.chain }, { on := 0, ground := Go.Ground.phase }, { on := 1, ground := Go.Ground.phase }, { on := 2, ground := Go.Ground.phase }, { on := 3, ground := Go.Ground.phase }, { on := 4, ground := Go.Ground.phase }, { on := 5, ground := Go.Ground.phase }, { on := 6, ground := Go.Ground.phase }, { on := 7, ground := Go.Ground.phase }, { on := 12, ground := Go.Ground.gcOnly Go.Departure.appendInPlace }], guard := none }) rfl (fun K hK => ?_) ?_
        · refine wanted_wp10 (by rfl) ?_
          refine wp_store_mid 29 _ _ rfl g (nn * 14) #[.int .i64 h.kind, .int .i64 h.op, .int .i64 h.num, .string ⟨h.text.toArray⟩, .int .i64 h.ref.row, .int .i64 h.ref.col, .bool h.ref.pr, .bool h.ref.pc, .int .i64 h.to.row, .int .i64 h.to.col, .bool h.to.pr, .bool h.to.pc, .int .i64 h.fn, .slice pa pl pc] rfl rfl (show World.there w3 g (nn * 14) 14 from there_mid HCUR.out hroom) infoExpr10 (by simp [Value.oneCell']) ?_
          change K _ (World.setCells w3 g (nn * 14) [.int .i64 h.kind, .int .i64 h.op, .int .i64 h.num, .string ⟨h.text.toArray⟩, .int .i64 h.ref.row, .int .i64 h.ref.col, .bool h.ref.pr, .bool h.ref.pc, .int .i64 h.to.row, .int .i64 h.to.col, .bool h.to.pr, .bool h.to.pc, .int .i64 h.fn, .slice pa pl pc])
          obtain ⟨s2, f2⟩ := S1.out.last0 (vs := [.int .i64 h.kind, .int .i64 h.op, .int .i64 h.num, .string ⟨h.text.toArray⟩, .int .i64 h.ref.row, .int .i64 h.ref.col, .bool h.ref.pr, .bool h.ref.pc, .int .i64 h.to.row, .int .i64 h.to.col, .bool h.to.pr, .bool h.to.pc, .int .i64 h.fn, .slice pa pl pc]) hcc rfl
          have b2 : Below b w3 (World.setCells w3 g (nn * 14) [.int .i64 h.kind, .int .i64 h.op, .int .i64 h.num, .string ⟨h.text.toArray⟩, .int .i64 h.ref.row, .int .i64 h.ref.col, .bool h.ref.pr, .bool h.ref.pc, .int .i64 h.to.row, .int .i64 h.to.col, .bool h.to.pr, .bool h.to.pc, .int .i64 h.fn, .slice pa pl pc]) := setCells_below (World.ownsRow.lt S1.out.rT.own g rfl).1 _ _ (Below.refl b w3)
          have z2 : (World.setCells w3 g (nn * 14) [.int .i64 h.kind, .int .i64 h.op, .int .i64 h.num, .string ⟨h.text.toArray⟩, .int .i64 h.ref.row, .int .i64 h.ref.col, .bool h.ref.pr, .bool h.ref.pc, .int .i64 h.to.row, .int .i64 h.to.col, .bool h.to.pr, .bool h.to.pc, .int .i64 h.fn, .slice pa pl pc]).heap.size = w3.heap.size := setCells_size _ _ _ _
          have h2 := (setCells_other hgB [.int .i64 h.kind, .int .i64 h.op, .int .i64 h.num, .string ⟨h.text.toArray⟩, .int .i64 h.ref.row, .int .i64 h.ref.col, .bool h.ref.pr, .bool h.ref.pc, .int .i64 h.to.row, .int .i64 h.to.col, .bool h.to.pr, .bool h.to.pc, .int .i64 h.fn, .slice pa pl pc] (nn * 14) w3).trans hS1
          generalize World.setCells w3 g (nn * 14) [.int .i64 h.kind, .int .i64 h.op, .int .i64 h.num, .string ⟨h.text.toArray⟩, .int .i64 h.ref.row, .int .i64 h.ref.col, .bool h.ref.pr, .bool h.ref.pc, .int .i64 h.to.row, .int .i64 h.to.col, .bool h.to.pr, .bool h.to.pc, .int .i64 h.fn, .slice pa pl pc] = w4 at s2 f2 b2 z2 h2 ⊢
          refine hK.out _ _ h2 (fun hS1 => ?_)
          clear hK K
          try simp only [Act.put]
          refine wpAnyH_ready (rs := [12]) (by kernel_rfl) (by simp) ?_
          refine AllReadyH.cons (o := { dst := none, op := Go.Op.store 27 (Go.Operand.tmp 22) (Go.Operand.tmp 19), type := 0, pos := "memory.go:149", after := #[{ on := 11, ground := Go.Ground.data }, { on := 7, ground := Go.Ground.data }, { on := 7, ground := Go.Ground.chain }, { on := 9, ground := Go.Ground.textOnly Go.Departure.appendInPlace }, { on := 0, ground := Go.Ground.phase }, { on := 1, ground := Go.Ground.phase }, { on := 2, ground := Go.Ground.phase }, { on := 3, ground := Go.Ground.phase }, { on := 4, ground := Go.Ground.phase }, { on := 5, ground := Go.Ground.phase }, { on := 6, ground := Go.Ground.phase }, { on := 7, ground := Go.Ground.phase }, { on := 8, ground := Go.Ground.textOnly Go.Departure.appendInPlace }, { on := 9, ground := Go.Ground.textOnly Go.Departure.appendInPlace }], guard := none }) rfl (fun K hK => ?_) ?_
          · refine wanted_wp10 (by rfl) ?_
            have bx2 : w4.cell? ⟨Qx, 0, none⟩ = some (.slice aT nn kT) := (cells_of_block s2.box 0).trans rfl
            have fx2 := frees_of_block s2.box 0
            obtain ⟨s3, f3⟩ := s2.set0 (.slice (some ⟨g, 0, none⟩) (nn + 1) cap)
            have b3 : Below b w4 (w4.setCell ⟨Qx, 0, none⟩ (.slice (some ⟨g, 0, none⟩) (nn + 1) cap)) := (Below.refl b w4).setCell (p := ⟨Qx, 0, none⟩) S1.out.bx.2.2 _
            clear bx1 fx1
            go_simp
            refine hK.out _ _ ((heap_setCell_other _ _ _ _ hQB).trans hS1) (fun hS1 => ?_)
            clear hK K
            try simp only [Act.put]
            refine wpAnyH_done (by kernel_rfl) ?_ _
            refine NoPanic.normal ?_
            exact hexit.out _ _ _ _ _ _ _ _ _ _ _ _ _ _ _ (Lib.hid (by rw [setCell_hsize, z2]; exact s3)) (Lib.hid ((F1.out.mono fun c h => h.1).trans ((f2.mono fun c h => h.1).trans (f3.mono fun c h => h.2) (Nat.le_refl _)) BL.out.size)) (BL.out.trans (b2.trans b3))
          exact AllReadyH.nil
        refine AllReadyH.cons (o := { dst := none, op := Go.Op.store 27 (Go.Operand.tmp 22) (Go.Operand.tmp 19), type := 0, pos := "memory.go:149", after := #[{ on := 11, ground := Go.Ground.data }, { on := 7, ground := Go.Ground.data }, { on := 7, ground := Go.Ground.chain }, { on := 9, ground := Go.Ground.textOnly Go.Departure.appendInPlace }, { on := 0, ground := Go.Ground.phase }, { on := 1, ground := Go.Ground.phase }, { on := 2, ground := Go.Ground.phase }, { on := 3, ground := Go.Ground.phase }, { on := 4, ground := Go.Ground.phase }, { on := 5, ground := Go.Ground.phase }, { on := 6, ground := Go.Ground.phase }, { on := 7, ground := Go.Ground.phase }, { on := 8, ground := Go.Ground.textOnly Go.Departure.appendInPlace }, { on := 9, ground := Go.Ground.textOnly Go.Departure.appendInPlace }], guard := none }) rfl (fun K hK => ?_) ?_
        · refine wanted_wp10 (by rfl) ?_
          go_simp
          obtain ⟨s2, f2⟩ := S1.out.set0 (.slice (some ⟨g, 0, none⟩) (nn + 1) cap)
          have b2 : Below b w3 (w3.setCell ⟨Qx, 0, none⟩ (.slice (some ⟨g, 0, none⟩) (nn + 1) cap)) := (Below.refl b w3).setCell (p := ⟨Qx, 0, none⟩) S1.out.bx.2.2 _
          have z2 := setCell_hsize w3 ⟨Qx, 0, none⟩ (.slice (some ⟨g, 0, none⟩) (nn + 1) cap)
          have h2 := (heap_setCell_other w3 ⟨Qx, 0, none⟩ B1 (.slice (some ⟨g, 0, none⟩) (nn + 1) cap) hQB).trans hS1
          have hc2 := (heap_setCell_other w3 ⟨Qx, 0, none⟩ g (.slice (some ⟨g, 0, none⟩) (nn + 1) cap) hgQ).trans HCUR.out
          generalize World.setCell w3 ⟨Qx, 0, none⟩ (.slice (some ⟨g, 0, none⟩) (nn + 1) cap) = w4 at s2 f2 b2 z2 h2 hc2 ⊢
          refine hK.out _ _ h2 (fun hS1 => ?_)
          clear hK K
          try simp only [Act.put]
          refine wpAnyH_ready (rs := [9]) (by kernel_rfl) (by simp) ?_
          refine AllReadyH.cons (o := { dst := none, op := Go.Op.store 29 (Go.Operand.tmp 20) (Go.Operand.tmp 16), type := 0, pos := "memory.go:149", after := #[{ on := 8, ground := Go.Ground.data }, { on := 4, ground := Go.Ground.data }, { on := 7, ground := Go.Ground.chain }, { on := 0, ground := Go.Ground.phase }, { on := 1, ground := Go.Ground.phase }, { on := 2, ground := Go.Ground.phase }, { on := 3, ground := Go.Ground.phase }, { on := 4, ground := Go.Ground.phase }, { on := 5, ground := Go.Ground.phase }, { on := 6, ground := Go.Ground.phase }, { on := 7, ground := Go.Ground.phase }, { on := 12, ground := Go.Ground.gcOnly Go.Departure.appendInPlace }], guard := none }) rfl (fun K hK => ?_) ?_
          · refine wanted_wp10 (by rfl) ?_
            refine wp_store_mid 29 _ _ rfl g (nn * 14) #[.int .i64 h.kind, .int .i64 h.op, .int .i64 h.num, .string ⟨h.text.toArray⟩, .int .i64 h.ref.row, .int .i64 h.ref.col, .bool h.ref.pr, .bool h.ref.pc, .int .i64 h.to.row, .int .i64 h.to.col, .bool h.to.pr, .bool h.to.pc, .int .i64 h.fn, .slice pa pl pc] rfl rfl (show World.there w4 g (nn * 14) 14 from there_mid hc2 hroom) infoExpr10 (by simp [Value.oneCell']) ?_
            change K _ (World.setCells w4 g (nn * 14) [.int .i64 h.kind, .int .i64 h.op, .int .i64 h.num, .string ⟨h.text.toArray⟩, .int .i64 h.ref.row, .int .i64 h.ref.col, .bool h.ref.pr, .bool h.ref.pc, .int .i64 h.to.row, .int .i64 h.to.col, .bool h.to.pr, .bool h.to.pc, .int .i64 h.fn, .slice pa pl pc])
            obtain ⟨s3, f3⟩ := s2.last0 (vs := [.int .i64 h.kind, .int .i64 h.op, .int .i64 h.num, .string ⟨h.text.toArray⟩, .int .i64 h.ref.row, .int .i64 h.ref.col, .bool h.ref.pr, .bool h.ref.pc, .int .i64 h.to.row, .int .i64 h.to.col, .bool h.to.pr, .bool h.to.pc, .int .i64 h.fn, .slice pa pl pc]) hcc rfl
            have b3 : Below b w4 (World.setCells w4 g (nn * 14) [.int .i64 h.kind, .int .i64 h.op, .int .i64 h.num, .string ⟨h.text.toArray⟩, .int .i64 h.ref.row, .int .i64 h.ref.col, .bool h.ref.pr, .bool h.ref.pc, .int .i64 h.to.row, .int .i64 h.to.col, .bool h.to.pr, .bool h.to.pc, .int .i64 h.fn, .slice pa pl pc]) := setCells_below (World.ownsRow.lt S1.out.rT.own g rfl).1 _ _ (Below.refl b w4)
            have z3 : (World.setCells w4 g (nn * 14) [.int .i64 h.kind, .int .i64 h.op, .int .i64 h.num, .string ⟨h.text.toArray⟩, .int .i64 h.ref.row, .int .i64 h.ref.col, .bool h.ref.pr, .bool h.ref.pc, .int .i64 h.to.row, .int .i64 h.to.col, .bool h.to.pr, .bool h.to.pc, .int .i64 h.fn, .slice pa pl pc]).heap.size = w4.heap.size := setCells_size _ _ _ _
            have h3 := (setCells_other hgB [.int .i64 h.kind, .int .i64 h.op, .int .i64 h.num, .string ⟨h.text.toArray⟩, .int .i64 h.ref.row, .int .i64 h.ref.col, .bool h.ref.pr, .bool h.ref.pc, .int .i64 h.to.row, .int .i64 h.to.col, .bool h.to.pr, .bool h.to.pc, .int .i64 h.fn, .slice pa pl pc] (nn * 14) w4).trans hS1
            generalize World.setCells w4 g (nn * 14) [.int .i64 h.kind, .int .i64 h.op, .int .i64 h.num, .string ⟨h.text.toArray⟩, .int .i64 h.ref.row, .int .i64 h.ref.col, .bool h.ref.pr, .bool h.ref.pc, .int .i64 h.to.row, .int .i64 h.to.col, .bool h.to.pr, .bool h.to.pc, .int .i64 h.fn, .slice pa pl pc] = w5 at s3 f3 b3 z3 h3 ⊢
            refine hK.out _ _ h3 (fun hS1 => ?_)
            clear hK K
            try simp only [Act.put]
            refine wpAnyH_done (by kernel_rfl) ?_ _
            refine NoPanic.normal ?_
            exact hexit.out _ _ _ _ _ _ _ _ _ _ _ _ _ _ _ (Lib.hid (by rw [z3, z2]; exact s3)) (Lib.hid ((F1.out.mono fun c h => h.1).trans ((f2.mono fun c h => h.2).trans (f3.mono fun c h => h.1) (Nat.le_refl _)) BL.out.size)) (BL.out.trans (b2.trans b3))
          exact AllReadyH.nil
        exact AllReadyH.nil
      exact AllReadyH.nil
    exact AllReadyH.nil
  exact AllReadyH.nil
set_option maxRecDepth 1000000 in
set_option maxHeartbeats 16000000 in
theorem kp_r3 {Q : Exit → Act → World → Prop} {b Qx B1 nn kT pl pc : Nat} {cl : Nat → Nat} {W : World} {h : Hd} {aT pa : Option Addr} {cc : List Value} {x0 vT : Value} {n0 : Nat} {c0 : List Value} {u1 u2 u3 u4 u6 u7 u8 u9 u10 u11 u12 u13 u14 u15 u16 u17 u18 u19 u20 u21 u22 u23 u24 u25 u26 u27 u28 u29 u30 u31 u32 u33 : Value}
    (QS : Hid (QiS b W.heap.size cl Qx x0 (.slice aT nn kT) vT (.slice aT nn kT) n0 nn c0 cc W)) (HB : Hid (W.heap[B1]? = some (.cells #[.int .i64 h.kind, .int .i64 h.op, .int .i64 h.num, .string ⟨h.text.toArray⟩, .int .i64 h.ref.row, .int .i64 h.ref.col, .bool h.ref.pr, .bool h.ref.pc, .int .i64 h.to.row, .int .i64 h.to.col, .bool h.to.pr, .bool h.to.pc, .int .i64 h.fn, .slice pa pl pc] 29 (0, 0)))) (hcl9 : cl B1 = 9) (hbW : b ≤ W.heap.size) (hnn : nn ≤ 1000000)
    (hexit : Hid (∀ (v23 v24 v25 v26 v27 v28 v29 v30 v31 v32 v33 : Value) (g cap : Nat) (cl1 : Nat → Nat) (W' : World), Hid (QiS b W'.heap.size cl1 Qx x0 (.slice (some ⟨g, 0, none⟩) (nn + 1) cap) vT (.slice (some ⟨g, 0, none⟩) (nn + 1) cap) n0 (nn + 1) c0 (cc ++ [.int .i64 h.kind, .int .i64 h.op, .int .i64 h.num, .string ⟨h.text.toArray⟩, .int .i64 h.ref.row, .int .i64 h.ref.col, .bool h.ref.pr, .bool h.ref.pc, .int .i64 h.to.row, .int .i64 h.to.col, .bool h.to.pr, .bool h.to.pc, .int .i64 h.fn, .slice pa pl pc]) W') → Hid (Frm (fun c => c ≠ 4 ∧ c ≠ 8) cl W.heap.size cl1 W W') → Below b W W' → Q .normal ⟨List.toArray ((.pointer (some ⟨Qx, 0, none⟩)) :: u1 :: u2 :: u3 :: u4 :: (.pointer (some ⟨B1, 0, none⟩)) :: u6 :: u7 :: u8 :: u9 :: u10 :: u11 :: u12 :: u13 :: u14 :: u15 :: u16 :: u17 :: u18 :: u19 :: u20 :: u21 :: u22 :: v23 :: v24 :: v25 :: v26 :: v27 :: v28 :: v29 :: v30 :: v31 :: v32 :: v33 :: []), []⟩ W')) :
    Code.wp Try.prog (kpR 3) Q ⟨List.toArray ((.pointer (some ⟨Qx, 0, none⟩)) :: u1 :: u2 :: u3 :: u4 :: (.pointer (some ⟨B1, 0, none⟩)) :: u6 :: u7 :: u8 :: u9 :: u10 :: u11 :: u12 :: u13 :: u14 :: u15 :: u16 :: u17 :: u18 :: u19 :: u20 :: u21 :: u22 :: u23 :: u24 :: u25 :: u26 :: u27 :: u28 :: u29 :: u30 :: u31 :: u32 :: u33 :: []), []⟩ W := by
  conv => arg 2; whnf
  obtain ⟨i0, hi, hz0, hz1, hz2⟩ := info_parts infoExpr
  have HLT := Lib.hid (lt_of_block HB.out)
  have HNB : Hid ((Value.slice aT nn kT).ownBlock ≠ some B1) := Lib.hid fun q => by have h2 := (QS.out.rW.cls B1 q).1; omega
  have QD : Hid (QiS b W.drew.heap.size cl Qx x0 (.slice aT nn kT) vT (.slice aT nn kT) n0 nn c0 cc W.drew) := Lib.hid (QS.out.frm (P := fun _ => True) (fun x _ _ => ⟨rfl, rfl⟩ : Frm (fun _ => True) cl W.heap.size cl W W.drew) (Nat.le_refl _) trivial trivial trivial)
  have ROW : Hid (W.drew.ownsRow b 29 14 (.slice aT nn kT) nn cc) := Lib.hid QD.out.rW.own
  have hcc : cc.length = nn * 14 := QS.out.rW.own.1
  have b0 : W.cell? ⟨Qx, 1, none⟩ = some (.slice aT nn kT) := (cells_of_block QS.out.box 1).trans rfl
  refine wp_region_noPanic ?_
  refine wp_region_held_drew (S := (fun w => w.heap[B1]? = some (.cells #[.int .i64 h.kind, .int .i64 h.op, .int .i64 h.num, .string ⟨h.text.toArray⟩, .int .i64 h.ref.row, .int .i64 h.ref.col, .bool h.ref.pr, .bool h.ref.pc, .int .i64 h.to.row, .int .i64 h.to.col, .bool h.to.pr, .bool h.to.pc, .int .i64 h.fn, .slice pa pl pc] 29 (0, 0)))) (by kernel_rfl) HB.out (fun hS1 => ?_)
  refine wpAnyH_take (i := 0) (oi := { dst := some 23, op := Go.Op.move (Go.Operand.tmp 0), type := 77, pos := "memory.go:150", after := #[], guard := none }) (v := (.pointer (some ⟨Qx, 0, none⟩))) rfl (by kernel_rfl) (by kernel_rfl) (by kernel_rfl) (fun _ _ _ h => h) (Or.inl ⟨by rfl, fun W hW => by first | (go_simp; done) | (go_simp; with_reducible rfl)⟩) hS1 ?_
  try simp only [Act.put, List.setIfInBounds_toArray, List.set_cons_zero, List.set_cons_succ]
  refine wpAnyH_take (i := 1) (oi := { dst := some 24, op := Go.Op.nilCheck (Go.Operand.tmp 23), type := 0, pos := "memory.go:150", after := #[{ on := 0, ground := Go.Ground.data }], guard := none }) (v := (.pointer (some ⟨Qx, 0, none⟩))) rfl (by kernel_rfl) (by kernel_rfl) (by kernel_rfl) (fun _ _ _ h => h) (Or.inl ⟨by rfl, fun W hW => by first | (go_simp; done) | (go_simp; with_reducible rfl)⟩) hS1 ?_
  try simp only [Act.put, List.setIfInBounds_toArray, List.set_cons_zero, List.set_cons_succ]
  refine wpAnyH_take (i := 2) (oi := { dst := some 25, op := Go.Op.fieldAddr 79 (Go.Operand.tmp 24) 1, type := 0, pos := "memory.go:150", after := #[{ on := 1, ground := Go.Ground.data }], guard := none }) (v := (.pointer (some ⟨Qx, 1, none⟩))) rfl (by kernel_rfl) (by kernel_rfl) (by kernel_rfl) (fun _ _ _ h => h) (Or.inl ⟨by rfl, fun W hW => by first | (go_simp; done) | (go_simp; with_reducible rfl)⟩) hS1 ?_
  try simp only [Act.put, List.setIfInBounds_toArray, List.set_cons_zero, List.set_cons_succ]
  refine wpAnyH_take (i := 4) (oi := { dst := some 27, op := Go.Op.load 29 (Go.Operand.tmp 5), type := 29, pos := "memory.go:150", after := #[], guard := none }) (v := (.agg #[.int .i64 h.kind, .int .i64 h.op, .int .i64 h.num, .string ⟨h.text.toArray⟩, .int .i64 h.ref.row, .int .i64 h.ref.col, .bool h.ref.pr, .bool h.ref.pc, .int .i64 h.to.row, .int .i64 h.to.col, .bool h.to.pr, .bool h.to.pc, .int .i64 h.fn, .slice pa pl pc])) rfl (by kernel_rfl) (by kernel_rfl) (by kernel_rfl) (fun _ _ _ h => h) (yieldsIf_load_mid (by rfl) 29 _ rfl B1 0 rfl [.int .i64 h.kind, .int .i64 h.op, .int .i64 h.num, .string ⟨h.text.toArray⟩, .int .i64 h.ref.row, .int .i64 h.ref.col, .bool h.ref.pr, .bool h.ref.pc, .int .i64 h.to.row, .int .i64 h.to.col, .bool h.to.pr, .bool h.to.pc, .int .i64 h.fn, .slice pa pl pc] _ (fun W hW => fun o v h => by rw [cells_of_block hW, ← h]; simp) Try.underlying29 rfl infoExpr10) hS1 ?_
  try simp only [Act.put, List.setIfInBounds_toArray, List.set_cons_zero, List.set_cons_succ]
  refine wpAnyH_ready (rs := [3, 6]) (by kernel_rfl) (by simp) ?_
  refine AllReadyH.cons (o := { dst := some 26, op := Go.Op.load 27 (Go.Operand.tmp 25), type := 27, pos := "memory.go:150", after := #[{ on := 2, ground := Go.Ground.data }], guard := none }) rfl (fun K hK => ?_) ?_
  · refine wanted_wp10 (by rfl) ?_
    have b2 := b0
    go_simp
    refine hK.out _ _ hS1 (fun hS1 => ?_)
    clear hK K
    try simp only [Act.put, List.setIfInBounds_toArray, List.set_cons_zero, List.set_cons_succ]
    refine wpAnyH_take (i := 5) (oi := { dst := some 28, op := Go.Op.call { callee := Go.Callee.builtin Go.Builtin.len, args := #[Go.Operand.tmp 26], argTypes := #[27] }, type := 3, pos := "memory.go:150", after := #[{ on := 3, ground := Go.Ground.data }], guard := none }) (v := (.int .i64 (nn : Int))) rfl (by kernel_rfl) (by kernel_rfl) (by kernel_rfl) (fun _ _ _ h => h) (Or.inl ⟨by rfl, fun W hW => by first | (go_simp; done) | (go_simp; with_reducible rfl)⟩) hS1 ?_
    try simp only [Act.put, List.setIfInBounds_toArray, List.set_cons_zero, List.set_cons_succ]
    refine wpAnyH_ready (rs := [6]) (by kernel_rfl) (by simp) ?_
    refine AllReadyH.cons (o := { dst := some 29, op := Go.Op.buildSlice 27 1 #[(0, Go.Operand.const (Go.Value.agg #[Go.Value.int Go.IntKind.i64 0, Go.Value.int Go.IntKind.i64 0, Go.Value.int Go.IntKind.i64 0, Go.Value.string { data := #[] }, Go.Value.int Go.IntKind.i64 0, Go.Value.int Go.IntKind.i64 0, Go.Value.bool false, Go.Value.bool false, Go.Value.int Go.IntKind.i64 0, Go.Value.int Go.IntKind.i64 0, Go.Value.bool false, Go.Value.bool false, Go.Value.int Go.IntKind.i64 0, Go.Value.slice none 0 0]))], type := 27, pos := "memory.go:150", after := #[], guard := none }) rfl (fun K hK => ?_) ?_
    · refine wanted_wp10 (by rfl) ?_
      go_simp
      refine hK.out _ _ ((Below.heap_alloc _ _ _ HLT.out).trans hS1) (fun hS1 => ?_)
      clear hK K
      try simp only [Act.put, List.setIfInBounds_toArray, List.set_cons_zero, List.set_cons_succ]
      refine wpAnyH_ready (rs := [7]) (by kernel_rfl) (by simp) ?_
      refine AllReadyH.cons (o := { dst := some 30, op := Go.Op.call { callee := Go.Callee.builtin Go.Builtin.append, args := #[Go.Operand.tmp 26, Go.Operand.tmp 29], argTypes := #[27, 27] }, type := 27, pos := "memory.go:150", after := #[{ on := 3, ground := Go.Ground.data }, { on := 6, ground := Go.Ground.data }, { on := 0, ground := Go.Ground.phase }, { on := 1, ground := Go.Ground.phase }, { on := 2, ground := Go.Ground.phase }, { on := 3, ground := Go.Ground.phase }, { on := 4, ground := Go.Ground.phase }, { on := 5, ground := Go.Ground.phase }, { on := 6, ground := Go.Ground.phase }], guard := none }) rfl (fun K hK => ?_) ?_
      · refine wanted_wp10 (by rfl) ?_
        refine wp_append_lies _ (.tmp 26) (.tmp 29) 27 rfl b 29 i0 _ 14 120 Try.underlying27 hi hz0 hz1 hz2 rfl (by decide) (.slice aT nn kT) nn cc rfl (World.ownsRow.alloc ROW.out _) ⟨W.drew.heap.size, 0, none⟩ 1 1 [.int .i64 0, .int .i64 0, .int .i64 0, .string ⟨#[]⟩, .int .i64 0, .int .i64 0, .bool false, .bool false, .int .i64 0, .int .i64 0, .bool false, .bool false, .int .i64 0, .slice none 0 0] rfl rfl (World.news_of_block (heap_alloc_new W.drew _)) (by simp [Value.oneCell']) (by decide) (by unfold maxLen; omega) (by omega) (by simp; show b ≤ W.heap.size + 1; omega) _ rfl ?_
        intro g cap w3 hown hgrow hat _
        have hgrow : (W.drew.alloc (.cells #[.int .i64 0, .int .i64 0, .int .i64 0, .string ⟨#[]⟩, .int .i64 0, .int .i64 0, .bool false, .bool false, .int .i64 0, .int .i64 0, .bool false, .bool false, .int .i64 0, .slice none 0 0] 29)).grownBy w3 (Value.slice aT nn kT).ownBlock := hgrow
        obtain ⟨s1, f1, b1⟩ := QD.out.app1 hbW hown hgrow (hat.imp_right fun q => by rw [q]; rfl)
        have S1 := Lib.hid s1
        have F1 : Hid (Frm (· ≠ 4) cl W.heap.size (upc cl W.heap.size 4) W w3) := Lib.hid f1
        have BL : Hid (Below b W w3) := Lib.hid (((Below.refl b W).drew).trans b1)
        have hB1 := (grow_same9 hgrow B1 HLT.out HNB.out).trans HB.out
        have bx1 : w3.cell? ⟨Qx, 1, none⟩ = some (.slice aT nn kT) := (cells_of_block S1.out.box 1).trans rfl
        have fx1 := frees_of_block S1.out.box 1
        obtain ⟨cur, hcur, hcap, hcz⟩ := S1.out.rW.cur
        have HCUR := Lib.hid hcur
        have hroom : nn * 14 + 14 ≤ cur.size := by rw [hcz]; omega
        have hgQ : g ≠ Qx := fun q => by have h1 := S1.out.bx.1; have h2 := (S1.out.rW.cls g rfl).1; rw [q] at h2; omega
        have hgB : B1 ≠ g := fun q => by have h1 := (F1.out B1 HLT.out (by rw [hcl9]; omega)).1; have h2 := (S1.out.rW.cls g rfl).1; rw [← q] at h2; have h4 : cl B1 = 4 := h1.symm.trans h2; omega
        have hQB : B1 ≠ Qx := fun q => by have h1 := QS.out.bx.1; rw [← q, hcl9] at h1; omega
        clear hown hgrow hat hcur hcap hcz s1 f1 b1
        refine hK.out _ _ hB1 (fun hS1 => ?_)
        clear hK K
        try simp only [Act.put, List.setIfInBounds_toArray, List.set_cons_zero, List.set_cons_succ]
        refine wpAnyH_take (i := 8) (oi := { dst := some 31, op := Go.Op.indexAddr 27 (Go.Operand.tmp 30) (Go.Operand.tmp 28), type := 0, pos := "memory.go:150", after := #[{ on := 7, ground := Go.Ground.data }, { on := 5, ground := Go.Ground.data }, { on := 0, ground := Go.Ground.phase }, { on := 1, ground := Go.Ground.phase }, { on := 2, ground := Go.Ground.phase }, { on := 3, ground := Go.Ground.phase }, { on := 4, ground := Go.Ground.phase }, { on := 5, ground := Go.Ground.phase }, { on := 6, ground := Go.Ground.phase }, { on := 7, ground := Go.Ground.phase }, { on := 12, ground := Go.Ground.gcOnly Go.Departure.appendInPlace }], guard := none }) (v := (.pointer (some ⟨g, nn * 14, none⟩))) rfl (by kernel_rfl) (by kernel_rfl) (by kernel_rfl) (fun _ _ _ h => h) (Or.inl ⟨by rfl, fun W hW => by go_simp; intro hh; omega⟩) hS1 ?_
        try simp only [Act.put, List.setIfInBounds_toArray, List.set_cons_zero, List.set_cons_succ]
        refine wpAnyH_take (i := 10) (oi := { dst := some 32, op := Go.Op.nilCheck (Go.Operand.tmp 23), type := 0, pos := "memory.go:150", after := #[{ on := 0, ground := Go.Ground.data }, { on := 0, ground := Go.Ground.phase }, { on := 1, ground := Go.Ground.phase }, { on := 2, ground := Go.Ground.phase }, { on := 3, ground := Go.Ground.phase }, { on := 4, ground := Go.Ground.phase }, { on := 5, ground := Go.Ground.phase }, { on := 6, ground := Go.Ground.phase }, { on := 7, ground := Go.Ground.phase }, { on := 8, ground := Go.Ground.textOnly Go.Departure.appendInPlace }, { on := 9, ground := Go.Ground.textOnly Go.Departure.appendInPlace }], guard := none }) (v := (.pointer (some ⟨Qx, 0, none⟩))) rfl (by kernel_rfl) (by kernel_rfl) (by kernel_rfl) (fun _ _ _ h => h) (Or.inl ⟨by rfl, fun W hW => by first | (go_simp; done) | (go_simp; with_reducible rfl)⟩) hS1 ?_
        try simp only [Act.put, List.setIfInBounds_toArray, List.set_cons_zero, List.set_cons_succ]
        refine wpAnyH_take (i := 11) (oi := { dst := some 33, op := Go.Op.fieldAddr 79 (Go.Operand.tmp 32) 1, type := 0, pos := "memory.go:150", after := #[{ on := 10, ground := Go.Ground.data }, { on := 0, ground := Go.Ground.phase }, { on := 1, ground := Go.Ground.phase }, { on := 2, ground := Go.Ground.phase }, { on := 3, ground := Go.Ground.phase }, { on := 4, ground := Go.Ground.phase }, { on := 5, ground := Go.Ground.phase }, { on := 6, ground := Go.Ground.phase }, { on := 7, ground := Go.Ground.phase }, { on := 8, ground := Go.Ground.textOnly Go.Departure.appendInPlace }, { on := 9, ground := Go.Ground.textOnly Go.Departure.appendInPlace }], guard := none }) (v := (.pointer (some ⟨Qx, 1, none⟩))) rfl (by kernel_rfl) (by kernel_rfl) (by kernel_rfl) (fun _ _ _ h => h) (Or.inl ⟨by rfl, fun W hW => by first | (go_simp; done) | (go_simp; with_reducible rfl)⟩) hS1 ?_
        try simp only [Act.put, List.setIfInBounds_toArray, List.set_cons_zero, List.set_cons_succ]
        refine wpAnyH_ready (rs := [9, 12]) (by kernel_rfl) (by simp) ?_
        refine AllReadyH.cons (o := { dst := none, op := Go.Op.store 29 (Go.Operand.tmp 31) (Go.Operand.tmp 27), type := 0, pos := "memory.go:150", after := #[{ on := 8, ground := Go.Ground.data }, { on := 4, ground := Go.Ground.data }, { on := 7, ground := Go.Ground.chain }, { on := 0, ground := Go.Ground.phase }, { on := 1, ground := Go.Ground.phase }, { on := 2, ground := Go.Ground.phase }, { on := 3, ground := Go.Ground.phase }, { on := 4, ground := Go.Ground.phase }, { on := 5, ground := Go.Ground.phase }, { on := 6, ground := Go.Ground.phase }, { on := 7, ground := Go.Ground.phase }, { on := 12, ground := Go.Ground.gcOnly Go.Departure.appendInPlace }], guard := none }) rfl (fun K hK => ?_) ?_
        · refine wanted_wp10 (by rfl) ?_
          refine wp_store_mid 29 _ _ rfl g (nn * 14) #[.int .i64 h.kind, .int .i64 h.op, .int .i64 h.num, .string ⟨h.text.toArray⟩, .int .i64 h.ref.row, .int .i64 h.ref.col, .bool h.ref.pr, .bool h.ref.pc, .int .i64 h.to.row, .int .i64 h.to.col, .bool h.to.pr, .bool h.to.pc, .int .i64 h.fn, .slice pa pl pc] rfl rfl (show World.there w3 g (nn * 14) 14 from there_mid HCUR.out hroom) infoExpr10 (by simp [Value.oneCell']) ?_
          change K _ (World.setCells w3 g (nn * 14) [.int .i64 h.kind, .int .i64 h.op, .int .i64 h.num, .string ⟨h.text.toArray⟩, .int .i64 h.ref.row, .int .i64 h.ref.col, .bool h.ref.pr, .bool h.ref.pc, .int .i64 h.to.row, .int .i64 h.to.col, .bool h.to.pr, .bool h.to.pc, .int .i64 h.fn, .slice pa pl pc])
          obtain ⟨s2, f2⟩ := S1.out.last1 (vs := [.int .i64 h.kind, .int .i64 h.op, .int .i64 h.num, .string ⟨h.text.toArray⟩, .int .i64 h.ref.row, .int .i64 h.ref.col, .bool h.ref.pr, .bool h.ref.pc, .int .i64 h.to.row, .int .i64 h.to.col, .bool h.to.pr, .bool h.to.pc, .int .i64 h.fn, .slice pa pl pc]) hcc rfl
          have b2 : Below b w3 (World.setCells w3 g (nn * 14) [.int .i64 h.kind, .int .i64 h.op, .int .i64 h.num, .string ⟨h.text.toArray⟩, .int .i64 h.ref.row, .int .i64 h.ref.col, .bool h.ref.pr, .bool h.ref.pc, .int .i64 h.to.row, .int .i64 h.to.col, .bool h.to.pr, .bool h.to.pc, .int .i64 h.fn, .slice pa pl pc]) := setCells_below (World.ownsRow.lt S1.out.rW.own g rfl).1 _ _ (Below.refl b w3)
          have z2 : (World.setCells w3 g (nn * 14) [.int .i64 h.kind, .int .i64 h.op, .int .i64 h.num, .string ⟨h.text.toArray⟩, .int .i64 h.ref.row, .int .i64 h.ref.col, .bool h.ref.pr, .bool h.ref.pc, .int .i64 h.to.row, .int .i64 h.to.col, .bool h.to.pr, .bool h.to.pc, .int .i64 h.fn, .slice pa pl pc]).heap.size = w3.heap.size := setCells_size _ _ _ _
          have h2 := (setCells_other hgB [.int .i64 h.kind, .int .i64 h.op, .int .i64 h.num, .string ⟨h.text.toArray⟩, .int .i64 h.ref.row, .int .i64 h.ref.col, .bool h.ref.pr, .bool h.ref.pc, .int .i64 h.to.row, .int .i64 h.to.col, .bool h.to.pr, .bool h.to.pc, .int .i64 h.fn, .slice pa pl pc] (nn * 14) w3).trans hS1
          generalize World.setCells w3 g (nn * 14) [.int .i64 h.kind, .int .i64 h.op, .int .i64 h.num, .string ⟨h.text.toArray⟩, .int .i64 h.ref.row, .int .i64 h.ref.col, .bool h.ref.pr, .bool h.ref.pc, .int .i64 h.to.row, .int .i64 h.to.col, .bool h.to.pr, .bool h.to.pc, .int .i64 h.fn, .slice pa pl pc] = w4 at s2 f2 b2 z2 h2 ⊢
          refine hK.out _ _ h2 (fun hS1 => ?_)
          clear hK K
          try simp only [Act.put]
          refine wpAnyH_ready (rs := [12]) (by kernel_rfl) (by simp) ?_
          refine AllReadyH.cons (o := { dst := none, op := Go.Op.store 27 (Go.Operand.tmp 33) (Go.Operand.tmp 30), type := 0, pos := "memory.go:150", after := #[{ on := 11, ground := Go.Ground.data }, { on := 7, ground := Go.Ground.data }, { on := 7, ground := Go.Ground.chain }, { on := 9, ground := Go.Ground.textOnly Go.Departure.appendInPlace }, { on := 0, ground := Go.Ground.phase }, { on := 1, ground := Go.Ground.phase }, { on := 2, ground := Go.Ground.phase }, { on := 3, ground := Go.Ground.phase }, { on := 4, ground := Go.Ground.phase }, { on := 5, ground := Go.Ground.phase }, { on := 6, ground := Go.Ground.phase }, { on := 7, ground := Go.Ground.phase }, { on := 8, ground := Go.Ground.textOnly Go.Departure.appendInPlace }, { on := 9, ground := Go.Ground.textOnly Go.Departure.appendInPlace }], guard := none }) rfl (fun K hK => ?_) ?_
          · refine wanted_wp10 (by rfl) ?_
            have bx2 : w4.cell? ⟨Qx, 1, none⟩ = some (.slice aT nn kT) := (cells_of_block s2.box 1).trans rfl
            have fx2 := frees_of_block s2.box 1
            obtain ⟨s3, f3⟩ := s2.set1 (.slice (some ⟨g, 0, none⟩) (nn + 1) cap)
            have b3 : Below b w4 (w4.setCell ⟨Qx, 1, none⟩ (.slice (some ⟨g, 0, none⟩) (nn + 1) cap)) := (Below.refl b w4).setCell (p := ⟨Qx, 1, none⟩) S1.out.bx.2.2 _
            clear bx1 fx1
            go_simp
            refine hK.out _ _ ((heap_setCell_other _ _ _ _ hQB).trans hS1) (fun hS1 => ?_)
            clear hK K
            try simp only [Act.put]
            refine wpAnyH_done (by kernel_rfl) ?_ _
            refine NoPanic.normal ?_
            exact hexit.out _ _ _ _ _ _ _ _ _ _ _ _ _ _ _ (Lib.hid (by rw [setCell_hsize, z2]; exact s3)) (Lib.hid ((F1.out.mono fun c h => h.1).trans ((f2.mono fun c h => h.1).trans (f3.mono fun c h => h.2) (Nat.le_refl _)) BL.out.size)) (BL.out.trans (b2.trans b3))
          exact AllReadyH.nil
        refine AllReadyH.cons (o := { dst := none, op := Go.Op.store 27 (Go.Operand.tmp 33) (Go.Operand.tmp 30), type := 0, pos := "memory.go:150", after := #[{ on := 11, ground := Go.Ground.data }, { on := 7, ground := Go.Ground.data }, { on := 7, ground := Go.Ground.chain }, { on := 9, ground := Go.Ground.textOnly Go.Departure.appendInPlace }, { on := 0, ground := Go.Ground.phase }, { on := 1, ground := Go.Ground.phase }, { on := 2, ground := Go.Ground.phase }, { on := 3, ground := Go.Ground.phase }, { on := 4, ground := Go.Ground.phase }, { on := 5, ground := Go.Ground.phase }, { on := 6, ground := Go.Ground.phase }, { on := 7, ground := Go.Ground.phase }, { on := 8, ground := Go.Ground.textOnly Go.Departure.appendInPlace }, { on := 9, ground := Go.Ground.textOnly Go.Departure.appendInPlace }], guard := none }) rfl (fun K hK => ?_) ?_
        · refine wanted_wp10 (by rfl) ?_
          go_simp
          obtain ⟨s2, f2⟩ := S1.out.set1 (.slice (some ⟨g, 0, none⟩) (nn + 1) cap)
          have b2 : Below b w3 (w3.setCell ⟨Qx, 1, none⟩ (.slice (some ⟨g, 0, none⟩) (nn + 1) cap)) := (Below.refl b w3).setCell (p := ⟨Qx, 1, none⟩) S1.out.bx.2.2 _
          have z2 := setCell_hsize w3 ⟨Qx, 1, none⟩ (.slice (some ⟨g, 0, none⟩) (nn + 1) cap)
          have h2 := (heap_setCell_other w3 ⟨Qx, 1, none⟩ B1 (.slice (some ⟨g, 0, none⟩) (nn + 1) cap) hQB).trans hS1
          have hc2 := (heap_setCell_other w3 ⟨Qx, 1, none⟩ g (.slice (some ⟨g, 0, none⟩) (nn + 1) cap) hgQ).trans HCUR.out
          generalize World.setCell w3 ⟨Qx, 1, none⟩ (.slice (some ⟨g, 0, none⟩) (nn + 1) cap) = w4 at s2 f2 b2 z2 h2 hc2 ⊢
          refine hK.out _ _ h2 (fun hS1 => ?_)
          clear hK K
          try simp only [Act.put]
          refine wpAnyH_ready (rs := [9]) (by kernel_rfl) (by simp) ?_
          refine AllReadyH.cons (o := { dst := none, op := Go.Op.store 29 (Go.Operand.tmp 31) (Go.Operand.tmp 27), type := 0, pos := "memory.go:150", after := #[{ on := 8, ground := Go.Ground.data }, { on := 4, ground := Go.Ground.data }, { on := 7, ground := Go.Ground.chain }, { on := 0, ground := Go.Ground.phase }, { on := 1, ground := Go.Ground.phase }, { on := 2, ground := Go.Ground.phase }, { on := 3, ground := Go.Ground.phase }, { on := 4, ground := Go.Ground.phase }, { on := 5, ground := Go.Ground.phase }, { on := 6, ground := Go.Ground.phase }, { on := 7, ground := Go.Ground.phase }, { on := 12, ground := Go.Ground.gcOnly Go.Departure.appendInPlace }], guard := none }) rfl (fun K hK => ?_) ?_
          · refine wanted_wp10 (by rfl) ?_
            refine wp_store_mid 29 _ _ rfl g (nn * 14) #[.int .i64 h.kind, .int .i64 h.op, .int .i64 h.num, .string ⟨h.text.toArray⟩, .int .i64 h.ref.row, .int .i64 h.ref.col, .bool h.ref.pr, .bool h.ref.pc, .int .i64 h.to.row, .int .i64 h.to.col, .bool h.to.pr, .bool h.to.pc, .int .i64 h.fn, .slice pa pl pc] rfl rfl (show World.there w4 g (nn * 14) 14 from there_mid hc2 hroom) infoExpr10 (by simp [Value.oneCell']) ?_
            change K _ (World.setCells w4 g (nn * 14) [.int .i64 h.kind, .int .i64 h.op, .int .i64 h.num, .string ⟨h.text.toArray⟩, .int .i64 h.ref.row, .int .i64 h.ref.col, .bool h.ref.pr, .bool h.ref.pc, .int .i64 h.to.row, .int .i64 h.to.col, .bool h.to.pr, .bool h.to.pc, .int .i64 h.fn, .slice pa pl pc])
            obtain ⟨s3, f3⟩ := s2.last1 (vs := [.int .i64 h.kind, .int .i64 h.op, .int .i64 h.num, .string ⟨h.text.toArray⟩, .int .i64 h.ref.row, .int .i64 h.ref.col, .bool h.ref.pr, .bool h.ref.pc, .int .i64 h.to.row, .int .i64 h.to.col, .bool h.to.pr, .bool h.to.pc, .int .i64 h.fn, .slice pa pl pc]) hcc rfl
            have b3 : Below b w4 (World.setCells w4 g (nn * 14) [.int .i64 h.kind, .int .i64 h.op, .int .i64 h.num, .string ⟨h.text.toArray⟩, .int .i64 h.ref.row, .int .i64 h.ref.col, .bool h.ref.pr, .bool h.ref.pc, .int .i64 h.to.row, .int .i64 h.to.col, .bool h.to.pr, .bool h.to.pc, .int .i64 h.fn, .slice pa pl pc]) := setCells_below (World.ownsRow.lt S1.out.rW.own g rfl).1 _ _ (Below.refl b w4)
            have z3 : (World.setCells w4 g (nn * 14) [.int .i64 h.kind, .int .i64 h.op, .int .i64 h.num, .string ⟨h.text.toArray⟩, .int .i64 h.ref.row, .int .i64 h.ref.col, .bool h.ref.pr, .bool h.ref.pc, .int .i64 h.to.row, .int .i64 h.to.col, .bool h.to.pr, .bool h.to.pc, .int .i64 h.fn, .slice pa pl pc]).heap.size = w4.heap.size := setCells_size _ _ _ _
            have h3 := (setCells_other hgB [.int .i64 h.kind, .int .i64 h.op, .int .i64 h.num, .string ⟨h.text.toArray⟩, .int .i64 h.ref.row, .int .i64 h.ref.col, .bool h.ref.pr, .bool h.ref.pc, .int .i64 h.to.row, .int .i64 h.to.col, .bool h.to.pr, .bool h.to.pc, .int .i64 h.fn, .slice pa pl pc] (nn * 14) w4).trans hS1
            generalize World.setCells w4 g (nn * 14) [.int .i64 h.kind, .int .i64 h.op, .int .i64 h.num, .string ⟨h.text.toArray⟩, .int .i64 h.ref.row, .int .i64 h.ref.col, .bool h.ref.pr, .bool h.ref.pc, .int .i64 h.to.row, .int .i64 h.to.col, .bool h.to.pr, .bool h.to.pc, .int .i64 h.fn, .slice pa pl pc] = w5 at s3 f3 b3 z3 h3 ⊢
            refine hK.out _ _ h3 (fun hS1 => ?_)
            clear hK K
            try simp only [Act.put]
            refine wpAnyH_done (by kernel_rfl) ?_ _
            refine NoPanic.normal ?_
            exact hexit.out _ _ _ _ _ _ _ _ _ _ _ _ _ _ _ (Lib.hid (by rw [z3, z2]; exact s3)) (Lib.hid ((F1.out.mono fun c h => h.1).trans ((f2.mono fun c h => h.2).trans (f3.mono fun c h => h.1) (Nat.le_refl _)) BL.out.size)) (BL.out.trans (b2.trans b3))
          exact AllReadyH.nil
        exact AllReadyH.nil
      exact AllReadyH.nil
    exact AllReadyH.nil
  refine AllReadyH.cons (o := { dst := some 29, op := Go.Op.buildSlice 27 1 #[(0, Go.Operand.const (Go.Value.agg #[Go.Value.int Go.IntKind.i64 0, Go.Value.int Go.IntKind.i64 0, Go.Value.int Go.IntKind.i64 0, Go.Value.string { data := #[] }, Go.Value.int Go.IntKind.i64 0, Go.Value.int Go.IntKind.i64 0, Go.Value.bool false, Go.Value.bool false, Go.Value.int Go.IntKind.i64 0, Go.Value.int Go.IntKind.i64 0, Go.Value.bool false, Go.Value.bool false, Go.Value.int Go.IntKind.i64 0, Go.Value.slice none 0 0]))], type := 27, pos := "memory.go:150", after := #[], guard := none }) rfl (fun K hK => ?_) ?_
  · refine wanted_wp10 (by rfl) ?_
    go_simp
    refine hK.out _ _ ((Below.heap_alloc _ _ _ HLT.out).trans hS1) (fun hS1 => ?_)
    clear hK K
    try simp only [Act.put, List.setIfInBounds_toArray, List.set_cons_zero, List.set_cons_succ]
    refine wpAnyH_ready (rs := [3]) (by kernel_rfl) (by simp) ?_
    refine AllReadyH.cons (o := { dst := some 26, op := Go.Op.load 27 (Go.Operand.tmp 25), type := 27, pos := "memory.go:150", after := #[{ on := 2, ground := Go.Ground.data }], guard := none }) rfl (fun K hK => ?_) ?_
    · refine wanted_wp10 (by rfl) ?_
      have b2 := (World.cell?_of_block (a := ⟨Qx, 1, none⟩) (Below.heap_alloc W (.cells #[.int .i64 0, .int .i64 0, .int .i64 0, .string ⟨#[]⟩, .int .i64 0, .int .i64 0, .bool false, .bool false, .int .i64 0, .int .i64 0, .bool false, .bool false, .int .i64 0, .slice none 0 0] 29) _ QS.out.bx.2.1)).trans b0
      go_simp
      refine hK.out _ _ hS1 (fun hS1 => ?_)
      clear hK K
      try simp only [Act.put, List.setIfInBounds_toArray, List.set_cons_zero, List.set_cons_succ]
      refine wpAnyH_take (i := 5) (oi := { dst := some 28, op := Go.Op.call { callee := Go.Callee.builtin Go.Builtin.len, args := #[Go.Operand.tmp 26], argTypes := #[27] }, type := 3, pos := "memory.go:150", after := #[{ on := 3, ground := Go.Ground.data }], guard := none }) (v := (.int .i64 (nn : Int))) rfl (by kernel_rfl) (by kernel_rfl) (by kernel_rfl) (fun _ _ _ h => h) (Or.inl ⟨by rfl, fun W hW => by first | (go_simp; done) | (go_simp; with_reducible rfl)⟩) hS1 ?_
      try simp only [Act.put, List.setIfInBounds_toArray, List.set_cons_zero, List.set_cons_succ]
      refine wpAnyH_ready (rs := [7]) (by kernel_rfl) (by simp) ?_
      refine AllReadyH.cons (o := { dst := some 30, op := Go.Op.call { callee := Go.Callee.builtin Go.Builtin.append, args := #[Go.Operand.tmp 26, Go.Operand.tmp 29], argTypes := #[27, 27] }, type := 27, pos := "memory.go:150", after := #[{ on := 3, ground := Go.Ground.data }, { on := 6, ground := Go.Ground.data }, { on := 0, ground := Go.Ground.phase }, { on := 1, ground := Go.Ground.phase }, { on := 2, ground := Go.Ground.phase }, { on := 3, ground := Go.Ground.phase }, { on := 4, ground := Go.Ground.phase }, { on := 5, ground := Go.Ground.phase }, { on := 6, ground := Go.Ground.phase }], guard := none }) rfl (fun K hK => ?_) ?_
      · refine wanted_wp10 (by rfl) ?_
        refine wp_append_lies _ (.tmp 26) (.tmp 29) 27 rfl b 29 i0 _ 14 120 Try.underlying27 hi hz0 hz1 hz2 rfl (by decide) (.slice aT nn kT) nn cc rfl (World.ownsRow.alloc ROW.out _) ⟨W.drew.heap.size, 0, none⟩ 1 1 [.int .i64 0, .int .i64 0, .int .i64 0, .string ⟨#[]⟩, .int .i64 0, .int .i64 0, .bool false, .bool false, .int .i64 0, .int .i64 0, .bool false, .bool false, .int .i64 0, .slice none 0 0] rfl rfl (World.news_of_block (heap_alloc_new W.drew _)) (by simp [Value.oneCell']) (by decide) (by unfold maxLen; omega) (by omega) (by simp; show b ≤ W.heap.size + 1; omega) _ rfl ?_
        intro g cap w3 hown hgrow hat _
        have hgrow : (W.drew.alloc (.cells #[.int .i64 0, .int .i64 0, .int .i64 0, .string ⟨#[]⟩, .int .i64 0, .int .i64 0, .bool false, .bool false, .int .i64 0, .int .i64 0, .bool false, .bool false, .int .i64 0, .slice none 0 0] 29)).grownBy w3 (Value.slice aT nn kT).ownBlock := hgrow
        obtain ⟨s1, f1, b1⟩ := QD.out.app1 hbW hown hgrow (hat.imp_right fun q => by rw [q]; rfl)
        have S1 := Lib.hid s1
        have F1 : Hid (Frm (· ≠ 4) cl W.heap.size (upc cl W.heap.size 4) W w3) := Lib.hid f1
        have BL : Hid (Below b W w3) := Lib.hid (((Below.refl b W).drew).trans b1)
        have hB1 := (grow_same9 hgrow B1 HLT.out HNB.out).trans HB.out
        have bx1 : w3.cell? ⟨Qx, 1, none⟩ = some (.slice aT nn kT) := (cells_of_block S1.out.box 1).trans rfl
        have fx1 := frees_of_block S1.out.box 1
        obtain ⟨cur, hcur, hcap, hcz⟩ := S1.out.rW.cur
        have HCUR := Lib.hid hcur
        have hroom : nn * 14 + 14 ≤ cur.size := by rw [hcz]; omega
        have hgQ : g ≠ Qx := fun q => by have h1 := S1.out.bx.1; have h2 := (S1.out.rW.cls g rfl).1; rw [q] at h2; omega
        have hgB : B1 ≠ g := fun q => by have h1 := (F1.out B1 HLT.out (by rw [hcl9]; omega)).1; have h2 := (S1.out.rW.cls g rfl).1; rw [← q] at h2; have h4 : cl B1 = 4 := h1.symm.trans h2; omega
        have hQB : B1 ≠ Qx := fun q => by have h1 := QS.out.bx.1; rw [← q, hcl9] at h1; omega
        clear hown hgrow hat hcur hcap hcz s1 f1 b1
        refine hK.out _ _ hB1 (fun hS1 => ?_)
        clear hK K
        try simp only [Act.put, List.setIfInBounds_toArray, List.set_cons_zero, List.set_cons_succ]
        refine wpAnyH_take (i := 8) (oi := { dst := some 31, op := Go.Op.indexAddr 27 (Go.Operand.tmp 30) (Go.Operand.tmp 28), type := 0, pos := "memory.go:150", after := #[{ on := 7, ground := Go.Ground.data }, { on := 5, ground := Go.Ground.data }, { on := 0, ground := Go.Ground.phase }, { on := 1, ground := Go.Ground.phase }, { on := 2, ground := Go.Ground.phase }, { on := 3, ground := Go.Ground.phase }, { on := 4, ground := Go.Ground.phase }, { on := 5, ground := Go.Ground.phase }, { on := 6, ground := Go.Ground.phase }, { on := 7, ground := Go.Ground.phase }, { on := 12, ground := Go.Ground.gcOnly Go.Departure.appendInPlace }], guard := none }) (v := (.pointer (some ⟨g, nn * 14, none⟩))) rfl (by kernel_rfl) (by kernel_rfl) (by kernel_rfl) (fun _ _ _ h => h) (Or.inl ⟨by rfl, fun W hW => by go_simp; intro hh; omega⟩) hS1 ?_
        try simp only [Act.put, List.setIfInBounds_toArray, List.set_cons_zero, List.set_cons_succ]
        refine wpAnyH_take (i := 10) (oi := { dst := some 32, op := Go.Op.nilCheck (Go.Operand.tmp 23), type := 0, pos := "memory.go:150", after := #[{ on := 0, ground := Go.Ground.data }, { on := 0, ground := Go.Ground.phase }, { on := 1, ground := Go.Ground.phase }, { on := 2, ground := Go.Ground.phase }, { on := 3, ground := Go.Ground.phase }, { on := 4, ground := Go.Ground.phase }, { on := 5, ground := Go.Ground.phase }, { on := 6, ground := Go.Ground.phase }, { on := 7, ground := Go.Ground.phase }, { on := 8, ground := Go.Ground.textOnly Go.Departure.appendInPlace }, { on := 9, ground := Go.Ground.textOnly Go.Departure.appendInPlace }], guard := none }) (v := (.pointer (some ⟨Qx, 0, none⟩))) rfl (by kernel_rfl) (by kernel_rfl) (by kernel_rfl) (fun _ _ _ h => h) (Or.inl ⟨by rfl, fun W hW => by first | (go_simp; done) | (go_simp; with_reducible rfl)⟩) hS1 ?_
        try simp only [Act.put, List.setIfInBounds_toArray, List.set_cons_zero, List.set_cons_succ]
        refine wpAnyH_take (i := 11) (oi := { dst := some 33, op := Go.Op.fieldAddr 79 (Go.Operand.tmp 32) 1, type := 0, pos := "memory.go:150", after := #[{ on := 10, ground := Go.Ground.data }, { on := 0, ground := Go.Ground.phase }, { on := 1, ground := Go.Ground.phase }, { on := 2, ground := Go.Ground.phase }, { on := 3, ground := Go.Ground.phase }, { on := 4, ground := Go.Ground.phase }, { on := 5, ground := Go.Ground.phase }, { on := 6, ground := Go.Ground.phase }, { on := 7, ground := Go.Ground.phase }, { on := 8, ground := Go.Ground.textOnly Go.Departure.appendInPlace }, { on := 9, ground := Go.Ground.textOnly Go.Departure.appendInPlace }], guard := none }) (v := (.pointer (some ⟨Qx, 1, none⟩))) rfl (by kernel_rfl) (by kernel_rfl) (by kernel_rfl) (fun _ _ _ h => h) (Or.inl ⟨by rfl, fun W hW => by first | (go_simp; done) | (go_simp; with_reducible rfl)⟩) hS1 ?_
        try simp only [Act.put, List.setIfInBounds_toArray, List.set_cons_zero, List.set_cons_succ]
        refine wpAnyH_ready (rs := [9, 12]) (by kernel_rfl) (by simp) ?_
        refine AllReadyH.cons (o := { dst := none, op := Go.Op.store 29 (Go.Operand.tmp 31) (Go.Operand.tmp 27), type := 0, pos := "memory.go:150", after := #[{ on := 8, ground := Go.Ground.data }, { on := 4, ground := Go.Ground.data }, { on := 7, ground := Go.Ground.chain }, { on := 0, ground := Go.Ground.phase }, { on := 1, ground := Go.Ground.phase }, { on := 2, ground := Go.Ground.phase }, { on := 3, ground := Go.Ground.phase }, { on := 4, ground := Go.Ground.phase }, { on := 5, ground := Go.Ground.phase }, { on := 6, ground := Go.Ground.phase }, { on := 7, ground := Go.Ground.phase }, { on := 12, ground := Go.Ground.gcOnly Go.Departure.appendInPlace }], guard := none }) rfl (fun K hK => ?_) ?_
        · refine wanted_wp10 (by rfl) ?_
          refine wp_store_mid 29 _ _ rfl g (nn * 14) #[.int .i64 h.kind, .int .i64 h.op, .int .i64 h.num, .string ⟨h.text.toArray⟩, .int .i64 h.ref.row, .int .i64 h.ref.col, .bool h.ref.pr, .bool h.ref.pc, .int .i64 h.to.row, .int .i64 h.to.col, .bool h.to.pr, .bool h.to.pc, .int .i64 h.fn, .slice pa pl pc] rfl rfl (show World.there w3 g (nn * 14) 14 from there_mid HCUR.out hroom) infoExpr10 (by simp [Value.oneCell']) ?_
          change K _ (World.setCells w3 g (nn * 14) [.int .i64 h.kind, .int .i64 h.op, .int .i64 h.num, .string ⟨h.text.toArray⟩, .int .i64 h.ref.row, .int .i64 h.ref.col, .bool h.ref.pr, .bool h.ref.pc, .int .i64 h.to.row, .int .i64 h.to.col, .bool h.to.pr, .bool h.to.pc, .int .i64 h.fn, .slice pa pl pc])
          obtain ⟨s2, f2⟩ := S1.out.last1 (vs := [.int .i64 h.kind, .int .i64 h.op, .int .i64 h.num, .string ⟨h.text.toArray⟩, .int .i64 h.ref.row, .int .i64 h.ref.col, .bool h.ref.pr, .bool h.ref.pc, .int .i64 h.to.row, .int .i64 h.to.col, .bool h.to.pr, .bool h.to.pc, .int .i64 h.fn, .slice pa pl pc]) hcc rfl
          have b2 : Below b w3 (World.setCells w3 g (nn * 14) [.int .i64 h.kind, .int .i64 h.op, .int .i64 h.num, .string ⟨h.text.toArray⟩, .int .i64 h.ref.row, .int .i64 h.ref.col, .bool h.ref.pr, .bool h.ref.pc, .int .i64 h.to.row, .int .i64 h.to.col, .bool h.to.pr, .bool h.to.pc, .int .i64 h.fn, .slice pa pl pc]) := setCells_below (World.ownsRow.lt S1.out.rW.own g rfl).1 _ _ (Below.refl b w3)
          have z2 : (World.setCells w3 g (nn * 14) [.int .i64 h.kind, .int .i64 h.op, .int .i64 h.num, .string ⟨h.text.toArray⟩, .int .i64 h.ref.row, .int .i64 h.ref.col, .bool h.ref.pr, .bool h.ref.pc, .int .i64 h.to.row, .int .i64 h.to.col, .bool h.to.pr, .bool h.to.pc, .int .i64 h.fn, .slice pa pl pc]).heap.size = w3.heap.size := setCells_size _ _ _ _
          have h2 := (setCells_other hgB [.int .i64 h.kind, .int .i64 h.op, .int .i64 h.num, .string ⟨h.text.toArray⟩, .int .i64 h.ref.row, .int .i64 h.ref.col, .bool h.ref.pr, .bool h.ref.pc, .int .i64 h.to.row, .int .i64 h.to.col, .bool h.to.pr, .bool h.to.pc, .int .i64 h.fn, .slice pa pl pc] (nn * 14) w3).trans hS1
          generalize World.setCells w3 g (nn * 14) [.int .i64 h.kind, .int .i64 h.op, .int .i64 h.num, .string ⟨h.text.toArray⟩, .int .i64 h.ref.row, .int .i64 h.ref.col, .bool h.ref.pr, .bool h.ref.pc, .int .i64 h.to.row, .int .i64 h.to.col, .bool h.to.pr, .bool h.to.pc, .int .i64 h.fn, .slice pa pl pc] = w4 at s2 f2 b2 z2 h2 ⊢
          refine hK.out _ _ h2 (fun hS1 => ?_)
          clear hK K
          try simp only [Act.put]
          refine wpAnyH_ready (rs := [12]) (by kernel_rfl) (by simp) ?_
          refine AllReadyH.cons (o := { dst := none, op := Go.Op.store 27 (Go.Operand.tmp 33) (Go.Operand.tmp 30), type := 0, pos := "memory.go:150", after := #[{ on := 11, ground := Go.Ground.data }, { on := 7, ground := Go.Ground.data }, { on := 7, ground := Go.Ground.chain }, { on := 9, ground := Go.Ground.textOnly Go.Departure.appendInPlace }, { on := 0, ground := Go.Ground.phase }, { on := 1, ground := Go.Ground.phase }, { on := 2, ground := Go.Ground.phase }, { on := 3, ground := Go.Ground.phase }, { on := 4, ground := Go.Ground.phase }, { on := 5, ground := Go.Ground.phase }, { on := 6, ground := Go.Ground.phase }, { on := 7, ground := Go.Ground.phase }, { on := 8, ground := Go.Ground.textOnly Go.Departure.appendInPlace }, { on := 9, ground := Go.Ground.textOnly Go.Departure.appendInPlace }], guard := none }) rfl (fun K hK => ?_) ?_
          · refine wanted_wp10 (by rfl) ?_
            have bx2 : w4.cell? ⟨Qx, 1, none⟩ = some (.slice aT nn kT) := (cells_of_block s2.box 1).trans rfl
            have fx2 := frees_of_block s2.box 1
            obtain ⟨s3, f3⟩ := s2.set1 (.slice (some ⟨g, 0, none⟩) (nn + 1) cap)
            have b3 : Below b w4 (w4.setCell ⟨Qx, 1, none⟩ (.slice (some ⟨g, 0, none⟩) (nn + 1) cap)) := (Below.refl b w4).setCell (p := ⟨Qx, 1, none⟩) S1.out.bx.2.2 _
            clear bx1 fx1
            go_simp
            refine hK.out _ _ ((heap_setCell_other _ _ _ _ hQB).trans hS1) (fun hS1 => ?_)
            clear hK K
            try simp only [Act.put]
            refine wpAnyH_done (by kernel_rfl) ?_ _
            refine NoPanic.normal ?_
            exact hexit.out _ _ _ _ _ _ _ _ _ _ _ _ _ _ _ (Lib.hid (by rw [setCell_hsize, z2]; exact s3)) (Lib.hid ((F1.out.mono fun c h => h.1).trans ((f2.mono fun c h => h.1).trans (f3.mono fun c h => h.2) (Nat.le_refl _)) BL.out.size)) (BL.out.trans (b2.trans b3))
          exact AllReadyH.nil
        refine AllReadyH.cons (o := { dst := none, op := Go.Op.store 27 (Go.Operand.tmp 33) (Go.Operand.tmp 30), type := 0, pos := "memory.go:150", after := #[{ on := 11, ground := Go.Ground.data }, { on := 7, ground := Go.Ground.data }, { on := 7, ground := Go.Ground.chain }, { on := 9, ground := Go.Ground.textOnly Go.Departure.appendInPlace }, { on := 0, ground := Go.Ground.phase }, { on := 1, ground := Go.Ground.phase }, { on := 2, ground := Go.Ground.phase }, { on := 3, ground := Go.Ground.phase }, { on := 4, ground := Go.Ground.phase }, { on := 5, ground := Go.Ground.phase }, { on := 6, ground := Go.Ground.phase }, { on := 7, ground := Go.Ground.phase }, { on := 8, ground := Go.Ground.textOnly Go.Departure.appendInPlace }, { on := 9, ground := Go.Ground.textOnly Go.Departure.appendInPlace }], guard := none }) rfl (fun K hK => ?_) ?_
        · refine wanted_wp10 (by rfl) ?_
          go_simp
          obtain ⟨s2, f2⟩ := S1.out.set1 (.slice (some ⟨g, 0, none⟩) (nn + 1) cap)
          have b2 : Below b w3 (w3.setCell ⟨Qx, 1, none⟩ (.slice (some ⟨g, 0, none⟩) (nn + 1) cap)) := (Below.refl b w3).setCell (p := ⟨Qx, 1, none⟩) S1.out.bx.2.2 _
          have z2 := setCell_hsize w3 ⟨Qx, 1, none⟩ (.slice (some ⟨g, 0, none⟩) (nn + 1) cap)
          have h2 := (heap_setCell_other w3 ⟨Qx, 1, none⟩ B1 (.slice (some ⟨g, 0, none⟩) (nn + 1) cap) hQB).trans hS1
          have hc2 := (heap_setCell_other w3 ⟨Qx, 1, none⟩ g (.slice (some ⟨g, 0, none⟩) (nn + 1) cap) hgQ).trans HCUR.out
          generalize World.setCell w3 ⟨Qx, 1, none⟩ (.slice (some ⟨g, 0, none⟩) (nn + 1) cap) = w4 at s2 f2 b2 z2 h2 hc2 ⊢
          refine hK.out _ _ h2 (fun hS1 => ?_)
          clear hK K
          try simp only [Act.put]
          refine wpAnyH_ready (rs := [9]) (by kernel_rfl) (by simp) ?_
          refine AllReadyH.cons (o := { dst := none, op := Go.Op.store 29 (Go.Operand.tmp 31) (Go.Operand.tmp 27), type := 0, pos := "memory.go:150", after := #[{ on := 8, ground := Go.Ground.data }, { on := 4, ground := Go.Ground.data }, { on := 7, ground := Go.Ground.chain }, { on := 0, ground := Go.Ground.phase }, { on := 1, ground := Go.Ground.phase }, { on := 2, ground := Go.Ground.phase }, { on := 3, ground := Go.Ground.phase }, { on := 4, ground := Go.Ground.phase }, { on := 5, ground := Go.Ground.phase }, { on := 6, ground := Go.Ground.phase }, { on := 7, ground := Go.Ground.phase }, { on := 12, ground := Go.Ground.gcOnly Go.Departure.appendInPlace }], guard := none }) rfl (fun K hK => ?_) ?_
          · refine wanted_wp10 (by rfl) ?_
            refine wp_store_mid 29 _ _ rfl g (nn * 14) #[.int .i64 h.kind, .int .i64 h.op, .int .i64 h.num, .string ⟨h.text.toArray⟩, .int .i64 h.ref.row, .int .i64 h.ref.col, .bool h.ref.pr, .bool h.ref.pc, .int .i64 h.to.row, .int .i64 h.to.col, .bool h.to.pr, .bool h.to.pc, .int .i64 h.fn, .slice pa pl pc] rfl rfl (show World.there w4 g (nn * 14) 14 from there_mid hc2 hroom) infoExpr10 (by simp [Value.oneCell']) ?_
            change K _ (World.setCells w4 g (nn * 14) [.int .i64 h.kind, .int .i64 h.op, .int .i64 h.num, .string ⟨h.text.toArray⟩, .int .i64 h.ref.row, .int .i64 h.ref.col, .bool h.ref.pr, .bool h.ref.pc, .int .i64 h.to.row, .int .i64 h.to.col, .bool h.to.pr, .bool h.to.pc, .int .i64 h.fn, .slice pa pl pc])
            obtain ⟨s3, f3⟩ := s2.last1 (vs := [.int .i64 h.kind, .int .i64 h.op, .int .i64 h.num, .string ⟨h.text.toArray⟩, .int .i64 h.ref.row, .int .i64 h.ref.col, .bool h.ref.pr, .bool h.ref.pc, .int .i64 h.to.row, .int .i64 h.to.col, .bool h.to.pr, .bool h.to.pc, .int .i64 h.fn, .slice pa pl pc]) hcc rfl
            have b3 : Below b w4 (World.setCells w4 g (nn * 14) [.int .i64 h.kind, .int .i64 h.op, .int .i64 h.num, .string ⟨h.text.toArray⟩, .int .i64 h.ref.row, .int .i64 h.ref.col, .bool h.ref.pr, .bool h.ref.pc, .int .i64 h.to.row, .int .i64 h.to.col, .bool h.to.pr, .bool h.to.pc, .int .i64 h.fn, .slice pa pl pc]) := setCells_below (World.ownsRow.lt S1.out.rW.own g rfl).1 _ _ (Below.refl b w4)
            have z3 : (World.setCells w4 g (nn * 14) [.int .i64 h.kind, .int .i64 h.op, .int .i64 h.num, .string ⟨h.text.toArray⟩, .int .i64 h.ref.row, .int .i64 h.ref.col, .bool h.ref.pr, .bool h.ref.pc, .int .i64 h.to.row, .int .i64 h.to.col, .bool h.to.pr, .bool h.to.pc, .int .i64 h.fn, .slice pa pl pc]).heap.size = w4.heap.size := setCells_size _ _ _ _
            have h3 := (setCells_other hgB [.int .i64 h.kind, .int .i64 h.op, .int .i64 h.num, .string ⟨h.text.toArray⟩, .int .i64 h.ref.row, .int .i64 h.ref.col, .bool h.ref.pr, .bool h.ref.pc, .int .i64 h.to.row, .int .i64 h.to.col, .bool h.to.pr, .bool h.to.pc, .int .i64 h.fn, .slice pa pl pc] (nn * 14) w4).trans hS1
            generalize World.setCells w4 g (nn * 14) [.int .i64 h.kind, .int .i64 h.op, .int .i64 h.num, .string ⟨h.text.toArray⟩, .int .i64 h.ref.row, .int .i64 h.ref.col, .bool h.ref.pr, .bool h.ref.pc, .int .i64 h.to.row, .int .i64 h.to.col, .bool h.to.pr, .bool h.to.pc, .int .i64 h.fn, .slice pa pl pc] = w5 at s3 f3 b3 z3 h3 ⊢
            refine hK.out _ _ h3 (fun hS1 => ?_)
            clear hK K
            try simp only [Act.put]
            refine wpAnyH_done (by kernel_rfl) ?_ _
            refine NoPanic.normal ?_
            exact hexit.out _ _ _ _ _ _ _ _ _ _ _ _ _ _ _ (Lib.hid (by rw [z3, z2]; exact s3)) (Lib.hid ((F1.out.mono fun c h => h.1).trans ((f2.mono fun c h => h.2).trans (f3.mono fun c h => h.1) (Nat.le_refl _)) BL.out.size)) (BL.out.trans (b2.trans b3))
          exact AllReadyH.nil
        exact AllReadyH.nil
      exact AllReadyH.nil
    exact AllReadyH.nil
  exact AllReadyH.nil
structure QkS (b N : Nat) (cl : Nat → Nat) (Qx : Nat) (vT vW : Value) (es : List QE) (W : World) : Prop where
  qi : QiS b N cl Qx vT vW vT vW es.length es.length (qT es) (qW es) W
  ok : ∀ q ∈ es, TreeX W (okq b cl N) q.h q.k q.a q.l ∧ TreeX W (okq b cl N) q.h q.k q.a' q.l'
theorem QkS.frm {b N N' Qx : Nat} {cl cl' : Nat → Nat} {vT vW : Value} {es : List QE} {W W' : World} {P : Nat → Prop} (s : QkS b N cl Qx vT vW es W) (f : Frm P cl N cl' W W') (bel : Below b W W') (hN : N ≤ N') (h3 : P 3) (h4 : P 4) (h5 : P 5) (h8 : P 8) : QkS b N' cl' Qx vT vW es W' :=
  ⟨s.qi.frm f hN h3 h4 h8, fun q hq => ⟨(s.ok q hq).1.frm f h5 bel hN, (s.ok q hq).2.frm f h5 bel hN⟩⟩
def P9 (c : Nat) : Prop := c ≠ 3 ∧ c ≠ 4 ∧ c ≠ 8
set_option maxRecDepth 1000000 in
set_option maxHeartbeats 16000000 in
theorem keep_any (b Qx : Nat) (cl : Nat → Nat) (vT vW : Value) (es : List QE) (W : World) (h : Hd) (ks : Trees) (pa qa : Option Addr) (pl pc ql qc : Nat) (QS : Hid (QkS b W.heap.size cl Qx vT vW es W)) (hbW : b ≤ W.heap.size) (hn : es.length ≤ 1900)
    (TX : Hid (TreeX W (okq b cl W.heap.size) h ks pa pl)) (TW : Hid (TreeX W (okq b cl W.heap.size) h ks qa ql)) :
    Calls Try.prog 44 #[(.pointer (some ⟨Qx, 0, none⟩)), .agg #[.int .i64 h.kind, .int .i64 h.op, .int .i64 h.num, .string ⟨h.text.toArray⟩, .int .i64 h.ref.row, .int .i64 h.ref.col, .bool h.ref.pr, .bool h.ref.pc, .int .i64 h.to.row, .int .i64 h.to.col, .bool h.to.pr, .bool h.to.pc, .int .i64 h.fn, .slice pa pl pc], .agg #[.int .i64 h.kind, .int .i64 h.op, .int .i64 h.num, .string ⟨h.text.toArray⟩, .int .i64 h.ref.row, .int .i64 h.ref.col, .bool h.ref.pr, .bool h.ref.pc, .int .i64 h.to.row, .int .i64 h.to.col, .bool h.to.pr, .bool h.to.pc, .int .i64 h.fn, .slice qa ql qc]] W fun e w' => e = .returned (.tuple #[]) ∧ Below b W w' ∧ ∃ cl' vT' vW', QkS b w'.heap.size cl' Qx vT' vW' (es ++ [⟨h, ks, pa, pl, pc, qa, ql, qc⟩]) w' ∧ Frm P9 cl W.heap.size cl' W w' := by
  obtain ⟨aT, kT, rfl⟩ := World.ownsRow.slice9 QS.out.qi.rT.own
  obtain ⟨aW, kW, rfl⟩ := World.ownsRow.slice9 QS.out.qi.rW.own
  go_enter Try.func44, Try.ntmps44
  obtain ⟨w1, hw1⟩ : ∃ w1, w1 = (W.alloc (.cells #[.int .i64 h.kind, .int .i64 h.op, .int .i64 h.num, .string ⟨h.text.toArray⟩, .int .i64 h.ref.row, .int .i64 h.ref.col, .bool h.ref.pr, .bool h.ref.pc, .int .i64 h.to.row, .int .i64 h.to.col, .bool h.to.pr, .bool h.to.pc, .int .i64 h.fn, .slice pa pl pc] 29)).alloc (.cells #[.int .i64 h.kind, .int .i64 h.op, .int .i64 h.num, .string ⟨h.text.toArray⟩, .int .i64 h.ref.row, .int .i64 h.ref.col, .bool h.ref.pr, .bool h.ref.pc, .int .i64 h.to.row, .int .i64 h.to.col, .bool h.to.pr, .bool h.to.pc, .int .i64 h.fn, .slice qa ql qc] 29) := ⟨_, rfl⟩
  have b1 : Below W.heap.size W w1 := by rw [hw1]; exact ext_alloc (ext_alloc (Below.refl _ _) _) _
  have hB1 : w1.heap[W.heap.size]? = some (.cells #[.int .i64 h.kind, .int .i64 h.op, .int .i64 h.num, .string ⟨h.text.toArray⟩, .int .i64 h.ref.row, .int .i64 h.ref.col, .bool h.ref.pr, .bool h.ref.pc, .int .i64 h.to.row, .int .i64 h.to.col, .bool h.to.pr, .bool h.to.pc, .int .i64 h.fn, .slice pa pl pc] 29 (0, 0)) := by rw [hw1]; exact (heap_alloc2_old _ _ _).trans rfl
  have hB2 : w1.heap[W.heap.size + 1]? = some (.cells #[.int .i64 h.kind, .int .i64 h.op, .int .i64 h.num, .string ⟨h.text.toArray⟩, .int .i64 h.ref.row, .int .i64 h.ref.col, .bool h.ref.pr, .bool h.ref.pc, .int .i64 h.to.row, .int .i64 h.to.col, .bool h.to.pr, .bool h.to.pc, .int .i64 h.fn, .slice qa ql qc] 29 (0, 0)) := by rw [hw1]; exact heap_alloc2_new _ _ _
  have Q1 := Lib.hid (QS.out.frm (P := fun _ => True) (Frm.kept (c0 := 9) b1) (b1.mono hbW) b1.size trivial trivial trivial trivial)
  have T1 := Lib.hid (TX.out.frm (P := fun _ => True) (Frm.kept (c0 := 9) b1) trivial (b1.mono hbW) b1.size)
  have T2 := Lib.hid (TW.out.frm (P := fun _ => True) (Frm.kept (c0 := 9) b1) trivial (b1.mono hbW) b1.size)
  have F1 : Hid (Frm P9 cl W.heap.size (upc cl W.heap.size 9) W w1) := Lib.hid (Frm.kept b1)
  have BL1 := Lib.hid (b1.mono hbW)
  have HB1 := Lib.hid hB1; have HB2 := Lib.hid hB2
  have hb1 : b ≤ w1.heap.size := by have := b1.size; omega
  have hs1 := b1.size
  have c9a : upc cl W.heap.size 9 W.heap.size = 9 := upc_ge (Nat.le_refl _)
  have c9b : upc cl W.heap.size 9 (W.heap.size + 1) = 9 := upc_ge (by omega)
  have hlt1 : W.heap.size < w1.heap.size := lt_of_block hB1
  have hlt2 : W.heap.size + 1 < w1.heap.size := lt_of_block hB2
  clear QS TX TW b1 hB1 hB2
  go_upto_region 1 with (fail)
  rw [← hw1]
  clear hw1
  have b0 : w1.cell? ⟨Qx, 0, none⟩ = some (.slice aT es.length kT) := (cells_of_block Q1.out.qi.box 0).trans rfl
  have u1 : (es.length : Int) < 2000 := by omega
  go_upto_region 2 with (fail)
  clear b0
  refine kp_r2 (Lib.hid Q1.out.qi) HB1 c9a hb1 (by omega) (Lib.hid ?_)
  intros
  rename_i g cap cl2 w2 Q2 F2 b2
  have e2 := F2.out _ hlt2 (by rw [c9b]; omega)
  have HB2' := Lib.hid (e2.2.trans HB2.out)
  have c9c := e2.1.trans c9b
  have hb2 : b ≤ w2.heap.size := by have := b2.size; omega
  have OK2 := Lib.hid (fun q hq => (⟨(Q1.out.ok q hq).1.frm F2.out (by omega) b2 b2.size, (Q1.out.ok q hq).2.frm F2.out (by omega) b2 b2.size⟩ : TreeX w2 (okq b cl2 w2.heap.size) q.h q.k q.a q.l ∧ TreeX w2 (okq b cl2 w2.heap.size) q.h q.k q.a' q.l') : ∀ q ∈ es, TreeX w2 (okq b cl2 w2.heap.size) q.h q.k q.a q.l ∧ TreeX w2 (okq b cl2 w2.heap.size) q.h q.k q.a' q.l')
  have U1 := Lib.hid (T1.out.frm F2.out (by omega) b2 b2.size)
  have U2 := Lib.hid (T2.out.frm F2.out (by omega) b2 b2.size)
  have F12 : Hid (Frm P9 cl W.heap.size cl2 W w2) := Lib.hid (F1.out.trans (F2.out.mono fun c h => by unfold P9 at h; omega) hs1)
  have BL2 := Lib.hid (BL1.out.trans b2)
  have hs2 : W.heap.size ≤ w2.heap.size := by have := b2.size; omega
  clear Q1 T1 T2 F1 BL1 HB1 HB2 e2 F2 b2
  go_upto_region 3 with (fail)
  refine kp_r3 Q2 HB2' c9c hb2 (by omega) (Lib.hid ?_)
  intros
  rename_i g' cap' cl3 w3 Q3 F3 b3
  go_wp2_with fail
  refine bodyPost_end (v := .tuple #[]) (by simp [results, Try.results44, go_sem]) rfl ⟨rfl, BL2.out.trans b3, cl3, .slice (some ⟨g, 0, none⟩) (es.length + 1) cap, .slice (some ⟨g', 0, none⟩) (es.length + 1) cap', ⟨?_, fun q hq => ?_⟩, F12.out.trans (F3.out.mono fun c h => by unfold P9 at h; omega) hs2⟩
  · rw [qT_snoc, qW_snoc, List.length_append]
    exact Q3.out
  · rcases List.mem_append.1 hq with hq | hq
    · exact ⟨(OK2.out q hq).1.frm F3.out (by omega) b3 b3.size, (OK2.out q hq).2.frm F3.out (by omega) b3 b3.size⟩
    · simp only [List.mem_singleton] at hq
      subst hq
      exact ⟨U1.out.frm F3.out (by omega) b3 b3.size, U2.out.frm F3.out (by omega) b3 b3.size⟩
end Go.Proofs.Ytkjfeakbhfkldaa

namespace Go.Proofs.Ytkjfeakbhfkldaa
open Go.RowKit

theorem qT_get {es : List QE} {i j : Nat} {q : QE} (h : es[i]? = some q) (hj : j < 14) : (qT es)[i * 14 + j]? = (q.h.vals (.slice q.a q.l q.c))[j]? := flat_get (fun q : QE => q.h.vals (.slice q.a q.l q.c)) (fun _ => rfl) es i j q h hj
theorem qW_get {es : List QE} {i j : Nat} {q : QE} (h : es[i]? = some q) (hj : j < 14) : (qW es)[i * 14 + j]? = (q.h.vals (.slice q.a' q.l' q.c'))[j]? := flat_get (fun q : QE => q.h.vals (.slice q.a' q.l' q.c')) (fun _ => rfl) es i j q h hj
set_option maxRecDepth 1000000 in
set_option maxHeartbeats 16000000 in
theorem untouched_any (b Qx : Nat) (cl : Nat → Nat) (vT vW : Value) (es : List QE) (W : World) (QS : Hid (QkS b W.heap.size cl Qx vT vW es W)) (hbW : b ≤ W.heap.size) (hn : es.length ≤ 1900) :
    Calls Try.prog 47 #[(.pointer (some ⟨Qx, 0, none⟩))] W fun e w' => e = .returned (.bool true) ∧ Below W.heap.size W w' := by
  obtain ⟨aT, kT, rfl⟩ := World.ownsRow.slice9 QS.out.qi.rT.own
  obtain ⟨aW, kW, rfl⟩ := World.ownsRow.slice9 QS.out.qi.rW.own
  go_enter Try.func47, Try.ntmps47
  go_wp2_with fail
  go_loopw [3] (fun iv wr => ∃ i : Nat, iv = .int .i64 (i : Int) ∧ i ≤ es.length ∧ Hid (Below W.heap.size W wr)) (fun iv _ => es.length - (intOf iv).toNat)
  case atStart => exact ⟨0, rfl, Nat.zero_le _, Lib.hid (Below.refl _ _)⟩
  case round =>
    obtain ⟨i, rfl, hi, HB⟩ := hrel
    have hQx : Qx < W.heap.size := QS.out.qi.bx.2.1
    have b0 : wr.cell? ⟨Qx, 0, none⟩ = some (.slice aT es.length kT) := (HB.out.cell (p := ⟨Qx, 0, none⟩) hQx).trans ((cells_of_block QS.out.qi.box 0).trans rfl)
    have b1 : wr.cell? ⟨Qx, 1, none⟩ = some (.slice aW es.length kW) := (HB.out.cell (p := ⟨Qx, 1, none⟩) hQx).trans ((cells_of_block QS.out.qi.box 1).trans rfl)
    by_cases hlt : i < es.length
    · obtain ⟨gT, cap, e, -, hgT⟩ := World.ownsRow.form QS.out.qi.rT.own (by omega)
      simp only [Value.slice.injEq] at e
      obtain ⟨rfl, -, rfl⟩ := e
      obtain ⟨gW, cap, e, -, hgW⟩ := World.ownsRow.form QS.out.qi.rW.own (by omega)
      simp only [Value.slice.injEq] at e
      obtain ⟨rfl, -, rfl⟩ := e
      obtain ⟨q, hq⟩ : ∃ q, es[i]? = some q := ⟨es[i], List.getElem?_eq_getElem hlt⟩
      have hsz := HB.out.size
      have N1 : NodeAt wr gT (i * 14) q.h (.slice q.a q.l q.c) := ⟨by omega, fun j x hj => by
        have hj14 : j < 14 := by rcases Nat.lt_or_ge j 14 with h1 | h1; exact h1; rw [List.getElem?_eq_none (by rw [Hd.vals_len]; exact h1)] at hj; cases hj
        exact (HB.out.cell (p := ⟨gT, i * 14 + j, none⟩) hgT).trans ((own_cell QS.out.qi.rT.own (i * 14 + j) (by rw [qT_len]; omega)).trans ((qT_get hq hj14).trans hj))⟩
      have N2 : NodeAt wr gW (i * 14) q.h (.slice q.a' q.l' q.c') := ⟨by omega, fun j x hj => by
        have hj14 : j < 14 := by rcases Nat.lt_or_ge j 14 with h1 | h1; exact h1; rw [List.getElem?_eq_none (by rw [Hd.vals_len]; exact h1)] at hj; cases hj
        exact (HB.out.cell (p := ⟨gW, i * 14 + j, none⟩) hgW).trans ((own_cell QS.out.qi.rW.own (i * 14 + j) (by rw [qW_len]; omega)).trans ((qW_get hq hj14).trans hj))⟩
      obtain ⟨t1, t2⟩ := QS.out.ok q (List.mem_of_getElem? hq)
      have T1 := Lib.hid ((t1.lt hbW).kept HB.out (Nat.le_refl _))
      have T2 := Lib.hid ((t2.lt hbW).kept HB.out (Nat.le_refl _))
      obtain ⟨-, c0, c1, c2, c3, c4, c5, c6, c7, c8, c9, c10, c11, c12, c13, -, -, -, -, -, -⟩ := N1.facts
      obtain ⟨-, e0, e1, e2, e3, e4, e5, e6, e7, e8, e9, e10, e11, e12, e13, -, -, -, -, -, -⟩ := N2.facts
      have u1 : (i : Int) < (es.length : Int) := by omega
      clear hq N1 N2 t1 t2
      go_upto_region 4 with (fail)
      go_still_tail 14, (by kernel_rfl)
      change wpList _ _ _ _ _ wr.drew
      clear c0 c1 c2 c3 c4 c5 c6 c7 c8 c9 c10 c11 c12 c13 e0 e1 e2 e3 e4 e5 e6 e7 e8 e9 e10 e11 e12 e13 b0 b1
      have HBd := Lib.hid (HB.out.drew)
      have T1d := Lib.hid (T1.out.kept ((Below.refl _ wr).drew) (Nat.le_refl _))
      have T2d := Lib.hid (T2.out.kept ((Below.refl _ wr).drew) (Nat.le_refl _))
      have hszd : W.heap.size ≤ wr.drew.heap.size := hsz
      generalize wr.drew = wd at HBd T1d T2d hszd ⊢
      go_wp2_with fail
      refine (lawEq_yes q.h q.h q.k q.k ⟨rfl, rfl⟩ _ W.heap.size W.heap.size q.a q.a' q.l q.c q.l' q.c' hszd hszd T1d.out T2d.out).mono ?_
      rintro e w2 ⟨rfl, b2⟩
      have HB2 := Lib.hid (HBd.out.trans (b2.mono hszd))
      clear b2
      go_wp2_with fail
      exact ⟨⟨i + 1, by go_num, by omega, HB2⟩, by simp [intOf]; omega⟩
    · have u1 : ¬ (i : Int) < (es.length : Int) := by omega
      go_wp2_with fail
      go_ret
      exact ⟨rfl, HB.out⟩
end Go.Proofs.Ytkjfeakbhfkldaa

namespace Go.Proofs.Ytkjfeakbhfkldaa
open Go.RowKit

theorem mvK_nodes (m : Mv) : ∀ ks, (mvK m ks).nodes = ks.nodes
  | .nil => rfl
  | .cons _ k r => by simp only [mvK, Trees.nodes, mvK_nodes m k, mvK_nodes m r]
theorem GX.nodes {m : Mv} {h g : Hd} {ks gk : Trees} (x : GX m h ks g gk) : gk.nodes ≤ ks.nodes := by
  rcases x with ⟨-, -, rfl⟩ | ⟨-, -, rfl⟩
  · rw [mvK_nodes]; exact Nat.le_refl _
  · exact Nat.zero_le _
theorem small_2000 {h : Hd} {ks : Trees} (s : smallB h ks = true) : ks.nodes ≤ 2000 := by
  have := nodes_wt ks
  simp only [smallB, decide_eq_true_eq] at s
  omega
def CallFPost (w : World) (B' N0 : Nat) (e : Ending) (w' : World) : Prop := ∃ (g : Hd) (gk : Trees) (pa qa : Option Addr) (pl pc ql qc : Nat) (er : Int) (F : List Nat),
  e = .returned (.tuple #[.agg #[.int .i64 g.kind, .int .i64 g.op, .int .i64 g.num, .string ⟨g.text.toArray⟩, .int .i64 g.ref.row, .int .i64 g.ref.col, .bool g.ref.pr, .bool g.ref.pc, .int .i64 g.to.row, .int .i64 g.to.col, .bool g.to.pr, .bool g.to.pc, .int .i64 g.fn, .slice pa pl pc], .int .i64 er, .agg #[.int .i64 g.kind, .int .i64 g.op, .int .i64 g.num, .string ⟨g.text.toArray⟩, .int .i64 g.ref.row, .int .i64 g.ref.col, .bool g.ref.pr, .bool g.ref.pc, .int .i64 g.to.row, .int .i64 g.to.col, .bool g.to.pr, .bool g.to.pc, .int .i64 g.fn, .slice qa ql qc], .int .i64 er]) ∧ Below w.heap.size w w' ∧ Fresh w' w.heap.size gk (.slice pa pl pc) F ∧ TreeX w' (OkR w B' w') g gk qa ql ∧ gk.nodes ≤ N0

theorem callF_any (k : Int) (h : Hd) (ks : Trees) (x y : Int) (w : World) (B B' : Nat) (ka a : Option Addr) (kl kc l c : Nat) (hB : B ≤ w.heap.size) (hB' : B' ≤ w.heap.size) (tv : TreeV w B h ks ka kl) (tv' : TreeV w B' h ks a l) (hx : I64 x) (hy : I64 y) :
    Calls Try.prog 33 #[.agg #[.int .i64 k, .int .i64 h.kind, .int .i64 h.op, .int .i64 h.num, .string ⟨h.text.toArray⟩, .int .i64 h.ref.row, .int .i64 h.ref.col, .bool h.ref.pr, .bool h.ref.pc, .int .i64 h.to.row, .int .i64 h.to.col, .bool h.to.pr, .bool h.to.pc, .int .i64 h.fn, .slice a l c, .int .i64 x, .int .i64 y], .agg #[.int .i64 h.kind, .int .i64 h.op, .int .i64 h.num, .string ⟨h.text.toArray⟩, .int .i64 h.ref.row, .int .i64 h.ref.col, .bool h.ref.pr, .bool h.ref.pc, .int .i64 h.to.row, .int .i64 h.to.col, .bool h.to.pr, .bool h.to.pc, .int .i64 h.fn, .slice ka kl kc]] w (CallFPost w B' ks.nodes) := by
  by_cases k1 : k = 1
  · subst k1
    refine (call_paste h h ks ks x y w B B' ka a kl kc l c hB hB' tv tv' hx hy).mono ?_
    rintro e w' ⟨b, g, g', gk, gk', pa, qa, pl, pc, ql, qc, hg, hg', he, ⟨F, f⟩, t⟩
    obtain ⟨rfl, rfl⟩ := hg.one hg'
    exact ⟨_, _, pa, qa, pl, pc, ql, qc, _, F, he, b, f, t, hg.nodes⟩
  · by_cases k2 : k = 2
    · subst k2
      refine (call_rows h h ks ks x y w B B' ka a kl kc l c hB hB' tv tv' hx hy).mono ?_
      rintro e w' ⟨b, g, g', gk, gk', pa, qa, pl, pc, ql, qc, hg, hg', he, ⟨F, f⟩, t⟩
      obtain ⟨rfl, rfl⟩ := hg.one hg'
      exact ⟨_, _, pa, qa, pl, pc, ql, qc, _, F, he, b, f, t, hg.nodes⟩
    · refine (call_cols h h ks ks x y w B B' ka a kl kc l c hB hB' tv tv' hx hy k (by simp [k1]) (by simp [k2])).mono ?_
      rintro e w' ⟨b, g, g', gk, gk', pa, qa, pl, pc, ql, qc, hg, hg', he, ⟨F, f⟩, t⟩
      obtain ⟨rfl, rfl⟩ := hg.one hg'
      exact ⟨_, _, pa, qa, pl, pc, ql, qc, _, F, he, b, f, t, hg.nodes⟩

/-- Behind the law's call, two boxes made, c5 and c7 in them. -/
structure A9 (w3 : World) (B0 N5 N7 : Nat) (c5 c7 : Array Value) (g : Hd) (gk : Trees) (pa : Option Addr) (pl pc : Nat) (qa : Option Addr) (ql : Nat) (W : World) : Prop where
  bel : Below w3.heap.size w3 W
  b5 : W.heap[N5]? = some (.cells c5 29 (0, 0))
  b7 : W.heap[N7]? = some (.cells c7 29 (0, 0))
  n5 : w3.heap.size ≤ N5
  n7 : w3.heap.size ≤ N7
  ne : N5 ≠ N7
  fr : ∃ F, OwnV W gk (.slice pa pl pc) F ∧ F.Nodup ∧ ∀ b ∈ F, w3.heap.size ≤ b ∧ b < W.heap.size ∧ b ≠ N5 ∧ b ≠ N7
  ok : g.ok
  t7 : TreeX W (fun b => (b < B0 ∨ w3.heap.size ≤ b) ∧ b < W.heap.size ∧ b ≠ N5 ∧ b ≠ N7) g gk qa ql
  nd : gk.nodes ≤ 2000
section
variable {w3 W W' W1 w' : World} {B0 N5 N7 : Nat} {c5 c7 : Array Value} {g : Hd} {gk : Trees} {pa qa : Option Addr} {pl pc ql : Nat} {F : List Nat}
theorem A9.t5 (p : A9 w3 B0 N5 N7 c5 c7 g gk pa pl pc qa ql W) : TreeV W W.heap.size g gk pa pl := by
  obtain ⟨F, f, -, hF⟩ := p.fr
  obtain ⟨ka', kc', e', t'⟩ := f.tree (Nat.le_refl _) (fun b hb => (hF b hb).2.1) p.ok
  simp only [Value.slice.injEq] at e'
  obtain ⟨rfl, rfl, rfl⟩ := e'
  exact t'
theorem A9.t7v (p : A9 w3 B0 N5 N7 c5 c7 g gk pa pl pc qa ql W) : TreeV W W.heap.size g gk qa ql := p.t7.to fun _ h => h.2.1
theorem A9.step (p : A9 w3 B0 N5 N7 c5 c7 g gk pa pl pc qa ql W) (b : Below W.heap.size W W') : A9 w3 B0 N5 N7 c5 c7 g gk pa pl pc qa ql W' :=
  ⟨p.bel.trans (b.mono p.bel.size), (b.block _ (lt_of_block p.b5)).trans p.b5, (b.block _ (lt_of_block p.b7)).trans p.b7, p.n5, p.n7, p.ne, (by
    obtain ⟨F, f, u, hF⟩ := p.fr
    exact ⟨F, f.kept fun k hk => b.block k (hF k hk).2.1, u, fun k hk => ⟨(hF k hk).1, Nat.lt_of_lt_of_le (hF k hk).2.1 b.size, (hF k hk).2.2⟩⟩), p.ok, p.t7.kept fun k hk => ⟨⟨hk.1, Nat.lt_of_lt_of_le hk.2.1 b.size, hk.2.2⟩, b.block k hk.2.1⟩, p.nd⟩
theorem A9.of (fr : Fresh w' W1.heap.size gk (.slice pa pl pc) F) (tx : TreeX w' (OkR W1 B0 w') g gk qa ql) (hnd : gk.nodes ≤ 2000) (hB0 : B0 ≤ w3.heap.size)
    (hn : w3.heap.size ≤ W1.heap.size) (bel : Below w3.heap.size w3 W) (hz : w3.heap.size ≤ w'.heap.size) (same : ∀ b, b < w'.heap.size → W.heap[b]? = w'.heap[b]?) (sz : w'.heap.size ≤ W.heap.size)
    (h5 : w3.heap.size ≤ N5 ∧ (N5 < W1.heap.size ∨ w'.heap.size ≤ N5)) (h7 : w3.heap.size ≤ N7 ∧ (N7 < W1.heap.size ∨ w'.heap.size ≤ N7)) (ne : N5 ≠ N7)
    (b5 : W.heap[N5]? = some (.cells c5 29 (0, 0))) (b7 : W.heap[N7]? = some (.cells c7 29 (0, 0))) : A9 w3 B0 N5 N7 c5 c7 g gk pa pl pc qa ql W := by
  refine ⟨bel, b5, b7, h5.1, h7.1, ne, ⟨F, fr.own.kept fun b hb => ?_, fr.once, fun b hb => ?_⟩, tx.hok, tx.kept fun b hb => ?_, hnd⟩
  · exact same b (fr.lt b hb)
  · have := fr.new b hb; have := fr.lt b hb
    refine ⟨by omega, by omega, by omega, by omega⟩
  · unfold OkR at hb
    have : b < w'.heap.size := by rcases hb with q | q <;> omega
    exact ⟨⟨by omega, by omega, by omega, by omega⟩, same b this⟩
theorem A9.set5 (p : A9 w3 B0 N5 N7 c5 c7 g gk pa pl pc qa ql W) {vs : List Value} (hl : c5.size = vs.length) : A9 w3 B0 N5 N7 vs.toArray c7 g gk pa pl pc qa ql (W.setCells N5 0 vs) :=
  ⟨setCells_below p.n5 vs 0 p.bel, setCells_all p.b5 hl, (setCells_other (Ne.symm p.ne) vs 0 W).trans p.b7, p.n5, p.n7, p.ne, (by
    obtain ⟨F, f, u, hF⟩ := p.fr
    exact ⟨F, f.kept fun k hk => setCells_other (hF k hk).2.2.1 vs 0 W, u, fun k hk => by rw [setCells_size]; exact hF k hk⟩), p.ok, p.t7.kept fun k hk => ⟨by rw [setCells_size]; exact hk, setCells_other hk.2.2.1 vs 0 W⟩, p.nd⟩
theorem A9.set7 (p : A9 w3 B0 N5 N7 c5 c7 g gk pa pl pc qa ql W) {vs : List Value} (hl : c7.size = vs.length) : A9 w3 B0 N5 N7 c5 vs.toArray g gk pa pl pc qa ql (W.setCells N7 0 vs) :=
  ⟨setCells_below p.n7 vs 0 p.bel, (setCells_other p.ne vs 0 W).trans p.b5, setCells_all p.b7 hl, p.n5, p.n7, p.ne, (by
    obtain ⟨F, f, u, hF⟩ := p.fr
    exact ⟨F, f.kept fun k hk => setCells_other (hF k hk).2.2.2 vs 0 W, u, fun k hk => by rw [setCells_size]; exact hF k hk⟩), p.ok, p.t7.kept fun k hk => ⟨by rw [setCells_size]; exact hk, setCells_other hk.2.2.2 vs 0 W⟩, p.nd⟩
end

/-- What ShiftFresh keeps: the Book, the Quiet, the answers that are left. -/
structure SfS (w0 : World) (cl : Nat → Nat) (Bx Qx : Nat) (z : Int) (vL vN : Value) (cL : List Value) (ns : List Nat) (vT vW : Value) (es : List QE) (vF : Value) (TF : Trees) (csF : List Value) (FF : List Nat) (W : World) : Prop where
  bel : Below w0.heap.size w0 W
  bk : BkS w0.heap.size W.heap.size cl (fun j => j < cL.length) (fun _ => 0) Bx z vL vN cL ns W
  nn : ns.length = cL.length
  qk : QkS w0.heap.size W.heap.size cl Qx vT vW es W
  lf : Rw w0.heap.size W.heap.size cl 7 29 14 W vF TF.len csF
  oF : OwnCells W TF csF FF
  nF : FF.Nodup
  cF : ∀ k ∈ FF, cl k = 5 ∧ k < W.heap.size ∧ w0.heap.size ≤ k
theorem OwnCells.frm {w w' : World} {ts : Trees} {cs : List Value} {F : List Nat} (o : OwnCells w ts cs F) (h : ∀ b ∈ F, w'.heap[b]? = w.heap[b]?) : OwnCells w' ts cs F := o.kept h
theorem SfS.frm {w0 : World} {cl cl' : Nat → Nat} {Bx Qx : Nat} {z : Int} {vL vN : Value} {cL : List Value} {ns : List Nat} {vT vW : Value} {es : List QE} {vF : Value} {TF : Trees} {csF : List Value} {FF : List Nat} {W W' : World} {P : Nat → Prop}
    (s : SfS w0 cl Bx Qx z vL vN cL ns vT vW es vF TF csF FF W) (f : Frm P cl W.heap.size cl' W W') (bel : Below w0.heap.size W W') (h0 : ∀ c, c ≠ 6 → c ≠ 9 → P c) : SfS w0 cl' Bx Qx z vL vN cL ns vT vW es vF TF csF FF W' where
  bel := s.bel.trans bel
  bk := s.bk.frm f bel.size (h0 0 (by omega) (by omega)) (h0 1 (by omega) (by omega)) (h0 2 (by omega) (by omega)) (fun i _ => h0 (10 + i) (by omega) (by omega))
  nn := s.nn
  qk := s.qk.frm f bel bel.size (h0 3 (by omega) (by omega)) (h0 4 (by omega) (by omega)) (h0 5 (by omega) (by omega)) (h0 8 (by omega) (by omega))
  lf := s.lf.frm f (h0 7 (by omega) (by omega)) bel.size
  oF := s.oF.kept fun k hk => (f k (s.cF k hk).2.1 (by rw [(s.cF k hk).1]; exact h0 5 (by omega) (by omega))).2
  nF := s.nF
  cF := fun k hk => by
    obtain ⟨h1, h2, h3⟩ := s.cF k hk
    exact ⟨(f k h2 (by rw [h1]; exact h0 5 (by omega) (by omega))).1.trans h1, Nat.lt_of_lt_of_le h2 bel.size, h3⟩
end Go.Proofs.Ytkjfeakbhfkldaa

namespace Go.Proofs.Ytkjfeakbhfkldaa
open Go.RowKit

theorem box_range {W : World} {N : Nat} {vs : List Value} {T : TypeId} (h : W.heap[N]? = some (.cells vs.toArray T (0, 0))) : W.rangeAt N 0 vs := fun j u hj => by
  rw [Nat.zero_add, cells_of_block h j]
  simpa using hj
/-- Trees that are owned can be read in their blocks. -/
theorem OwnCells.rowX {w : World} {ok : Nat → Prop} (hok : ∀ b, ok b → b < w.heap.size) : ∀ {ts : Trees} {cs : List Value} {F : List Nat}, OwnCells w ts cs F → (∀ b ∈ F, ok b) → ∀ (a : Option Addr) (i : Nat),
    (0 < ts.len → ∃ g cur t fr, a = some ⟨g, 0, none⟩ ∧ ok g ∧ w.heap[g]? = some (.cells cur t fr) ∧ ∃ pre post, cur.toList = pre ++ (cs ++ post) ∧ pre.length = i * 14) → RowX w ok ts a i
  | .nil, _, _, _, _, _, _, _ => trivial
  | .cons h k r, cs, F, ⟨v, cs', cs1, G, F1, F2, e, okh, s, o1, o2, eF⟩, hF, a, i, ha => by
    obtain ⟨g, cur, t, fr, rfl, hg, hcur, pre, post, hl, hp⟩ := ha (by simp [Trees.len])
    subst e eF
    obtain ⟨ka, kc, rfl⟩ := s.slice
    refine ⟨⟨g, 0, ka, k.len, kc, rfl, hg, ⟨hok g hg, fun j x hj => ?_⟩, rfl, s.le, okh, ?_⟩, ?_⟩
    · have hj14 : j < 14 := by rcases Nat.lt_or_ge j 14 with h1 | h1; exact h1; rw [List.getElem?_eq_none (by rw [Hd.vals_len]; exact h1)] at hj; cases hj
      simp only [World.cell?, hcur, Option.isSome_none, Bool.false_eq_true, if_false]
      rw [← Array.getElem?_toList, hl, List.getElem?_append_right (by omega), Nat.zero_add, hp, Nat.add_sub_cancel_left, List.append_assoc, List.getElem?_append_left (by rw [Hd.vals_len]; exact hj14)]
      exact hj
    · refine o1.rowX hok (fun b hb => hF b (by simp [hb])) ka 0 fun hk => ?_
      rcases s.2 with ⟨e1, e2, e3⟩ | ⟨g', cap', cur', e1, hg', h1, h2, h3, h4, h5⟩
      · omega
      · injection e1 with e1 _ _
        refine ⟨g', cur', _, _, e1, hF g' (by simp [h5]), hg', [], cur'.toList.drop (k.len * 14), ?_, by simp⟩
        rw [← h4, List.nil_append, List.take_append_drop]
    · refine o2.rowX hok (fun b hb => hF b (by simp [hb])) _ (i + 1) fun _ => ⟨g, cur, t, fr, rfl, hg, hcur, pre ++ h.vals (.slice ka k.len kc), post, ?_, ?_⟩
      · rw [hl]; simp only [List.append_assoc]
      · rw [List.length_append, Hd.vals_len, hp]; omega
theorem OwnV.tx {w : World} {ok : Nat → Prop} (hok : ∀ b, ok b → b < w.heap.size) {ts : Trees} {ka : Option Addr} {kl kc : Nat} {F : List Nat} (o : OwnV w ts (.slice ka kl kc) F) (hF : ∀ b ∈ F, ok b) {h : Hd} (okh : h.ok) : TreeX w ok h ts ka kl := by
  obtain ⟨cs, G, F', s, o, rfl⟩ := o
  obtain ⟨ka', kc', e⟩ := s.slice
  simp only [Value.slice.injEq] at e
  obtain ⟨rfl, rfl, rfl⟩ := e
  refine ⟨rfl, s.le, okh, o.rowX hok (fun b hb => hF b (by simp [hb])) ka 0 fun hk => ?_⟩
  rcases s.2 with ⟨e1, e2, e3⟩ | ⟨g', cap', cur', e1, hg', h1, h2, h3, h4, h5⟩
  · omega
  · injection e1 with e1 _ _
    refine ⟨g', cur', _, _, e1, hF g' (by simp [h5]), hg', [], cur'.toList.drop (ts.len * 14), ?_, by simp⟩
    rw [← h4, List.nil_append, List.take_append_drop]
section
variable {w0 : World} {cl cl' : Nat → Nat} {Bx Qx : Nat} {z : Int} {vL vN : Value} {cL : List Value} {ns : List Nat} {vT vW : Value} {es : List QE} {vF : Value} {TF : Trees} {csF : List Value} {FF F : List Nat} {W W1 W' : World} {o : Obj} {g cap : Nat} {h : Hd} {k : Trees} {v : Value}
/-- One more answer is left. -/
theorem SfS.left (s : SfS w0 cl Bx Qx z vL vN cL ns vT vW es vF TF csF FF W) (okh : h.ok) (ov : OwnV W k v F) (nd : F.Nodup) (hF : ∀ b ∈ F, cl b = 5 ∧ b < W.heap.size ∧ w0.heap.size ≤ b ∧ b ∉ FF)
    (hown : W1.ownsRow w0.heap.size 29 14 (.slice (some ⟨g, 0, none⟩) (TF.len + 1) cap) (TF.len + 1) (csF ++ h.vals v)) (hgrow : (W.alloc o).grownBy W1 vF.ownBlock) (hat : vF.ownBlock = some g ∨ g = (W.alloc o).heap.size) :
    SfS w0 (upc cl W.heap.size 7) Bx Qx z vL vN cL ns vT vW es (.slice (some ⟨g, 0, none⟩) (TF.len + 1) cap) (TF.app (.cons h k .nil)) (csF ++ h.vals v) (FF ++ F) W1 ∧ Frm (· ≠ 7) cl W.heap.size (upc cl W.heap.size 7) W W1 ∧ Below w0.heap.size W W1 := by
  have hbW := s.bel.size
  have bel : Below w0.heap.size W W1 := ((Below.refl _ W).alloc hbW o).grown hgrow (by simp; omega) (fun k hk => (World.ownsRow.lt s.lf.own k hk).1)
  have f : Frm (· ≠ 7) cl W.heap.size (upc cl W.heap.size 7) W W1 := Frm.but fun x hx hc => grow_same9 hgrow x hx fun e => hc (s.lf.cls x e).1
  have q5 : ∀ b, cl b = 5 → b < W.heap.size → W1.heap[b]? = W.heap[b]? := fun b h1 h2 => (f b h2 (by rw [h1]; omega)).2
  refine ⟨⟨s.bel.trans bel, s.bk.frm f bel.size (by omega) (by omega) (by omega) (fun i _ => by omega), s.nn, s.qk.frm f bel bel.size (by omega) (by omega) (by omega) (by omega), ?_, ?_, ?_, ?_⟩, f, bel⟩
  · rw [Trees.app_len]
    exact s.lf.make hown (hat.imp (fun e => e.symm) (fun e k hk => by
      simp only [Value.ownBlock, Option.some.injEq] at hk
      rw [← hk, e]; simp)) (Nat.le_refl _)
  · exact (s.oF.kept fun b hb => q5 b (s.cF b hb).1 (s.cF b hb).2.1).snoc okh (ov.kept fun b hb => q5 b (hF b hb).1 (hF b hb).2.1)
  · exact List.nodup_append.2 ⟨s.nF, nd, fun a ha b hb e => (hF b hb).2.2.2 (e ▸ ha)⟩
  · intro b hb
    have hs := bel.size
    rcases List.mem_append.1 hb with hb | hb
    · obtain ⟨h1, h2, h3⟩ := s.cF b hb
      exact ⟨by rw [upc_lt h2]; exact h1, by omega, h3⟩
    · obtain ⟨h1, h2, h3, -⟩ := hF b hb
      exact ⟨by rw [upc_lt h2]; exact h1, by omega, h3⟩
end
section
variable {w0 w3 : World} {cl cl' : Nat → Nat} {Bx Qx N4 N5 N7 : Nat} {z : Int} {vL vN : Value} {cL : List Value} {ns : List Nat} {vT vW : Value} {es : List QE} {vF : Value} {TF : Trees} {csF : List Value} {FF F : List Nat} {W W1 W' : World} {o : Obj} {g0 : Nat} {g : Hd} {gk : Trees} {pa qa : Option Addr} {pl pc ql : Nat} {c5 c7 : Array Value} {P : Nat → Prop}
theorem node_block {w : World} {g0 : Nat} {h : Hd} {v : Value} {T : TypeId} (hb : w.heap[g0]? = some (.cells (h.vals v).toArray T (0, 0))) : NodeAt w g0 0 h v := ⟨lt_of_block hb, fun j x hj => by rw [Nat.zero_add, cells_of_block hb j]; simpa using hj⟩
/-- The first answer, ready for the Book. -/
theorem SfS.take_pre (s : SfS w0 cl Bx Qx z vL vN cL ns vT vW es vF TF csF FF w3) (a : A9 w3 w0.heap.size N5 N7 c5 c7 g gk pa pl pc qa ql W) (bw : Below W.heap.size W W1) (hb : W1.heap[g0]? = some (.cells (g.vals (.slice pa pl pc)).toArray 29 (0, 0))) :
    SfS w0 (upc cl w3.heap.size 6) Bx Qx z vL vN cL ns vT vW es vF TF csF FF W1 ∧ ∃ vs, LsV W1 W1.heap.size (.cons g gk .nil) (some ⟨g0, 0, none⟩) 0 vs ∧ Rem W1 (upc cl w3.heap.size 6) W1.heap.size w0.heap.size vs ∧ vs.length ≤ 2001 := by
  have h3 := s.bel.size
  have hW := a.bel.size
  have b1 : Below w3.heap.size w3 W1 := a.bel.trans (bw.mono hW)
  have s1 := s.frm (P := fun _ => True) (Frm.kept (c0 := 6) b1) (b1.mono h3) (fun _ _ _ => trivial)
  obtain ⟨F, ov, nd, hF⟩ := a.fr
  have ov1 := ov.kept (w' := W1) fun k hk => bw.block k (hF k hk).2.1
  have hnd := a.nd
  obtain ⟨vs, ls, each, sub⟩ := ov1.ls (Nat.le_refl _) (fun b hb => Nat.lt_of_lt_of_le (hF b hb).2.1 bw.size) (by omega) a.ok
  refine ⟨s1, _, ⟨g0, 0, pa, pl, pc, vs, [], rfl, lt_of_block hb, by simpa using node_block hb, ls.len, ls.max, ls.hok, ls.row, rfl, rfl⟩, ⟨fun v hv => ?_, ?_⟩, ?_⟩
  · rw [List.append_nil] at hv
    have hm := sub.subset (List.mem_map_of_mem hv)
    obtain ⟨q1, q2, -⟩ := hF _ hm
    exact ⟨each v hv, upc_ge q1, Nat.lt_of_lt_of_le q2 bw.size, by omega⟩
  · rw [List.append_nil]
    exact sub.nodup nd
  · have h1 := ownS_len pa pl pc
    have h2 := ls.row.len
    simp only [List.length_append, List.length_nil]
    omega
theorem SfS.took {k : Nat} (s : SfS w0 cl Bx Qx z vL vN cL ns vT vW es vF TF csF FF W) (t : TakeP w0.heap.size cl Bx cL.length W k W') :
    ∃ cl' z' vL' vN' cL' ns', SfS w0 cl' Bx Qx z' vL' vN' cL' ns' vT vW es vF TF csF FF W' ∧ cL'.length ≤ cL.length + k ∧ Frm P5 cl W.heap.size cl' W W' := by
  obtain ⟨cl', z', vL', vN', cL', ns', bk, f, hn, hl⟩ := t.ex
  refine ⟨cl', z', vL', vN', cL', ns', ⟨s.bel.trans t.bel, bk, hn, s.qk.frm f t.bel t.bel.size (.inl rfl) (.inr (.inl rfl)) (.inr (.inr (.inl rfl))) (.inr (.inr (.inr (.inr rfl)))), s.lf.frm f (.inr (.inr (.inr (.inl rfl)))) t.bel.size, s.oF.kept fun k hk => (f k (s.cF k hk).2.1 (by rw [(s.cF k hk).1]; exact .inr (.inr (.inl rfl)))).2, s.nF, fun k hk => ?_⟩, hl, f⟩
  obtain ⟨h1, h2, h3⟩ := s.cF k hk
  exact ⟨(f k h2 (by rw [h1]; exact .inr (.inr (.inl rfl)))).1.trans h1, Nat.lt_of_lt_of_le h2 t.bel.size, h3⟩
theorem kept4 {nt : Hd} {kt : Trees} {xa : Option Addr} {xl xc N : Nat} {cs : Array Value} {T : TypeId} (h5 : P 5) (f : Frm P cl N cl' W W') (hN : W.heap.size ≤ N) (hs : W.heap.size ≤ W'.heap.size) (ht : W.heap[N4]? = some (.cells cs T (0, 0)) ∧ cl N4 = 5) (mt : MTree W (fun b => cl b = 5 ∧ b < W.heap.size) nt kt xa xl xc) :
    (W'.heap[N4]? = some (.cells cs T (0, 0)) ∧ cl' N4 = 5) ∧ MTree W' (fun b => cl' b = 5 ∧ b < W'.heap.size) nt kt xa xl xc := by
  have h4 : N4 < W.heap.size := (Array.getElem?_eq_some_iff.1 ht.1).1
  obtain ⟨e1, e2⟩ := f N4 (by omega) (by rw [ht.2]; exact h5)
  refine ⟨⟨e2.trans ht.1, e1.trans ht.2⟩, mt.kept fun b hb => ?_⟩
  obtain ⟨e3, e4⟩ := f b (by omega) (by rw [hb.1]; exact h5)
  exact ⟨⟨e3.trans hb.1, by omega⟩, e4⟩
/-- A further answer, ready for the Quiet. -/
theorem SfS.keep_pre (s : SfS w0 cl Bx Qx z vL vN cL ns vT vW es vF TF csF FF w3) (a : A9 w3 w0.heap.size N5 N7 c5 c7 g gk pa pl pc qa ql W) :
    SfS w0 (upc cl w3.heap.size 5) Bx Qx z vL vN cL ns vT vW es vF TF csF FF W ∧ TreeX W (okq w0.heap.size (upc cl w3.heap.size 5) W.heap.size) g gk pa pl ∧ TreeX W (okq w0.heap.size (upc cl w3.heap.size 5) W.heap.size) g gk qa ql ∧ upc cl w3.heap.size 5 N5 = 5 ∧
    ∃ F, OwnV W gk (.slice pa pl pc) F ∧ F.Nodup ∧ ∀ b ∈ F, upc cl w3.heap.size 5 b = 5 ∧ b < W.heap.size ∧ w0.heap.size ≤ b ∧ b ∉ FF := by
  have h3 := s.bel.size
  have hW := a.bel.size
  have s1 := s.frm (P := fun _ => True) (Frm.kept (c0 := 5) a.bel) (a.bel.mono h3) (fun _ _ _ => trivial)
  obtain ⟨F, ov, nd, hF⟩ := a.fr
  have hok : ∀ b, okq w0.heap.size (upc cl w3.heap.size 5) W.heap.size b → b < W.heap.size := fun b hb => by
    rcases hb with q | ⟨-, q⟩ <;> omega
  refine ⟨s1, ov.tx hok (fun b hb => .inr ⟨upc_ge (hF b hb).1, (hF b hb).2.1⟩) a.ok, a.t7.kept9 fun b hb => ⟨?_, rfl⟩, upc_ge a.n5, F, ov, nd, fun b hb => ⟨upc_ge (hF b hb).1, (hF b hb).2.1, by have := (hF b hb).1; omega, fun q => ?_⟩⟩
  · rcases hb.1 with q | q
    · exact .inl q
    · exact .inr ⟨upc_ge q, hb.2.1⟩
  · have h1 := (hF b hb).1; have h2 := (s.cF b q).2.1; omega
theorem SfS.kept' {vT' vW' : Value} {es' : List QE} (s : SfS w0 cl Bx Qx z vL vN cL ns vT vW es vF TF csF FF W) (q : QkS w0.heap.size W'.heap.size cl' Qx vT' vW' es' W') (f : Frm P9 cl W.heap.size cl' W W') (bel : Below w0.heap.size W W') :
    SfS w0 cl' Bx Qx z vL vN cL ns vT' vW' es' vF TF csF FF W' where
  bel := s.bel.trans bel
  bk := s.bk.frm f bel.size (by simp [P9]) (by simp [P9]) (by simp [P9]) (fun i _ => by unfold P9; omega)
  nn := s.nn
  qk := q
  lf := s.lf.frm f (by simp [P9]) bel.size
  oF := s.oF.kept fun k hk => (f k (s.cF k hk).2.1 (by rw [(s.cF k hk).1]; simp [P9])).2
  nF := s.nF
  cF := fun k hk => by
    obtain ⟨h1, h2, h3⟩ := s.cF k hk
    exact ⟨(f k h2 (by rw [h1]; simp [P9])).1.trans h1, Nat.lt_of_lt_of_le h2 bel.size, h3⟩
theorem own5 {vs : List Value} {T : TypeId} {N : Nat} (h5 : P 5) (f : Frm P cl N cl' W W') (hN : W.heap.size ≤ N) (hs : W.heap.size ≤ W'.heap.size) (c5 : cl N5 = 5) (b5 : W.heap[N5]? = some (.cells vs.toArray T (0, 0))) (ov : OwnV W gk (.slice pa pl pc) F) (hF : ∀ b ∈ F, cl b = 5 ∧ b < W.heap.size ∧ w0.heap.size ≤ b ∧ b ∉ FF) :
    W'.heap[N5]? = some (.cells vs.toArray T (0, 0)) ∧ OwnV W' gk (.slice pa pl pc) F ∧ ∀ b ∈ F, cl' b = 5 ∧ b < W'.heap.size ∧ w0.heap.size ≤ b ∧ b ∉ FF := by
  have h4 : N5 < W.heap.size := lt_of_block b5
  refine ⟨(f N5 (by omega) (by rw [c5]; exact h5)).2.trans b5, ov.kept fun b hb => ?_, fun b hb => ?_⟩ <;> obtain ⟨h1, h2, h3, h4⟩ := hF b hb <;> obtain ⟨e1, e2⟩ := f b (by omega) (by rw [h1]; exact h5)
  · exact e2
  · exact ⟨e1.trans h1, by omega, h3, h4⟩
theorem bk_new {b N : Nat} (hb : W.heap[Bx]? = some (.cells #[.slice none 0 0, .slice none 0 0, .int .i64 0] 76 (0, 0))) (h2 : cl Bx = 2) (hN : Bx < N) (h0 : b ≤ Bx) : BkS b N cl (fun j => j < ([] : List Value).length) (fun _ => 0) Bx 0 (.slice none 0 0) (.slice none 0 0) [] [] W :=
  ⟨hb, ⟨h2, hN, h0⟩, ⟨World.ownsRow_nil _ _ _ _, fun k hk => by cases hk⟩, ⟨World.ownsRow_nil _ _ _ _, fun k hk => by cases hk⟩, fun i v hi _ => absurd hi (Nat.not_lt_zero _)⟩
theorem qk_new {b N : Nat} (hb : W.heap[Qx]? = some (.cells #[.slice none 0 0, .slice none 0 0] 79 (0, 0))) (h2 : cl Qx = 8) (hN : Qx < N) (h0 : b ≤ Qx) : QkS b N cl Qx (.slice none 0 0) (.slice none 0 0) [] W :=
  ⟨⟨hb, ⟨h2, hN, h0⟩, ⟨World.ownsRow_nil _ _ _ _, fun k hk => by cases hk⟩, ⟨World.ownsRow_nil _ _ _ _, fun k hk => by cases hk⟩⟩, fun q hq => by cases hq⟩
/-- What is left, without the Book and the Quiet. -/
structure SfL (b : Nat) (cl : Nat → Nat) (vF : Value) (TF : Trees) (csF : List Value) (FF : List Nat) (W : World) : Prop where
  lf : Rw b W.heap.size cl 7 29 14 W vF TF.len csF
  oF : OwnCells W TF csF FF
  nF : FF.Nodup
  cF : ∀ k ∈ FF, cl k = 5 ∧ k < W.heap.size ∧ b ≤ k
theorem SfS.toL (s : SfS w0 cl Bx Qx z vL vN cL ns vT vW es vF TF csF FF W) : SfL w0.heap.size cl vF TF csF FF W := ⟨s.lf, s.oF, s.nF, s.cF⟩
theorem SfL.frm {b : Nat} (s : SfL b cl vF TF csF FF W) (f : Frm P cl W.heap.size cl' W W') (hs : W.heap.size ≤ W'.heap.size) (h7 : P 7) (h5 : P 5) : SfL b cl' vF TF csF FF W' where
  lf := s.lf.frm f h7 hs
  oF := s.oF.kept fun k hk => (f k (s.cF k hk).2.1 (by rw [(s.cF k hk).1]; exact h5)).2
  nF := s.nF
  cF := fun k hk => by
    obtain ⟨h1, h2, h3⟩ := s.cF k hk
    exact ⟨(f k h2 (by rw [h1]; exact h5)).1.trans h1, Nat.lt_of_lt_of_le h2 hs, h3⟩
/-- All answers that are left, ready for a Book of their own. -/
theorem SfL.last {Nb b0 : Nat} (s : SfL b0 cl vF TF csF FF W) (h3 : b0 ≤ W.heap.size) (bel : Below W.heap.size W W1) (hb : W1.heap[Nb]? = some (.cells #[.slice none 0 0, .slice none 0 0, .int .i64 0] 76 (0, 0))) (hN : W.heap.size ≤ Nb) (hn : TF.nodes ≤ 1000000) :
    ∃ cl9 ta tc vs, vF = .slice ta TF.len tc ∧ BkS b0 W1.heap.size cl9 (fun j => j < ([] : List Value).length) (fun _ => 0) Nb 0 (.slice none 0 0) (.slice none 0 0) [] [] W1 ∧ LsV W1 W1.heap.size TF ta 0 vs ∧ Rem W1 cl9 W1.heap.size b0 vs := by
  have hW := bel.size
  have oF1 := s.oF.kept (w' := W1) fun k hk => bel.block k (s.cF k hk).2.1
  have low := own_row9 s.lf.own (W' := W1) fun k hk => bel.block k (s.lf.cls k hk).2
  obtain ⟨ta, tc, e⟩ := low.slice9
  have hrow : 0 < TF.len → ∃ g cur t fr, ta = some ⟨g, 0, none⟩ ∧ g < W1.heap.size ∧ W1.heap[g]? = some (.cells cur t fr) ∧ ∃ pre post, cur.toList = pre ++ (csF ++ post) ∧ pre.length = 0 * 14 := fun hp => by
    rcases low.2 with ⟨e1, e2⟩ | ⟨g, cap, cur, e1, hbb, hg, r1, r2, r3, r4⟩
    · omega
    · rw [e] at e1
      injection e1 with e1 _ _
      refine ⟨g, cur, _, _, e1, lt_of_block hg, hg, [], cur.toList.drop (TF.len * 14), ?_, by simp⟩
      rw [List.nil_append, ← r4, List.take_append_drop]
  obtain ⟨vs, ls, each, sub⟩ := oF1.ls (Nat.le_refl _) (fun b hb => Nat.lt_of_lt_of_le (s.cF b hb).2.1 hW) hn ta 0 hrow
  refine ⟨fun x => if x = Nb then 2 else 6, ta, tc, vs, e, bk_new hb (by simp) (lt_of_block hb) (by omega), ls, fun v hv => ?_, sub.nodup s.nF⟩
  have hm := sub.subset (List.mem_map_of_mem hv)
  obtain ⟨q1, q2, q3⟩ := s.cF _ hm
  exact ⟨each v hv, if_neg (by omega), by omega, q3⟩
end
end Go.Proofs.Ytkjfeakbhfkldaa

namespace Go.Proofs.Ytkjfeakbhfkldaa
open Go.RowKit

theorem app_nodes : ∀ a b : Trees, (a.app b).nodes = a.nodes + b.nodes
  | .nil, b => by simp [Trees.app, Trees.nodes]
  | .cons h k r, b => by simp only [Trees.app, Trees.nodes, app_nodes r b]; omega
def Sf2 (w0 : World) (Bx Qx N4 j : Nat) (nt : Hd) (kt : Trees) (xa : Option Addr) (xl xc : Nat) (vF kv : Value) (wr : World) : Prop :=
  ∃ (kk : Nat) (cl : Nat → Nat) (z : Int) (vL vN : Value) (cL : List Value) (ns : List Nat) (vT vW : Value) (es : List QE) (TF : Trees) (csF : List Value) (FF : List Nat), kv = .int .i64 (kk : Int) ∧ kk ≤ 4 ∧ Hid (SfS w0 cl Bx Qx z vL vN cL ns vT vW es vF TF csF FF wr) ∧
    Hid (wr.heap[N4]? = some (.cells #[.int .i64 nt.kind, .int .i64 nt.op, .int .i64 nt.num, .string ⟨nt.text.toArray⟩, .int .i64 nt.ref.row, .int .i64 nt.ref.col, .bool nt.ref.pr, .bool nt.ref.pc, .int .i64 nt.to.row, .int .i64 nt.to.col, .bool nt.to.pr, .bool nt.to.pc, .int .i64 nt.fn, .slice xa xl xc] 29 (0, 0)) ∧ cl N4 = 5) ∧ Hid (MTree wr (fun b => cl b = 5 ∧ b < wr.heap.size) nt kt xa xl xc) ∧
    (kk = 0 → es.length ≤ 3 * j ∧ TF.nodes ≤ 6003 * j ∧ cL.length ≤ 2001 * j) ∧ (1 ≤ kk → es.length + 1 ≤ 3 * j + kk ∧ TF.nodes + 2001 ≤ 6003 * j + 2001 * kk ∧ cL.length ≤ 2001 * j + 2001)
noncomputable def sfB (i : Nat) : Code := (((Try.f14.body.map loopsB).getD [])[i]?.getD .skip)
set_option maxRecDepth 1000000 in
set_option maxHeartbeats 16000000 in
theorem sf_2 {Q : Exit → Act → World → Prop} {w0 W : World} {b off len cap j Bx Qx N4 xl xc tl tc : Nat} {k m n : Int} {nt : Hd} {kt : Trees} {ta xa : Option Addr} {cl : Nat → Nat} {z : Int} {vL vN : Value} {cL : List Value} {ns : List Nat} {vT vW : Value} {es : List QE} {vF : Value} {TF : Trees} {csF : List Value} {FF : List Nat} {u1 u2 u9 u10 u11 u12 u13 u14 u15 u16 u17 u18 u19 u20 u21 u22 u23 u24 u25 u26 u27 u28 u29 u30 u31 u32 u33 u34 u35 u36 u37 u38 u39 u40 u41 u42 u43 u44 u45 u46 u47 u48 u49 u50 u51 u52 u53 u54 u55 u56 u57 u58 u59 u60 u61 u62 u63 u64 u65 u66 u67 u68 u69 u70 u71 u72 u73 u74 u75 u76 u77 u78 u79 u80 u81 u82 u83 u84 u85 u86 u87 u88 u89 u90 u91 u92 u93 u94 u95 u96 u97 u98 : Value}
    (SF : Hid (SfS w0 cl Bx Qx z vL vN cL ns vT vW es vF TF csF FF W)) (HT : Hid (W.heap[N4]? = some (.cells #[.int .i64 nt.kind, .int .i64 nt.op, .int .i64 nt.num, .string ⟨nt.text.toArray⟩, .int .i64 nt.ref.row, .int .i64 nt.ref.col, .bool nt.ref.pr, .bool nt.ref.pc, .int .i64 nt.to.row, .int .i64 nt.to.col, .bool nt.to.pr, .bool nt.to.pc, .int .i64 nt.fn, .slice xa xl xc] 29 (0, 0)) ∧ cl N4 = 5)) (MT : Hid (MTree W (fun b => cl b = 5 ∧ b < W.heap.size) nt kt xa xl xc)) (HATW : Hid (∀ W, Below w0.heap.size w0 W → Op12At W b (off + j * 17) k nt ta tl tc m n)) (TV0 : Hid (TreeV w0 w0.heap.size nt kt ta tl)) (IM : Hid (I64 m)) (IN : Hid (I64 n))
    (hbl : b < w0.heap.size) (hj : j < 60) (hjl : j < len) (hn2 : kt.nodes ≤ 2000) (h1 : es.length ≤ 3 * j) (h2 : TF.nodes ≤ 6003 * j) (h3 : cL.length ≤ 2001 * j)
    (hexit : Hid (∀ (v2 v8 v9 v10 v11 v12 v43 v44 v45 v46 v47 v48 v49 v50 v51 v52 v53 v54 v55 v56 v57 v58 v59 v60 v61 v62 v63 v64 v65 v66 v67 v68 v69 v70 v71 v72 v73 v74 v75 : Value) (vF' : Value) (cl' : Nat → Nat) (z' : Int) (vL' vN' : Value) (cL' : List Value) (ns' : List Nat) (vT' vW' : Value) (es' : List QE) (TF' : Trees) (csF' : List Value) (FF' : List Nat) (w' : World), Hid (SfS w0 cl' Bx Qx z' vL' vN' cL' ns' vT' vW' es' vF' TF' csF' FF' w') → Hid (w'.heap[N4]? = some (.cells #[.int .i64 nt.kind, .int .i64 nt.op, .int .i64 nt.num, .string ⟨nt.text.toArray⟩, .int .i64 nt.ref.row, .int .i64 nt.ref.col, .bool nt.ref.pr, .bool nt.ref.pc, .int .i64 nt.to.row, .int .i64 nt.to.col, .bool nt.to.pr, .bool nt.to.pc, .int .i64 nt.fn, .slice xa xl xc] 29 (0, 0)) ∧ cl' N4 = 5) → Hid (MTree w' (fun b => cl' b = 5 ∧ b < w'.heap.size) nt kt xa xl xc) → es'.length ≤ 3 * j + 3 → TF'.nodes ≤ 6003 * j + 6003 → cL'.length ≤ 2001 * j + 2001 → Q (.exit 2) ⟨List.toArray ((.slice (some ⟨b, off, none⟩) len cap) :: u1 :: v2 :: (.pointer (some ⟨Bx, 0, none⟩)) :: (.pointer (some ⟨Qx, 0, none⟩)) :: vF' :: (.int .i64 (j : Int)) :: (.pointer (some ⟨N4, 0, none⟩)) :: v8 :: v9 :: v10 :: v11 :: v12 :: u13 :: u14 :: u15 :: u16 :: u17 :: u18 :: u19 :: u20 :: u21 :: u22 :: u23 :: u24 :: u25 :: u26 :: u27 :: u28 :: u29 :: u30 :: u31 :: u32 :: u33 :: u34 :: u35 :: u36 :: u37 :: u38 :: u39 :: u40 :: u41 :: u42 :: v43 :: v44 :: v45 :: v46 :: v47 :: v48 :: v49 :: v50 :: v51 :: v52 :: v53 :: v54 :: v55 :: v56 :: v57 :: v58 :: v59 :: v60 :: v61 :: v62 :: v63 :: v64 :: v65 :: v66 :: v67 :: v68 :: v69 :: v70 :: v71 :: v72 :: v73 :: v74 :: v75 :: u76 :: u77 :: u78 :: u79 :: u80 :: u81 :: u82 :: u83 :: u84 :: u85 :: u86 :: u87 :: u88 :: u89 :: u90 :: u91 :: u92 :: u93 :: u94 :: u95 :: u96 :: u97 :: u98 :: []), []⟩ w')) :
    Code.wp Try.prog (Code.loop (sfB 1)) Q ⟨List.toArray ((.slice (some ⟨b, off, none⟩) len cap) :: u1 :: u2 :: (.pointer (some ⟨Bx, 0, none⟩)) :: (.pointer (some ⟨Qx, 0, none⟩)) :: vF :: (.int .i64 (j : Int)) :: (.pointer (some ⟨N4, 0, none⟩)) :: (.int .i64 0) :: u9 :: u10 :: u11 :: u12 :: u13 :: u14 :: u15 :: u16 :: u17 :: u18 :: u19 :: u20 :: u21 :: u22 :: u23 :: u24 :: u25 :: u26 :: u27 :: u28 :: u29 :: u30 :: u31 :: u32 :: u33 :: u34 :: u35 :: u36 :: u37 :: u38 :: u39 :: u40 :: u41 :: u42 :: u43 :: u44 :: u45 :: u46 :: u47 :: u48 :: u49 :: u50 :: u51 :: u52 :: u53 :: u54 :: u55 :: u56 :: u57 :: u58 :: u59 :: u60 :: u61 :: u62 :: u63 :: u64 :: u65 :: u66 :: u67 :: u68 :: u69 :: u70 :: u71 :: u72 :: u73 :: u74 :: u75 :: u76 :: u77 :: u78 :: u79 :: u80 :: u81 :: u82 :: u83 :: u84 :: u85 :: u86 :: u87 :: u88 :: u89 :: u90 :: u91 :: u92 :: u93 :: u94 :: u95 :: u96 :: u97 :: u98 :: []), []⟩ W := by
  conv => arg 2; arg 1; whnf
  obtain ⟨i0, hi0, hz0, hz1, hz2⟩ := info_parts infoExpr
  go_loopw [5, 8] (fun vF kv wr => Sf2 w0 Bx Qx N4 j nt kt xa xl xc vF kv wr) (fun _ kv _ => 4 - (intOf kv).toNat)
  case atStart => exact ⟨0, cl, z, vL, vN, cL, ns, vT, vW, es, TF, csF, FF, rfl, by omega, SF, HT, MT, fun _ => ⟨h1, h2, h3⟩, fun q => by omega⟩
  case round =>
    obtain ⟨kk, cl, z, vL, vN, cL, ns, vT, vW, es, TF, csF, FF, rfl, hkk, SF, HT, MT, hz, hp⟩ := hrel
    obtain ⟨w3, hw3⟩ : ∃ w3, w3 = wr := ⟨_, rfl⟩
    rw [← hw3] at SF HT MT ⊢
    clear hw3
    by_cases hlt : kk < 4
    · have hw03 : w0.heap.size ≤ w3.heap.size := SF.out.bel.size
      have u1 : (kk : Int) < 4 := by omega
      have uj : (j : Int) < (len : Int) := by omega
      have HAT := Lib.hid (HATW.out w3 SF.out.bel)
      have BL := Lib.hid (Nat.lt_of_lt_of_le hbl hw03)
      have T4 := Lib.hid HT.out.1
      have TV := Lib.hid (TV0.out.kept SF.out.bel (Nat.le_refl _))
      have TX := Lib.hid (MT.out.plain.to (B := w3.heap.size) fun _ h => h.2)
      go_upto_region 14 with (fail)
      have cA : ∀ W, Below w3.heap.size w3 W → Calls Try.prog 33 #[.agg #[.int .i64 k, .int .i64 nt.kind, .int .i64 nt.op, .int .i64 nt.num, .string ⟨nt.text.toArray⟩, .int .i64 nt.ref.row, .int .i64 nt.ref.col, .bool nt.ref.pr, .bool nt.ref.pc, .int .i64 nt.to.row, .int .i64 nt.to.col, .bool nt.to.pr, .bool nt.to.pc, .int .i64 nt.fn, .slice ta tl tc, .int .i64 m, .int .i64 n], .agg #[.int .i64 nt.kind, .int .i64 nt.op, .int .i64 nt.num, .string ⟨nt.text.toArray⟩, .int .i64 nt.ref.row, .int .i64 nt.ref.col, .bool nt.ref.pr, .bool nt.ref.pc, .int .i64 nt.to.row, .int .i64 nt.to.col, .bool nt.to.pr, .bool nt.to.pc, .int .i64 nt.fn, .slice xa xl xc]] W (fun e w' => ∃ (g : Hd) (gk : Trees) (pa qa : Option Addr) (pl pc ql qc : Nat) (er : Int) (F : List Nat),
          e = .returned (.tuple #[.agg #[.int .i64 g.kind, .int .i64 g.op, .int .i64 g.num, .string ⟨g.text.toArray⟩, .int .i64 g.ref.row, .int .i64 g.ref.col, .bool g.ref.pr, .bool g.ref.pc, .int .i64 g.to.row, .int .i64 g.to.col, .bool g.to.pr, .bool g.to.pc, .int .i64 g.fn, .slice pa pl pc], .int .i64 er, .agg #[.int .i64 g.kind, .int .i64 g.op, .int .i64 g.num, .string ⟨g.text.toArray⟩, .int .i64 g.ref.row, .int .i64 g.ref.col, .bool g.ref.pr, .bool g.ref.pc, .int .i64 g.to.row, .int .i64 g.to.col, .bool g.to.pr, .bool g.to.pc, .int .i64 g.fn, .slice qa ql qc], .int .i64 er]) ∧ Below W.heap.size W w' ∧ Below w3.heap.size w3 w' ∧ Fresh w' W.heap.size gk (.slice pa pl pc) F ∧ TreeX w' (OkR W w0.heap.size w') g gk qa ql ∧ gk.nodes ≤ 2000) := fun W q =>
        (callF_any k nt kt m n W w3.heap.size w0.heap.size xa ta xl xc tl tc q.size (Nat.le_trans hw03 q.size) (TX.out.kept q (Nat.le_refl _)) (TV.out.kept (q.mono hw03) (Nat.le_refl _)) IM.out IN.out).mono fun e w' ⟨g, gk, pa, qa, pl, pc, ql, qc, er, F, r1, r2, r3, r4, r5⟩ => ⟨g, gk, pa, qa, pl, pc, ql, qc, er, F, r1, r2, q.trans (r2.mono q.size), r3, r4, Nat.le_trans r5 hn2⟩
      have CC := Lib.hid cA
      clear cA
      refine (fun (key : ∀ (W : World) (N5 N7 : Nat) (g : Hd) (pa : Option Addr) (pl pc : Nat) (qa : Option Addr) (ql qc : Nat) (er : Int), (∃ gk, A9 w3 w0.heap.size N5 N7 #[.int .i64 g.kind, .int .i64 g.op, .int .i64 g.num, .string ⟨g.text.toArray⟩, .int .i64 g.ref.row, .int .i64 g.ref.col, .bool g.ref.pr, .bool g.ref.pc, .int .i64 g.to.row, .int .i64 g.to.col, .bool g.to.pr, .bool g.to.pc, .int .i64 g.fn, .slice pa pl pc] #[.int .i64 g.kind, .int .i64 g.op, .int .i64 g.num, .string ⟨g.text.toArray⟩, .int .i64 g.ref.row, .int .i64 g.ref.col, .bool g.ref.pr, .bool g.ref.pc, .int .i64 g.to.row, .int .i64 g.to.col, .bool g.to.pr, .bool g.to.pc, .int .i64 g.fn, .slice qa ql qc] g gk pa pl pc qa ql W) → (?KeyQ : World → Nat → Nat → Hd → Option Addr → Nat → Nat → Option Addr → Nat → Nat → Int → Prop) W N5 N7 g pa pl pc qa ql qc er) => ?kmain) ?klater
      case kmain =>
        refine wp_region_noPanic ?_
        refine wp_region_held_drew (S := (fun W => Below w3.heap.size w3 W)) (by kernel_rfl) (Below.refl _ _).drew (fun hS1 => ?_)
        refine wpAnyH_take (i := 0) (oi := { dst := some 48, op := Go.Op.move (Go.Operand.tmp 0), type := 58, pos := "law.go:282", after := #[], guard := none }) (v := (.slice (some ⟨b, off, none⟩) len cap)) rfl (by kernel_rfl) (by kernel_rfl) (by kernel_rfl) (fun _ _ _ h => h) (Or.inl ⟨by rfl, fun W hW => by first | (go_simp; done) | (go_simp; with_reducible rfl)⟩) hS1 ?_
        try simp only [Act.put, List.setIfInBounds_toArray, List.set_cons_zero, List.set_cons_succ]
        refine wpAnyH_take (i := 1) (oi := { dst := some 49, op := Go.Op.move (Go.Operand.tmp 6), type := 3, pos := "law.go:282", after := #[], guard := none }) (v := (.int .i64 j)) rfl (by kernel_rfl) (by kernel_rfl) (by kernel_rfl) (fun _ _ _ h => h) (Or.inl ⟨by rfl, fun W hW => by first | (go_simp; done) | (go_simp; with_reducible rfl)⟩) hS1 ?_
        try simp only [Act.put, List.setIfInBounds_toArray, List.set_cons_zero, List.set_cons_succ]
        refine wpAnyH_take (i := 2) (oi := { dst := some 50, op := Go.Op.indexAddr 58 (Go.Operand.tmp 48) (Go.Operand.tmp 49), type := 0, pos := "law.go:282", after := #[{ on := 0, ground := Go.Ground.data }, { on := 1, ground := Go.Ground.data }], guard := none }) (v := (.pointer (some ⟨b, off + j * 17, none⟩))) rfl (by kernel_rfl) (by kernel_rfl) (by kernel_rfl) (fun _ _ _ h => h) (Or.inl ⟨by rfl, fun W hW => by first | (go_simp; done) | (go_simp; with_reducible rfl)⟩) hS1 ?_
        try simp only [Act.put, List.setIfInBounds_toArray, List.set_cons_zero, List.set_cons_succ]
        refine wpAnyH_take (i := 3) (oi := { dst := some 51, op := Go.Op.load 60 (Go.Operand.tmp 50), type := 60, pos := "law.go:282", after := #[{ on := 2, ground := Go.Ground.data }], guard := none }) (v := (.agg #[.int .i64 k, .int .i64 nt.kind, .int .i64 nt.op, .int .i64 nt.num, .string ⟨nt.text.toArray⟩, .int .i64 nt.ref.row, .int .i64 nt.ref.col, .bool nt.ref.pr, .bool nt.ref.pc, .int .i64 nt.to.row, .int .i64 nt.to.col, .bool nt.to.pr, .bool nt.to.pc, .int .i64 nt.fn, .slice ta tl tc, .int .i64 m, .int .i64 n])) rfl (by kernel_rfl) (by kernel_rfl) (by kernel_rfl) (fun _ _ _ h => h) (yieldsIf_load_mid (by rfl) 60 _ rfl b (off + j * 17) rfl [.int .i64 k, .int .i64 nt.kind, .int .i64 nt.op, .int .i64 nt.num, .string ⟨nt.text.toArray⟩, .int .i64 nt.ref.row, .int .i64 nt.ref.col, .bool nt.ref.pr, .bool nt.ref.pc, .int .i64 nt.to.row, .int .i64 nt.to.col, .bool nt.to.pr, .bool nt.to.pc, .int .i64 nt.fn, .slice ta tl tc, .int .i64 m, .int .i64 n] _ (fun W hW => fun o v h => (hW.cell (p := ⟨b, off + j * 17 + o, none⟩) BL.out).trans (HAT.out o v (by simpa using h))) Try.underlying60 rfl infoOp12) hS1 ?_
        try simp only [Act.put, List.setIfInBounds_toArray, List.set_cons_zero, List.set_cons_succ]
        refine wpAnyH_take (i := 4) (oi := { dst := some 52, op := Go.Op.load 29 (Go.Operand.tmp 7), type := 29, pos := "law.go:282", after := #[], guard := none }) (v := (.agg #[.int .i64 nt.kind, .int .i64 nt.op, .int .i64 nt.num, .string ⟨nt.text.toArray⟩, .int .i64 nt.ref.row, .int .i64 nt.ref.col, .bool nt.ref.pr, .bool nt.ref.pc, .int .i64 nt.to.row, .int .i64 nt.to.col, .bool nt.to.pr, .bool nt.to.pc, .int .i64 nt.fn, .slice xa xl xc])) rfl (by kernel_rfl) (by kernel_rfl) (by kernel_rfl) (fun _ _ _ h => h) (yieldsIf_load_mid (by rfl) 29 _ rfl N4 0 rfl [.int .i64 nt.kind, .int .i64 nt.op, .int .i64 nt.num, .string ⟨nt.text.toArray⟩, .int .i64 nt.ref.row, .int .i64 nt.ref.col, .bool nt.ref.pr, .bool nt.ref.pc, .int .i64 nt.to.row, .int .i64 nt.to.col, .bool nt.to.pr, .bool nt.to.pc, .int .i64 nt.fn, .slice xa xl xc] _ (fun W hW => fun o v h => by rw [cells_of_block ((hW.block _ (lt_of_block T4.out)).trans T4.out), ← h]; simp) Try.underlying29 rfl infoExprS) hS1 ?_
        try simp only [Act.put, List.setIfInBounds_toArray, List.set_cons_zero, List.set_cons_succ]
        refine (fun (keyB : ∀ (W : World) (N5 N7 : Nat) (g : Hd) (pa : Option Addr) (pl pc : Nat) (qa : Option Addr) (ql qc : Nat) (er : Int), (∃ gk, A9 w3 w0.heap.size N5 N7 #[.int .i64 0, .int .i64 0, .int .i64 0, .string ⟨#[]⟩, .int .i64 0, .int .i64 0, .bool false, .bool false, .int .i64 0, .int .i64 0, .bool false, .bool false, .int .i64 0, .slice none 0 0] #[.int .i64 0, .int .i64 0, .int .i64 0, .string ⟨#[]⟩, .int .i64 0, .int .i64 0, .bool false, .bool false, .int .i64 0, .int .i64 0, .bool false, .bool false, .int .i64 0, .slice none 0 0] g gk pa pl pc qa ql W) → (?KeyB : World → Nat → Nat → Hd → Option Addr → Nat → Nat → Option Addr → Nat → Nat → Int → Prop) W N5 N7 g pa pl pc qa ql qc er) => ?kways) ?kstores
        case kways =>
          refine wpAnyH_ready (rs := [5, 11, 12]) (by kernel_rfl) (by simp) ?_
          refine AllReadyH.cons (o := { dst := some 53, op := Go.Op.call { callee := Go.Callee.value (Go.Operand.func 33), args := #[Go.Operand.tmp 51, Go.Operand.tmp 52], argTypes := #[60, 29] }, type := 61, pos := "law.go:282", after := #[{ on := 3, ground := Go.Ground.data }, { on := 4, ground := Go.Ground.data }], guard := none }) rfl (fun K hK => ?_) ?_
          · refine wanted_wp (by rfl) ?_
            go_simp
            go_at_call 33
            with_reducible refine (CC.out _ hS1).mono ?_
            rintro e w' ⟨g, gk, pa, qa, pl, pc, ql, qc, er, F, rfl, bq, bw, hfr, hx, hnd⟩
            refine hK.out _ _ bw (fun hS1 => ?_)
            clear hK K
            try simp only [Act.put, List.setIfInBounds_toArray, List.set_cons_zero, List.set_cons_succ]
            refine wpAnyH_take (i := 6) (oi := { dst := some 47, op := Go.Op.move (Go.Operand.tmp 53), type := 61, pos := "law.go:282", after := #[{ on := 5, ground := Go.Ground.data }], guard := none }) (v := (.tuple #[.agg #[.int .i64 g.kind, .int .i64 g.op, .int .i64 g.num, .string ⟨g.text.toArray⟩, .int .i64 g.ref.row, .int .i64 g.ref.col, .bool g.ref.pr, .bool g.ref.pc, .int .i64 g.to.row, .int .i64 g.to.col, .bool g.to.pr, .bool g.to.pc, .int .i64 g.fn, .slice pa pl pc], .int .i64 er, .agg #[.int .i64 g.kind, .int .i64 g.op, .int .i64 g.num, .string ⟨g.text.toArray⟩, .int .i64 g.ref.row, .int .i64 g.ref.col, .bool g.ref.pr, .bool g.ref.pc, .int .i64 g.to.row, .int .i64 g.to.col, .bool g.to.pr, .bool g.to.pc, .int .i64 g.fn, .slice qa ql qc], .int .i64 er])) rfl (by kernel_rfl) (by kernel_rfl) (by kernel_rfl) (fun _ _ _ h => h) (Or.inl ⟨by rfl, fun W hW => by first | (go_simp; done) | (go_simp; with_reducible rfl)⟩) hS1 ?_
            try simp only [Act.put, List.setIfInBounds_toArray, List.set_cons_zero, List.set_cons_succ]
            refine wpAnyH_take (i := 7) (oi := { dst := some 54, op := Go.Op.extract (Go.Operand.tmp 47) 0, type := 29, pos := "law.go:282", after := #[{ on := 6, ground := Go.Ground.data }], guard := none }) (v := (.agg #[.int .i64 g.kind, .int .i64 g.op, .int .i64 g.num, .string ⟨g.text.toArray⟩, .int .i64 g.ref.row, .int .i64 g.ref.col, .bool g.ref.pr, .bool g.ref.pc, .int .i64 g.to.row, .int .i64 g.to.col, .bool g.to.pr, .bool g.to.pc, .int .i64 g.fn, .slice pa pl pc])) rfl (by kernel_rfl) (by kernel_rfl) (by kernel_rfl) (fun _ _ _ h => h) (Or.inl ⟨by rfl, fun W hW => by first | (go_simp; done) | (go_simp; with_reducible rfl)⟩) hS1 ?_
            try simp only [Act.put, List.setIfInBounds_toArray, List.set_cons_zero, List.set_cons_succ]
            refine wpAnyH_take (i := 8) (oi := { dst := some 55, op := Go.Op.extract (Go.Operand.tmp 47) 1, type := 38, pos := "law.go:282", after := #[{ on := 6, ground := Go.Ground.data }, { on := 13, ground := Go.Ground.gcOnly Go.Departure.lateStores }], guard := none }) (v := (.int .i64 er)) rfl (by kernel_rfl) (by kernel_rfl) (by kernel_rfl) (fun _ _ _ h => h) (Or.inl ⟨by rfl, fun W hW => by first | (go_simp; done) | (go_simp; with_reducible rfl)⟩) hS1 ?_
            try simp only [Act.put, List.setIfInBounds_toArray, List.set_cons_zero, List.set_cons_succ]
            refine wpAnyH_take (i := 9) (oi := { dst := some 56, op := Go.Op.extract (Go.Operand.tmp 47) 2, type := 29, pos := "law.go:282", after := #[{ on := 6, ground := Go.Ground.data }, { on := 14, ground := Go.Ground.gcOnly Go.Departure.lateStores }], guard := none }) (v := (.agg #[.int .i64 g.kind, .int .i64 g.op, .int .i64 g.num, .string ⟨g.text.toArray⟩, .int .i64 g.ref.row, .int .i64 g.ref.col, .bool g.ref.pr, .bool g.ref.pc, .int .i64 g.to.row, .int .i64 g.to.col, .bool g.to.pr, .bool g.to.pc, .int .i64 g.fn, .slice qa ql qc])) rfl (by kernel_rfl) (by kernel_rfl) (by kernel_rfl) (fun _ _ _ h => h) (Or.inl ⟨by rfl, fun W hW => by first | (go_simp; done) | (go_simp; with_reducible rfl)⟩) hS1 ?_
            try simp only [Act.put, List.setIfInBounds_toArray, List.set_cons_zero, List.set_cons_succ]
            refine wpAnyH_take (i := 10) (oi := { dst := some 57, op := Go.Op.extract (Go.Operand.tmp 47) 3, type := 38, pos := "law.go:282", after := #[{ on := 6, ground := Go.Ground.data }, { on := 15, ground := Go.Ground.gcOnly Go.Departure.lateStores }], guard := none }) (v := (.int .i64 er)) rfl (by kernel_rfl) (by kernel_rfl) (by kernel_rfl) (fun _ _ _ h => h) (Or.inl ⟨by rfl, fun W hW => by first | (go_simp; done) | (go_simp; with_reducible rfl)⟩) hS1 ?_
            try simp only [Act.put, List.setIfInBounds_toArray, List.set_cons_zero, List.set_cons_succ]
            refine wpAnyH_ready (rs := [11, 12]) (by kernel_rfl) (by simp) ?_
            refine AllReadyH.cons (o := { dst := some 9, op := Go.Op.alloc 29, type := 0, pos := "law.go:282", after := #[], guard := none }) rfl (fun K hK => ?_) ?_
            · refine wanted_wp (by rfl) ?_
              go_simp
              refine hK.out _ _ (ext_alloc hS1 _) (fun hS1 => ?_)
              clear hK K
              try simp only [Act.put, List.setIfInBounds_toArray, List.set_cons_zero, List.set_cons_succ]
              refine wpAnyH_ready (rs := [12]) (by kernel_rfl) (by simp) ?_
              refine AllReadyH.cons (o := { dst := some 11, op := Go.Op.alloc 29, type := 0, pos := "law.go:282", after := #[], guard := none }) rfl (fun K hK => ?_) ?_
              · refine wanted_wp (by rfl) ?_
                go_simp
                refine hK.out _ _ (ext_alloc hS1 _) (fun hS1 => ?_)
                clear hK K
                try simp only [Act.put, List.setIfInBounds_toArray, List.set_cons_zero, List.set_cons_succ]
                have a8 : A9 w3 w0.heap.size (w'.heap.size) (w'.heap.size + 1) #[.int .i64 0, .int .i64 0, .int .i64 0, .string ⟨#[]⟩, .int .i64 0, .int .i64 0, .bool false, .bool false, .int .i64 0, .int .i64 0, .bool false, .bool false, .int .i64 0, .slice none 0 0] #[.int .i64 0, .int .i64 0, .int .i64 0, .string ⟨#[]⟩, .int .i64 0, .int .i64 0, .bool false, .bool false, .int .i64 0, .int .i64 0, .bool false, .bool false, .int .i64 0, .slice none 0 0] g gk pa pl pc qa ql ((w'.alloc (.cells #[.int .i64 0, .int .i64 0, .int .i64 0, .string ⟨#[]⟩, .int .i64 0, .int .i64 0, .bool false, .bool false, .int .i64 0, .int .i64 0, .bool false, .bool false, .int .i64 0, .slice none 0 0] 29)).alloc (.cells #[.int .i64 0, .int .i64 0, .int .i64 0, .string ⟨#[]⟩, .int .i64 0, .int .i64 0, .bool false, .bool false, .int .i64 0, .int .i64 0, .bool false, .bool false, .int .i64 0, .slice none 0 0] 29)) := A9.of (W1 := w3.drew) hfr hx hnd hw03 (by simp <;> omega) hS1 bw.size (fun b hb => (Below.heap_alloc _ _ _ (by simp; omega)).trans (Below.heap_alloc _ _ _ hb)) (by simp; omega) ⟨by have := bw.size; omega, .inr (by omega)⟩ ⟨by have := bw.size; omega, .inr (by omega)⟩ (by omega) (heap_alloc2_old w' (.cells #[.int .i64 0, .int .i64 0, .int .i64 0, .string ⟨#[]⟩, .int .i64 0, .int .i64 0, .bool false, .bool false, .int .i64 0, .int .i64 0, .bool false, .bool false, .int .i64 0, .slice none 0 0] 29) (.cells #[.int .i64 0, .int .i64 0, .int .i64 0, .string ⟨#[]⟩, .int .i64 0, .int .i64 0, .bool false, .bool false, .int .i64 0, .int .i64 0, .bool false, .bool false, .int .i64 0, .slice none 0 0] 29)) (heap_alloc2_new w' (.cells #[.int .i64 0, .int .i64 0, .int .i64 0, .string ⟨#[]⟩, .int .i64 0, .int .i64 0, .bool false, .bool false, .int .i64 0, .int .i64 0, .bool false, .bool false, .int .i64 0, .slice none 0 0] 29) (.cells #[.int .i64 0, .int .i64 0, .int .i64 0, .string ⟨#[]⟩, .int .i64 0, .int .i64 0, .bool false, .bool false, .int .i64 0, .int .i64 0, .bool false, .bool false, .int .i64 0, .slice none 0 0] 29))
                refine wpAnyH_listed (f' := 4) (l' := #[true, true, true, true, true, true, true, true, true, true, true, true, true, false, false, false, false]) (by kernel_rfl) (by kernel_rfl) ?_
                generalize ((w'.alloc (.cells #[.int .i64 0, .int .i64 0, .int .i64 0, .string ⟨#[]⟩, .int .i64 0, .int .i64 0, .bool false, .bool false, .int .i64 0, .int .i64 0, .bool false, .bool false, .int .i64 0, .slice none 0 0] 29)).alloc (.cells #[.int .i64 0, .int .i64 0, .int .i64 0, .string ⟨#[]⟩, .int .i64 0, .int .i64 0, .bool false, .bool false, .int .i64 0, .int .i64 0, .bool false, .bool false, .int .i64 0, .slice none 0 0] 29)) = w9 at a8 ⊢
                generalize hN7 : w'.heap.size + 1 = N7 at a8 ⊢
                generalize hN5 : w'.heap.size = N5 at a8 ⊢
                exact keyB w9 N5 N7 g pa pl pc qa ql qc er ⟨gk, a8⟩
              exact AllReadyH.nil
            refine AllReadyH.cons (o := { dst := some 11, op := Go.Op.alloc 29, type := 0, pos := "law.go:282", after := #[], guard := none }) rfl (fun K hK => ?_) ?_
            · refine wanted_wp (by rfl) ?_
              go_simp
              refine hK.out _ _ (ext_alloc hS1 _) (fun hS1 => ?_)
              clear hK K
              try simp only [Act.put, List.setIfInBounds_toArray, List.set_cons_zero, List.set_cons_succ]
              refine wpAnyH_ready (rs := [11]) (by kernel_rfl) (by simp) ?_
              refine AllReadyH.cons (o := { dst := some 9, op := Go.Op.alloc 29, type := 0, pos := "law.go:282", after := #[], guard := none }) rfl (fun K hK => ?_) ?_
              · refine wanted_wp (by rfl) ?_
                go_simp
                refine hK.out _ _ (ext_alloc hS1 _) (fun hS1 => ?_)
                clear hK K
                try simp only [Act.put, List.setIfInBounds_toArray, List.set_cons_zero, List.set_cons_succ]
                have a8 : A9 w3 w0.heap.size (w'.heap.size + 1) (w'.heap.size) #[.int .i64 0, .int .i64 0, .int .i64 0, .string ⟨#[]⟩, .int .i64 0, .int .i64 0, .bool false, .bool false, .int .i64 0, .int .i64 0, .bool false, .bool false, .int .i64 0, .slice none 0 0] #[.int .i64 0, .int .i64 0, .int .i64 0, .string ⟨#[]⟩, .int .i64 0, .int .i64 0, .bool false, .bool false, .int .i64 0, .int .i64 0, .bool false, .bool false, .int .i64 0, .slice none 0 0] g gk pa pl pc qa ql ((w'.alloc (.cells #[.int .i64 0, .int .i64 0, .int .i64 0, .string ⟨#[]⟩, .int .i64 0, .int .i64 0, .bool false, .bool false, .int .i64 0, .int .i64 0, .bool false, .bool false, .int .i64 0, .slice none 0 0] 29)).alloc (.cells #[.int .i64 0, .int .i64 0, .int .i64 0, .string ⟨#[]⟩, .int .i64 0, .int .i64 0, .bool false, .bool false, .int .i64 0, .int .i64 0, .bool false, .bool false, .int .i64 0, .slice none 0 0] 29)) := A9.of (W1 := w3.drew) hfr hx hnd hw03 (by simp <;> omega) hS1 bw.size (fun b hb => (Below.heap_alloc _ _ _ (by simp; omega)).trans (Below.heap_alloc _ _ _ hb)) (by simp; omega) ⟨by have := bw.size; omega, .inr (by omega)⟩ ⟨by have := bw.size; omega, .inr (by omega)⟩ (by omega) (heap_alloc2_new w' (.cells #[.int .i64 0, .int .i64 0, .int .i64 0, .string ⟨#[]⟩, .int .i64 0, .int .i64 0, .bool false, .bool false, .int .i64 0, .int .i64 0, .bool false, .bool false, .int .i64 0, .slice none 0 0] 29) (.cells #[.int .i64 0, .int .i64 0, .int .i64 0, .string ⟨#[]⟩, .int .i64 0, .int .i64 0, .bool false, .bool false, .int .i64 0, .int .i64 0, .bool false, .bool false, .int .i64 0, .slice none 0 0] 29)) (heap_alloc2_old w' (.cells #[.int .i64 0, .int .i64 0, .int .i64 0, .string ⟨#[]⟩, .int .i64 0, .int .i64 0, .bool false, .bool false, .int .i64 0, .int .i64 0, .bool false, .bool false, .int .i64 0, .slice none 0 0] 29) (.cells #[.int .i64 0, .int .i64 0, .int .i64 0, .string ⟨#[]⟩, .int .i64 0, .int .i64 0, .bool false, .bool false, .int .i64 0, .int .i64 0, .bool false, .bool false, .int .i64 0, .slice none 0 0] 29))
                refine wpAnyH_listed (f' := 4) (l' := #[true, true, true, true, true, true, true, true, true, true, true, true, true, false, false, false, false]) (by kernel_rfl) (by kernel_rfl) ?_
                exact keyB ((w'.alloc (.cells #[.int .i64 0, .int .i64 0, .int .i64 0, .string ⟨#[]⟩, .int .i64 0, .int .i64 0, .bool false, .bool false, .int .i64 0, .int .i64 0, .bool false, .bool false, .int .i64 0, .slice none 0 0] 29)).alloc (.cells #[.int .i64 0, .int .i64 0, .int .i64 0, .string ⟨#[]⟩, .int .i64 0, .int .i64 0, .bool false, .bool false, .int .i64 0, .int .i64 0, .bool false, .bool false, .int .i64 0, .slice none 0 0] 29)) (w'.heap.size + 1) (w'.heap.size) g pa pl pc qa ql qc er ⟨gk, a8⟩
              exact AllReadyH.nil
            exact AllReadyH.nil
          refine AllReadyH.cons (o := { dst := some 9, op := Go.Op.alloc 29, type := 0, pos := "law.go:282", after := #[], guard := none }) rfl (fun K hK => ?_) ?_
          · refine wanted_wp (by rfl) ?_
            go_simp
            refine hK.out _ _ (ext_alloc hS1 _) (fun hS1 => ?_)
            clear hK K
            try simp only [Act.put, List.setIfInBounds_toArray, List.set_cons_zero, List.set_cons_succ]
            refine wpAnyH_ready (rs := [5, 12]) (by kernel_rfl) (by simp) ?_
            refine AllReadyH.cons (o := { dst := some 53, op := Go.Op.call { callee := Go.Callee.value (Go.Operand.func 33), args := #[Go.Operand.tmp 51, Go.Operand.tmp 52], argTypes := #[60, 29] }, type := 61, pos := "law.go:282", after := #[{ on := 3, ground := Go.Ground.data }, { on := 4, ground := Go.Ground.data }], guard := none }) rfl (fun K hK => ?_) ?_
            · refine wanted_wp (by rfl) ?_
              go_simp
              go_at_call 33
              with_reducible refine (CC.out _ hS1).mono ?_
              rintro e w' ⟨g, gk, pa, qa, pl, pc, ql, qc, er, F, rfl, bq, bw, hfr, hx, hnd⟩
              refine hK.out _ _ bw (fun hS1 => ?_)
              clear hK K
              try simp only [Act.put, List.setIfInBounds_toArray, List.set_cons_zero, List.set_cons_succ]
              refine wpAnyH_take (i := 6) (oi := { dst := some 47, op := Go.Op.move (Go.Operand.tmp 53), type := 61, pos := "law.go:282", after := #[{ on := 5, ground := Go.Ground.data }], guard := none }) (v := (.tuple #[.agg #[.int .i64 g.kind, .int .i64 g.op, .int .i64 g.num, .string ⟨g.text.toArray⟩, .int .i64 g.ref.row, .int .i64 g.ref.col, .bool g.ref.pr, .bool g.ref.pc, .int .i64 g.to.row, .int .i64 g.to.col, .bool g.to.pr, .bool g.to.pc, .int .i64 g.fn, .slice pa pl pc], .int .i64 er, .agg #[.int .i64 g.kind, .int .i64 g.op, .int .i64 g.num, .string ⟨g.text.toArray⟩, .int .i64 g.ref.row, .int .i64 g.ref.col, .bool g.ref.pr, .bool g.ref.pc, .int .i64 g.to.row, .int .i64 g.to.col, .bool g.to.pr, .bool g.to.pc, .int .i64 g.fn, .slice qa ql qc], .int .i64 er])) rfl (by kernel_rfl) (by kernel_rfl) (by kernel_rfl) (fun _ _ _ h => h) (Or.inl ⟨by rfl, fun W hW => by first | (go_simp; done) | (go_simp; with_reducible rfl)⟩) hS1 ?_
              try simp only [Act.put, List.setIfInBounds_toArray, List.set_cons_zero, List.set_cons_succ]
              refine wpAnyH_take (i := 7) (oi := { dst := some 54, op := Go.Op.extract (Go.Operand.tmp 47) 0, type := 29, pos := "law.go:282", after := #[{ on := 6, ground := Go.Ground.data }], guard := none }) (v := (.agg #[.int .i64 g.kind, .int .i64 g.op, .int .i64 g.num, .string ⟨g.text.toArray⟩, .int .i64 g.ref.row, .int .i64 g.ref.col, .bool g.ref.pr, .bool g.ref.pc, .int .i64 g.to.row, .int .i64 g.to.col, .bool g.to.pr, .bool g.to.pc, .int .i64 g.fn, .slice pa pl pc])) rfl (by kernel_rfl) (by kernel_rfl) (by kernel_rfl) (fun _ _ _ h => h) (Or.inl ⟨by rfl, fun W hW => by first | (go_simp; done) | (go_simp; with_reducible rfl)⟩) hS1 ?_
              try simp only [Act.put, List.setIfInBounds_toArray, List.set_cons_zero, List.set_cons_succ]
              refine wpAnyH_take (i := 8) (oi := { dst := some 55, op := Go.Op.extract (Go.Operand.tmp 47) 1, type := 38, pos := "law.go:282", after := #[{ on := 6, ground := Go.Ground.data }, { on := 13, ground := Go.Ground.gcOnly Go.Departure.lateStores }], guard := none }) (v := (.int .i64 er)) rfl (by kernel_rfl) (by kernel_rfl) (by kernel_rfl) (fun _ _ _ h => h) (Or.inl ⟨by rfl, fun W hW => by first | (go_simp; done) | (go_simp; with_reducible rfl)⟩) hS1 ?_
              try simp only [Act.put, List.setIfInBounds_toArray, List.set_cons_zero, List.set_cons_succ]
              refine wpAnyH_take (i := 9) (oi := { dst := some 56, op := Go.Op.extract (Go.Operand.tmp 47) 2, type := 29, pos := "law.go:282", after := #[{ on := 6, ground := Go.Ground.data }, { on := 14, ground := Go.Ground.gcOnly Go.Departure.lateStores }], guard := none }) (v := (.agg #[.int .i64 g.kind, .int .i64 g.op, .int .i64 g.num, .string ⟨g.text.toArray⟩, .int .i64 g.ref.row, .int .i64 g.ref.col, .bool g.ref.pr, .bool g.ref.pc, .int .i64 g.to.row, .int .i64 g.to.col, .bool g.to.pr, .bool g.to.pc, .int .i64 g.fn, .slice qa ql qc])) rfl (by kernel_rfl) (by kernel_rfl) (by kernel_rfl) (fun _ _ _ h => h) (Or.inl ⟨by rfl, fun W hW => by first | (go_simp; done) | (go_simp; with_reducible rfl)⟩) hS1 ?_
              try simp only [Act.put, List.setIfInBounds_toArray, List.set_cons_zero, List.set_cons_succ]
              refine wpAnyH_take (i := 10) (oi := { dst := some 57, op := Go.Op.extract (Go.Operand.tmp 47) 3, type := 38, pos := "law.go:282", after := #[{ on := 6, ground := Go.Ground.data }, { on := 15, ground := Go.Ground.gcOnly Go.Departure.lateStores }], guard := none }) (v := (.int .i64 er)) rfl (by kernel_rfl) (by kernel_rfl) (by kernel_rfl) (fun _ _ _ h => h) (Or.inl ⟨by rfl, fun W hW => by first | (go_simp; done) | (go_simp; with_reducible rfl)⟩) hS1 ?_
              try simp only [Act.put, List.setIfInBounds_toArray, List.set_cons_zero, List.set_cons_succ]
              refine wpAnyH_ready (rs := [12]) (by kernel_rfl) (by simp) ?_
              refine AllReadyH.cons (o := { dst := some 11, op := Go.Op.alloc 29, type := 0, pos := "law.go:282", after := #[], guard := none }) rfl (fun K hK => ?_) ?_
              · refine wanted_wp (by rfl) ?_
                go_simp
                refine hK.out _ _ (ext_alloc hS1 _) (fun hS1 => ?_)
                clear hK K
                try simp only [Act.put, List.setIfInBounds_toArray, List.set_cons_zero, List.set_cons_succ]
                have a8 : A9 w3 w0.heap.size (w3.heap.size) (w'.heap.size) #[.int .i64 0, .int .i64 0, .int .i64 0, .string ⟨#[]⟩, .int .i64 0, .int .i64 0, .bool false, .bool false, .int .i64 0, .int .i64 0, .bool false, .bool false, .int .i64 0, .slice none 0 0] #[.int .i64 0, .int .i64 0, .int .i64 0, .string ⟨#[]⟩, .int .i64 0, .int .i64 0, .bool false, .bool false, .int .i64 0, .int .i64 0, .bool false, .bool false, .int .i64 0, .slice none 0 0] g gk pa pl pc qa ql (w'.alloc (.cells #[.int .i64 0, .int .i64 0, .int .i64 0, .string ⟨#[]⟩, .int .i64 0, .int .i64 0, .bool false, .bool false, .int .i64 0, .int .i64 0, .bool false, .bool false, .int .i64 0, .slice none 0 0] 29)) := A9.of (W1 := (w3.alloc (.cells #[.int .i64 0, .int .i64 0, .int .i64 0, .string ⟨#[]⟩, .int .i64 0, .int .i64 0, .bool false, .bool false, .int .i64 0, .int .i64 0, .bool false, .bool false, .int .i64 0, .slice none 0 0] 29)).drew) hfr hx hnd hw03 (by simp <;> omega) hS1 bw.size (fun b hb => Below.heap_alloc _ _ _ hb) (by simp) ⟨Nat.le_refl _, .inl (by simp)⟩ ⟨by have := bw.size; omega, .inr (by omega)⟩ (by have := bq.size; simp at this; omega) ((Below.heap_alloc w' _ _ (lt_of_block (kept_new bq))).trans (kept_new bq)) (heap_alloc_new w' (.cells #[.int .i64 0, .int .i64 0, .int .i64 0, .string ⟨#[]⟩, .int .i64 0, .int .i64 0, .bool false, .bool false, .int .i64 0, .int .i64 0, .bool false, .bool false, .int .i64 0, .slice none 0 0] 29))
                refine wpAnyH_listed (f' := 4) (l' := #[true, true, true, true, true, true, true, true, true, true, true, true, true, false, false, false, false]) (by kernel_rfl) (by kernel_rfl) ?_
                exact keyB (w'.alloc (.cells #[.int .i64 0, .int .i64 0, .int .i64 0, .string ⟨#[]⟩, .int .i64 0, .int .i64 0, .bool false, .bool false, .int .i64 0, .int .i64 0, .bool false, .bool false, .int .i64 0, .slice none 0 0] 29)) (w3.heap.size) (w'.heap.size) g pa pl pc qa ql qc er ⟨gk, a8⟩
              exact AllReadyH.nil
            refine AllReadyH.cons (o := { dst := some 11, op := Go.Op.alloc 29, type := 0, pos := "law.go:282", after := #[], guard := none }) rfl (fun K hK => ?_) ?_
            · refine wanted_wp (by rfl) ?_
              go_simp
              refine hK.out _ _ (ext_alloc hS1 _) (fun hS1 => ?_)
              clear hK K
              try simp only [Act.put, List.setIfInBounds_toArray, List.set_cons_zero, List.set_cons_succ]
              refine wpAnyH_ready (rs := [5]) (by kernel_rfl) (by simp) ?_
              refine AllReadyH.cons (o := { dst := some 53, op := Go.Op.call { callee := Go.Callee.value (Go.Operand.func 33), args := #[Go.Operand.tmp 51, Go.Operand.tmp 52], argTypes := #[60, 29] }, type := 61, pos := "law.go:282", after := #[{ on := 3, ground := Go.Ground.data }, { on := 4, ground := Go.Ground.data }], guard := none }) rfl (fun K hK => ?_) ?_
              · refine wanted_wp (by rfl) ?_
                go_simp
                go_at_call 33
                with_reducible refine (CC.out _ hS1).mono ?_
                rintro e w' ⟨g, gk, pa, qa, pl, pc, ql, qc, er, F, rfl, bq, bw, hfr, hx, hnd⟩
                refine hK.out _ _ bw (fun hS1 => ?_)
                clear hK K
                try simp only [Act.put, List.setIfInBounds_toArray, List.set_cons_zero, List.set_cons_succ]
                refine wpAnyH_take (i := 6) (oi := { dst := some 47, op := Go.Op.move (Go.Operand.tmp 53), type := 61, pos := "law.go:282", after := #[{ on := 5, ground := Go.Ground.data }], guard := none }) (v := (.tuple #[.agg #[.int .i64 g.kind, .int .i64 g.op, .int .i64 g.num, .string ⟨g.text.toArray⟩, .int .i64 g.ref.row, .int .i64 g.ref.col, .bool g.ref.pr, .bool g.ref.pc, .int .i64 g.to.row, .int .i64 g.to.col, .bool g.to.pr, .bool g.to.pc, .int .i64 g.fn, .slice pa pl pc], .int .i64 er, .agg #[.int .i64 g.kind, .int .i64 g.op, .int .i64 g.num, .string ⟨g.text.toArray⟩, .int .i64 g.ref.row, .int .i64 g.ref.col, .bool g.ref.pr, .bool g.ref.pc, .int .i64 g.to.row, .int .i64 g.to.col, .bool g.to.pr, .bool g.to.pc, .int .i64 g.fn, .slice qa ql qc], .int .i64 er])) rfl (by kernel_rfl) (by kernel_rfl) (by kernel_rfl) (fun _ _ _ h => h) (Or.inl ⟨by rfl, fun W hW => by first | (go_simp; done) | (go_simp; with_reducible rfl)⟩) hS1 ?_
                try simp only [Act.put, List.setIfInBounds_toArray, List.set_cons_zero, List.set_cons_succ]
                refine wpAnyH_take (i := 7) (oi := { dst := some 54, op := Go.Op.extract (Go.Operand.tmp 47) 0, type := 29, pos := "law.go:282", after := #[{ on := 6, ground := Go.Ground.data }], guard := none }) (v := (.agg #[.int .i64 g.kind, .int .i64 g.op, .int .i64 g.num, .string ⟨g.text.toArray⟩, .int .i64 g.ref.row, .int .i64 g.ref.col, .bool g.ref.pr, .bool g.ref.pc, .int .i64 g.to.row, .int .i64 g.to.col, .bool g.to.pr, .bool g.to.pc, .int .i64 g.fn, .slice pa pl pc])) rfl (by kernel_rfl) (by kernel_rfl) (by kernel_rfl) (fun _ _ _ h => h) (Or.inl ⟨by rfl, fun W hW => by first | (go_simp; done) | (go_simp; with_reducible rfl)⟩) hS1 ?_
                try simp only [Act.put, List.setIfInBounds_toArray, List.set_cons_zero, List.set_cons_succ]
                refine wpAnyH_take (i := 8) (oi := { dst := some 55, op := Go.Op.extract (Go.Operand.tmp 47) 1, type := 38, pos := "law.go:282", after := #[{ on := 6, ground := Go.Ground.data }, { on := 13, ground := Go.Ground.gcOnly Go.Departure.lateStores }], guard := none }) (v := (.int .i64 er)) rfl (by kernel_rfl) (by kernel_rfl) (by kernel_rfl) (fun _ _ _ h => h) (Or.inl ⟨by rfl, fun W hW => by first | (go_simp; done) | (go_simp; with_reducible rfl)⟩) hS1 ?_
                try simp only [Act.put, List.setIfInBounds_toArray, List.set_cons_zero, List.set_cons_succ]
                refine wpAnyH_take (i := 9) (oi := { dst := some 56, op := Go.Op.extract (Go.Operand.tmp 47) 2, type := 29, pos := "law.go:282", after := #[{ on := 6, ground := Go.Ground.data }, { on := 14, ground := Go.Ground.gcOnly Go.Departure.lateStores }], guard := none }) (v := (.agg #[.int .i64 g.kind, .int .i64 g.op, .int .i64 g.num, .string ⟨g.text.toArray⟩, .int .i64 g.ref.row, .int .i64 g.ref.col, .bool g.ref.pr, .bool g.ref.pc, .int .i64 g.to.row, .int .i64 g.to.col, .bool g.to.pr, .bool g.to.pc, .int .i64 g.fn, .slice qa ql qc])) rfl (by kernel_rfl) (by kernel_rfl) (by kernel_rfl) (fun _ _ _ h => h) (Or.inl ⟨by rfl, fun W hW => by first | (go_simp; done) | (go_simp; with_reducible rfl)⟩) hS1 ?_
                try simp only [Act.put, List.setIfInBounds_toArray, List.set_cons_zero, List.set_cons_succ]
                refine wpAnyH_take (i := 10) (oi := { dst := some 57, op := Go.Op.extract (Go.Operand.tmp 47) 3, type := 38, pos := "law.go:282", after := #[{ on := 6, ground := Go.Ground.data }, { on := 15, ground := Go.Ground.gcOnly Go.Departure.lateStores }], guard := none }) (v := (.int .i64 er)) rfl (by kernel_rfl) (by kernel_rfl) (by kernel_rfl) (fun _ _ _ h => h) (Or.inl ⟨by rfl, fun W hW => by first | (go_simp; done) | (go_simp; with_reducible rfl)⟩) hS1 ?_
                try simp only [Act.put, List.setIfInBounds_toArray, List.set_cons_zero, List.set_cons_succ]
                have a8 : A9 w3 w0.heap.size (w3.heap.size) (w3.heap.size + 1) #[.int .i64 0, .int .i64 0, .int .i64 0, .string ⟨#[]⟩, .int .i64 0, .int .i64 0, .bool false, .bool false, .int .i64 0, .int .i64 0, .bool false, .bool false, .int .i64 0, .slice none 0 0] #[.int .i64 0, .int .i64 0, .int .i64 0, .string ⟨#[]⟩, .int .i64 0, .int .i64 0, .bool false, .bool false, .int .i64 0, .int .i64 0, .bool false, .bool false, .int .i64 0, .slice none 0 0] g gk pa pl pc qa ql w' := A9.of (W1 := ((w3.alloc (.cells #[.int .i64 0, .int .i64 0, .int .i64 0, .string ⟨#[]⟩, .int .i64 0, .int .i64 0, .bool false, .bool false, .int .i64 0, .int .i64 0, .bool false, .bool false, .int .i64 0, .slice none 0 0] 29)).alloc (.cells #[.int .i64 0, .int .i64 0, .int .i64 0, .string ⟨#[]⟩, .int .i64 0, .int .i64 0, .bool false, .bool false, .int .i64 0, .int .i64 0, .bool false, .bool false, .int .i64 0, .slice none 0 0] 29)).drew) hfr hx hnd hw03 (by simp <;> omega) hS1 bw.size (fun b _ => rfl) (Nat.le_refl _) ⟨Nat.le_refl _, .inl (by simp <;> omega)⟩ ⟨by omega, .inl (by simp)⟩ (by omega) ((kept_new2a bq).1) ((kept_new2a bq).2)
                refine wpAnyH_listed (f' := 4) (l' := #[true, true, true, true, true, true, true, true, true, true, true, true, true, false, false, false, false]) (by kernel_rfl) (by kernel_rfl) ?_
                exact keyB w' (w3.heap.size) (w3.heap.size + 1) g pa pl pc qa ql qc er ⟨gk, a8⟩
              exact AllReadyH.nil
            exact AllReadyH.nil
          refine AllReadyH.cons (o := { dst := some 11, op := Go.Op.alloc 29, type := 0, pos := "law.go:282", after := #[], guard := none }) rfl (fun K hK => ?_) ?_
          · refine wanted_wp (by rfl) ?_
            go_simp
            refine hK.out _ _ (ext_alloc hS1 _) (fun hS1 => ?_)
            clear hK K
            try simp only [Act.put, List.setIfInBounds_toArray, List.set_cons_zero, List.set_cons_succ]
            refine wpAnyH_ready (rs := [5, 11]) (by kernel_rfl) (by simp) ?_
            refine AllReadyH.cons (o := { dst := some 53, op := Go.Op.call { callee := Go.Callee.value (Go.Operand.func 33), args := #[Go.Operand.tmp 51, Go.Operand.tmp 52], argTypes := #[60, 29] }, type := 61, pos := "law.go:282", after := #[{ on := 3, ground := Go.Ground.data }, { on := 4, ground := Go.Ground.data }], guard := none }) rfl (fun K hK => ?_) ?_
            · refine wanted_wp (by rfl) ?_
              go_simp
              go_at_call 33
              with_reducible refine (CC.out _ hS1).mono ?_
              rintro e w' ⟨g, gk, pa, qa, pl, pc, ql, qc, er, F, rfl, bq, bw, hfr, hx, hnd⟩
              refine hK.out _ _ bw (fun hS1 => ?_)
              clear hK K
              try simp only [Act.put, List.setIfInBounds_toArray, List.set_cons_zero, List.set_cons_succ]
              refine wpAnyH_take (i := 6) (oi := { dst := some 47, op := Go.Op.move (Go.Operand.tmp 53), type := 61, pos := "law.go:282", after := #[{ on := 5, ground := Go.Ground.data }], guard := none }) (v := (.tuple #[.agg #[.int .i64 g.kind, .int .i64 g.op, .int .i64 g.num, .string ⟨g.text.toArray⟩, .int .i64 g.ref.row, .int .i64 g.ref.col, .bool g.ref.pr, .bool g.ref.pc, .int .i64 g.to.row, .int .i64 g.to.col, .bool g.to.pr, .bool g.to.pc, .int .i64 g.fn, .slice pa pl pc], .int .i64 er, .agg #[.int .i64 g.kind, .int .i64 g.op, .int .i64 g.num, .string ⟨g.text.toArray⟩, .int .i64 g.ref.row, .int .i64 g.ref.col, .bool g.ref.pr, .bool g.ref.pc, .int .i64 g.to.row, .int .i64 g.to.col, .bool g.to.pr, .bool g.to.pc, .int .i64 g.fn, .slice qa ql qc], .int .i64 er])) rfl (by kernel_rfl) (by kernel_rfl) (by kernel_rfl) (fun _ _ _ h => h) (Or.inl ⟨by rfl, fun W hW => by first | (go_simp; done) | (go_simp; with_reducible rfl)⟩) hS1 ?_
              try simp only [Act.put, List.setIfInBounds_toArray, List.set_cons_zero, List.set_cons_succ]
              refine wpAnyH_take (i := 7) (oi := { dst := some 54, op := Go.Op.extract (Go.Operand.tmp 47) 0, type := 29, pos := "law.go:282", after := #[{ on := 6, ground := Go.Ground.data }], guard := none }) (v := (.agg #[.int .i64 g.kind, .int .i64 g.op, .int .i64 g.num, .string ⟨g.text.toArray⟩, .int .i64 g.ref.row, .int .i64 g.ref.col, .bool g.ref.pr, .bool g.ref.pc, .int .i64 g.to.row, .int .i64 g.to.col, .bool g.to.pr, .bool g.to.pc, .int .i64 g.fn, .slice pa pl pc])) rfl (by kernel_rfl) (by kernel_rfl) (by kernel_rfl) (fun _ _ _ h => h) (Or.inl ⟨by rfl, fun W hW => by first | (go_simp; done) | (go_simp; with_reducible rfl)⟩) hS1 ?_
              try simp only [Act.put, List.setIfInBounds_toArray, List.set_cons_zero, List.set_cons_succ]
              refine wpAnyH_take (i := 8) (oi := { dst := some 55, op := Go.Op.extract (Go.Operand.tmp 47) 1, type := 38, pos := "law.go:282", after := #[{ on := 6, ground := Go.Ground.data }, { on := 13, ground := Go.Ground.gcOnly Go.Departure.lateStores }], guard := none }) (v := (.int .i64 er)) rfl (by kernel_rfl) (by kernel_rfl) (by kernel_rfl) (fun _ _ _ h => h) (Or.inl ⟨by rfl, fun W hW => by first | (go_simp; done) | (go_simp; with_reducible rfl)⟩) hS1 ?_
              try simp only [Act.put, List.setIfInBounds_toArray, List.set_cons_zero, List.set_cons_succ]
              refine wpAnyH_take (i := 9) (oi := { dst := some 56, op := Go.Op.extract (Go.Operand.tmp 47) 2, type := 29, pos := "law.go:282", after := #[{ on := 6, ground := Go.Ground.data }, { on := 14, ground := Go.Ground.gcOnly Go.Departure.lateStores }], guard := none }) (v := (.agg #[.int .i64 g.kind, .int .i64 g.op, .int .i64 g.num, .string ⟨g.text.toArray⟩, .int .i64 g.ref.row, .int .i64 g.ref.col, .bool g.ref.pr, .bool g.ref.pc, .int .i64 g.to.row, .int .i64 g.to.col, .bool g.to.pr, .bool g.to.pc, .int .i64 g.fn, .slice qa ql qc])) rfl (by kernel_rfl) (by kernel_rfl) (by kernel_rfl) (fun _ _ _ h => h) (Or.inl ⟨by rfl, fun W hW => by first | (go_simp; done) | (go_simp; with_reducible rfl)⟩) hS1 ?_
              try simp only [Act.put, List.setIfInBounds_toArray, List.set_cons_zero, List.set_cons_succ]
              refine wpAnyH_take (i := 10) (oi := { dst := some 57, op := Go.Op.extract (Go.Operand.tmp 47) 3, type := 38, pos := "law.go:282", after := #[{ on := 6, ground := Go.Ground.data }, { on := 15, ground := Go.Ground.gcOnly Go.Departure.lateStores }], guard := none }) (v := (.int .i64 er)) rfl (by kernel_rfl) (by kernel_rfl) (by kernel_rfl) (fun _ _ _ h => h) (Or.inl ⟨by rfl, fun W hW => by first | (go_simp; done) | (go_simp; with_reducible rfl)⟩) hS1 ?_
              try simp only [Act.put, List.setIfInBounds_toArray, List.set_cons_zero, List.set_cons_succ]
              refine wpAnyH_ready (rs := [11]) (by kernel_rfl) (by simp) ?_
              refine AllReadyH.cons (o := { dst := some 9, op := Go.Op.alloc 29, type := 0, pos := "law.go:282", after := #[], guard := none }) rfl (fun K hK => ?_) ?_
              · refine wanted_wp (by rfl) ?_
                go_simp
                refine hK.out _ _ (ext_alloc hS1 _) (fun hS1 => ?_)
                clear hK K
                try simp only [Act.put, List.setIfInBounds_toArray, List.set_cons_zero, List.set_cons_succ]
                have a8 : A9 w3 w0.heap.size (w'.heap.size) (w3.heap.size) #[.int .i64 0, .int .i64 0, .int .i64 0, .string ⟨#[]⟩, .int .i64 0, .int .i64 0, .bool false, .bool false, .int .i64 0, .int .i64 0, .bool false, .bool false, .int .i64 0, .slice none 0 0] #[.int .i64 0, .int .i64 0, .int .i64 0, .string ⟨#[]⟩, .int .i64 0, .int .i64 0, .bool false, .bool false, .int .i64 0, .int .i64 0, .bool false, .bool false, .int .i64 0, .slice none 0 0] g gk pa pl pc qa ql (w'.alloc (.cells #[.int .i64 0, .int .i64 0, .int .i64 0, .string ⟨#[]⟩, .int .i64 0, .int .i64 0, .bool false, .bool false, .int .i64 0, .int .i64 0, .bool false, .bool false, .int .i64 0, .slice none 0 0] 29)) := A9.of (W1 := (w3.alloc (.cells #[.int .i64 0, .int .i64 0, .int .i64 0, .string ⟨#[]⟩, .int .i64 0, .int .i64 0, .bool false, .bool false, .int .i64 0, .int .i64 0, .bool false, .bool false, .int .i64 0, .slice none 0 0] 29)).drew) hfr hx hnd hw03 (by simp <;> omega) hS1 bw.size (fun b hb => Below.heap_alloc _ _ _ hb) (by simp) ⟨by have := bw.size; omega, .inr (by omega)⟩ ⟨Nat.le_refl _, .inl (by simp)⟩ (by have := bq.size; simp at this; omega) (heap_alloc_new w' (.cells #[.int .i64 0, .int .i64 0, .int .i64 0, .string ⟨#[]⟩, .int .i64 0, .int .i64 0, .bool false, .bool false, .int .i64 0, .int .i64 0, .bool false, .bool false, .int .i64 0, .slice none 0 0] 29)) ((Below.heap_alloc w' _ _ (lt_of_block (kept_new bq))).trans (kept_new bq))
                refine wpAnyH_listed (f' := 4) (l' := #[true, true, true, true, true, true, true, true, true, true, true, true, true, false, false, false, false]) (by kernel_rfl) (by kernel_rfl) ?_
                exact keyB (w'.alloc (.cells #[.int .i64 0, .int .i64 0, .int .i64 0, .string ⟨#[]⟩, .int .i64 0, .int .i64 0, .bool false, .bool false, .int .i64 0, .int .i64 0, .bool false, .bool false, .int .i64 0, .slice none 0 0] 29)) (w'.heap.size) (w3.heap.size) g pa pl pc qa ql qc er ⟨gk, a8⟩
              exact AllReadyH.nil
            refine AllReadyH.cons (o := { dst := some 9, op := Go.Op.alloc 29, type := 0, pos := "law.go:282", after := #[], guard := none }) rfl (fun K hK => ?_) ?_
            · refine wanted_wp (by rfl) ?_
              go_simp
              refine hK.out _ _ (ext_alloc hS1 _) (fun hS1 => ?_)
              clear hK K
              try simp only [Act.put, List.setIfInBounds_toArray, List.set_cons_zero, List.set_cons_succ]
              refine wpAnyH_ready (rs := [5]) (by kernel_rfl) (by simp) ?_
              refine AllReadyH.cons (o := { dst := some 53, op := Go.Op.call { callee := Go.Callee.value (Go.Operand.func 33), args := #[Go.Operand.tmp 51, Go.Operand.tmp 52], argTypes := #[60, 29] }, type := 61, pos := "law.go:282", after := #[{ on := 3, ground := Go.Ground.data }, { on := 4, ground := Go.Ground.data }], guard := none }) rfl (fun K hK => ?_) ?_
              · refine wanted_wp (by rfl) ?_
                go_simp
                go_at_call 33
                with_reducible refine (CC.out _ hS1).mono ?_
                rintro e w' ⟨g, gk, pa, qa, pl, pc, ql, qc, er, F, rfl, bq, bw, hfr, hx, hnd⟩
                refine hK.out _ _ bw (fun hS1 => ?_)
                clear hK K
                try simp only [Act.put, List.setIfInBounds_toArray, List.set_cons_zero, List.set_cons_succ]
                refine wpAnyH_take (i := 6) (oi := { dst := some 47, op := Go.Op.move (Go.Operand.tmp 53), type := 61, pos := "law.go:282", after := #[{ on := 5, ground := Go.Ground.data }], guard := none }) (v := (.tuple #[.agg #[.int .i64 g.kind, .int .i64 g.op, .int .i64 g.num, .string ⟨g.text.toArray⟩, .int .i64 g.ref.row, .int .i64 g.ref.col, .bool g.ref.pr, .bool g.ref.pc, .int .i64 g.to.row, .int .i64 g.to.col, .bool g.to.pr, .bool g.to.pc, .int .i64 g.fn, .slice pa pl pc], .int .i64 er, .agg #[.int .i64 g.kind, .int .i64 g.op, .int .i64 g.num, .string ⟨g.text.toArray⟩, .int .i64 g.ref.row, .int .i64 g.ref.col, .bool g.ref.pr, .bool g.ref.pc, .int .i64 g.to.row, .int .i64 g.to.col, .bool g.to.pr, .bool g.to.pc, .int .i64 g.fn, .slice qa ql qc], .int .i64 er])) rfl (by kernel_rfl) (by kernel_rfl) (by kernel_rfl) (fun _ _ _ h => h) (Or.inl ⟨by rfl, fun W hW => by first | (go_simp; done) | (go_simp; with_reducible rfl)⟩) hS1 ?_
                try simp only [Act.put, List.setIfInBounds_toArray, List.set_cons_zero, List.set_cons_succ]
                refine wpAnyH_take (i := 7) (oi := { dst := some 54, op := Go.Op.extract (Go.Operand.tmp 47) 0, type := 29, pos := "law.go:282", after := #[{ on := 6, ground := Go.Ground.data }], guard := none }) (v := (.agg #[.int .i64 g.kind, .int .i64 g.op, .int .i64 g.num, .string ⟨g.text.toArray⟩, .int .i64 g.ref.row, .int .i64 g.ref.col, .bool g.ref.pr, .bool g.ref.pc, .int .i64 g.to.row, .int .i64 g.to.col, .bool g.to.pr, .bool g.to.pc, .int .i64 g.fn, .slice pa pl pc])) rfl (by kernel_rfl) (by kernel_rfl) (by kernel_rfl) (fun _ _ _ h => h) (Or.inl ⟨by rfl, fun W hW => by first | (go_simp; done) | (go_simp; with_reducible rfl)⟩) hS1 ?_
                try simp only [Act.put, List.setIfInBounds_toArray, List.set_cons_zero, List.set_cons_succ]
                refine wpAnyH_take (i := 8) (oi := { dst := some 55, op := Go.Op.extract (Go.Operand.tmp 47) 1, type := 38, pos := "law.go:282", after := #[{ on := 6, ground := Go.Ground.data }, { on := 13, ground := Go.Ground.gcOnly Go.Departure.lateStores }], guard := none }) (v := (.int .i64 er)) rfl (by kernel_rfl) (by kernel_rfl) (by kernel_rfl) (fun _ _ _ h => h) (Or.inl ⟨by rfl, fun W hW => by first | (go_simp; done) | (go_simp; with_reducible rfl)⟩) hS1 ?_
                try simp only [Act.put, List.setIfInBounds_toArray, List.set_cons_zero, List.set_cons_succ]
                refine wpAnyH_take (i := 9) (oi := { dst := some 56, op := Go.Op.extract (Go.Operand.tmp 47) 2, type := 29, pos := "law.go:282", after := #[{ on := 6, ground := Go.Ground.data }, { on := 14, ground := Go.Ground.gcOnly Go.Departure.lateStores }], guard := none }) (v := (.agg #[.int .i64 g.kind, .int .i64 g.op, .int .i64 g.num, .string ⟨g.text.toArray⟩, .int .i64 g.ref.row, .int .i64 g.ref.col, .bool g.ref.pr, .bool g.ref.pc, .int .i64 g.to.row, .int .i64 g.to.col, .bool g.to.pr, .bool g.to.pc, .int .i64 g.fn, .slice qa ql qc])) rfl (by kernel_rfl) (by kernel_rfl) (by kernel_rfl) (fun _ _ _ h => h) (Or.inl ⟨by rfl, fun W hW => by first | (go_simp; done) | (go_simp; with_reducible rfl)⟩) hS1 ?_
                try simp only [Act.put, List.setIfInBounds_toArray, List.set_cons_zero, List.set_cons_succ]
                refine wpAnyH_take (i := 10) (oi := { dst := some 57, op := Go.Op.extract (Go.Operand.tmp 47) 3, type := 38, pos := "law.go:282", after := #[{ on := 6, ground := Go.Ground.data }, { on := 15, ground := Go.Ground.gcOnly Go.Departure.lateStores }], guard := none }) (v := (.int .i64 er)) rfl (by kernel_rfl) (by kernel_rfl) (by kernel_rfl) (fun _ _ _ h => h) (Or.inl ⟨by rfl, fun W hW => by first | (go_simp; done) | (go_simp; with_reducible rfl)⟩) hS1 ?_
                try simp only [Act.put, List.setIfInBounds_toArray, List.set_cons_zero, List.set_cons_succ]
                have a8 : A9 w3 w0.heap.size (w3.heap.size + 1) (w3.heap.size) #[.int .i64 0, .int .i64 0, .int .i64 0, .string ⟨#[]⟩, .int .i64 0, .int .i64 0, .bool false, .bool false, .int .i64 0, .int .i64 0, .bool false, .bool false, .int .i64 0, .slice none 0 0] #[.int .i64 0, .int .i64 0, .int .i64 0, .string ⟨#[]⟩, .int .i64 0, .int .i64 0, .bool false, .bool false, .int .i64 0, .int .i64 0, .bool false, .bool false, .int .i64 0, .slice none 0 0] g gk pa pl pc qa ql w' := A9.of (W1 := ((w3.alloc (.cells #[.int .i64 0, .int .i64 0, .int .i64 0, .string ⟨#[]⟩, .int .i64 0, .int .i64 0, .bool false, .bool false, .int .i64 0, .int .i64 0, .bool false, .bool false, .int .i64 0, .slice none 0 0] 29)).alloc (.cells #[.int .i64 0, .int .i64 0, .int .i64 0, .string ⟨#[]⟩, .int .i64 0, .int .i64 0, .bool false, .bool false, .int .i64 0, .int .i64 0, .bool false, .bool false, .int .i64 0, .slice none 0 0] 29)).drew) hfr hx hnd hw03 (by simp <;> omega) hS1 bw.size (fun b _ => rfl) (Nat.le_refl _) ⟨by omega, .inl (by simp)⟩ ⟨Nat.le_refl _, .inl (by simp <;> omega)⟩ (by omega) ((kept_new2a bq).2) ((kept_new2a bq).1)
                refine wpAnyH_listed (f' := 4) (l' := #[true, true, true, true, true, true, true, true, true, true, true, true, true, false, false, false, false]) (by kernel_rfl) (by kernel_rfl) ?_
                exact keyB w' (w3.heap.size + 1) (w3.heap.size) g pa pl pc qa ql qc er ⟨gk, a8⟩
              exact AllReadyH.nil
            exact AllReadyH.nil
          exact AllReadyH.nil
        case kstores =>
          intro W N5 N7 g pa pl pc qa ql qc er ⟨gk, a8⟩
          have hS1 := a8.bel
          refine wpAnyH_ready (rs := [13]) (by kernel_rfl) (by simp) ?_
          refine AllReadyH.cons (o := { dst := none, op := Go.Op.store 29 (Go.Operand.tmp 9) (Go.Operand.tmp 54), type := 0, pos := "law.go:282", after := #[{ on := 11, ground := Go.Ground.data }, { on := 7, ground := Go.Ground.data }, { on := 5, ground := Go.Ground.chain }, { on := 0, ground := Go.Ground.phase }, { on := 1, ground := Go.Ground.phase }, { on := 2, ground := Go.Ground.phase }, { on := 3, ground := Go.Ground.phase }, { on := 4, ground := Go.Ground.phase }, { on := 5, ground := Go.Ground.phase }, { on := 6, ground := Go.Ground.phase }, { on := 7, ground := Go.Ground.phase }, { on := 8, ground := Go.Ground.textOnly Go.Departure.lateStores }, { on := 9, ground := Go.Ground.textOnly Go.Departure.lateStores }, { on := 10, ground := Go.Ground.textOnly Go.Departure.lateStores }, { on := 11, ground := Go.Ground.phase }, { on := 12, ground := Go.Ground.phase }], guard := none }) rfl (fun K hK => ?_) ?_
          · refine wanted_wp (by rfl) ?_
            refine wp_store_mid 29 _ _ rfl N5 0 #[.int .i64 g.kind, .int .i64 g.op, .int .i64 g.num, .string ⟨g.text.toArray⟩, .int .i64 g.ref.row, .int .i64 g.ref.col, .bool g.ref.pr, .bool g.ref.pc, .int .i64 g.to.row, .int .i64 g.to.col, .bool g.to.pr, .bool g.to.pc, .int .i64 g.fn, .slice pa pl pc] rfl rfl (show World.there W N5 0 14 from there_box a8.b5) infoExprS (by simp [Value.oneCell']) ?_
            have a8 := a8.set5 (vs := [.int .i64 g.kind, .int .i64 g.op, .int .i64 g.num, .string ⟨g.text.toArray⟩, .int .i64 g.ref.row, .int .i64 g.ref.col, .bool g.ref.pr, .bool g.ref.pc, .int .i64 g.to.row, .int .i64 g.to.col, .bool g.to.pr, .bool g.to.pc, .int .i64 g.fn, .slice pa pl pc]) rfl
            change K _ (World.setCells W N5 0 [.int .i64 g.kind, .int .i64 g.op, .int .i64 g.num, .string ⟨g.text.toArray⟩, .int .i64 g.ref.row, .int .i64 g.ref.col, .bool g.ref.pr, .bool g.ref.pc, .int .i64 g.to.row, .int .i64 g.to.col, .bool g.to.pr, .bool g.to.pc, .int .i64 g.fn, .slice pa pl pc])
            generalize World.setCells W N5 0 [.int .i64 g.kind, .int .i64 g.op, .int .i64 g.num, .string ⟨g.text.toArray⟩, .int .i64 g.ref.row, .int .i64 g.ref.col, .bool g.ref.pr, .bool g.ref.pc, .int .i64 g.to.row, .int .i64 g.to.col, .bool g.to.pr, .bool g.to.pc, .int .i64 g.fn, .slice pa pl pc] = W1 at a8 ⊢
            refine hK.out _ _ a8.bel (fun hS1 => ?_)
            clear hK K
            try simp only [Act.put, List.setIfInBounds_toArray, List.set_cons_zero, List.set_cons_succ]
            refine wpAnyH_take (i := 14) (oi := { dst := some 10, op := Go.Op.assign (Go.Operand.tmp 55), type := 38, pos := "law.go:282", after := #[{ on := 8, ground := Go.Ground.data }, { on := 13, ground := Go.Ground.chain }, { on := 0, ground := Go.Ground.phase }, { on := 1, ground := Go.Ground.phase }, { on := 2, ground := Go.Ground.phase }, { on := 3, ground := Go.Ground.phase }, { on := 4, ground := Go.Ground.phase }, { on := 5, ground := Go.Ground.phase }, { on := 6, ground := Go.Ground.phase }, { on := 7, ground := Go.Ground.phase }, { on := 8, ground := Go.Ground.phase }, { on := 9, ground := Go.Ground.textOnly Go.Departure.lateStores }, { on := 10, ground := Go.Ground.textOnly Go.Departure.lateStores }, { on := 11, ground := Go.Ground.phase }, { on := 12, ground := Go.Ground.phase }, { on := 13, ground := Go.Ground.phase }], guard := none }) (v := (.int .i64 er)) rfl (by kernel_rfl) (by kernel_rfl) (by kernel_rfl) (fun _ _ _ h => h) (Or.inl ⟨by rfl, fun W hW => by first | (go_simp; done) | (go_simp; with_reducible rfl)⟩) hS1 ?_
            try simp only [Act.put, List.setIfInBounds_toArray, List.set_cons_zero, List.set_cons_succ]
            refine wpAnyH_ready (rs := [15]) (by kernel_rfl) (by simp) ?_
            refine AllReadyH.cons (o := { dst := none, op := Go.Op.store 29 (Go.Operand.tmp 11) (Go.Operand.tmp 56), type := 0, pos := "law.go:282", after := #[{ on := 12, ground := Go.Ground.data }, { on := 9, ground := Go.Ground.data }, { on := 14, ground := Go.Ground.chain }, { on := 0, ground := Go.Ground.phase }, { on := 1, ground := Go.Ground.phase }, { on := 2, ground := Go.Ground.phase }, { on := 3, ground := Go.Ground.phase }, { on := 4, ground := Go.Ground.phase }, { on := 5, ground := Go.Ground.phase }, { on := 6, ground := Go.Ground.phase }, { on := 7, ground := Go.Ground.phase }, { on := 8, ground := Go.Ground.phase }, { on := 9, ground := Go.Ground.phase }, { on := 10, ground := Go.Ground.textOnly Go.Departure.lateStores }, { on := 11, ground := Go.Ground.phase }, { on := 12, ground := Go.Ground.phase }, { on := 13, ground := Go.Ground.phase }, { on := 14, ground := Go.Ground.phase }], guard := none }) rfl (fun K hK => ?_) ?_
            · refine wanted_wp (by rfl) ?_
              refine wp_store_mid 29 _ _ rfl N7 0 #[.int .i64 g.kind, .int .i64 g.op, .int .i64 g.num, .string ⟨g.text.toArray⟩, .int .i64 g.ref.row, .int .i64 g.ref.col, .bool g.ref.pr, .bool g.ref.pc, .int .i64 g.to.row, .int .i64 g.to.col, .bool g.to.pr, .bool g.to.pc, .int .i64 g.fn, .slice qa ql qc] rfl rfl (show World.there W1 N7 0 14 from there_box a8.b7) infoExprS (by simp [Value.oneCell']) ?_
              have a8 := a8.set7 (vs := [.int .i64 g.kind, .int .i64 g.op, .int .i64 g.num, .string ⟨g.text.toArray⟩, .int .i64 g.ref.row, .int .i64 g.ref.col, .bool g.ref.pr, .bool g.ref.pc, .int .i64 g.to.row, .int .i64 g.to.col, .bool g.to.pr, .bool g.to.pc, .int .i64 g.fn, .slice qa ql qc]) rfl
              change K _ (World.setCells W1 N7 0 [.int .i64 g.kind, .int .i64 g.op, .int .i64 g.num, .string ⟨g.text.toArray⟩, .int .i64 g.ref.row, .int .i64 g.ref.col, .bool g.ref.pr, .bool g.ref.pc, .int .i64 g.to.row, .int .i64 g.to.col, .bool g.to.pr, .bool g.to.pc, .int .i64 g.fn, .slice qa ql qc])
              generalize World.setCells W1 N7 0 [.int .i64 g.kind, .int .i64 g.op, .int .i64 g.num, .string ⟨g.text.toArray⟩, .int .i64 g.ref.row, .int .i64 g.ref.col, .bool g.ref.pr, .bool g.ref.pc, .int .i64 g.to.row, .int .i64 g.to.col, .bool g.to.pr, .bool g.to.pc, .int .i64 g.fn, .slice qa ql qc] = W2 at a8 ⊢
              refine hK.out _ _ a8.bel (fun hS1 => ?_)
              clear hK K
              try simp only [Act.put, List.setIfInBounds_toArray, List.set_cons_zero, List.set_cons_succ]
              refine wpAnyH_take (i := 16) (oi := { dst := some 12, op := Go.Op.assign (Go.Operand.tmp 57), type := 38, pos := "law.go:282", after := #[{ on := 10, ground := Go.Ground.data }, { on := 15, ground := Go.Ground.chain }, { on := 0, ground := Go.Ground.phase }, { on := 1, ground := Go.Ground.phase }, { on := 2, ground := Go.Ground.phase }, { on := 3, ground := Go.Ground.phase }, { on := 4, ground := Go.Ground.phase }, { on := 5, ground := Go.Ground.phase }, { on := 6, ground := Go.Ground.phase }, { on := 7, ground := Go.Ground.phase }, { on := 8, ground := Go.Ground.phase }, { on := 9, ground := Go.Ground.phase }, { on := 10, ground := Go.Ground.phase }, { on := 11, ground := Go.Ground.phase }, { on := 12, ground := Go.Ground.phase }, { on := 13, ground := Go.Ground.phase }, { on := 14, ground := Go.Ground.phase }, { on := 15, ground := Go.Ground.phase }], guard := none }) (v := (.int .i64 er)) rfl (by kernel_rfl) (by kernel_rfl) (by kernel_rfl) (fun _ _ _ h => h) (Or.inl ⟨by rfl, fun W hW => by first | (go_simp; done) | (go_simp; with_reducible rfl)⟩) hS1 ?_
              try simp only [Act.put, List.setIfInBounds_toArray, List.set_cons_zero, List.set_cons_succ]
              refine wpAnyH_done (by kernel_rfl) ?_ _
              refine NoPanic.normal ?_
              exact key W2 N5 N7 g pa pl pc qa ql qc er ⟨gk, a8⟩
            exact AllReadyH.nil
          exact AllReadyH.nil
      case klater =>
        intro W N5 N7 g pa pl pc qa ql qc er ⟨gk, a8⟩
        have A8 := Lib.hid a8
        clear a8 CC TX
        have R5 := Lib.hid (box_range A8.out.b5)
        have R7 := Lib.hid (box_range A8.out.b7)
        have hbW : w0.heap.size ≤ W.heap.size := Nat.le_trans hw03 A8.out.bel.size
        go_wp2_with (first | (refine wpList_load_rng10 (N := N5) (off := 0) (vs := [.int .i64 g.kind, .int .i64 g.op, .int .i64 g.num, .string ⟨g.text.toArray⟩, .int .i64 g.ref.row, .int .i64 g.ref.col, .bool g.ref.pr, .bool g.ref.pc, .int .i64 g.to.row, .int .i64 g.to.col, .bool g.to.pr, .bool g.to.pc, .int .i64 g.fn, .slice pa pl pc]) rfl rfl rfl R5.out rfl ?_) | (refine wpList_load_rng10 (N := N7) (off := 0) (vs := [.int .i64 g.kind, .int .i64 g.op, .int .i64 g.num, .string ⟨g.text.toArray⟩, .int .i64 g.ref.row, .int .i64 g.ref.col, .bool g.ref.pr, .bool g.ref.pc, .int .i64 g.to.row, .int .i64 g.to.col, .bool g.to.pr, .bool g.to.pc, .int .i64 g.fn, .slice qa ql qc]) rfl rfl rfl R7.out rfl ?_))
        refine (lawEq_yes g g gk gk ⟨rfl, rfl⟩ _ _ _ pa qa pl pc ql qc (Nat.le_refl _) (Nat.le_refl _) A8.out.t5 A8.out.t7v).mono ?_
        rintro e w2 ⟨rfl, b2⟩
        have A9 := Lib.hid (A8.out.step b2)
        have hbW2 : w0.heap.size ≤ w2.heap.size := Nat.le_trans hbW b2.size
        clear A8 b2 R5 R7 hbW
        have R5 := Lib.hid (box_range A9.out.b5)
        have R7 := Lib.hid (box_range A9.out.b7)
        by_cases hk0 : 0 < kk
        · have u2 : (0 : Int) < (kk : Int) := by omega
          obtain ⟨hp1, hp2, hp3⟩ := hp hk0
          obtain ⟨s1, tx, tw, c5, F, ov, nd, hF⟩ := SF.out.keep_pre A9.out
          obtain ⟨ht1, mt1⟩ := kept4 (P := fun _ => True) trivial (Frm.kept (c0 := 5) A9.out.bel) (Nat.le_refl _) A9.out.bel.size HT.out MT.out
          have S1 := Lib.hid s1; have TX := Lib.hid tx; have TW := Lib.hid tw; have HF := Lib.hid hF; have OV := Lib.hid ov; have HT1 := Lib.hid ht1; have MT1 := Lib.hid mt1; have C5 := Lib.hid c5
          have ND := Lib.hid nd
          clear s1 tx tw c5 ov nd hF ht1 mt1 SF HT MT
          have B5 := Lib.hid A9.out.b5; have okg := Lib.hid A9.out.ok; have ndg := A9.out.nd
          clear A9
          go_wp2_with (first | (refine wpList_load_rng10 (N := N5) (off := 0) (vs := [.int .i64 g.kind, .int .i64 g.op, .int .i64 g.num, .string ⟨g.text.toArray⟩, .int .i64 g.ref.row, .int .i64 g.ref.col, .bool g.ref.pr, .bool g.ref.pc, .int .i64 g.to.row, .int .i64 g.to.col, .bool g.to.pr, .bool g.to.pc, .int .i64 g.fn, .slice pa pl pc]) rfl rfl rfl R5.out rfl ?_) | (refine wpList_load_rng10 (N := N7) (off := 0) (vs := [.int .i64 g.kind, .int .i64 g.op, .int .i64 g.num, .string ⟨g.text.toArray⟩, .int .i64 g.ref.row, .int .i64 g.ref.col, .bool g.ref.pr, .bool g.ref.pc, .int .i64 g.to.row, .int .i64 g.to.col, .bool g.to.pr, .bool g.to.pc, .int .i64 g.fn, .slice qa ql qc]) rfl rfl rfl R7.out rfl ?_))
          refine (keep_any w0.heap.size Qx _ vT vW es _ g gk pa qa pl pc ql qc (Lib.hid S1.out.qk) hbW2 (by omega) TX TW).mono ?_
          rintro e w4 ⟨rfl, b4, cl4, vT4, vW4, q4, f4⟩
          have h5 : P9 5 := by simp [P9]
          obtain ⟨b5, ov4, hF4⟩ := own5 h5 f4 (Nat.le_refl _) b4.size C5.out B5.out OV.out HF.out
          obtain ⟨ht4, mt4⟩ := kept4 h5 f4 (Nat.le_refl _) b4.size HT1.out MT1.out
          have S4 := Lib.hid (S1.out.kept' q4 f4 b4)
          have R5 := Lib.hid (box_range b5)
          have OV := Lib.hid ov4; have HF := Lib.hid hF4; have HT4 := Lib.hid ht4; have MT4 := Lib.hid mt4
          have hbW4 : w0.heap.size ≤ w4.heap.size := S4.out.bel.size
          clear S1 TX TW HT1 MT1 q4 f4 b4 b5 ov4 hF4 ht4 mt4 B5 C5 R7 h5
          obtain ⟨aF, kF, hvF⟩ := World.ownsRow.slice9 S4.out.lf.own
          subst hvF
          have htl := len_nodes TF
          go_wp2_with (first | (refine wpList_load_rng10 (N := N5) (off := 0) (vs := [.int .i64 g.kind, .int .i64 g.op, .int .i64 g.num, .string ⟨g.text.toArray⟩, .int .i64 g.ref.row, .int .i64 g.ref.col, .bool g.ref.pr, .bool g.ref.pc, .int .i64 g.to.row, .int .i64 g.to.col, .bool g.to.pr, .bool g.to.pc, .int .i64 g.fn, .slice pa pl pc]) rfl rfl rfl R5.out rfl ?_) | (at_builtin; refine wpList_append_lies _ rfl _ _ 27 rfl w0.heap.size 29 i0 _ 14 120 Try.underlying27 hi0 hz0 hz1 hz2 rfl (by decide) (.slice aF TF.len kF) TF.len csF rfl (World.ownsRow.alloc S4.out.lf.own _) ⟨w4.heap.size, 0, none⟩ 1 1 [.int .i64 g.kind, .int .i64 g.op, .int .i64 g.num, .string ⟨g.text.toArray⟩, .int .i64 g.ref.row, .int .i64 g.ref.col, .bool g.ref.pr, .bool g.ref.pc, .int .i64 g.to.row, .int .i64 g.to.col, .bool g.to.pr, .bool g.to.pc, .int .i64 g.fn, .slice pa pl pc] rfl rfl (World.news_of_block (heap_alloc_new w4 _)) (by simp [Value.oneCell']) (by decide) (by unfold maxLen; omega) (by omega) (by simp; omega) _ rfl ?_))
          intro g5 cap5 w5 hown hgrow hat _
          obtain ⟨s5, f5, b5⟩ := S4.out.left okg.out OV.out ND.out HF.out hown hgrow (hat.imp_right fun q => q.trans (by simp))
          obtain ⟨ht5, mt5⟩ := kept4 (by omega : (5 : Nat) ≠ 7) f5 (Nat.le_refl _) b5.size HT4.out MT4.out
          have S5 := Lib.hid s5; have HT5 := Lib.hid ht5; have MT5 := Lib.hid mt5
          clear S4 HT4 MT4 hown hgrow hat s5 f5 b5 ht5 mt5 OV HF R5
          go_wp2_with fail
          exact ⟨⟨kk + 1, _, _, _, _, _, _, _, _, _, _, _, _, by go_num, by omega, S5, HT5, MT5, fun q => absurd q (by omega), fun _ => ⟨by simp; omega, by rw [app_nodes]; simp only [Trees.nodes]; omega, hp3⟩⟩, by simp [intOf]; omega⟩
        · obtain rfl : kk = 0 := by omega
          obtain ⟨hz1', hz2', hz3'⟩ := hz rfl
          have u2 : ¬ (0 : Int) < ((0 : Nat) : Int) := by omega
          obtain ⟨w4, hw4⟩ : ∃ w4, w4 = w2.alloc (.cells #[.int .i64 g.kind, .int .i64 g.op, .int .i64 g.num, .string ⟨g.text.toArray⟩, .int .i64 g.ref.row, .int .i64 g.ref.col, .bool g.ref.pr, .bool g.ref.pc, .int .i64 g.to.row, .int .i64 g.to.col, .bool g.to.pr, .bool g.to.pc, .int .i64 g.fn, .slice pa pl pc] 29) := ⟨_, rfl⟩
          have hb4 : w4.heap[w2.heap.size]? = some (.cells (g.vals (.slice pa pl pc)).toArray 29 (0, 0)) := by rw [hw4]; exact heap_alloc_new w2 _
          have b24 : Below w2.heap.size w2 w4 := by rw [hw4]; exact ext_alloc (Below.refl _ _) _
          obtain ⟨s1, vs, ls, rem, hv⟩ := SF.out.take_pre A9.out b24 hb4
          obtain ⟨ht1, mt1⟩ := kept4 (P := fun _ => True) trivial (Frm.kept (c0 := 6) (A9.out.bel.trans (b24.mono A9.out.bel.size))) (Nat.le_refl _) (Nat.le_trans A9.out.bel.size b24.size) HT.out MT.out
          have S1 := Lib.hid s1; have LS := Lib.hid ls; have RM := Lib.hid rem; have HT1 := Lib.hid ht1; have MT1 := Lib.hid mt1
          have hbW4 : w0.heap.size ≤ w4.heap.size := Nat.le_trans hbW2 b24.size
          have ndg := A9.out.nd
          clear s1 ls rem ht1 mt1 SF HT MT A9 b24 hb4
          go_wp2_with (first | (refine wpList_load_rng10 (N := N5) (off := 0) (vs := [.int .i64 g.kind, .int .i64 g.op, .int .i64 g.num, .string ⟨g.text.toArray⟩, .int .i64 g.ref.row, .int .i64 g.ref.col, .bool g.ref.pr, .bool g.ref.pc, .int .i64 g.to.row, .int .i64 g.to.col, .bool g.to.pr, .bool g.to.pc, .int .i64 g.fn, .slice pa pl pc]) rfl rfl rfl R5.out rfl ?_))
          rw [← hw4]
          refine (take_any w0.heap.size Bx _ z vL vN cL ns _ (.cons g gk .nil) (some ⟨w2.heap.size, 0, none⟩) 1 vs (Lib.hid S1.out.bk) hbW4 LS RM (by simp only [Trees.nodes]; omega) (Lib.hid S1.out.nn) (by omega)).mono ?_
          rintro e w5 ⟨rfl, t5⟩
          obtain ⟨cl5, z5, vL5, vN5, cL5, ns5, s5, hl5, f5⟩ := S1.out.took t5
          obtain ⟨ht5, mt5⟩ := kept4 (by simp [P5] : P5 5) f5 (Nat.le_refl _) t5.bel.size HT1.out MT1.out
          have S5 := Lib.hid s5; have HT5 := Lib.hid ht5; have MT5 := Lib.hid mt5
          clear S1 LS RM HT1 MT1 R5 R7 hw4 t5 s5 f5 ht5 mt5
          go_wp2_with fail
          exact ⟨⟨1, _, _, _, _, _, _, _, _, _, _, _, _, rfl, by omega, S5, HT5, MT5, fun q => absurd q (by omega), fun _ => ⟨by omega, by omega, by omega⟩⟩, by decide⟩
    · obtain rfl : kk = 4 := by omega
      obtain ⟨h1', h2', h3'⟩ := hp (by omega)
      go_wp2_with fail
      exact hexit.out _ _ _ _ _ _ _ _ _ _ _ _ _ _ _ _ _ _ _ _ _ _ _ _ _ _ _ _ _ _ _ _ _ _ _ _ _ _ _ _ _ _ _ _ _ _ _ _ _ _ _ _ _ SF HT MT (by omega) (by omega) (by omega)
end Go.Proofs.Ytkjfeakbhfkldaa

namespace Go.Proofs.Ytkjfeakbhfkldaa
open Go.RowKit

def Sf1 (w : World) (Bx Qx len : Nat) (vF iv : Value) (wr : World) : Prop :=
  ∃ (j : Nat) (cl : Nat → Nat) (z : Int) (vL vN : Value) (cL : List Value) (ns : List Nat) (vT vW : Value) (es : List QE) (TF : Trees) (csF : List Value) (FF : List Nat), iv = .int .i64 (j : Int) ∧ j ≤ len ∧ j ≤ 60 ∧ Hid (SfS w cl Bx Qx z vL vN cL ns vT vW es vF TF csF FF wr) ∧ es.length ≤ 3 * j ∧ TF.nodes ≤ 6003 * j ∧ cL.length ≤ 2001 * j
set_option maxRecDepth 1000000 in
set_option maxHeartbeats 16000000 in
theorem shiftFresh_any (w : World) (a : Option Addr) (len cap : Nat) (hops : Ops12In w a len) : Calls Try.prog 14 #[.slice a len cap] w (TruePost w) := by
  have hm := hops.1
  have HO := Lib.hid hops; clear hops
  go_enter Try.func14, Try.ntmps14
  go_wp2_with fail
  refine (lawBegun_any w).mono ?_
  rintro e w1 ⟨rfl, b1⟩
  have hs1 := b1.size
  obtain ⟨w3, hw3⟩ : ∃ w3, w3 = (w1.alloc (.cells #[.slice none 0 0, .slice none 0 0, .int .i64 0] 76)).alloc (.cells #[.slice none 0 0, .slice none 0 0] 79) := ⟨_, rfl⟩
  have b13 : Below w1.heap.size w1 w3 := by rw [hw3]; exact ext_alloc (ext_alloc (Below.refl _ w1) _) _
  have hB3 : w3.heap[w1.heap.size]? = some (.cells #[.slice none 0 0, .slice none 0 0, .int .i64 0] 76 (0, 0)) := by rw [hw3]; exact (heap_alloc2_old _ _ _).trans rfl
  have hQ3 : w3.heap[w1.heap.size + 1]? = some (.cells #[.slice none 0 0, .slice none 0 0] 79 (0, 0)) := by rw [hw3]; exact heap_alloc2_new _ _ _
  have hz3 : w3.heap.size = w1.heap.size + 2 := by rw [hw3]; simp
  have SF0 : Hid (SfS w (fun x => if x = w1.heap.size then 2 else if x = w1.heap.size + 1 then 8 else 9) w1.heap.size (w1.heap.size + 1) 0 (.slice none 0 0) (.slice none 0 0) [] [] (.slice none 0 0) (.slice none 0 0) [] (.slice none 0 0) .nil [] [] w3) := Lib.hid
    ⟨b1.trans (b13.mono hs1), bk_new hB3 (by simp) (by omega) hs1, rfl, qk_new hQ3 (by simp) (by omega) (by omega), ⟨World.ownsRow_nil _ _ _ _, fun k hk => by cases hk⟩, ⟨rfl, rfl⟩, List.nodup_nil, fun k hk => by cases hk⟩
  clear b1 b13 hB3 hQ3
  go_wp2_with fail
  have hsz : (w1.alloc (.cells #[.slice none 0 0, .slice none 0 0, .int .i64 0] 76)).heap.size = w1.heap.size + 1 := by simp
  rw [← hw3]
  try rw [hsz]
  clear hsz hw3 hz3
  obtain ⟨Bx, hBx⟩ : ∃ Bx, Bx = w1.heap.size := ⟨_, rfl⟩
  obtain ⟨Qx, hQx⟩ : ∃ Qx, Qx = w1.heap.size + 1 := ⟨_, rfl⟩
  rw [← hQx, ← hBx] at SF0 ⊢
  clear hQx hBx

  go_loopw [5, 6] (fun vF iv wr => Sf1 w Bx Qx len vF iv wr) (fun _ iv _ => len - (intOf iv).toNat)
  case atStart => exact ⟨0, _, _, _, _, _, _, _, _, _, _, _, _, rfl, by omega, by omega, SF0, by simp, by simp [Trees.nodes], by simp⟩
  case round =>
    obtain ⟨j, cl, z, vL, vN, cL, ns, vT, vW, es, TF, csF, FF, rfl, hj, hj60, SF, h1, h2, h3⟩ := hrel
    by_cases hlt : j < len
    · by_cases h2k : j < 60
      · obtain ⟨b, off, k, nt, kt, ta, tl, tc, m, n, rfl, hbl, ho, t1, im, iN⟩ := HO.out.2 j hlt
        have HATW : Hid (∀ W, Below w.heap.size w W → Op12At W b (off + j * 17) k nt ta tl tc m n) := Lib.hid fun W hb o v h => (hb.cell (p := ⟨b, off + j * 17 + o, none⟩) hbl).trans (ho o v h)
        have TV0 := Lib.hid t1
        have IM := Lib.hid im; have IN := Lib.hid iN
        have hbr : w.heap.size ≤ wr.heap.size := SF.out.bel.size
        have HAT := Lib.hid (HATW.out wr SF.out.bel)
        have TV := Lib.hid (TV0.out.kept SF.out.bel (Nat.le_refl _))
        clear ho t1 im iN
        cases so : smallB nt kt
        · go_wp2_with (refine wpList_load_tree12 rfl rfl rfl HAT.out ?_)
          refine (small_any nt kt wr w.heap.size ta tl tc hbr TV.out).mono ?_
          rintro e w2 ⟨rfl, b2⟩
          have S2 := Lib.hid (SF.out.frm (P := fun _ => True) (Frm.kept (c0 := 9) b2) (b2.mono hbr) (fun _ _ _ => trivial))
          clear SF b2 HAT TV
          rw [so]
          go_wp2_with fail
          exact ⟨⟨j + 1, _, _, _, _, _, _, _, _, _, _, _, _, by go_num, by omega, by omega, S2, by omega, by omega, by omega⟩, by simp [intOf]; omega⟩
        · have hn2 := small_2000 so
          go_wp2_with (refine wpList_load_tree12 rfl rfl rfl HAT.out ?_)
          refine (small_any nt kt wr w.heap.size ta tl tc hbr TV.out).mono ?_
          rintro e w2 ⟨rfl, b2⟩
          rw [so]
          clear so
          have S2 := Lib.hid (SF.out.frm (P := fun _ => True) (Frm.kept (c0 := 9) b2) (b2.mono hbr) (fun _ _ _ => trivial))
          have hbr2 : w.heap.size ≤ w2.heap.size := Nat.le_trans hbr b2.size
          have HAT2 := Lib.hid (HATW.out w2 S2.out.bel)
          have TV2 := Lib.hid (TV0.out.kept S2.out.bel (Nat.le_refl _))
          clear b2 SF HAT TV hbr
          go_wp2_with (refine wpList_load_tree12 rfl rfl rfl HAT2.out ?_)
          refine (twin10_any nt kt w2 w.heap.size ta tl tc hbr2 TV2.out (by omega)).mono ?_
          rintro e w2b ⟨xa, xl, xc, rfl, b3, mt⟩
          obtain ⟨w4, hw4⟩ : ∃ w4, w4 = w2b.alloc (.cells #[.int .i64 nt.kind, .int .i64 nt.op, .int .i64 nt.num, .string ⟨nt.text.toArray⟩, .int .i64 nt.ref.row, .int .i64 nt.ref.col, .bool nt.ref.pr, .bool nt.ref.pc, .int .i64 nt.to.row, .int .i64 nt.to.col, .bool nt.to.pr, .bool nt.to.pc, .int .i64 nt.fn, .slice xa xl xc] 29) := ⟨_, rfl⟩
          have T4 : w4.heap[w2b.heap.size]? = some (.cells #[.int .i64 nt.kind, .int .i64 nt.op, .int .i64 nt.num, .string ⟨nt.text.toArray⟩, .int .i64 nt.ref.row, .int .i64 nt.ref.col, .bool nt.ref.pr, .bool nt.ref.pc, .int .i64 nt.to.row, .int .i64 nt.to.col, .bool nt.to.pr, .bool nt.to.pc, .int .i64 nt.fn, .slice xa xl xc] 29 (0, 0)) := by rw [hw4]; exact heap_alloc_new w2b _
          have b34 : Below w2b.heap.size w2b w4 := by rw [hw4]; exact ext_alloc (Below.refl _ _) _
          have b24 : Below w2.heap.size w2 w4 := b3.trans (b34.mono b3.size)
          have SF4 := Lib.hid (S2.out.frm (P := fun _ => True) (Frm.kept (c0 := 5) b24) (b24.mono hbr2) (fun _ _ _ => trivial))
          have HT4 : Hid (w4.heap[w2b.heap.size]? = some (.cells #[.int .i64 nt.kind, .int .i64 nt.op, .int .i64 nt.num, .string ⟨nt.text.toArray⟩, .int .i64 nt.ref.row, .int .i64 nt.ref.col, .bool nt.ref.pr, .bool nt.ref.pc, .int .i64 nt.to.row, .int .i64 nt.to.col, .bool nt.to.pr, .bool nt.to.pc, .int .i64 nt.fn, .slice xa xl xc] 29 (0, 0)) ∧ upc (upc cl wr.heap.size 9) w2.heap.size 5 w2b.heap.size = 5) := Lib.hid ⟨T4, upc_ge b3.size⟩
          have MT4 : Hid (MTree w4 (fun b => upc (upc cl wr.heap.size 9) w2.heap.size 5 b = 5 ∧ b < w4.heap.size) nt kt xa xl xc) := Lib.hid (mt.kept fun b hb => ⟨⟨upc_ge hb.1, Nat.lt_of_lt_of_le hb.2 b34.size⟩, b34.block b hb.2⟩)
          clear S2 TV2 HAT2 b3 mt T4 b34 b24
          go_wp2_with fail

          try rw [← hw4]
          obtain ⟨N4, hN4⟩ : ∃ N4, N4 = w2b.heap.size := ⟨_, rfl⟩
          rw [← hN4] at HT4 ⊢
          clear hN4 hw4
          refine sf_2 SF4 HT4 MT4 HATW TV0 IM IN hbl h2k hlt hn2 h1 h2 h3 (Lib.hid ?_)
          intros
          rename_i vF' cl' z' vL' vN' cL' ns' vT' vW' es' TF' csF' FF' w5 SF5 HT5 MT5 h1' h2' h3'
          have hbr5 : w.heap.size ≤ w5.heap.size := SF5.out.bel.size
          have NA : NodeAt w5 b (off + j * 17 + 1) nt (.slice ta tl tc) := ⟨by omega, fun o v hv => by
            have h14 : o < 14 := by rcases Nat.lt_or_ge o 14 with h1 | h1; exact h1; rw [List.getElem?_eq_none (by rw [Hd.vals_len]; exact h1)] at hv; cases hv
            exact op12_tree (HATW.out w5 SF5.out.bel) o v hv⟩
          have NB : NodeAt w5 N4 0 nt (.slice xa xl xc) := node_block HT5.out.1
          obtain ⟨-, c0, c1, c2, c3, c4, c5, c6, c7, c8, c9, c10, c11, c12, c13, -, -, -, -, -, -⟩ := NA.facts
          obtain ⟨-, e0, e1, e2, e3, e4, e5, e6, e7, e8, e9, e10, e11, e12, e13, -, -, -, -, -, -⟩ := NB.facts
          clear NA NB SF4 HT4 MT4
          go_upto_region 21 with (fail)

          go_still_tail 6, (by kernel_rfl)
          change wpList _ _ _ _ _ w5.drew
          clear c0 c1 c2 c3 c4 c5 c6 c7 c8 c9 c10 c11 c12 c13 e0 e1 e2 e3 e4 e5 e6 e7 e8 e9 e10 e11 e12 e13
          have bd : Below w5.heap.size w5 w5.drew := (Below.refl _ w5).drew
          have SFd := Lib.hid (SF5.out.frm (P := fun _ => True) (Frm.kept (c0 := 9) bd) (bd.mono hbr5) (fun _ _ _ => trivial))
          have MTd := Lib.hid (MT5.out.kept (ok' := fun b => b < w5.drew.heap.size) fun b hb => ⟨hb.2, bd.block b hb.2⟩)
          have TVd := Lib.hid (TV0.out.kept SFd.out.bel (Nat.le_refl _))
          have hbrd : w.heap.size ≤ w5.drew.heap.size := SFd.out.bel.size
          clear bd SF5 MT5 HT5 hbr5
          generalize w5.drew = wd at SFd MTd TVd hbrd ⊢
          go_wp2_with fail
          refine (kept_any nt kt _ (fun b => b < wd.heap.size) w.heap.size xa ta xl xc tl tc (fun _ h => h) hbrd MTd.out TVd.out).mono ?_
          rintro e w6 ⟨rfl, b6⟩
          have S6 := Lib.hid (SFd.out.frm (P := fun _ => True) (Frm.kept (c0 := 9) b6) (b6.mono hbrd) (fun _ _ _ => trivial))
          clear SFd MTd TVd b6
          go_wp2_with fail
          exact ⟨⟨j + 1, _, _, _, _, _, _, _, _, _, _, _, _, by go_num, by omega, by omega, S6, by omega, by omega, by omega⟩, by simp [intOf]; omega⟩
      · have u2 : ¬ (j : Int) < 60 := by omega
        have hjb : j ≤ 60 := hj60
        obtain ⟨aF, kF, hvF⟩ := World.ownsRow.slice9 SF.out.lf.own
        subst hvF
        have hbr : w.heap.size ≤ wr.heap.size := SF.out.bel.size
        go_wp2_with fail
        refine (whole_any w.heap.size Bx cl z vL vN cL ns _ (Lib.hid SF.out.bk) hbr (Lib.hid SF.out.nn) (by omega)).mono ?_
        rintro e w5 ⟨rfl, b5, cl5, f5⟩
        have QK5 := Lib.hid (SF.out.qk.frm f5 b5 b5.size (.inl rfl) (.inr (.inl rfl)) (.inr (.inr (.inl rfl))) (.inr (.inr (.inr (.inr rfl)))))
        have SL5 := Lib.hid (SF.out.toL.frm f5 b5.size (.inr (.inr (.inr (.inl rfl)))) (.inr (.inr (.inl rfl))))
        have BEL5 := Lib.hid (SF.out.bel.trans b5)
        have hb5 : w.heap.size ≤ w5.heap.size := BEL5.out.size
        clear SF b5 f5 hbr
        go_wp2_with fail
        refine (untouched_any w.heap.size Qx cl5 vT vW es _ QK5 hb5 (by omega)).mono ?_
        rintro e w6 ⟨rfl, b6⟩
        have hb6 : w.heap.size ≤ w6.heap.size := Nat.le_trans hb5 b6.size
        obtain ⟨w7, hw7⟩ : ∃ w7, w7 = w6.alloc (.cells #[.slice none 0 0, .slice none 0 0, .int .i64 0] 76) := ⟨_, rfl⟩
        have hB7 : w7.heap[w6.heap.size]? = some (.cells #[.slice none 0 0, .slice none 0 0, .int .i64 0] 76 (0, 0)) := by rw [hw7]; exact heap_alloc_new w6 _
        have b67 : Below w6.heap.size w6 w7 := by rw [hw7]; exact ext_alloc (Below.refl _ _) _
        have b57 : Below w5.heap.size w5 w7 := b6.trans (b67.mono b6.size)
        obtain ⟨cl9, ta9, tc9, vs9, hv9, bk9, ls9, rem9⟩ := SL5.out.last hb5 b57 hB7 b6.size (by omega)
        simp only [Value.slice.injEq] at hv9
        obtain ⟨rfl, -, rfl⟩ := hv9
        have hvl := ls9.len
        have BK9 := Lib.hid bk9; have LS9 := Lib.hid ls9; have RM9 := Lib.hid rem9; have B57 := Lib.hid b57
        have hb7 : w.heap.size ≤ w7.heap.size := Nat.le_trans hb6 b67.size
        clear bk9 ls9 rem9 b57 b67 b6 QK5 SL5 hB7
        go_wp2_with fail
        rw [← hw7]
        clear hw7
        refine (take_any w.heap.size w6.heap.size cl9 0 (.slice none 0 0) (.slice none 0 0) [] [] _ TF aF kF vs9 BK9 hb7 LS9 RM9 (by omega) (Lib.hid rfl) (by simp)).mono ?_
        rintro e w8 ⟨rfl, t8⟩
        obtain ⟨cl8, z8, vL8, vN8, cL8, ns8, bk8, f8, hn8, hl8⟩ := t8.ex
        have BK8 := Lib.hid bk8
        have B8 := Lib.hid ((BEL5.out.trans (B57.out.mono hb5)).trans t8.bel)
        have hb8 : w.heap.size ≤ w8.heap.size := B8.out.size
        simp only [List.length_nil] at hl8
        clear BK9 LS9 RM9 BEL5 B57 t8 bk8 f8
        go_wp2_with fail
        refine (whole_any w.heap.size w6.heap.size cl8 z8 vL8 vN8 cL8 ns8 _ BK8 hb8 (Lib.hid hn8) (by omega)).mono ?_
        rintro e w9 ⟨rfl, b9, -⟩
        have B9 := Lib.hid (B8.out.trans b9)
        clear B8 b9 BK8 hn8 hl8
        go_wp2_with fail
        go_ret
        exact ⟨rfl, B9.out⟩
    · have u1 : ¬ (j : Int) < (len : Int) := by omega
      have hjb : j ≤ 60 := hj60
      obtain ⟨aF, kF, hvF⟩ := World.ownsRow.slice9 SF.out.lf.own
      subst hvF
      have hbr : w.heap.size ≤ wr.heap.size := SF.out.bel.size
      go_wp2_with fail
      refine (whole_any w.heap.size Bx cl z vL vN cL ns _ (Lib.hid SF.out.bk) hbr (Lib.hid SF.out.nn) (by omega)).mono ?_
      rintro e w5 ⟨rfl, b5, cl5, f5⟩
      have QK5 := Lib.hid (SF.out.qk.frm f5 b5 b5.size (.inl rfl) (.inr (.inl rfl)) (.inr (.inr (.inl rfl))) (.inr (.inr (.inr (.inr rfl)))))
      have SL5 := Lib.hid (SF.out.toL.frm f5 b5.size (.inr (.inr (.inr (.inl rfl)))) (.inr (.inr (.inl rfl))))
      have BEL5 := Lib.hid (SF.out.bel.trans b5)
      have hb5 : w.heap.size ≤ w5.heap.size := BEL5.out.size
      clear SF b5 f5 hbr
      go_wp2_with fail
      refine (untouched_any w.heap.size Qx cl5 vT vW es _ QK5 hb5 (by omega)).mono ?_
      rintro e w6 ⟨rfl, b6⟩
      have hb6 : w.heap.size ≤ w6.heap.size := Nat.le_trans hb5 b6.size
      obtain ⟨w7, hw7⟩ : ∃ w7, w7 = w6.alloc (.cells #[.slice none 0 0, .slice none 0 0, .int .i64 0] 76) := ⟨_, rfl⟩
      have hB7 : w7.heap[w6.heap.size]? = some (.cells #[.slice none 0 0, .slice none 0 0, .int .i64 0] 76 (0, 0)) := by rw [hw7]; exact heap_alloc_new w6 _
      have b67 : Below w6.heap.size w6 w7 := by rw [hw7]; exact ext_alloc (Below.refl _ _) _
      have b57 : Below w5.heap.size w5 w7 := b6.trans (b67.mono b6.size)
      obtain ⟨cl9, ta9, tc9, vs9, hv9, bk9, ls9, rem9⟩ := SL5.out.last hb5 b57 hB7 b6.size (by omega)
      simp only [Value.slice.injEq] at hv9
      obtain ⟨rfl, -, rfl⟩ := hv9
      have hvl := ls9.len
      have BK9 := Lib.hid bk9; have LS9 := Lib.hid ls9; have RM9 := Lib.hid rem9; have B57 := Lib.hid b57
      have hb7 : w.heap.size ≤ w7.heap.size := Nat.le_trans hb6 b67.size
      clear bk9 ls9 rem9 b57 b67 b6 QK5 SL5 hB7
      go_wp2_with fail
      rw [← hw7]
      clear hw7
      refine (take_any w.heap.size w6.heap.size cl9 0 (.slice none 0 0) (.slice none 0 0) [] [] _ TF aF kF vs9 BK9 hb7 LS9 RM9 (by omega) (Lib.hid rfl) (by simp)).mono ?_
      rintro e w8 ⟨rfl, t8⟩
      obtain ⟨cl8, z8, vL8, vN8, cL8, ns8, bk8, f8, hn8, hl8⟩ := t8.ex
      have BK8 := Lib.hid bk8
      have B8 := Lib.hid ((BEL5.out.trans (B57.out.mono hb5)).trans t8.bel)
      have hb8 : w.heap.size ≤ w8.heap.size := B8.out.size
      simp only [List.length_nil] at hl8
      clear BK9 LS9 RM9 BEL5 B57 t8 bk8 f8
      go_wp2_with fail
      refine (whole_any w.heap.size w6.heap.size cl8 z8 vL8 vN8 cL8 ns8 _ BK8 hb8 (Lib.hid hn8) (by omega)).mono ?_
      rintro e w9 ⟨rfl, b9, -⟩
      have B9 := Lib.hid (B8.out.trans b9)
      clear B8 b9 BK8 hn8 hl8
      go_wp2_with fail
      go_ret
      exact ⟨rfl, B9.out⟩
end Go.Proofs.Ytkjfeakbhfkldaa

namespace Go.Proofs.Ytkjfeakbhfkldaa
open Go.ChangeShapes Go.WideShapes Go.ChangeAt Go.RowKit

set_option maxRecDepth 100000 in
theorem shiftFresh_lifted (os : Os) (started : os.Started) (H : Type) (enc : TypeId × Value → H) :
    ReturnsInHanded {} Try.checked os 14 .any (Rows.shiftFreshSpec.pre6 enc Try.prog Try.f14 Rows.shiftFreshRow.domain false) (Rows.shiftFreshSpec.post enc Try.prog Try.f14 false true false false) := by
  refine lift_law (C := Try.checked) (tb := 4) own started (by kernel_rfl) Try.func14
    (ChangeSpec.witness6 (enc := enc) (C := Try.checked) false ⟨#[], #[.slice none 0 0], []⟩ 8 (by kernel_rfl) (by kernel_rfl) (by kernel_rfl) (by kernel_rfl)) laidOut (by kernel_rfl) rfl Try.underlying4 rfl ?_ ?_
  · rintro ds hl
    match ds, hl with
    | [_], _ => exact ⟨rfl, rfl, rfl⟩
  · intro W base args ds p hval0 hA hlt hsz
    have hval : ∀ (j : Nat) t v, Try.f14.params[j]? = some t → args[j]? = some v → Value.okWide Try.prog W .any base t v := hval0
    clear hval0
    rw [Try.params14] at hA hsz hval
    obtain ⟨v0, vs0, d0, ds0, p0, q0, hargs, rfl, rfl, h0, r0⟩ := trodAll_cons hA
    obtain ⟨rfl, rfl, rfl⟩ := trodAll_nil r0
    obtain rfl : args = #[v0] := by cases args; simp_all
    have hlt0 : ∀ x ∈ p0, x.block < W.heap.size := fun x hx => hlt x (by simp [hx])
    obtain ⟨a0, len0, cap0, rfl⟩ := okWide_slice Try.underlying58 (hval 0 _ _ rfl rfl)
    have hw : ∀ n ∈ d0.weights Try.prog 58, n ≤ reachBytes := fun n hn => by have := List.all_eq_true.1 hsz n (DataW.weights_mem_each (P := Try.prog) (j := 0) rfl rfl n hn); simpa using this
    exact shiftFresh_any W a0 len0 cap0 (ops12_of_trod h0 hw)

set_option maxRecDepth 100000 in
theorem shiftFresh_holds : Rows.ShiftFreshSaid :=
  OpenClaim.holds_of_wide 14 Try.f14 rfl rfl rfl rfl rfl rfl rfl ⟨rfl, rfl, rfl, rfl, rfl⟩ rfl rfl rfl rfl rfl (by kernel_rfl) Try.func14 (by kernel_rfl)
    (of_decide_eq_true (by kernel_rfl)) (by unfold Func.isWrapper; first | (rw [if_pos (by decide +kernel)]; kernel_rfl) | (rw [if_neg (by decide +kernel)]; exact ⟨rfl, rfl⟩))
    (fun os started H enc _ => shiftFresh_lifted os started H enc)
#print axioms shiftFresh_holds
end Go.Proofs.Ytkjfeakbhfkldaa
