/- Kept. -/
import Derived.Test.YtlmpiobdgkmmgaaGreatDoorKcD
import Derived.StillTailTactics
import Derived.Test.YtlmpiobdgkmmgaaGreatDoorKfB
set_option maxRecDepth 1000000
set_option maxHeartbeats 16000000
namespace Go.Proofs.YtlmpiobdgkmmgaaGreatDoor
open Go.RowKit
@[go_sem ↓ high] theorem run_neq_ref (a b : Int) (c d : Bool) (a' b' : Int) (c' d' : Bool) (w : World) :
 (binOp .neq 32 (.agg #[.int .i64 a, .int .i64 b, .bool c, .bool d]) (.agg #[.int .i64 a', .int .i64 b', .bool c', .bool d'])).run Tryz.prog w = .ok (.bool (!refEq a b c d a' b' c' d')) w := by
 by_cases h1 : a = a' <;> by_cases h2 : b = b' <;> by_cases h3 : c = c' <;> by_cases h4 : d = d' <;> simp [go_sem, refEq, h1, h2, h3, h4]
def sameB (h h' : Hd) (ks ks' : Trees) : Bool := decide (h = h' ∧ ks = ks')
def EqPost (h h' : Hd) (ks ks' : Trees) (w : World) (e : Ending) (w' : World) : Prop := e = .returned (.bool (sameB h h' ks ks')) ∧ Below w.heap.size w w'
def REq (h : Hd) (ks : Trees) : Prop := ∀ (h' : Hd) (ks' : Trees) (w : World) (B B' : Nat) (ka ka' : Option Addr) (kl kc kl' kc' : Nat), B ≤ w.heap.size → B' ≤ w.heap.size → TreeV w B h ks ka kl → TreeV w B' h' ks' ka' kl' →
 Calls Tryz.prog 15 #[.agg #[.int .i64 h.kind, .int .i64 h.op, .int .i64 h.num, .string ⟨h.text.toArray⟩, .int .i64 h.ref.row, .int .i64 h.ref.col, .bool h.ref.pr, .bool h.ref.pc, .int .i64 h.to.row, .int .i64 h.to.col, .bool h.to.pr, .bool h.to.pc, .int .i64 h.fn, .slice ka kl kc], .agg #[.int .i64 h'.kind, .int .i64 h'.op, .int .i64 h'.num, .string ⟨h'.text.toArray⟩, .int .i64 h'.ref.row, .int .i64 h'.ref.col, .bool h'.ref.pr, .bool h'.ref.pc, .int .i64 h'.to.row, .int .i64 h'.to.col, .bool h'.to.pr, .bool h'.to.pc, .int .i64 h'.fn, .slice ka' kl' kc']] w (EqPost h h' ks ks' w)
def ERel (ks ks' : Trees) (kl B B' : Nat) (ka ka' : Option Addr) (w wr : World) (i : Value) : Prop :=
 ∃ (j : Nat) (rest rest' : Trees), i = .int .i64 j ∧ j + rest.len = kl ∧ rest'.len = rest.len ∧ RowIn wr B rest ka j ∧ RowIn wr B' rest' ka' j ∧ AllT REq rest ∧ Below w.heap.size w wr ∧ Hid (decide (rest = rest') = decide (ks = ks'))
theorem refEq_same (h : Hd) (ks : Trees) (ih : AllT REq ks) (ks' : Trees) (w : World) (B B' : Nat) (ka ka' : Option Addr) (kl kc kc' : Nat) (hB : B ≤ w.heap.size) (hB' : B' ≤ w.heap.size) (tv : TreeV w B h ks ka kl) (tv' : TreeV w B' h ks' ka' kl) :
 Calls Tryz.prog 15 #[.agg #[.int .i64 h.kind, .int .i64 h.op, .int .i64 h.num, .string ⟨h.text.toArray⟩, .int .i64 h.ref.row, .int .i64 h.ref.col, .bool h.ref.pr, .bool h.ref.pc, .int .i64 h.to.row, .int .i64 h.to.col, .bool h.to.pr, .bool h.to.pc, .int .i64 h.fn, .slice ka kl kc], .agg #[.int .i64 h.kind, .int .i64 h.op, .int .i64 h.num, .string ⟨h.text.toArray⟩, .int .i64 h.ref.row, .int .i64 h.ref.col, .bool h.ref.pr, .bool h.ref.pc, .int .i64 h.to.row, .int .i64 h.to.col, .bool h.to.pr, .bool h.to.pc, .int .i64 h.fn, .slice ka' kl kc']] w (EqPost h h ks ks' w) := by
 have hm := tv.max
 have HI := Lib.hid ih; clear ih
 have HT := Lib.hid tv; clear tv
 have HT' := Lib.hid tv'; clear tv'
 have hx : sameB h h ks ks' = decide (ks = ks') := by simp [sameB]
 have HX := Lib.hid hx; clear hx
 have hr : refEq h.ref.row h.ref.col h.ref.pr h.ref.pc h.ref.row h.ref.col h.ref.pr h.ref.pc = true := by simp [refEq]
 have hr' : refEq h.to.row h.to.col h.to.pr h.to.pc h.to.row h.to.col h.to.pr h.to.pc = true := by simp [refEq]
 go_enter Tryz.func15, Tryz.ntmps15
 go_wp2_with fail
 go_loopw [5] (fun i wr => ERel ks ks' kl B B' ka ka' ((w.alloc (.cells #[.int .i64 h.kind, .int .i64 h.op, .int .i64 h.num, .string ⟨h.text.toArray⟩, .int .i64 h.ref.row, .int .i64 h.ref.col, .bool h.ref.pr, .bool h.ref.pc, .int .i64 h.to.row, .int .i64 h.to.col, .bool h.to.pr, .bool h.to.pc, .int .i64 h.fn, .slice ka kl kc] 34)).alloc (.cells #[.int .i64 h.kind, .int .i64 h.op, .int .i64 h.num, .string ⟨h.text.toArray⟩, .int .i64 h.ref.row, .int .i64 h.ref.col, .bool h.ref.pr, .bool h.ref.pc, .int .i64 h.to.row, .int .i64 h.to.col, .bool h.to.pr, .bool h.to.pc, .int .i64 h.fn, .slice ka' kl kc'] 34)) wr i) (fun i _ => kl - (intOf i).toNat)
 case atStart =>
  have b0 := ((Below.refl _ w).alloc hB (.cells #[.int .i64 h.kind, .int .i64 h.op, .int .i64 h.num, .string ⟨h.text.toArray⟩, .int .i64 h.ref.row, .int .i64 h.ref.col, .bool h.ref.pr, .bool h.ref.pc, .int .i64 h.to.row, .int .i64 h.to.col, .bool h.to.pr, .bool h.to.pc, .int .i64 h.fn, .slice ka kl kc] 34)).alloc (by simp; omega) (.cells #[.int .i64 h.kind, .int .i64 h.op, .int .i64 h.num, .string ⟨h.text.toArray⟩, .int .i64 h.ref.row, .int .i64 h.ref.col, .bool h.ref.pr, .bool h.ref.pc, .int .i64 h.to.row, .int .i64 h.to.col, .bool h.to.pr, .bool h.to.pc, .int .i64 h.fn, .slice ka' kl kc'] 34)
  have b0' := ((Below.refl _ w).alloc hB' (.cells #[.int .i64 h.kind, .int .i64 h.op, .int .i64 h.num, .string ⟨h.text.toArray⟩, .int .i64 h.ref.row, .int .i64 h.ref.col, .bool h.ref.pr, .bool h.ref.pc, .int .i64 h.to.row, .int .i64 h.to.col, .bool h.to.pr, .bool h.to.pc, .int .i64 h.fn, .slice ka kl kc] 34)).alloc (by simp; omega) (.cells #[.int .i64 h.kind, .int .i64 h.op, .int .i64 h.num, .string ⟨h.text.toArray⟩, .int .i64 h.ref.row, .int .i64 h.ref.col, .bool h.ref.pr, .bool h.ref.pc, .int .i64 h.to.row, .int .i64 h.to.col, .bool h.to.pr, .bool h.to.pc, .int .i64 h.fn, .slice ka' kl kc'] 34)
  exact ⟨0, ks, ks', rfl, by have := HT.out.len; omega, by rw [← HT.out.len, ← HT'.out.len], HT.out.row.kept b0 (Nat.le_refl _), HT'.out.row.kept b0' (Nat.le_refl _), HI.out, Below.refl _ _, Lib.hid rfl⟩
 case round =>
  obtain ⟨j, rest, rest', rfl, hj, hlen, hrow, hrow', hall, hbel, H1⟩ := hrel
  obtain ⟨zb, cb, cb'⟩ := kept_block2 hbel
  have hsz : w.heap.size + 2 ≤ wr.heap.size := by omega
  by_cases hlt : j < kl
  ·obtain ⟨h1, k1, r1, rfl⟩ := trees_cons (rest := rest) (by omega)
   obtain ⟨h2, k2, r2, rfl⟩ := trees_cons (rest := rest') (by omega)
   obtain ⟨b1, off1, ka1, kl1, kc1, rfl, hb1, N1, tv1⟩ := hrow.head
   obtain ⟨b2, off2, ka2, kl2, kc2, rfl, hb2, N2, tv2⟩ := hrow'.head
   obtain ⟨hl1, c0, c1, c2, c3, c4, c5, c6, c7, c8, c9, c10, c11, c12, c13, d5, d6, d7, d9, d10, d11⟩ := N1.facts
   clear d5 d6 d7 d9 d10 d11 N1
   obtain ⟨hl2, e0, e1, e2, e3, e4, e5, e6, e7, e8, e9, e10, e11, e12, e13, d5, d6, d7, d9, d10, d11⟩ := N2.facts
   clear d5 d6 d7 d9 d10 d11 N2
   have HT1 := Lib.hid tv1; clear tv1
   have HT2 := Lib.hid tv2; clear tv2
   have HC := Lib.hid (hall.1); have HA := Lib.hid hall.2; clear hall
   have HRow := Lib.hid hrow.2; clear hrow
   have HRow' := Lib.hid hrow'.2; clear hrow'
   have HJ := Lib.hid hj; clear hj
   have HLn := Lib.hid hlen; clear hlen
   go_wp2_with fail
   go_still_tail 10, (by kernel_rfl)
   change wpList _ _ _ _ _ wr.drew
   clear c0 c1 c2 c3 c4 c5 c6 c7 c8 c9 c10 c11 c12 c13 e0 e1 e2 e3 e4 e5 e6 e7 e8 e9 e10 e11 e12 e13
   go_wp2_with fail
   refine (HC.out h2 k2 _ B B' ka1 ka2 kl1 kc1 kl2 kc2 (by simp; omega) (by simp; omega) (HT1.out.kept ((Below.refl B _).drew) (Nat.le_refl _)) (HT2.out.kept ((Below.refl B' _).drew) (Nat.le_refl _))).mono ?_
   rintro e w2 ⟨rfl, b2'⟩
   have b3 : Below wr.heap.size wr w2 := ((Below.refl _ wr).drew).trans b2'
   clear b2'
   cases hq : sameB h1 h2 k1 k2
   ·have hz : sameB h h ks ks' = false := by
     rw [HX.out, ← H1.out]
     simp only [sameB, decide_eq_false_iff_not] at hq ⊢
     intro e; apply hq; injection e with e1 e2 e3; exact ⟨e1, e2⟩
    have HZ := Lib.hid hz; clear hz hq
    go_wp2
    go_ret
    exact ⟨ret_bool HZ.out.symm, (ext_alloc (ext_alloc (Below.refl _ _) _) _).trans ((hbel.trans (b3.mono hbel.size)).mono (by simp; omega))⟩
   ·have hz : decide (r1 = r2) = decide (ks = ks') := by
     rw [← H1.out]
     simp only [sameB, decide_eq_true_eq] at hq
     obtain ⟨rfl, rfl⟩ := hq
     simp
    have HZ := Lib.hid hz; clear hz hq
    go_wp2
    exact ⟨⟨j + 1, r1, r2, by go_num, by have := HJ.out; simp only [Trees.len] at this; omega, by have := HLn.out; simp only [Trees.len] at this; omega, HRow.out.kept b3 (by omega), HRow'.out.kept b3 (by omega), HA.out, hbel.trans (b3.mono hbel.size), HZ⟩, by simp [intOf]; omega⟩
  ·have hz : rest.len = 0 := by omega
   have hz' : rest'.len = 0 := by omega
   obtain rfl := trees_nil hz
   obtain rfl := trees_nil hz'
   have hq := H1.out
   have HQ := Lib.hid hq
   clear hq H1 hlen
   go_wp2
   go_ret
   exact ⟨ret_bool (by rw [HX.out, ← HQ.out]; rfl), (ext_alloc (ext_alloc (Below.refl _ _) _) _).trans (hbel.mono (by simp; omega))⟩
theorem refEq_differs (h : Hd) (ks : Trees) (h' : Hd) (ks' : Trees) (w : World) (ka ka' : Option Addr) (kl kc kl' kc' : Nat) (hlen : kl = ks.len) (hlen' : kl' = ks'.len) (hne : ¬ (h = h' ∧ kl = kl')) :
 Calls Tryz.prog 15 #[.agg #[.int .i64 h.kind, .int .i64 h.op, .int .i64 h.num, .string ⟨h.text.toArray⟩, .int .i64 h.ref.row, .int .i64 h.ref.col, .bool h.ref.pr, .bool h.ref.pc, .int .i64 h.to.row, .int .i64 h.to.col, .bool h.to.pr, .bool h.to.pc, .int .i64 h.fn, .slice ka kl kc], .agg #[.int .i64 h'.kind, .int .i64 h'.op, .int .i64 h'.num, .string ⟨h'.text.toArray⟩, .int .i64 h'.ref.row, .int .i64 h'.ref.col, .bool h'.ref.pr, .bool h'.ref.pc, .int .i64 h'.to.row, .int .i64 h'.to.col, .bool h'.to.pr, .bool h'.to.pc, .int .i64 h'.fn, .slice ka' kl' kc']] w (EqPost h h' ks ks' w) := by
 have hx : sameB h h' ks ks' = false := by
  simp only [sameB, decide_eq_false_iff_not]
  rintro ⟨rfl, rfl⟩
  exact hne ⟨rfl, hlen.trans hlen'.symm⟩
 have HX := Lib.hid hx; clear hx
 have HN := Lib.hid hne; clear hne
 clear hlen hlen'
 obtain ⟨kind, op, num, text, ⟨rr, rc, rpr, rpc⟩, ⟨tr, tc, tpr, tpc⟩, fn⟩ := h
 obtain ⟨kind', op', num', text', ⟨rr', rc', rpr', rpc'⟩, ⟨tr', tc', tpr', tpc'⟩, fn'⟩ := h'
 go_enter Tryz.func15, Tryz.ntmps15
 go_wp2_with fail
 all_goals first
  | (go_ret; exact ⟨ret_bool HX.out.symm, ext_alloc (ext_alloc (Below.refl _ _) _) _⟩)
  | (exfalso; have hq : ((kl : Int) != kl') = false := by assumption
     have hn := HN.out; clear HN HX
     have hkl : kl = kl' := by simp at hq; omega
     clear hq
     simp_all [refEq])
theorem refEq_step (h : Hd) (ks : Trees) (ih : AllT REq ks) : REq h ks := by
 intro h' ks' w B B' ka ka' kl kc kl' kc' hB hB' tv tv'
 by_cases hs : h = h' ∧ kl = kl'
 ·obtain ⟨rfl, rfl⟩ := hs
  exact refEq_same h ks ih ks' w B B' ka ka' kl kc kc' hB hB' tv tv'
 ·exact refEq_differs h ks h' ks' w ka ka' kl kc kl' kc' tv.len tv'.len hs
theorem refEq_any (h : Hd) (ks : Trees) : REq h ks := refEq_step h ks (allT refEq_step ks)
end Go.Proofs.YtlmpiobdgkmmgaaGreatDoor
namespace Go.Proofs.YtlmpiobdgkmmgaaGreatDoor
open Go.RowKit
theorem LRow.head {w : World} {ok : Nat → Prop} {h : Hd} {ks rest : Trees} {a : Option Addr} {i : Nat} (r : LRow w ok (.cons h ks rest) a i) :
 ∃ b off ka kl kc, a = some ⟨b, off, none⟩ ∧ ok b ∧ NodeAt w b (off + i * 14) h (.slice ka kl kc) ∧ LTree w ok h ks ka kl kc := by
 obtain ⟨⟨b, off, ka, kl, kc, e, lt, n, l, m, o, mk, k⟩, _⟩ := r
 exact ⟨b, off, ka, kl, kc, e, lt, n, l, m, o, mk, k⟩
def RMl (h : Hd) (ks : Trees) : Prop := ∀ (w : World) (ok : Nat → Prop) (ka : Option Addr) (kl kc : Nat), (∀ b, ok b → b < w.heap.size) → LTree w ok h ks ka kl kc →
 Calls Tryz.prog 37 #[.agg #[.int .i64 h.kind, .int .i64 h.op, .int .i64 h.num, .string ⟨h.text.toArray⟩, .int .i64 h.ref.row, .int .i64 h.ref.col, .bool h.ref.pr, .bool h.ref.pc, .int .i64 h.to.row, .int .i64 h.to.col, .bool h.to.pr, .bool h.to.pc, .int .i64 h.fn, .slice ka kl kc]] w fun e w' => e = .returned (.bool true) ∧ Below w.heap.size w w'
def MlRel (nd : Hd) (g kl kc : Nat) (ok : Nat → Prop) (w wr : World) (i : Value) : Prop :=
 ∃ (j : Nat) (rest : Trees), i = .int .i64 j ∧ Hid (j + rest.len = kl) ∧ LRow wr ok rest (some ⟨g, 0, none⟩) j ∧ AllT RMl rest ∧ wr.heap[w.heap.size]? = some (.cells #[.int .i64 nd.kind, .int .i64 nd.op, .int .i64 nd.num, .string ⟨nd.text.toArray⟩, .int .i64 nd.ref.row, .int .i64 nd.ref.col, .bool nd.ref.pr, .bool nd.ref.pc, .int .i64 nd.to.row, .int .i64 nd.to.col, .bool nd.to.pr, .bool nd.to.pc, .int .i64 nd.fn, .slice (some ⟨g, 0, none⟩) kl kc] 34 (0, 0)) ∧ Hid (Below w.heap.size w wr)
theorem marked_step (nd : Hd) (ks : Trees) (ih : AllT RMl ks) : RMl nd ks := by
 intro w ok ka kl kc hok tv
 have hm := tv.max
 have b0 : ∀ O, Below w.heap.size w (w.alloc O) := fun O => ext_alloc (Below.refl _ w) O
 obtain ⟨g, cur, rfl, og, m1, m2, m3, m4, m5⟩ := tv.mark
 have hgw := hok g og
 have hcap : kl + 1 ≤ kc := m1
 have hck : (kl : Int) + 1 ≤ (kc : Int) := by omega
 have hk0 : (0 : Int) ≤ (kl : Int) + 1 := by omega
 have hki : (kl : Int) < (kl : Int) + 1 := by omega
 have RG := Lib.hid (show (w.alloc (.cells #[.int .i64 nd.kind, .int .i64 nd.op, .int .i64 nd.num, .string ⟨nd.text.toArray⟩, .int .i64 nd.ref.row, .int .i64 nd.ref.col, .bool nd.ref.pr, .bool nd.ref.pc, .int .i64 nd.to.row, .int .i64 nd.to.col, .bool nd.to.pr, .bool nd.to.pc, .int .i64 nd.fn, .slice (some ⟨g, 0, none⟩) kl kc] 34)).rangeAt g (kl * 14) [.int .i64 (-7), .int .i64 0, .int .i64 kl, .string ⟨#[]⟩, .int .i64 0, .int .i64 0, .bool false, .bool false, .int .i64 0, .int .i64 0, .bool false, .bool false, .int .i64 0, .slice none 0 0] from fun i x hx => by
  rw [cells_of_block ((Below.heap_alloc w (.cells #[.int .i64 nd.kind, .int .i64 nd.op, .int .i64 nd.num, .string ⟨nd.text.toArray⟩, .int .i64 nd.ref.row, .int .i64 nd.ref.col, .bool nd.ref.pr, .bool nd.ref.pc, .int .i64 nd.to.row, .int .i64 nd.to.col, .bool nd.to.pr, .bool nd.to.pc, .int .i64 nd.fn, .slice (some ⟨g, 0, none⟩) kl kc] 34) g hgw).trans m3)]; exact m5 i x hx)
 have HT := Lib.hid tv; have HI := Lib.hid ih; have OK := Lib.hid hok
 have H0 := Lib.hid (heap_alloc_new w (.cells #[.int .i64 nd.kind, .int .i64 nd.op, .int .i64 nd.num, .string ⟨nd.text.toArray⟩, .int .i64 nd.ref.row, .int .i64 nd.ref.col, .bool nd.ref.pr, .bool nd.ref.pc, .int .i64 nd.to.row, .int .i64 nd.to.col, .bool nd.to.pr, .bool nd.to.pc, .int .i64 nd.fn, .slice (some ⟨g, 0, none⟩) kl kc] 34))
 have B0 := Lib.hid (b0 (.cells #[.int .i64 nd.kind, .int .i64 nd.op, .int .i64 nd.num, .string ⟨nd.text.toArray⟩, .int .i64 nd.ref.row, .int .i64 nd.ref.col, .bool nd.ref.pr, .bool nd.ref.pc, .int .i64 nd.to.row, .int .i64 nd.to.col, .bool nd.to.pr, .bool nd.to.pc, .int .i64 nd.fn, .slice (some ⟨g, 0, none⟩) kl kc] 34))
 have hkm : (kl : Int) + 1 ≤ 9223372036854775807 := by omega
 clear tv ih hok b0 m3 m4 m5
 go_enter Tryz.func37, Tryz.ntmps37
 go_wp2_with (first
 | (refine wpList_load_rng (N := g) (off := kl * 14) (vs := [.int .i64 (-7), .int .i64 0, .int .i64 kl, .string ⟨#[]⟩, .int .i64 0, .int .i64 0, .bool false, .bool false, .int .i64 0, .int .i64 0, .bool false, .bool false, .int .i64 0, .slice none 0 0]) rfl rfl rfl RG.out rfl ?_)
 | (refine wpList_store_mem (N := w.heap.size + 1) (off := 0) (vs := [.int .i64 (-7), .int .i64 0, .int .i64 kl, .string ⟨#[]⟩, .int .i64 0, .int .i64 0, .bool false, .bool false, .int .i64 0, .int .i64 0, .bool false, .bool false, .int .i64 0, .slice none 0 0]) infoExprS rfl rfl rfl rfl (by have := heap_alloc_new (w.alloc (.cells #[.int .i64 nd.kind, .int .i64 nd.op, .int .i64 nd.num, .string ⟨nd.text.toArray⟩, .int .i64 nd.ref.row, .int .i64 nd.ref.col, .bool nd.ref.pr, .bool nd.ref.pc, .int .i64 nd.to.row, .int .i64 nd.to.col, .bool nd.to.pr, .bool nd.to.pc, .int .i64 nd.fn, .slice (some ⟨g, 0, none⟩) kl kc] 34)) (.cells #[.int .i64 0, .int .i64 0, .int .i64 0, .string ⟨#[]⟩, .int .i64 0, .int .i64 0, .bool false, .bool false, .int .i64 0, .int .i64 0, .bool false, .bool false, .int .i64 0, .slice none 0 0] 34); simpa using this) (by simp) rfl (by simp [Value.oneCell']) ?_
    intro w2 hw2
    have h1 : w2.heap[w.heap.size + 1]? = some (.cells #[.int .i64 (-7), .int .i64 0, .int .i64 kl, .string ⟨#[]⟩, .int .i64 0, .int .i64 0, .bool false, .bool false, .int .i64 0, .int .i64 0, .bool false, .bool false, .int .i64 0, .slice none 0 0] 34 (0, 0)) := by
     rw [hw2]
     refine setCells_all (vs := [.int .i64 (-7), .int .i64 0, .int .i64 kl, .string ⟨#[]⟩, .int .i64 0, .int .i64 0, .bool false, .bool false, .int .i64 0, .int .i64 0, .bool false, .bool false, .int .i64 0, .slice none 0 0]) (cs := #[.int .i64 0, .int .i64 0, .int .i64 0, .string ⟨#[]⟩, .int .i64 0, .int .i64 0, .bool false, .bool false, .int .i64 0, .int .i64 0, .bool false, .bool false, .int .i64 0, .slice none 0 0]) ?_ rfl
     have := heap_alloc_new (w.alloc (.cells #[.int .i64 nd.kind, .int .i64 nd.op, .int .i64 nd.num, .string ⟨nd.text.toArray⟩, .int .i64 nd.ref.row, .int .i64 nd.ref.col, .bool nd.ref.pr, .bool nd.ref.pc, .int .i64 nd.to.row, .int .i64 nd.to.col, .bool nd.to.pr, .bool nd.to.pc, .int .i64 nd.fn, .slice (some ⟨g, 0, none⟩) kl kc] 34)) (.cells #[.int .i64 0, .int .i64 0, .int .i64 0, .string ⟨#[]⟩, .int .i64 0, .int .i64 0, .bool false, .bool false, .int .i64 0, .int .i64 0, .bool false, .bool false, .int .i64 0, .slice none 0 0] 34); simpa using this
    have h0 : w2.heap[w.heap.size]? = some (.cells #[.int .i64 nd.kind, .int .i64 nd.op, .int .i64 nd.num, .string ⟨nd.text.toArray⟩, .int .i64 nd.ref.row, .int .i64 nd.ref.col, .bool nd.ref.pr, .bool nd.ref.pc, .int .i64 nd.to.row, .int .i64 nd.to.col, .bool nd.to.pr, .bool nd.to.pc, .int .i64 nd.fn, .slice (some ⟨g, 0, none⟩) kl kc] 34 (0, 0)) := by rw [hw2]; exact (setCells_other (by omega) _ _ _).trans (heap_alloc2_old w _ _)
    have hb : Below w.heap.size w w2 := by rw [hw2]; exact setCells_below (by omega) _ _ (ext_alloc B0.out _)
    have c1 := cells_of_block h1
    have c0 := cells_of_block h0
    have B2 := Lib.hid hb
    have H2 := Lib.hid h0
    clear hw2 h1 h0 hb))
 clear c1 c0
 go_loopw [5] (fun i wr => MlRel nd g kl kc ok w wr i) (fun i _ => kl - (intOf i).toNat)
 case atStart => exact ⟨0, ks, rfl, Lib.hid (by have := HT.out.len; omega), HT.out.row.kept fun b hb => ⟨hb, B2.out.block b (OK.out b hb)⟩, HI.out, H2.out, B2⟩
 case round =>
  obtain ⟨j, rest, rfl, HJ, hrow, hall, hbx, HB⟩ := hrel
  have c0 := cells_of_block hbx
  have HBX := Lib.hid hbx
  have hlen := HJ.out
  by_cases hlt : j < kl
  ·obtain ⟨h', k', r', rfl⟩ := trees_cons (rest := rest) (by omega)
   obtain ⟨b1, off, ka', kl', kc', ea, hb1, N1, tv1⟩ := hrow.head
   injection ea with ea
   injection ea with e1 e2 e3
   subst e1 e2
   have RG1 := Lib.hid (show wr.rangeAt g (j * 14) [.int .i64 h'.kind, .int .i64 h'.op, .int .i64 h'.num, .string ⟨h'.text.toArray⟩, .int .i64 h'.ref.row, .int .i64 h'.ref.col, .bool h'.ref.pr, .bool h'.ref.pc, .int .i64 h'.to.row, .int .i64 h'.to.col, .bool h'.to.pr, .bool h'.to.pc, .int .i64 h'.fn, .slice ka' kl' kc'] from fun q x hx => by have := N1.2 q x hx; rwa [Nat.zero_add] at this)
   have hsz : ∀ b, ok b → b < wr.heap.size := fun b hb => Nat.lt_of_lt_of_le (OK.out b hb) HB.out.size
   have CC := Lib.hid (hall.1 wr ok ka' kl' kc' hsz tv1)
   have HA := Lib.hid hall.2; have HR := Lib.hid hrow.2; have SZ := Lib.hid hsz
   have hji : (j : Int) < (kl : Int) := by omega
   have hj0 : (0 : Int) ≤ (j : Int) := by omega
   clear hlen hall hrow N1 tv1 hsz hbx
   go_wp2_with (refine wpList_load_rng (N := g) (off := j * 14) (vs := [.int .i64 h'.kind, .int .i64 h'.op, .int .i64 h'.num, .string ⟨h'.text.toArray⟩, .int .i64 h'.ref.row, .int .i64 h'.ref.col, .bool h'.ref.pr, .bool h'.ref.pc, .int .i64 h'.to.row, .int .i64 h'.to.col, .bool h'.to.pr, .bool h'.to.pc, .int .i64 h'.fn, .slice ka' kl' kc']) rfl rfl rfl RG1.out rfl ?_)
   refine CC.out.mono ?_
   rintro e w2 ⟨rfl, b2⟩
   have HR2 := Lib.hid (HR.out.kept (ok' := ok) (w' := w2) fun b hb => ⟨hb, b2.block b (SZ.out b hb)⟩)
   have BX2 := Lib.hid ((b2.block _ (lt_of_block HBX.out)).trans HBX.out)
   have B2 := Lib.hid (HB.out.trans (b2.mono HB.out.size))
   have HJ2 := Lib.hid (show (j + 1) + r'.len = kl by have := HJ.out; simp only [Trees.len] at this; omega)
   clear b2 c0
   go_wp2
   exact ⟨⟨j + 1, r', by go_num, HJ2, HR2.out, HA.out, BX2.out, B2⟩, by simp [intOf]; have := HJ2.out; omega⟩
  ·clear hrow hall hbx
   go_wp2
   go_ret
   exact ⟨rfl, HB.out⟩
theorem marked_any (h : Hd) (ks : Trees) : RMl h ks := marked_step h ks (allT marked_step ks)
theorem kept9_any (h : Hd) (ks : Trees) (w : World) (ok : Nat → Prop) (B : Nat) (F : List Nat) (a a' : Option Addr) (l c l' c' : Nat) (hok : ∀ b, ok b → b < w.heap.size) (hB : B ≤ w.heap.size) (lt : LTree w ok h ks a l c) (ow : OwnV w ks (.slice a l c) F) (hn : F.Nodup) (hF : ∀ b ∈ F, b < w.heap.size) (hk : ks.nodes ≤ 100000) (tv : TreeV w B h ks a' l') :
 Calls Tryz.prog 12 #[.agg #[.int .i64 h.kind, .int .i64 h.op, .int .i64 h.num, .string ⟨h.text.toArray⟩, .int .i64 h.ref.row, .int .i64 h.ref.col, .bool h.ref.pr, .bool h.ref.pc, .int .i64 h.to.row, .int .i64 h.to.col, .bool h.to.pr, .bool h.to.pc, .int .i64 h.fn, .slice a l c], .agg #[.int .i64 h.kind, .int .i64 h.op, .int .i64 h.num, .string ⟨h.text.toArray⟩, .int .i64 h.ref.row, .int .i64 h.ref.col, .bool h.ref.pr, .bool h.ref.pc, .int .i64 h.to.row, .int .i64 h.to.col, .bool h.to.pr, .bool h.to.pc, .int .i64 h.fn, .slice a' l' c']] w fun e w' => e = .returned (.bool true) ∧ Spd F w w' := by
 have b0 := ext_alloc (ext_alloc (Below.refl _ w) (.cells #[.int .i64 h.kind, .int .i64 h.op, .int .i64 h.num, .string ⟨h.text.toArray⟩, .int .i64 h.ref.row, .int .i64 h.ref.col, .bool h.ref.pr, .bool h.ref.pc, .int .i64 h.to.row, .int .i64 h.to.col, .bool h.to.pr, .bool h.to.pc, .int .i64 h.fn, .slice a l c] 34)) (.cells #[.int .i64 h.kind, .int .i64 h.op, .int .i64 h.num, .string ⟨h.text.toArray⟩, .int .i64 h.ref.row, .int .i64 h.ref.col, .bool h.ref.pr, .bool h.ref.pc, .int .i64 h.to.row, .int .i64 h.to.col, .bool h.to.pr, .bool h.to.pc, .int .i64 h.fn, .slice a' l' c'] 34)
 have M0 := Lib.hid (lt.kept (ok' := ok) fun b hb => ⟨hb, b0.block b (hok b hb)⟩)
 have T0 := Lib.hid (tv.kept (b0.mono hB) (Nat.le_refl _))
 have B0 := Lib.hid b0
 have OK := Lib.hid hok; have OW := Lib.hid ow; have HN := Lib.hid hn; have HF := Lib.hid hF; have HK := Lib.hid hk
 clear lt tv b0 hok ow hn hF hk
 go_enter Tryz.func12, Tryz.ntmps12
 go_wp2_with fail
 have cb := refEq_any h ks h ks _ w.heap.size B a a' l c l' c' (by simp; omega) (by simp; omega) (LTree.plain M0.out |>.to OK.out) T0.out
 refine cb.mono ?_
 clear cb
 rintro e w2 ⟨he, b2⟩
 obtain rfl := he.trans (show _ = Ending.returned (.bool true) by simp [sameB])
 obtain ⟨zb, cb, cb'⟩ := kept_block2 b2
 have M2 := Lib.hid (M0.out.kept (ok' := ok) fun b hb => ⟨hb, b2.block b (by have := OK.out b hb; simp; omega)⟩)
 have B2 := Lib.hid (B0.out.trans (b2.mono B0.out.size))
 have hok2 : ∀ b, ok b → b < w2.heap.size := fun b hb => by have := OK.out b hb; have := B2.out.size; omega
 have OK2 := Lib.hid hok2
 clear b2 hok2
 go_wp2_with fail
 have cm := marked_any h ks w2 ok a l c OK2.out M2.out
 refine cm.mono ?_
 clear cm
 rintro e w3 ⟨rfl, b3⟩
 have k0 := fun o => (b3.cell (p := ⟨w.heap.size, o, none⟩) (by simp; omega)).trans (cb o)
 have B3 := Lib.hid (B2.out.trans (b3.mono B2.out.size))
 clear b3 cb cb'
 go_wp2_with fail
 have cs := spoil_any h ks w3 F a l c (OW.out.ext HF.out B3.out) HN.out (fun b hb => Nat.lt_of_lt_of_le (HF.out b hb) B3.out.size) HK.out
 refine cs.mono ?_
 clear cs
 rintro e w4 ⟨rfl, s4⟩
 go_wp2
 go_ret
 exact ⟨rfl, (Spd.of B3.out).trans s4 fun b hb => .inl hb⟩
end Go.Proofs.YtlmpiobdgkmmgaaGreatDoor
