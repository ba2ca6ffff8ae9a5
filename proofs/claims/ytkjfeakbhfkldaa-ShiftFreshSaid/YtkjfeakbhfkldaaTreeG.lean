/- Trees: the reference's Eq and Same. -/
import Derived.Test.YtkjfeakbhfkldaaTreeE
import Derived.StillTailTactics
namespace Go.Proofs.Ytkjfeakbhfkldaa
open Go.RowKit

@[go_sem ↓ high] theorem run_neq_ref (a b : Int) (c d : Bool) (a' b' : Int) (c' d' : Bool) (w : World) :
    (binOp .neq 26 (.agg #[.int .i64 a, .int .i64 b, .bool c, .bool d]) (.agg #[.int .i64 a', .int .i64 b', .bool c', .bool d'])).run Try.prog w = .ok (.bool (!refEq a b c d a' b' c' d')) w := by
  by_cases h1 : a = a' <;> by_cases h2 : b = b' <;> by_cases h3 : c = c' <;> by_cases h4 : d = d' <;> simp [go_sem, refEq, h1, h2, h3, h4]

def sameB (h h' : Hd) (ks ks' : Trees) : Bool := decide (h = h' ∧ ks = ks')
def EqPost (h h' : Hd) (ks ks' : Trees) (w : World) (e : Ending) (w' : World) : Prop := e = .returned (.bool (sameB h h' ks ks')) ∧ Below w.heap.size w w'
def REq (h : Hd) (ks : Trees) : Prop := ∀ (h' : Hd) (ks' : Trees) (w : World) (B B' : Nat) (ka ka' : Option Addr) (kl kc kl' kc' : Nat), B ≤ w.heap.size → B' ≤ w.heap.size → TreeV w B h ks ka kl → TreeV w B' h' ks' ka' kl' →
  Calls Try.prog 21 #[.agg #[.int .i64 h.kind, .int .i64 h.op, .int .i64 h.num, .string ⟨h.text.toArray⟩, .int .i64 h.ref.row, .int .i64 h.ref.col, .bool h.ref.pr, .bool h.ref.pc, .int .i64 h.to.row, .int .i64 h.to.col, .bool h.to.pr, .bool h.to.pc, .int .i64 h.fn, .slice ka kl kc], .agg #[.int .i64 h'.kind, .int .i64 h'.op, .int .i64 h'.num, .string ⟨h'.text.toArray⟩, .int .i64 h'.ref.row, .int .i64 h'.ref.col, .bool h'.ref.pr, .bool h'.ref.pc, .int .i64 h'.to.row, .int .i64 h'.to.col, .bool h'.to.pr, .bool h'.to.pc, .int .i64 h'.fn, .slice ka' kl' kc']] w (EqPost h h' ks ks' w)
def ERel (ks ks' : Trees) (kl B B' : Nat) (ka ka' : Option Addr) (w wr : World) (i : Value) : Prop :=
  ∃ (j : Nat) (rest rest' : Trees), i = .int .i64 j ∧ j + rest.len = kl ∧ rest'.len = rest.len ∧ RowIn wr B rest ka j ∧ RowIn wr B' rest' ka' j ∧ AllT REq rest ∧ Below w.heap.size w wr ∧ Hid (decide (rest = rest') = decide (ks = ks'))

set_option maxRecDepth 100000 in
set_option maxHeartbeats 4000000 in
theorem refEq_same (h : Hd) (ks : Trees) (ih : AllT REq ks) (ks' : Trees) (w : World) (B B' : Nat) (ka ka' : Option Addr) (kl kc kc' : Nat) (hB : B ≤ w.heap.size) (hB' : B' ≤ w.heap.size) (tv : TreeV w B h ks ka kl) (tv' : TreeV w B' h ks' ka' kl) :
    Calls Try.prog 21 #[.agg #[.int .i64 h.kind, .int .i64 h.op, .int .i64 h.num, .string ⟨h.text.toArray⟩, .int .i64 h.ref.row, .int .i64 h.ref.col, .bool h.ref.pr, .bool h.ref.pc, .int .i64 h.to.row, .int .i64 h.to.col, .bool h.to.pr, .bool h.to.pc, .int .i64 h.fn, .slice ka kl kc], .agg #[.int .i64 h.kind, .int .i64 h.op, .int .i64 h.num, .string ⟨h.text.toArray⟩, .int .i64 h.ref.row, .int .i64 h.ref.col, .bool h.ref.pr, .bool h.ref.pc, .int .i64 h.to.row, .int .i64 h.to.col, .bool h.to.pr, .bool h.to.pc, .int .i64 h.fn, .slice ka' kl kc']] w (EqPost h h ks ks' w) := by
  have hm := tv.max
  have HI := Lib.hid ih; clear ih
  have HT := Lib.hid tv; clear tv
  have HT' := Lib.hid tv'; clear tv'
  have hx : sameB h h ks ks' = decide (ks = ks') := by simp [sameB]
  have HX := Lib.hid hx; clear hx
  have hr : refEq h.ref.row h.ref.col h.ref.pr h.ref.pc h.ref.row h.ref.col h.ref.pr h.ref.pc = true := by simp [refEq]
  have hr' : refEq h.to.row h.to.col h.to.pr h.to.pc h.to.row h.to.col h.to.pr h.to.pc = true := by simp [refEq]
  go_enter Try.func21, Try.ntmps21
  go_wp2_with fail
  go_loopw [5] (fun i wr => ERel ks ks' kl B B' ka ka' ((w.alloc (.cells #[.int .i64 h.kind, .int .i64 h.op, .int .i64 h.num, .string ⟨h.text.toArray⟩, .int .i64 h.ref.row, .int .i64 h.ref.col, .bool h.ref.pr, .bool h.ref.pc, .int .i64 h.to.row, .int .i64 h.to.col, .bool h.to.pr, .bool h.to.pc, .int .i64 h.fn, .slice ka kl kc] 29)).alloc (.cells #[.int .i64 h.kind, .int .i64 h.op, .int .i64 h.num, .string ⟨h.text.toArray⟩, .int .i64 h.ref.row, .int .i64 h.ref.col, .bool h.ref.pr, .bool h.ref.pc, .int .i64 h.to.row, .int .i64 h.to.col, .bool h.to.pr, .bool h.to.pc, .int .i64 h.fn, .slice ka' kl kc'] 29)) wr i) (fun i _ => kl - (intOf i).toNat)
  case atStart =>
    have b0 := ((Below.refl _ w).alloc hB (.cells #[.int .i64 h.kind, .int .i64 h.op, .int .i64 h.num, .string ⟨h.text.toArray⟩, .int .i64 h.ref.row, .int .i64 h.ref.col, .bool h.ref.pr, .bool h.ref.pc, .int .i64 h.to.row, .int .i64 h.to.col, .bool h.to.pr, .bool h.to.pc, .int .i64 h.fn, .slice ka kl kc] 29)).alloc (by simp; omega) (.cells #[.int .i64 h.kind, .int .i64 h.op, .int .i64 h.num, .string ⟨h.text.toArray⟩, .int .i64 h.ref.row, .int .i64 h.ref.col, .bool h.ref.pr, .bool h.ref.pc, .int .i64 h.to.row, .int .i64 h.to.col, .bool h.to.pr, .bool h.to.pc, .int .i64 h.fn, .slice ka' kl kc'] 29)
    have b0' := ((Below.refl _ w).alloc hB' (.cells #[.int .i64 h.kind, .int .i64 h.op, .int .i64 h.num, .string ⟨h.text.toArray⟩, .int .i64 h.ref.row, .int .i64 h.ref.col, .bool h.ref.pr, .bool h.ref.pc, .int .i64 h.to.row, .int .i64 h.to.col, .bool h.to.pr, .bool h.to.pc, .int .i64 h.fn, .slice ka kl kc] 29)).alloc (by simp; omega) (.cells #[.int .i64 h.kind, .int .i64 h.op, .int .i64 h.num, .string ⟨h.text.toArray⟩, .int .i64 h.ref.row, .int .i64 h.ref.col, .bool h.ref.pr, .bool h.ref.pc, .int .i64 h.to.row, .int .i64 h.to.col, .bool h.to.pr, .bool h.to.pc, .int .i64 h.fn, .slice ka' kl kc'] 29)
    exact ⟨0, ks, ks', rfl, by have := HT.out.len; omega, by rw [← HT.out.len, ← HT'.out.len], HT.out.row.kept b0 (Nat.le_refl _), HT'.out.row.kept b0' (Nat.le_refl _), HI.out, Below.refl _ _, Lib.hid rfl⟩
  case round =>
    obtain ⟨j, rest, rest', rfl, hj, hlen, hrow, hrow', hall, hbel, H1⟩ := hrel
    obtain ⟨zb, cb, cb'⟩ := kept_block2 hbel
    have hsz : w.heap.size + 2 ≤ wr.heap.size := by omega
    by_cases hlt : j < kl
    · obtain ⟨h1, k1, r1, rfl⟩ := trees_cons (rest := rest) (by omega)
      obtain ⟨h2, k2, r2, rfl⟩ := trees_cons (rest := rest') (by omega)
      obtain ⟨b1, off1, ka1, kl1, kc1, rfl, hb1, N1, tv1⟩ := hrow.head
      obtain ⟨b2, off2, ka2, kl2, kc2, rfl, hb2, N2, tv2⟩ := hrow'.head
      obtain ⟨hl1, c0, c1, c2, c3, c4, c5, c6, c7, c8, c9, c10, c11, c12, c13, d5, d6, d7, d9, d10, d11⟩ := N1.facts
      clear d5 d6 d7 d9 d10 d11 N1
      obtain ⟨hl2, e0, e1, e2, e3, e4, e5, e6, e7, e8, e9, e10, e11, e12, e13, d5, d6, d7, d9, d10, d11⟩ := N2.facts
      clear d5 d6 d7 d9 d10 d11 N2
      have HT1 := Lib.hid tv1; clear tv1
      have HT2 := Lib.hid tv2; clear tv2
      have HC := Lib.hid (hall.1); have HA := Lib.hid hall.2; clear hall
      have HRow := Lib.hid hrow.2; clear hrow
      have HRow' := Lib.hid hrow'.2; clear hrow'
      have HJ := Lib.hid hj; clear hj
      have HLn := Lib.hid hlen; clear hlen
      go_wp2_with fail
      go_still_tail 10, (by kernel_rfl)
      change wpList _ _ _ _ _ wr.drew
      clear c0 c1 c2 c3 c4 c5 c6 c7 c8 c9 c10 c11 c12 c13 e0 e1 e2 e3 e4 e5 e6 e7 e8 e9 e10 e11 e12 e13
      go_wp2_with fail
      refine (HC.out h2 k2 _ B B' ka1 ka2 kl1 kc1 kl2 kc2 (by simp; omega) (by simp; omega) (HT1.out.kept ((Below.refl B _).drew) (Nat.le_refl _)) (HT2.out.kept ((Below.refl B' _).drew) (Nat.le_refl _))).mono ?_
      rintro e w2 ⟨rfl, b2'⟩
      have b3 : Below wr.heap.size wr w2 := ((Below.refl _ wr).drew).trans b2'
      clear b2'
      cases hq : sameB h1 h2 k1 k2
      · have hz : sameB h h ks ks' = false := by
          rw [HX.out, ← H1.out]
          simp only [sameB, decide_eq_false_iff_not] at hq ⊢
          intro e; apply hq; injection e with e1 e2 e3; exact ⟨e1, e2⟩
        have HZ := Lib.hid hz; clear hz hq
        go_wp2
        go_ret
        exact ⟨ret_bool HZ.out.symm, (ext_alloc (ext_alloc (Below.refl _ _) _) _).trans ((hbel.trans (b3.mono hbel.size)).mono (by simp; omega))⟩
      · have hz : decide (r1 = r2) = decide (ks = ks') := by
          rw [← H1.out]
          simp only [sameB, decide_eq_true_eq] at hq
          obtain ⟨rfl, rfl⟩ := hq
          simp
        have HZ := Lib.hid hz; clear hz hq
        go_wp2
        exact ⟨⟨j + 1, r1, r2, by go_num, by have := HJ.out; simp only [Trees.len] at this; omega, by have := HLn.out; simp only [Trees.len] at this; omega, HRow.out.kept b3 (by omega), HRow'.out.kept b3 (by omega), HA.out, hbel.trans (b3.mono hbel.size), HZ⟩, by simp [intOf]; omega⟩
    · have hz : rest.len = 0 := by omega
      have hz' : rest'.len = 0 := by omega
      obtain rfl := trees_nil hz
      obtain rfl := trees_nil hz'
      have hq := H1.out
      have HQ := Lib.hid hq
      clear hq H1 hlen
      go_wp2
      go_ret
      exact ⟨ret_bool (by rw [HX.out, ← HQ.out]; rfl), (ext_alloc (ext_alloc (Below.refl _ _) _) _).trans (hbel.mono (by simp; omega))⟩

set_option maxRecDepth 100000 in
set_option maxHeartbeats 4000000 in
theorem refEq_differs (h : Hd) (ks : Trees) (h' : Hd) (ks' : Trees) (w : World) (ka ka' : Option Addr) (kl kc kl' kc' : Nat) (hlen : kl = ks.len) (hlen' : kl' = ks'.len) (hne : ¬ (h = h' ∧ kl = kl')) :
    Calls Try.prog 21 #[.agg #[.int .i64 h.kind, .int .i64 h.op, .int .i64 h.num, .string ⟨h.text.toArray⟩, .int .i64 h.ref.row, .int .i64 h.ref.col, .bool h.ref.pr, .bool h.ref.pc, .int .i64 h.to.row, .int .i64 h.to.col, .bool h.to.pr, .bool h.to.pc, .int .i64 h.fn, .slice ka kl kc], .agg #[.int .i64 h'.kind, .int .i64 h'.op, .int .i64 h'.num, .string ⟨h'.text.toArray⟩, .int .i64 h'.ref.row, .int .i64 h'.ref.col, .bool h'.ref.pr, .bool h'.ref.pc, .int .i64 h'.to.row, .int .i64 h'.to.col, .bool h'.to.pr, .bool h'.to.pc, .int .i64 h'.fn, .slice ka' kl' kc']] w (EqPost h h' ks ks' w) := by
  have hx : sameB h h' ks ks' = false := by
    simp only [sameB, decide_eq_false_iff_not]
    rintro ⟨rfl, rfl⟩
    exact hne ⟨rfl, hlen.trans hlen'.symm⟩
  have HX := Lib.hid hx; clear hx
  have HN := Lib.hid hne; clear hne
  clear hlen hlen'
  obtain ⟨kind, op, num, text, ⟨rr, rc, rpr, rpc⟩, ⟨tr, tc, tpr, tpc⟩, fn⟩ := h
  obtain ⟨kind', op', num', text', ⟨rr', rc', rpr', rpc'⟩, ⟨tr', tc', tpr', tpc'⟩, fn'⟩ := h'
  go_enter Try.func21, Try.ntmps21
  go_wp2_with fail
  all_goals first
    | (go_ret; exact ⟨ret_bool HX.out.symm, ext_alloc (ext_alloc (Below.refl _ _) _) _⟩)
    | (exfalso; have hq : ((kl : Int) != kl') = false := by assumption
       have hn := HN.out; clear HN HX
       have hkl : kl = kl' := by simp at hq; omega
       clear hq
       simp_all [refEq])
theorem refEq_step (h : Hd) (ks : Trees) (ih : AllT REq ks) : REq h ks := by
  intro h' ks' w B B' ka ka' kl kc kl' kc' hB hB' tv tv'
  by_cases hs : h = h' ∧ kl = kl'
  · obtain ⟨rfl, rfl⟩ := hs
    exact refEq_same h ks ih ks' w B B' ka ka' kl kc kc' hB hB' tv tv'
  · exact refEq_differs h ks h' ks' w ka ka' kl kc kl' kc' tv.len tv'.len hs
theorem refEq_any (h : Hd) (ks : Trees) : REq h ks := refEq_step h ks (allT refEq_step ks)
end Go.Proofs.Ytkjfeakbhfkldaa
