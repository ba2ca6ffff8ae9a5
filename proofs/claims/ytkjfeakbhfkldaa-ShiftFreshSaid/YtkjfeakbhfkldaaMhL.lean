/- Trees: the laws' Eq, whose code is the reference's. -/
import Derived.Test.YtkjfeakbhfkldaaTreeG
import Derived.StillTailTactics
import Derived.Test.YtkjfeakbhfkldaaMhK
import Derived.Deep.RegionHeld3
namespace Go.Proofs.Ytkjfeakbhfkldaa
open Go.RowKit

def LwEq (h : Hd) (ks : Trees) : Prop := ∀ (h' : Hd) (ks' : Trees) (w : World) (B B' : Nat) (ka ka' : Option Addr) (kl kc kl' kc' : Nat), B ≤ w.heap.size → B' ≤ w.heap.size → TreeV w B h ks ka kl → TreeV w B' h' ks' ka' kl' →
  Calls Try.prog 34 #[.agg #[.int .i64 h.kind, .int .i64 h.op, .int .i64 h.num, .string ⟨h.text.toArray⟩, .int .i64 h.ref.row, .int .i64 h.ref.col, .bool h.ref.pr, .bool h.ref.pc, .int .i64 h.to.row, .int .i64 h.to.col, .bool h.to.pr, .bool h.to.pc, .int .i64 h.fn, .slice ka kl kc], .agg #[.int .i64 h'.kind, .int .i64 h'.op, .int .i64 h'.num, .string ⟨h'.text.toArray⟩, .int .i64 h'.ref.row, .int .i64 h'.ref.col, .bool h'.ref.pr, .bool h'.ref.pc, .int .i64 h'.to.row, .int .i64 h'.to.col, .bool h'.to.pr, .bool h'.to.pc, .int .i64 h'.fn, .slice ka' kl' kc']] w (EqPost h h' ks ks' w)
def LwRel (ks ks' : Trees) (kl B B' : Nat) (ka ka' : Option Addr) (w wr : World) (i : Value) : Prop :=
  ∃ (j : Nat) (rest rest' : Trees), i = .int .i64 j ∧ j + rest.len = kl ∧ rest'.len = rest.len ∧ RowIn wr B rest ka j ∧ RowIn wr B' rest' ka' j ∧ AllT LwEq rest ∧ Below w.heap.size w wr ∧ Hid (decide (rest = rest') = decide (ks = ks'))

set_option maxRecDepth 100000 in
set_option maxHeartbeats 4000000 in
theorem lawEq_same (h : Hd) (ks : Trees) (ih : AllT LwEq ks) (ks' : Trees) (w : World) (B B' : Nat) (ka ka' : Option Addr) (kl kc kc' : Nat) (hB : B ≤ w.heap.size) (hB' : B' ≤ w.heap.size) (tv : TreeV w B h ks ka kl) (tv' : TreeV w B' h ks' ka' kl) :
    Calls Try.prog 34 #[.agg #[.int .i64 h.kind, .int .i64 h.op, .int .i64 h.num, .string ⟨h.text.toArray⟩, .int .i64 h.ref.row, .int .i64 h.ref.col, .bool h.ref.pr, .bool h.ref.pc, .int .i64 h.to.row, .int .i64 h.to.col, .bool h.to.pr, .bool h.to.pc, .int .i64 h.fn, .slice ka kl kc], .agg #[.int .i64 h.kind, .int .i64 h.op, .int .i64 h.num, .string ⟨h.text.toArray⟩, .int .i64 h.ref.row, .int .i64 h.ref.col, .bool h.ref.pr, .bool h.ref.pc, .int .i64 h.to.row, .int .i64 h.to.col, .bool h.to.pr, .bool h.to.pc, .int .i64 h.fn, .slice ka' kl kc']] w (EqPost h h ks ks' w) := by
  have hm := tv.max
  have HI := Lib.hid ih; clear ih
  have HT := Lib.hid tv; clear tv
  have HT' := Lib.hid tv'; clear tv'
  have hx : sameB h h ks ks' = decide (ks = ks') := by simp [sameB]
  have HX := Lib.hid hx; clear hx
  have hr : refEq h.ref.row h.ref.col h.ref.pr h.ref.pc h.ref.row h.ref.col h.ref.pr h.ref.pc = true := by simp [refEq]
  have hr' : refEq h.to.row h.to.col h.to.pr h.to.pc h.to.row h.to.col h.to.pr h.to.pc = true := by simp [refEq]
  go_enter Try.func34, Try.ntmps34
  go_wp2_with fail
  go_loopw [5] (fun i wr => LwRel ks ks' kl B B' ka ka' ((w.alloc (.cells #[.int .i64 h.kind, .int .i64 h.op, .int .i64 h.num, .string ⟨h.text.toArray⟩, .int .i64 h.ref.row, .int .i64 h.ref.col, .bool h.ref.pr, .bool h.ref.pc, .int .i64 h.to.row, .int .i64 h.to.col, .bool h.to.pr, .bool h.to.pc, .int .i64 h.fn, .slice ka kl kc] 29)).alloc (.cells #[.int .i64 h.kind, .int .i64 h.op, .int .i64 h.num, .string ⟨h.text.toArray⟩, .int .i64 h.ref.row, .int .i64 h.ref.col, .bool h.ref.pr, .bool h.ref.pc, .int .i64 h.to.row, .int .i64 h.to.col, .bool h.to.pr, .bool h.to.pc, .int .i64 h.fn, .slice ka' kl kc'] 29)) wr i) (fun i _ => kl - (intOf i).toNat)
  case atStart =>
    have b0 := ((Below.refl _ w).alloc hB (.cells #[.int .i64 h.kind, .int .i64 h.op, .int .i64 h.num, .string ⟨h.text.toArray⟩, .int .i64 h.ref.row, .int .i64 h.ref.col, .bool h.ref.pr, .bool h.ref.pc, .int .i64 h.to.row, .int .i64 h.to.col, .bool h.to.pr, .bool h.to.pc, .int .i64 h.fn, .slice ka kl kc] 29)).alloc (by simp; omega) (.cells #[.int .i64 h.kind, .int .i64 h.op, .int .i64 h.num, .string ⟨h.text.toArray⟩, .int .i64 h.ref.row, .int .i64 h.ref.col, .bool h.ref.pr, .bool h.ref.pc, .int .i64 h.to.row, .int .i64 h.to.col, .bool h.to.pr, .bool h.to.pc, .int .i64 h.fn, .slice ka' kl kc'] 29)
    have b0' := ((Below.refl _ w).alloc hB' (.cells #[.int .i64 h.kind, .int .i64 h.op, .int .i64 h.num, .string ⟨h.text.toArray⟩, .int .i64 h.ref.row, .int .i64 h.ref.col, .bool h.ref.pr, .bool h.ref.pc, .int .i64 h.to.row, .int .i64 h.to.col, .bool h.to.pr, .bool h.to.pc, .int .i64 h.fn, .slice ka kl kc] 29)).alloc (by simp; omega) (.cells #[.int .i64 h.kind, .int .i64 h.op, .int .i64 h.num, .string ⟨h.text.toArray⟩, .int .i64 h.ref.row, .int .i64 h.ref.col, .bool h.ref.pr, .bool h.ref.pc, .int .i64 h.to.row, .int .i64 h.to.col, .bool h.to.pr, .bool h.to.pc, .int .i64 h.fn, .slice ka' kl kc'] 29)
    exact ⟨0, ks, ks', rfl, by have := HT.out.len; omega, by rw [← HT.out.len, ← HT'.out.len], HT.out.row.kept b0 (Nat.le_refl _), HT'.out.row.kept b0' (Nat.le_refl _), HI.out, Below.refl _ _, Lib.hid rfl⟩
  case round =>
    obtain ⟨j, rest, rest', rfl, hj, hlen, hrow, hrow', hall, hbel, H1⟩ := hrel
    obtain ⟨zb, cb, cb'⟩ := kept_block2 hbel
    have hsz : w.heap.size + 2 ≤ wr.heap.size := by omega
    by_cases hlt : j < kl
    · obtain ⟨h1, k1, r1, rfl⟩ := trees_cons (rest := rest) (by omega)
      obtain ⟨h2, k2, r2, rfl⟩ := trees_cons (rest := rest') (by omega)
      obtain ⟨b1, off1, ka1, kl1, kc1, rfl, hb1, N1, tv1⟩ := hrow.head
      obtain ⟨b2, off2, ka2, kl2, kc2, rfl, hb2, N2, tv2⟩ := hrow'.head
      obtain ⟨hl1, c0, c1, c2, c3, c4, c5, c6, c7, c8, c9, c10, c11, c12, c13, d5, d6, d7, d9, d10, d11⟩ := N1.facts
      clear d5 d6 d7 d9 d10 d11 N1
      obtain ⟨hl2, e0, e1, e2, e3, e4, e5, e6, e7, e8, e9, e10, e11, e12, e13, d5, d6, d7, d9, d10, d11⟩ := N2.facts
      clear d5 d6 d7 d9 d10 d11 N2
      have HT1 := Lib.hid tv1; clear tv1
      have HT2 := Lib.hid tv2; clear tv2
      have HC := Lib.hid (hall.1); have HA := Lib.hid hall.2; clear hall
      have HRow := Lib.hid hrow.2; clear hrow
      have HRow' := Lib.hid hrow'.2; clear hrow'
      have HJ := Lib.hid hj; clear hj
      have HLn := Lib.hid hlen; clear hlen
      go_wp2_with fail
      go_still_tail 10, (by kernel_rfl)
      change wpList _ _ _ _ _ wr.drew
      clear c0 c1 c2 c3 c4 c5 c6 c7 c8 c9 c10 c11 c12 c13 e0 e1 e2 e3 e4 e5 e6 e7 e8 e9 e10 e11 e12 e13
      go_wp2_with fail
      refine (HC.out h2 k2 _ B B' ka1 ka2 kl1 kc1 kl2 kc2 (by simp; omega) (by simp; omega) (HT1.out.kept ((Below.refl B _).drew) (Nat.le_refl _)) (HT2.out.kept ((Below.refl B' _).drew) (Nat.le_refl _))).mono ?_
      rintro e w2 ⟨rfl, b2'⟩
      have b3 : Below wr.heap.size wr w2 := ((Below.refl _ wr).drew).trans b2'
      clear b2'
      cases hq : sameB h1 h2 k1 k2
      · have hz : sameB h h ks ks' = false := by
          rw [HX.out, ← H1.out]
          simp only [sameB, decide_eq_false_iff_not] at hq ⊢
          intro e; apply hq; injection e with e1 e2 e3; exact ⟨e1, e2⟩
        have HZ := Lib.hid hz; clear hz hq
        go_wp2
        go_ret
        exact ⟨ret_bool HZ.out.symm, (ext_alloc (ext_alloc (Below.refl _ _) _) _).trans ((hbel.trans (b3.mono hbel.size)).mono (by simp; omega))⟩
      · have hz : decide (r1 = r2) = decide (ks = ks') := by
          rw [← H1.out]
          simp only [sameB, decide_eq_true_eq] at hq
          obtain ⟨rfl, rfl⟩ := hq
          simp
        have HZ := Lib.hid hz; clear hz hq
        go_wp2
        exact ⟨⟨j + 1, r1, r2, by go_num, by have := HJ.out; simp only [Trees.len] at this; omega, by have := HLn.out; simp only [Trees.len] at this; omega, HRow.out.kept b3 (by omega), HRow'.out.kept b3 (by omega), HA.out, hbel.trans (b3.mono hbel.size), HZ⟩, by simp [intOf]; omega⟩
    · have hz : rest.len = 0 := by omega
      have hz' : rest'.len = 0 := by omega
      obtain rfl := trees_nil hz
      obtain rfl := trees_nil hz'
      have hq := H1.out
      have HQ := Lib.hid hq
      clear hq H1 hlen
      go_wp2
      go_ret
      exact ⟨ret_bool (by rw [HX.out, ← HQ.out]; rfl), (ext_alloc (ext_alloc (Below.refl _ _) _) _).trans (hbel.mono (by simp; omega))⟩

set_option maxRecDepth 100000 in
set_option maxHeartbeats 4000000 in
theorem lawEq_differs (h : Hd) (ks : Trees) (h' : Hd) (ks' : Trees) (w : World) (ka ka' : Option Addr) (kl kc kl' kc' : Nat) (hlen : kl = ks.len) (hlen' : kl' = ks'.len) (hne : ¬ (h = h' ∧ kl = kl')) :
    Calls Try.prog 34 #[.agg #[.int .i64 h.kind, .int .i64 h.op, .int .i64 h.num, .string ⟨h.text.toArray⟩, .int .i64 h.ref.row, .int .i64 h.ref.col, .bool h.ref.pr, .bool h.ref.pc, .int .i64 h.to.row, .int .i64 h.to.col, .bool h.to.pr, .bool h.to.pc, .int .i64 h.fn, .slice ka kl kc], .agg #[.int .i64 h'.kind, .int .i64 h'.op, .int .i64 h'.num, .string ⟨h'.text.toArray⟩, .int .i64 h'.ref.row, .int .i64 h'.ref.col, .bool h'.ref.pr, .bool h'.ref.pc, .int .i64 h'.to.row, .int .i64 h'.to.col, .bool h'.to.pr, .bool h'.to.pc, .int .i64 h'.fn, .slice ka' kl' kc']] w (EqPost h h' ks ks' w) := by
  have hx : sameB h h' ks ks' = false := by
    simp only [sameB, decide_eq_false_iff_not]
    rintro ⟨rfl, rfl⟩
    exact hne ⟨rfl, hlen.trans hlen'.symm⟩
  have HX := Lib.hid hx; clear hx
  have HN := Lib.hid hne; clear hne
  clear hlen hlen'
  obtain ⟨kind, op, num, text, ⟨rr, rc, rpr, rpc⟩, ⟨tr, tc, tpr, tpc⟩, fn⟩ := h
  obtain ⟨kind', op', num', text', ⟨rr', rc', rpr', rpc'⟩, ⟨tr', tc', tpr', tpc'⟩, fn'⟩ := h'
  go_enter Try.func34, Try.ntmps34
  go_wp2_with fail
  all_goals first
    | (go_ret; exact ⟨ret_bool HX.out.symm, ext_alloc (ext_alloc (Below.refl _ _) _) _⟩)
    | (exfalso; have hq : ((kl : Int) != kl') = false := by assumption
       have hn := HN.out; clear HN HX
       have hkl : kl = kl' := by simp at hq; omega
       clear hq
       simp_all [refEq])
theorem lawEq_step (h : Hd) (ks : Trees) (ih : AllT LwEq ks) : LwEq h ks := by
  intro h' ks' w B B' ka ka' kl kc kl' kc' hB hB' tv tv'
  by_cases hs : h = h' ∧ kl = kl'
  · obtain ⟨rfl, rfl⟩ := hs
    exact lawEq_same h ks ih ks' w B B' ka ka' kl kc kc' hB hB' tv tv'
  · exact lawEq_differs h ks h' ks' w ka ka' kl kc kl' kc' tv.len tv'.len hs
theorem lawEq_any (h : Hd) (ks : Trees) : LwEq h ks := lawEq_step h ks (allT lawEq_step ks)
end Go.Proofs.Ytkjfeakbhfkldaa
/- Shifting: the law's own helpers. -/
namespace Go.Proofs.Ytkjfeakbhfkldaa
open Go.RowKit

/-- From memory of its own to a tree that can be read. -/
theorem ShFPost.tree {m : Mv} {h : Hd} {ks : Trees} {w w' : World} {e : Ending} (p : ShFPost m h ks w e w') (ok : h.ok) : ShPost m h ks w e w' := by
  obtain ⟨b, ⟨s, xa, xl, xc, F, he, f⟩ | q⟩ := p
  · refine ⟨b, .inl ⟨s, xa, xl, xc, he, ?_⟩⟩
    obtain ⟨ka', kc', e', tv⟩ := f.own.tree (Nat.le_refl _) f.lt (mvH_ok (m := m) ok)
    simp only [Value.slice.injEq] at e'
    obtain ⟨rfl, rfl, rfl⟩ := e'
    exact tv
  · exact ⟨b, .inr q⟩
/-- A tree came back. -/
def GoodP (h : Hd) (ks : Trees) (w : World) (e : Ending) (w' : World) : Prop :=
  Below w.heap.size w w' ∧ ∃ xa xl xc, e = .returned (.tuple #[.agg #[.int .i64 h.kind, .int .i64 h.op, .int .i64 h.num, .string ⟨h.text.toArray⟩, .int .i64 h.ref.row, .int .i64 h.ref.col, .bool h.ref.pr, .bool h.ref.pc, .int .i64 h.to.row, .int .i64 h.to.col, .bool h.to.pr, .bool h.to.pc, .int .i64 h.fn, .slice xa xl xc], .int .i64 0]) ∧ TreeV w' w'.heap.size h ks xa xl
def BadP (c : Int) (w : World) (e : Ending) (w' : World) : Prop :=
  Below w.heap.size w w' ∧ e = .returned (.tuple #[.agg #[.int .i64 0, .int .i64 0, .int .i64 0, .string ⟨#[]⟩, .int .i64 0, .int .i64 0, .bool false, .bool false, .int .i64 0, .int .i64 0, .bool false, .bool false, .int .i64 0, .slice none 0 0], .int .i64 c])
theorem ShPost.good {m : Mv} {h h' : Hd} {ks ks' : Trees} {w w' : World} {e : Ending} (p : ShPost m h ks w e w') (s : shErr m h ks = 0) (eh : mvH m h = h') (ek : mvK m ks = ks') : GoodP h' ks' w e w' := by
  subst eh ek
  rcases p with ⟨b, ⟨-, q⟩ | ⟨n, -⟩⟩
  · exact ⟨b, q⟩
  · exact absurd s n
theorem ShPost.bad {m : Mv} {h : Hd} {ks : Trees} {w w' : World} {e : Ending} (p : ShPost m h ks w e w') {c : Int} (s : shErr m h ks = c) (hc : c ≠ 0) : BadP c w e w' := by
  rcases p with ⟨b, ⟨n, -⟩ | ⟨-, q⟩⟩
  · exact absurd (s.symm.trans n) hc
  · rw [s] at q; exact ⟨b, q⟩
def refH (r c : Int) : Hd := ⟨5, 0, 0, [], ⟨r, c, false, false⟩, ⟨0, 0, false, false⟩, 0⟩
theorem ok_nums {a b c d : Int} {r t : RefT} (h : I64 a ∧ I64 b ∧ I64 c ∧ I64 r.row ∧ I64 r.col ∧ I64 t.row ∧ I64 t.col ∧ I64 d) : Hd.ok ⟨a, b, c, [], r, t, d⟩ :=
  ⟨by simp, h.1, h.2.1, h.2.2.1, h.2.2.2.1, h.2.2.2.2.1, h.2.2.2.2.2.1, h.2.2.2.2.2.2.1, h.2.2.2.2.2.2.2⟩
theorem ref_ok {r c : Int} (hr : I64 r) (hc : I64 c) : (refH r c).ok := ok_nums ⟨by simp [I64], by simp [I64], by simp [I64], hr, hc, by simp [I64], by simp [I64], by simp [I64]⟩
theorem leafV {w : World} {h : Hd} (ok : h.ok) : TreeV w w.heap.size h .nil none 0 := ⟨rfl, by omega, ok, trivial⟩
set_option maxRecDepth 100000 in
set_option maxHeartbeats 4000000 in
theorem lawRef_any (w : World) (r c : Int) : Calls Try.prog 41 #[.int .i64 r, .int .i64 c] w fun e w' => e = .returned (.agg #[.int .i64 5, .int .i64 0, .int .i64 0, .string ⟨#[]⟩, .int .i64 r, .int .i64 c, .bool false, .bool false, .int .i64 0, .int .i64 0, .bool false, .bool false, .int .i64 0, .slice none 0 0]) ∧ Below w.heap.size w w' := by
  go_enter Try.func41, Try.ntmps41
  go_wp2
  refine bodyPost_ret (v := .agg #[.int .i64 5, .int .i64 0, .int .i64 0, .string ⟨#[]⟩, .int .i64 r, .int .i64 c, .bool false, .bool false, .int .i64 0, .int .i64 0, .bool false, .bool false, .int .i64 0, .slice none 0 0]) (by simp [results, Try.results41, go_sem]) rfl ?_
  refine ⟨rfl, ?_⟩
  repeat (refine Below.setCell ?_ (by simp; try omega) _)
  exact ext_alloc (Below.refl _ _) _
end Go.Proofs.Ytkjfeakbhfkldaa
