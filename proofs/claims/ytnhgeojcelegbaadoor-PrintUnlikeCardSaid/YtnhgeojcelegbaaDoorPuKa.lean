/- Trees: same and Same. -/
import Derived.Test.YtnhgeojcelegbaaDoorPrI
import Derived.Test.YtnhgeojcelegbaaDoorTreeG
import Derived.StillTailTactics
import Derived.BigQuiet
import Derived.Deep.QuietTactic
namespace Go.Proofs.YtnhgeojcelegbaaDoor
open Go.RowKit

/-- What same answers at two nodes in memory. -/
def PEq (h : Hd) (ks : Trees) : Prop := ∀ (h' : Hd) (ks' : Trees) (w : World) (b off b' off' : Nat) (ka ka' : Option Addr) (kl kc kl' kc' : Nat), NodeAt w b off h (.slice ka kl kc) → NodeAt w b' off' h' (.slice ka' kl' kc') →
  TreeV w w.heap.size h ks ka kl → TreeV w w.heap.size h' ks' ka' kl' →
  Calls Tryd.prog 54 #[.pointer (some ⟨b, off, none⟩), .pointer (some ⟨b', off', none⟩)] w (EqPost h h' ks ks' w)
def PRel (ks ks' : Trees) (kl : Nat) (ka ka' : Option Addr) (w wr : World) (i : Value) : Prop :=
  ∃ (j : Nat) (rest rest' : Trees), i = .int .i64 j ∧ j + rest.len = kl ∧ rest'.len = rest.len ∧ RowIn wr w.heap.size rest ka j ∧ RowIn wr w.heap.size rest' ka' j ∧ AllT PEq rest ∧ Below w.heap.size w wr ∧ Hid (decide (rest = rest') = decide (ks = ks'))

set_option maxRecDepth 100000 in
set_option maxHeartbeats 4000000 in
theorem same_same (h : Hd) (ks : Trees) (ih : AllT PEq ks) (ks' : Trees) (w : World) (b off b' off' : Nat) (ka ka' : Option Addr) (kl kc kc' : Nat) (N : NodeAt w b off h (.slice ka kl kc)) (N' : NodeAt w b' off' h (.slice ka' kl kc'))
    (tv : TreeV w w.heap.size h ks ka kl) (tv' : TreeV w w.heap.size h ks' ka' kl) :
    Calls Tryd.prog 54 #[.pointer (some ⟨b, off, none⟩), .pointer (some ⟨b', off', none⟩)] w (EqPost h h ks ks' w) := by
  have hm := tv.max
  have HI := Lib.hid ih; clear ih
  have HT := Lib.hid tv; clear tv
  have HT' := Lib.hid tv'; clear tv'
  have hx : sameB h h ks ks' = decide (ks = ks') := by simp [sameB]
  have HX := Lib.hid hx; clear hx
  have hr : refEq h.ref.row h.ref.col h.ref.pr h.ref.pc h.ref.row h.ref.col h.ref.pr h.ref.pc = true := by simp [refEq]
  have hr' : refEq h.to.row h.to.col h.to.pr h.to.pc h.to.row h.to.col h.to.pr h.to.pc = true := by simp [refEq]
  obtain ⟨hl1, c0, c1, c2, c3, c4, c5, c6, c7, c8, c9, c10, c11, c12, c13, d5, d6, d7, d9, d10, d11⟩ := N.facts
  obtain ⟨hl2, e0, e1, e2, e3, e4, e5, e6, e7, e8, e9, e10, e11, e12, e13, f5, f6, f7, f9, f10, f11⟩ := N'.facts
  have HN := Lib.hid N; have HN' := Lib.hid N'; clear N N'
  go_enter Tryd.func54, Tryd.ntmps54
  go_wp2_with fail
  dsimp only [List.append]
  go_big_quiet (fail)
  generalize hD : World.drewN w _ = wd
  have hb0 : Below w.heap.size w wd := by rw [← hD]; exact ext_drewN (Below.refl _ _) _
  clear hD c13 e13
  obtain ⟨-, -, -, -, -, -, -, -, -, -, -, -, -, -, c13, -, -, -, -, -, -⟩ := (HN.out.kept hb0 hl1).facts
  obtain ⟨-, -, -, -, -, -, -, -, -, -, -, -, -, -, e13, -, -, -, -, -, -⟩ := (HN'.out.kept hb0 hl2).facts
  go_wp2_with fail
  clear c0 c1 c2 c3 c4 c5 c6 c7 c8 c9 c10 c11 c12 c13 d5 d6 d7 d9 d10 d11 e0 e1 e2 e3 e4 e5 e6 e7 e8 e9 e10 e11 e12 e13 f5 f6 f7 f9 f10 f11
  go_loopw [99] (fun i wr => PRel ks ks' kl ka ka' w wr i) (fun i _ => kl - (intOf i).toNat)
  case atStart =>
    exact ⟨0, ks, ks', rfl, by have := HT.out.len; omega, by rw [← HT.out.len, ← HT'.out.len], HT.out.row.kept hb0 (Nat.le_refl _), HT'.out.row.kept hb0 (Nat.le_refl _), HI.out, hb0, Lib.hid rfl⟩
  case round =>
    obtain ⟨j, rest, rest', rfl, hj, hlen, hrow, hrow', hall, hbel, H1⟩ := hrel
    have N1 := HN.out.kept hbel hl1
    have N2 := HN'.out.kept hbel hl2
    obtain ⟨g1, -, -, -, -, -, -, -, -, -, -, -, -, -, c13, -, -, -, -, -, -⟩ := N1.facts
    obtain ⟨g2, -, -, -, -, -, -, -, -, -, -, -, -, -, e13, -, -, -, -, -, -⟩ := N2.facts
    clear N1 N2
    by_cases hlt : j < kl
    · obtain ⟨h1, k1, r1, rfl⟩ := trees_cons (rest := rest) (by omega)
      obtain ⟨h2, k2, r2, rfl⟩ := trees_cons (rest := rest') (by omega)
      obtain ⟨b1, off1, ka1, kl1, kc1, rfl, hb1, M1, tv1⟩ := hrow.head
      obtain ⟨b2, off2, ka2, kl2, kc2, rfl, hb2, M2, tv2⟩ := hrow'.head
      have HM1 := Lib.hid M1; have HM2 := Lib.hid M2; clear M1 M2
      have HT1 := Lib.hid tv1; clear tv1
      have HT2 := Lib.hid tv2; clear tv2
      have HC := Lib.hid (hall.1); have HA := Lib.hid hall.2; clear hall
      have HRow := Lib.hid hrow.2; clear hrow
      have HRow' := Lib.hid hrow'.2; clear hrow'
      have HJ := Lib.hid hj; clear hj
      have HLn := Lib.hid hlen; clear hlen
      have hlti : (j : Int) < (kl : Int) := by omega
      go_wp2_with fail
      go_still_tail 12, (by kernel_rfl)
      change wpList _ _ _ _ _ wr.drew
      clear c13 e13
      go_wp2_with fail
      have q0 : Below w.heap.size wr wr.drew := (Below.refl _ _).drew
      refine (HC.out h2 k2 _ b1 _ b2 _ ka1 ka2 kl1 kc1 kl2 kc2 (HM1.out.kept q0 hb1) (HM2.out.kept q0 hb2) ((HT1.out.kept q0 (Nat.le_refl _)).mono hbel.size) ((HT2.out.kept q0 (Nat.le_refl _)).mono hbel.size)).mono ?_
      rintro e w2 ⟨rfl, b2'⟩
      have b3 : Below wr.heap.size wr w2 := ((Below.refl _ wr).drew).trans b2'
      clear b2' q0
      cases hq : sameB h1 h2 k1 k2
      · have hz : sameB h h ks ks' = false := by
          rw [HX.out, ← H1.out]
          simp only [sameB, decide_eq_false_iff_not] at hq ⊢
          intro e; apply hq; injection e with e1 e2 e3; exact ⟨e1, e2⟩
        have HZ := Lib.hid hz; clear hz hq
        go_wp2
        go_ret
        exact ⟨ret_bool HZ.out.symm, hbel.trans (b3.mono hbel.size)⟩
      · have hz : decide (r1 = r2) = decide (ks = ks') := by
          rw [← H1.out]
          simp only [sameB, decide_eq_true_eq] at hq
          obtain ⟨rfl, rfl⟩ := hq
          simp
        have HZ := Lib.hid hz; clear hz hq
        go_wp2
        exact ⟨⟨j + 1, r1, r2, by go_num, by have := HJ.out; simp only [Trees.len] at this; omega, by have := HLn.out; simp only [Trees.len] at this; omega, HRow.out.kept b3 hbel.size, HRow'.out.kept b3 hbel.size, HA.out, hbel.trans (b3.mono hbel.size), HZ⟩, by simp [intOf]; omega⟩
    · have hz : rest.len = 0 := by omega
      have hz' : rest'.len = 0 := by omega
      obtain rfl := trees_nil hz
      obtain rfl := trees_nil hz'
      have hq := H1.out
      have HQ := Lib.hid hq
      clear hq H1 hlen
      go_wp2
      go_ret
      exact ⟨ret_bool (by rw [HX.out, ← HQ.out]; rfl), hbel⟩

end Go.Proofs.YtnhgeojcelegbaaDoor

namespace Go.Proofs.YtnhgeojcelegbaaDoor
open Go.RowKit
set_option maxRecDepth 100000 in
set_option maxHeartbeats 8000000 in
theorem same_d6 (h : Hd) (ks : Trees) (h' : Hd) (ks' : Trees) (w : World) (b off b' off' : Nat) (ka ka' : Option Addr) (kl kc kl' kc' : Nat) (N : NodeAt w b off h (.slice ka kl kc)) (N' : NodeAt w b' off' h' (.slice ka' kl' kc'))
    (hx : sameB h h' ks ks' = false) (qkind : h.kind = h'.kind) (qop : h.op = h'.op) (qnum : h.num = h'.num) (qtext : h.text = h'.text) (qref : h.ref = h'.ref) (qto : h.to = h'.to) (hd : ¬ (h.fn = h'.fn)) :
    Calls Tryd.prog 54 #[.pointer (some ⟨b, off, none⟩), .pointer (some ⟨b', off', none⟩)] w (EqPost h h' ks ks' w) := by
  have HX := Lib.hid hx; clear hx
  obtain ⟨hl1, c0, c1, c2, c3, c4, c5, c6, c7, c8, c9, c10, c11, c12, c13, d5, d6, d7, d9, d10, d11⟩ := N.facts
  obtain ⟨hl2, e0, e1, e2, e3, e4, e5, e6, e7, e8, e9, e10, e11, e12, e13, f5, f6, f7, f9, f10, f11⟩ := N'.facts
  clear N N'
  obtain ⟨kind, op, num, text, ⟨rr, rc, rpr, rpc⟩, ⟨tr, tc, tpr, tpc⟩, fn⟩ := h
  obtain ⟨kind', op', num', text', ⟨rr', rc', rpr', rpc'⟩, ⟨tr', tc', tpr', tpc'⟩, fn'⟩ := h'
  simp only at *
  subst qkind
  subst qop
  subst qnum
  subst qtext
  injection qref with q1 q2 q3 q4; subst q1 q2 q3 q4
  injection qto with q1 q2 q3 q4; subst q1 q2 q3 q4
  have n1 : (fn == fn') = false := by simp [hd]
  have n2 : (fn != fn') = true := by simp [hd]
  have hr : refEq rr rc rpr rpc rr rc rpr rpc = true := by simp [refEq]
  have hr' : refEq tr tc tpr tpc tr tc tpr tpc = true := by simp [refEq]
  have HD := Lib.hid hd; clear hd
  go_enter Tryd.func54, Tryd.ntmps54
  go_wp2_with fail
  dsimp only [List.append]
  go_big_quiet (fail)
  clear c0 c1 c2 c3 c4 c5 c6 c7 c8 c9 c10 c11 c12 c13 d5 d6 d7 d9 d10 d11 e0 e1 e2 e3 e4 e5 e6 e7 e8 e9 e10 e11 e12 e13 f5 f6 f7 f9 f10 f11
  go_wp2
  go_ret
  exact ⟨ret_bool HX.out.symm, ext_drewN (Below.refl _ _) _⟩
set_option maxRecDepth 100000 in
set_option maxHeartbeats 8000000 in
theorem same_d7 (h : Hd) (ks : Trees) (h' : Hd) (ks' : Trees) (w : World) (b off b' off' : Nat) (ka ka' : Option Addr) (kl kc kl' kc' : Nat) (N : NodeAt w b off h (.slice ka kl kc)) (N' : NodeAt w b' off' h' (.slice ka' kl' kc'))
    (hx : sameB h h' ks ks' = false) (qkind : h.kind = h'.kind) (qop : h.op = h'.op) (qnum : h.num = h'.num) (qtext : h.text = h'.text) (qref : h.ref = h'.ref) (qto : h.to = h'.to) (qfn : h.fn = h'.fn) (hd : ¬ (kl = kl')) :
    Calls Tryd.prog 54 #[.pointer (some ⟨b, off, none⟩), .pointer (some ⟨b', off', none⟩)] w (EqPost h h' ks ks' w) := by
  have HX := Lib.hid hx; clear hx
  obtain ⟨hl1, c0, c1, c2, c3, c4, c5, c6, c7, c8, c9, c10, c11, c12, c13, d5, d6, d7, d9, d10, d11⟩ := N.facts
  obtain ⟨hl2, e0, e1, e2, e3, e4, e5, e6, e7, e8, e9, e10, e11, e12, e13, f5, f6, f7, f9, f10, f11⟩ := N'.facts
  clear N N'
  obtain ⟨kind, op, num, text, ⟨rr, rc, rpr, rpc⟩, ⟨tr, tc, tpr, tpc⟩, fn⟩ := h
  obtain ⟨kind', op', num', text', ⟨rr', rc', rpr', rpc'⟩, ⟨tr', tc', tpr', tpc'⟩, fn'⟩ := h'
  simp only at *
  subst qkind
  subst qop
  subst qnum
  subst qtext
  injection qref with q1 q2 q3 q4; subst q1 q2 q3 q4
  injection qto with q1 q2 q3 q4; subst q1 q2 q3 q4
  subst qfn
  have n1 : ((kl : Int) == kl') = false := by simp; omega
  have n2 : ((kl : Int) != kl') = true := by simp; omega
  have hr : refEq rr rc rpr rpc rr rc rpr rpc = true := by simp [refEq]
  have hr' : refEq tr tc tpr tpc tr tc tpr tpc = true := by simp [refEq]
  have HD := Lib.hid hd; clear hd
  go_enter Tryd.func54, Tryd.ntmps54
  go_wp2_with fail
  dsimp only [List.append]
  go_big_quiet (fail)
  clear c0 c1 c2 c3 c4 c5 c6 c7 c8 c9 c10 c11 c12 c13 d5 d6 d7 d9 d10 d11 e0 e1 e2 e3 e4 e5 e6 e7 e8 e9 e10 e11 e12 e13 f5 f6 f7 f9 f10 f11
  go_wp2
  go_ret
  exact ⟨ret_bool HX.out.symm, ext_drewN (Below.refl _ _) _⟩
end Go.Proofs.YtnhgeojcelegbaaDoor
