/- Trees: same and Same. -/
import Derived.Test.YtnhgeojcelegbaaDoorPrI
import Derived.Test.YtnhgeojcelegbaaDoorTreeG
import Derived.BigQuiet
import Derived.Deep.QuietTactic
namespace Go.Proofs.YtnhgeojcelegbaaDoor
open Go.RowKit
set_option maxRecDepth 100000 in
set_option maxHeartbeats 8000000 in
theorem same_d4 (h : Hd) (ks : Trees) (h' : Hd) (ks' : Trees) (w : World) (b off b' off' : Nat) (ka ka' : Option Addr) (kl kc kl' kc' : Nat) (N : NodeAt w b off h (.slice ka kl kc)) (N' : NodeAt w b' off' h' (.slice ka' kl' kc'))
    (hx : sameB h h' ks ks' = false) (qkind : h.kind = h'.kind) (qop : h.op = h'.op) (qnum : h.num = h'.num) (qtext : h.text = h'.text) (hd : ¬ (h.ref = h'.ref)) :
    Calls Tryd.prog 54 #[.pointer (some ⟨b, off, none⟩), .pointer (some ⟨b', off', none⟩)] w (EqPost h h' ks ks' w) := by
  have HX := Lib.hid hx; clear hx
  obtain ⟨hl1, c0, c1, c2, c3, c4, c5, c6, c7, c8, c9, c10, c11, c12, c13, d5, d6, d7, d9, d10, d11⟩ := N.facts
  obtain ⟨hl2, e0, e1, e2, e3, e4, e5, e6, e7, e8, e9, e10, e11, e12, e13, f5, f6, f7, f9, f10, f11⟩ := N'.facts
  clear N N'
  obtain ⟨kind, op, num, text, ⟨rr, rc, rpr, rpc⟩, ⟨tr, tc, tpr, tpc⟩, fn⟩ := h
  obtain ⟨kind', op', num', text', ⟨rr', rc', rpr', rpc'⟩, ⟨tr', tc', tpr', tpc'⟩, fn'⟩ := h'
  simp only at *
  subst qkind
  subst qop
  subst qnum
  subst qtext
  have n1 : refEq rr rc rpr rpc rr' rc' rpr' rpc' = false := by simp [refEq]; simpa using hd
  have HD := Lib.hid hd; clear hd
  go_enter Tryd.func54, Tryd.ntmps54
  go_wp2_with fail
  dsimp only [List.append]
  go_big_quiet (fail)
  clear c0 c1 c2 c3 c4 c5 c6 c7 c8 c9 c10 c11 c12 c13 d5 d6 d7 d9 d10 d11 e0 e1 e2 e3 e4 e5 e6 e7 e8 e9 e10 e11 e12 e13 f5 f6 f7 f9 f10 f11
  go_wp2
  go_ret
  exact ⟨ret_bool HX.out.symm, ext_drewN (Below.refl _ _) _⟩
set_option maxRecDepth 100000 in
set_option maxHeartbeats 8000000 in
theorem same_d5 (h : Hd) (ks : Trees) (h' : Hd) (ks' : Trees) (w : World) (b off b' off' : Nat) (ka ka' : Option Addr) (kl kc kl' kc' : Nat) (N : NodeAt w b off h (.slice ka kl kc)) (N' : NodeAt w b' off' h' (.slice ka' kl' kc'))
    (hx : sameB h h' ks ks' = false) (qkind : h.kind = h'.kind) (qop : h.op = h'.op) (qnum : h.num = h'.num) (qtext : h.text = h'.text) (qref : h.ref = h'.ref) (hd : ¬ (h.to = h'.to)) :
    Calls Tryd.prog 54 #[.pointer (some ⟨b, off, none⟩), .pointer (some ⟨b', off', none⟩)] w (EqPost h h' ks ks' w) := by
  have HX := Lib.hid hx; clear hx
  obtain ⟨hl1, c0, c1, c2, c3, c4, c5, c6, c7, c8, c9, c10, c11, c12, c13, d5, d6, d7, d9, d10, d11⟩ := N.facts
  obtain ⟨hl2, e0, e1, e2, e3, e4, e5, e6, e7, e8, e9, e10, e11, e12, e13, f5, f6, f7, f9, f10, f11⟩ := N'.facts
  clear N N'
  obtain ⟨kind, op, num, text, ⟨rr, rc, rpr, rpc⟩, ⟨tr, tc, tpr, tpc⟩, fn⟩ := h
  obtain ⟨kind', op', num', text', ⟨rr', rc', rpr', rpc'⟩, ⟨tr', tc', tpr', tpc'⟩, fn'⟩ := h'
  simp only at *
  subst qkind
  subst qop
  subst qnum
  subst qtext
  injection qref with q1 q2 q3 q4; subst q1 q2 q3 q4
  have n1 : refEq tr tc tpr tpc tr' tc' tpr' tpc' = false := by simp [refEq]; simpa using hd
  have hr : refEq rr rc rpr rpc rr rc rpr rpc = true := by simp [refEq]
  have HD := Lib.hid hd; clear hd
  go_enter Tryd.func54, Tryd.ntmps54
  go_wp2_with fail
  dsimp only [List.append]
  go_big_quiet (fail)
  clear c0 c1 c2 c3 c4 c5 c6 c7 c8 c9 c10 c11 c12 c13 d5 d6 d7 d9 d10 d11 e0 e1 e2 e3 e4 e5 e6 e7 e8 e9 e10 e11 e12 e13 f5 f6 f7 f9 f10 f11
  go_wp2
  go_ret
  exact ⟨ret_bool HX.out.symm, ext_drewN (Below.refl _ _) _⟩
end Go.Proofs.YtnhgeojcelegbaaDoor
