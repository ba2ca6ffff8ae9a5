/- Trees: same and Same. -/
import Derived.Test.YtnhgeojcelegbaaDoorPrI
import Derived.Test.YtnhgeojcelegbaaDoorTreeG
import Derived.BigQuiet
import Derived.Deep.QuietTactic
namespace Go.Proofs.YtnhgeojcelegbaaDoor
open Go.RowKit
set_option maxRecDepth 100000 in
set_option maxHeartbeats 8000000 in
theorem same_d0 (h : Hd) (ks : Trees) (h' : Hd) (ks' : Trees) (w : World) (b off b' off' : Nat) (ka ka' : Option Addr) (kl kc kl' kc' : Nat) (N : NodeAt w b off h (.slice ka kl kc)) (N' : NodeAt w b' off' h' (.slice ka' kl' kc'))
    (hx : sameB h h' ks ks' = false)  (hd : ¬ (h.kind = h'.kind)) :
    Calls Tryd.prog 54 #[.pointer (some ⟨b, off, none⟩), .pointer (some ⟨b', off', none⟩)] w (EqPost h h' ks ks' w) := by
  have HX := Lib.hid hx; clear hx
  obtain ⟨hl1, c0, c1, c2, c3, c4, c5, c6, c7, c8, c9, c10, c11, c12, c13, d5, d6, d7, d9, d10, d11⟩ := N.facts
  obtain ⟨hl2, e0, e1, e2, e3, e4, e5, e6, e7, e8, e9, e10, e11, e12, e13, f5, f6, f7, f9, f10, f11⟩ := N'.facts
  clear N N'
  obtain ⟨kind, op, num, text, ⟨rr, rc, rpr, rpc⟩, ⟨tr, tc, tpr, tpc⟩, fn⟩ := h
  obtain ⟨kind', op', num', text', ⟨rr', rc', rpr', rpc'⟩, ⟨tr', tc', tpr', tpc'⟩, fn'⟩ := h'
  simp only at *
  have n1 : (kind == kind') = false := by simp [hd]
  have n2 : (kind != kind') = true := by simp [hd]
  have HD := Lib.hid hd; clear hd
  go_enter Tryd.func54, Tryd.ntmps54
  go_wp2_with fail
  dsimp only [List.append]
  go_big_quiet (fail)
  clear c0 c1 c2 c3 c4 c5 c6 c7 c8 c9 c10 c11 c12 c13 d5 d6 d7 d9 d10 d11 e0 e1 e2 e3 e4 e5 e6 e7 e8 e9 e10 e11 e12 e13 f5 f6 f7 f9 f10 f11
  go_wp2
  go_ret
  exact ⟨ret_bool HX.out.symm, ext_drewN (Below.refl _ _) _⟩
set_option maxRecDepth 100000 in
set_option maxHeartbeats 8000000 in
theorem same_d1 (h : Hd) (ks : Trees) (h' : Hd) (ks' : Trees) (w : World) (b off b' off' : Nat) (ka ka' : Option Addr) (kl kc kl' kc' : Nat) (N : NodeAt w b off h (.slice ka kl kc)) (N' : NodeAt w b' off' h' (.slice ka' kl' kc'))
    (hx : sameB h h' ks ks' = false) (qkind : h.kind = h'.kind) (hd : ¬ (h.op = h'.op)) :
    Calls Tryd.prog 54 #[.pointer (some ⟨b, off, none⟩), .pointer (some ⟨b', off', none⟩)] w (EqPost h h' ks ks' w) := by
  have HX := Lib.hid hx; clear hx
  obtain ⟨hl1, c0, c1, c2, c3, c4, c5, c6, c7, c8, c9, c10, c11, c12, c13, d5, d6, d7, d9, d10, d11⟩ := N.facts
  obtain ⟨hl2, e0, e1, e2, e3, e4, e5, e6, e7, e8, e9, e10, e11, e12, e13, f5, f6, f7, f9, f10, f11⟩ := N'.facts
  clear N N'
  obtain ⟨kind, op, num, text, ⟨rr, rc, rpr, rpc⟩, ⟨tr, tc, tpr, tpc⟩, fn⟩ := h
  obtain ⟨kind', op', num', text', ⟨rr', rc', rpr', rpc'⟩, ⟨tr', tc', tpr', tpc'⟩, fn'⟩ := h'
  simp only at *
  subst qkind
  have n1 : (op == op') = false := by simp [hd]
  have n2 : (op != op') = true := by simp [hd]
  have HD := Lib.hid hd; clear hd
  go_enter Tryd.func54, Tryd.ntmps54
  go_wp2_with fail
  dsimp only [List.append]
  go_big_quiet (fail)
  clear c0 c1 c2 c3 c4 c5 c6 c7 c8 c9 c10 c11 c12 c13 d5 d6 d7 d9 d10 d11 e0 e1 e2 e3 e4 e5 e6 e7 e8 e9 e10 e11 e12 e13 f5 f6 f7 f9 f10 f11
  go_wp2
  go_ret
  exact ⟨ret_bool HX.out.symm, ext_drewN (Below.refl _ _) _⟩
set_option maxRecDepth 100000 in
set_option maxHeartbeats 8000000 in
theorem same_d2 (h : Hd) (ks : Trees) (h' : Hd) (ks' : Trees) (w : World) (b off b' off' : Nat) (ka ka' : Option Addr) (kl kc kl' kc' : Nat) (N : NodeAt w b off h (.slice ka kl kc)) (N' : NodeAt w b' off' h' (.slice ka' kl' kc'))
    (hx : sameB h h' ks ks' = false) (qkind : h.kind = h'.kind) (qop : h.op = h'.op) (hd : ¬ (h.num = h'.num)) :
    Calls Tryd.prog 54 #[.pointer (some ⟨b, off, none⟩), .pointer (some ⟨b', off', none⟩)] w (EqPost h h' ks ks' w) := by
  have HX := Lib.hid hx; clear hx
  obtain ⟨hl1, c0, c1, c2, c3, c4, c5, c6, c7, c8, c9, c10, c11, c12, c13, d5, d6, d7, d9, d10, d11⟩ := N.facts
  obtain ⟨hl2, e0, e1, e2, e3, e4, e5, e6, e7, e8, e9, e10, e11, e12, e13, f5, f6, f7, f9, f10, f11⟩ := N'.facts
  clear N N'
  obtain ⟨kind, op, num, text, ⟨rr, rc, rpr, rpc⟩, ⟨tr, tc, tpr, tpc⟩, fn⟩ := h
  obtain ⟨kind', op', num', text', ⟨rr', rc', rpr', rpc'⟩, ⟨tr', tc', tpr', tpc'⟩, fn'⟩ := h'
  simp only at *
  subst qkind
  subst qop
  have n1 : (num == num') = false := by simp [hd]
  have n2 : (num != num') = true := by simp [hd]
  have HD := Lib.hid hd; clear hd
  go_enter Tryd.func54, Tryd.ntmps54
  go_wp2_with fail
  dsimp only [List.append]
  go_big_quiet (fail)
  clear c0 c1 c2 c3 c4 c5 c6 c7 c8 c9 c10 c11 c12 c13 d5 d6 d7 d9 d10 d11 e0 e1 e2 e3 e4 e5 e6 e7 e8 e9 e10 e11 e12 e13 f5 f6 f7 f9 f10 f11
  go_wp2
  go_ret
  exact ⟨ret_bool HX.out.symm, ext_drewN (Below.refl _ _) _⟩
set_option maxRecDepth 100000 in
set_option maxHeartbeats 8000000 in
theorem same_d3 (h : Hd) (ks : Trees) (h' : Hd) (ks' : Trees) (w : World) (b off b' off' : Nat) (ka ka' : Option Addr) (kl kc kl' kc' : Nat) (N : NodeAt w b off h (.slice ka kl kc)) (N' : NodeAt w b' off' h' (.slice ka' kl' kc'))
    (hx : sameB h h' ks ks' = false) (qkind : h.kind = h'.kind) (qop : h.op = h'.op) (qnum : h.num = h'.num) (hd : ¬ (h.text = h'.text)) :
    Calls Tryd.prog 54 #[.pointer (some ⟨b, off, none⟩), .pointer (some ⟨b', off', none⟩)] w (EqPost h h' ks ks' w) := by
  have HX := Lib.hid hx; clear hx
  obtain ⟨hl1, c0, c1, c2, c3, c4, c5, c6, c7, c8, c9, c10, c11, c12, c13, d5, d6, d7, d9, d10, d11⟩ := N.facts
  obtain ⟨hl2, e0, e1, e2, e3, e4, e5, e6, e7, e8, e9, e10, e11, e12, e13, f5, f6, f7, f9, f10, f11⟩ := N'.facts
  clear N N'
  obtain ⟨kind, op, num, text, ⟨rr, rc, rpr, rpc⟩, ⟨tr, tc, tpr, tpc⟩, fn⟩ := h
  obtain ⟨kind', op', num', text', ⟨rr', rc', rpr', rpc'⟩, ⟨tr', tc', tpr', tpc'⟩, fn'⟩ := h'
  simp only at *
  subst qkind
  subst qop
  subst qnum
  have n1 : (text == text') = false := by simp [hd]
  have n2 : (text != text') = true := by simp [hd]
  have HD := Lib.hid hd; clear hd
  go_enter Tryd.func54, Tryd.ntmps54
  go_wp2_with fail
  dsimp only [List.append]
  go_big_quiet (fail)
  clear c0 c1 c2 c3 c4 c5 c6 c7 c8 c9 c10 c11 c12 c13 d5 d6 d7 d9 d10 d11 e0 e1 e2 e3 e4 e5 e6 e7 e8 e9 e10 e11 e12 e13 f5 f6 f7 f9 f10 f11
  go_wp2
  go_ret
  exact ⟨ret_bool HX.out.symm, ext_drewN (Below.refl _ _) _⟩
end Go.Proofs.YtnhgeojcelegbaaDoor
