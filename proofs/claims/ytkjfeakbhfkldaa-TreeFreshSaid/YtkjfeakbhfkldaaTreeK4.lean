/- Trees: same, whatever the trees. -/
import Derived.Test.YtkjfeakbhfkldaaTreeK
import Derived.Test.YtkjfeakbhfkldaaTreeK1
import Derived.Test.YtkjfeakbhfkldaaTreeK2
import Derived.Test.YtkjfeakbhfkldaaTreeK3
namespace Go.Proofs.Ytkjfeakbhfkldaa
open Go.RowKit
theorem same_differs (h : Hd) (ks : Trees) (h' : Hd) (ks' : Trees) (w : World) (b off b' off' : Nat) (ka ka' : Option Addr) (kl kc kl' kc' : Nat) (N : NodeAt w b off h (.slice ka kl kc)) (N' : NodeAt w b' off' h' (.slice ka' kl' kc'))
    (hlen : kl = ks.len) (hlen' : kl' = ks'.len) (hne : ¬ (h = h' ∧ kl = kl')) :
    Calls Try.prog 59 #[.pointer (some ⟨b, off, none⟩), .pointer (some ⟨b', off', none⟩)] w (EqPost h h' ks ks' w) := by
  have hx : sameB h h' ks ks' = false := by
    simp only [sameB, decide_eq_false_iff_not]
    rintro ⟨rfl, rfl⟩
    exact hne ⟨rfl, hlen.trans hlen'.symm⟩
  by_cases q0 : h.kind = h'.kind
  rotate_left
  · exact same_d0 h ks h' ks' w b off b' off' ka ka' kl kc kl' kc' N N' hx  q0
  by_cases q1 : h.op = h'.op
  rotate_left
  · exact same_d1 h ks h' ks' w b off b' off' ka ka' kl kc kl' kc' N N' hx q0 q1
  by_cases q2 : h.num = h'.num
  rotate_left
  · exact same_d2 h ks h' ks' w b off b' off' ka ka' kl kc kl' kc' N N' hx q0 q1 q2
  by_cases q3 : h.text = h'.text
  rotate_left
  · exact same_d3 h ks h' ks' w b off b' off' ka ka' kl kc kl' kc' N N' hx q0 q1 q2 q3
  by_cases q4 : h.ref = h'.ref
  rotate_left
  · exact same_d4 h ks h' ks' w b off b' off' ka ka' kl kc kl' kc' N N' hx q0 q1 q2 q3 q4
  by_cases q5 : h.to = h'.to
  rotate_left
  · exact same_d5 h ks h' ks' w b off b' off' ka ka' kl kc kl' kc' N N' hx q0 q1 q2 q3 q4 q5
  by_cases q6 : h.fn = h'.fn
  rotate_left
  · exact same_d6 h ks h' ks' w b off b' off' ka ka' kl kc kl' kc' N N' hx q0 q1 q2 q3 q4 q5 q6
  by_cases q7 : kl = kl'
  rotate_left
  · exact same_d7 h ks h' ks' w b off b' off' ka ka' kl kc kl' kc' N N' hx q0 q1 q2 q3 q4 q5 q6 q7
  exact absurd ⟨by cases h; cases h'; simp only at q0 q1 q2 q3 q4 q5 q6; subst q0 q1 q2 q3 q4 q5 q6; rfl, q7⟩ hne
theorem same_step (h : Hd) (ks : Trees) (ih : AllT PEq ks) : PEq h ks := by
  intro h' ks' w b off b' off' ka ka' kl kc kl' kc' N N' tv tv'
  by_cases hs : h = h' ∧ kl = kl'
  · obtain ⟨rfl, rfl⟩ := hs
    exact same_same h ks ih ks' w b off b' off' ka ka' kl kc kc' N N' tv tv'
  · exact same_differs h ks h' ks' w b off b' off' ka ka' kl kc kl' kc' N N' tv.len tv'.len hs
theorem same_any (h : Hd) (ks : Trees) : PEq h ks := same_step h ks (allT same_step ks)
end Go.Proofs.Ytkjfeakbhfkldaa
