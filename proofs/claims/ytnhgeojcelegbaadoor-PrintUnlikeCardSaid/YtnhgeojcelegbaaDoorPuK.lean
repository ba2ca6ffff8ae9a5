/- Trees: same and Same. -/
import Derived.Test.YtnhgeojcelegbaaDoorPuKa
import Derived.Test.YtnhgeojcelegbaaDoorPuKb
import Derived.Test.YtnhgeojcelegbaaDoorPuKd
import Derived.Test.YtnhgeojcelegbaaDoorTreeG
namespace Go.Proofs.YtnhgeojcelegbaaDoor
open Go.RowKit
theorem same_differs (h : Hd) (ks : Trees) (h' : Hd) (ks' : Trees) (w : World) (b off b' off' : Nat) (ka ka' : Option Addr) (kl kc kl' kc' : Nat) (N : NodeAt w b off h (.slice ka kl kc)) (N' : NodeAt w b' off' h' (.slice ka' kl' kc'))
    (hlen : kl = ks.len) (hlen' : kl' = ks'.len) (hne : ¬ (h = h' ∧ kl = kl')) :
    Calls Tryd.prog 54 #[.pointer (some ⟨b, off, none⟩), .pointer (some ⟨b', off', none⟩)] w (EqPost h h' ks ks' w) := by
  have hx : sameB h h' ks ks' = false := by
    simp only [sameB, decide_eq_false_iff_not]
    rintro ⟨rfl, rfl⟩
    exact hne ⟨rfl, hlen.trans hlen'.symm⟩
  by_cases q0 : h.kind = h'.kind
  rotate_left
  · exact same_d0 h ks h' ks' w b off b' off' ka ka' kl kc kl' kc' N N' hx  q0
  by_cases q1 : h.op = h'.op
  rotate_left
  · exact same_d1 h ks h' ks' w b off b' off' ka ka' kl kc kl' kc' N N' hx q0 q1
  by_cases q2 : h.num = h'.num
  rotate_left
  · exact same_d2 h ks h' ks' w b off b' off' ka ka' kl kc kl' kc' N N' hx q0 q1 q2
  by_cases q3 : h.text = h'.text
  rotate_left
  · exact same_d3 h ks h' ks' w b off b' off' ka ka' kl kc kl' kc' N N' hx q0 q1 q2 q3
  by_cases q4 : h.ref = h'.ref
  rotate_left
  · exact same_d4 h ks h' ks' w b off b' off' ka ka' kl kc kl' kc' N N' hx q0 q1 q2 q3 q4
  by_cases q5 : h.to = h'.to
  rotate_left
  · exact same_d5 h ks h' ks' w b off b' off' ka ka' kl kc kl' kc' N N' hx q0 q1 q2 q3 q4 q5
  by_cases q6 : h.fn = h'.fn
  rotate_left
  · exact same_d6 h ks h' ks' w b off b' off' ka ka' kl kc kl' kc' N N' hx q0 q1 q2 q3 q4 q5 q6
  by_cases q7 : kl = kl'
  rotate_left
  · exact same_d7 h ks h' ks' w b off b' off' ka ka' kl kc kl' kc' N N' hx q0 q1 q2 q3 q4 q5 q6 q7
  exact absurd ⟨by cases h; cases h'; simp only at q0 q1 q2 q3 q4 q5 q6; subst q0 q1 q2 q3 q4 q5 q6; rfl, q7⟩ hne
theorem same_step (h : Hd) (ks : Trees) (ih : AllT PEq ks) : PEq h ks := by
  intro h' ks' w b off b' off' ka ka' kl kc kl' kc' N N' tv tv'
  by_cases hs : h = h' ∧ kl = kl'
  · obtain ⟨rfl, rfl⟩ := hs
    exact same_same h ks ih ks' w b off b' off' ka ka' kl kc kc' N N' tv tv'
  · exact same_differs h ks h' ks' w b off b' off' ka ka' kl kc kl' kc' N N' tv.len tv'.len hs
theorem same_any (h : Hd) (ks : Trees) : PEq h ks := same_step h ks (allT same_step ks)
end Go.Proofs.YtnhgeojcelegbaaDoor

namespace Go.Proofs.YtnhgeojcelegbaaDoor
open Go.RowKit
def sameV (h h' : Hd) (ks ks' : Trees) : Bool := decide (Fine h ks) && decide (Fine h' ks') && sameB h h' ks ks'
def SamePost (h h' : Hd) (ks ks' : Trees) (w : World) (e : Ending) (w' : World) : Prop := e = .returned (.bool (sameV h h' ks ks')) ∧ Below w.heap.size w w'

theorem node_box2 (w : World) (h h' : Hd) (ks ks' : Value) : NodeAt ((w.alloc (.cells #[.int .i64 h.kind, .int .i64 h.op, .int .i64 h.num, .string ⟨h.text.toArray⟩, .int .i64 h.ref.row, .int .i64 h.ref.col, .bool h.ref.pr, .bool h.ref.pc, .int .i64 h.to.row, .int .i64 h.to.col, .bool h.to.pr, .bool h.to.pc, .int .i64 h.fn, ks] 30)).alloc (.cells #[.int .i64 h'.kind, .int .i64 h'.op, .int .i64 h'.num, .string ⟨h'.text.toArray⟩, .int .i64 h'.ref.row, .int .i64 h'.ref.col, .bool h'.ref.pr, .bool h'.ref.pc, .int .i64 h'.to.row, .int .i64 h'.to.col, .bool h'.to.pr, .bool h'.to.pc, .int .i64 h'.fn, ks'] 30)) w.heap.size 0 h ks ∧
    NodeAt ((w.alloc (.cells #[.int .i64 h.kind, .int .i64 h.op, .int .i64 h.num, .string ⟨h.text.toArray⟩, .int .i64 h.ref.row, .int .i64 h.ref.col, .bool h.ref.pr, .bool h.ref.pc, .int .i64 h.to.row, .int .i64 h.to.col, .bool h.to.pr, .bool h.to.pc, .int .i64 h.fn, ks] 30)).alloc (.cells #[.int .i64 h'.kind, .int .i64 h'.op, .int .i64 h'.num, .string ⟨h'.text.toArray⟩, .int .i64 h'.ref.row, .int .i64 h'.ref.col, .bool h'.ref.pr, .bool h'.ref.pc, .int .i64 h'.to.row, .int .i64 h'.to.col, .bool h'.to.pr, .bool h'.to.pc, .int .i64 h'.fn, ks'] 30)) (w.heap.size + 1) 0 h' ks' := by
  refine ⟨(node_box w h ks).kept (ext_alloc (Below.refl _ _) _) (by simp), ?_⟩
  have := node_box (w.alloc (.cells #[.int .i64 h.kind, .int .i64 h.op, .int .i64 h.num, .string ⟨h.text.toArray⟩, .int .i64 h.ref.row, .int .i64 h.ref.col, .bool h.ref.pr, .bool h.ref.pc, .int .i64 h.to.row, .int .i64 h.to.col, .bool h.to.pr, .bool h.to.pc, .int .i64 h.fn, ks] 30)) h' ks'
  rw [show (w.alloc (.cells #[.int .i64 h.kind, .int .i64 h.op, .int .i64 h.num, .string ⟨h.text.toArray⟩, .int .i64 h.ref.row, .int .i64 h.ref.col, .bool h.ref.pr, .bool h.ref.pc, .int .i64 h.to.row, .int .i64 h.to.col, .bool h.to.pr, .bool h.to.pc, .int .i64 h.fn, ks] 30)).heap.size = w.heap.size + 1 by simp] at this
  exact this

set_option maxRecDepth 100000 in
set_option maxHeartbeats 2000000 in
theorem same_all (nd nd' : Hd) (ks ks' : Trees) (w : World) (B B' : Nat) (ka ka' : Option Addr) (kl kc kl' kc' : Nat) (hB : B ≤ w.heap.size) (hB' : B' ≤ w.heap.size) (tv : TreeV w B nd ks ka kl) (tv' : TreeV w B' nd' ks' ka' kl') :
    Calls Tryd.prog 18 #[.agg #[.int .i64 nd.kind, .int .i64 nd.op, .int .i64 nd.num, .string ⟨nd.text.toArray⟩, .int .i64 nd.ref.row, .int .i64 nd.ref.col, .bool nd.ref.pr, .bool nd.ref.pc, .int .i64 nd.to.row, .int .i64 nd.to.col, .bool nd.to.pr, .bool nd.to.pc, .int .i64 nd.fn, .slice ka kl kc], .agg #[.int .i64 nd'.kind, .int .i64 nd'.op, .int .i64 nd'.num, .string ⟨nd'.text.toArray⟩, .int .i64 nd'.ref.row, .int .i64 nd'.ref.col, .bool nd'.ref.pr, .bool nd'.ref.pc, .int .i64 nd'.to.row, .int .i64 nd'.to.col, .bool nd'.to.pr, .bool nd'.to.pc, .int .i64 nd'.fn, .slice ka' kl' kc']] w (SamePost nd nd' ks ks' w) := by
  have HT := Lib.hid tv; clear tv
  have HT' := Lib.hid tv'; clear tv'
  go_enter Tryd.func18, Tryd.ntmps18
  go_wp2_with fail
  obtain ⟨N0, N0'⟩ := node_box2 w nd nd' (.slice ka kl kc) (.slice ka' kl' kc')
  have b0 : Below B w ((w.alloc (.cells #[.int .i64 nd.kind, .int .i64 nd.op, .int .i64 nd.num, .string ⟨nd.text.toArray⟩, .int .i64 nd.ref.row, .int .i64 nd.ref.col, .bool nd.ref.pr, .bool nd.ref.pc, .int .i64 nd.to.row, .int .i64 nd.to.col, .bool nd.to.pr, .bool nd.to.pc, .int .i64 nd.fn, .slice ka kl kc] 30)).alloc (.cells #[.int .i64 nd'.kind, .int .i64 nd'.op, .int .i64 nd'.num, .string ⟨nd'.text.toArray⟩, .int .i64 nd'.ref.row, .int .i64 nd'.ref.col, .bool nd'.ref.pr, .bool nd'.ref.pc, .int .i64 nd'.to.row, .int .i64 nd'.to.col, .bool nd'.to.pr, .bool nd'.to.pc, .int .i64 nd'.fn, .slice ka' kl' kc'] 30)) := ((Below.refl B w).alloc hB _).alloc (by simp; omega) _
  have b0' : Below B' w ((w.alloc (.cells #[.int .i64 nd.kind, .int .i64 nd.op, .int .i64 nd.num, .string ⟨nd.text.toArray⟩, .int .i64 nd.ref.row, .int .i64 nd.ref.col, .bool nd.ref.pr, .bool nd.ref.pc, .int .i64 nd.to.row, .int .i64 nd.to.col, .bool nd.to.pr, .bool nd.to.pc, .int .i64 nd.fn, .slice ka kl kc] 30)).alloc (.cells #[.int .i64 nd'.kind, .int .i64 nd'.op, .int .i64 nd'.num, .string ⟨nd'.text.toArray⟩, .int .i64 nd'.ref.row, .int .i64 nd'.ref.col, .bool nd'.ref.pr, .bool nd'.ref.pc, .int .i64 nd'.to.row, .int .i64 nd'.to.col, .bool nd'.to.pr, .bool nd'.to.pc, .int .i64 nd'.fn, .slice ka' kl' kc'] 30)) := ((Below.refl B' w).alloc hB' _).alloc (by simp; omega) _
  have bw : Below w.heap.size w ((w.alloc (.cells #[.int .i64 nd.kind, .int .i64 nd.op, .int .i64 nd.num, .string ⟨nd.text.toArray⟩, .int .i64 nd.ref.row, .int .i64 nd.ref.col, .bool nd.ref.pr, .bool nd.ref.pc, .int .i64 nd.to.row, .int .i64 nd.to.col, .bool nd.to.pr, .bool nd.to.pc, .int .i64 nd.fn, .slice ka kl kc] 30)).alloc (.cells #[.int .i64 nd'.kind, .int .i64 nd'.op, .int .i64 nd'.num, .string ⟨nd'.text.toArray⟩, .int .i64 nd'.ref.row, .int .i64 nd'.ref.col, .bool nd'.ref.pr, .bool nd'.ref.pc, .int .i64 nd'.to.row, .int .i64 nd'.to.col, .bool nd'.to.pr, .bool nd'.to.pc, .int .i64 nd'.fn, .slice ka' kl' kc'] 30)) := ext_alloc (ext_alloc (Below.refl _ w) _) _
  have T1 := (HT.out.kept b0 (Nat.le_refl _)).mono (Nat.le_trans hB (Nat.le_add_right _ 2))
  have T1' := (HT'.out.kept b0' (Nat.le_refl _)).mono (Nat.le_trans hB' (Nat.le_add_right _ 2))
  have hz : ((w.alloc (.cells #[.int .i64 nd.kind, .int .i64 nd.op, .int .i64 nd.num, .string ⟨nd.text.toArray⟩, .int .i64 nd.ref.row, .int .i64 nd.ref.col, .bool nd.ref.pr, .bool nd.ref.pc, .int .i64 nd.to.row, .int .i64 nd.to.col, .bool nd.to.pr, .bool nd.to.pc, .int .i64 nd.fn, .slice ka kl kc] 30)).alloc (.cells #[.int .i64 nd'.kind, .int .i64 nd'.op, .int .i64 nd'.num, .string ⟨nd'.text.toArray⟩, .int .i64 nd'.ref.row, .int .i64 nd'.ref.col, .bool nd'.ref.pr, .bool nd'.ref.pc, .int .i64 nd'.to.row, .int .i64 nd'.to.col, .bool nd'.to.pr, .bool nd'.to.pc, .int .i64 nd'.fn, .slice ka' kl' kc'] 30)).heap.size = w.heap.size + 2 := by simp
  clear b0 b0'
  generalize hW : World.alloc (World.alloc w _) _ = w1 at *
  clear hW
  refine (walk_any w1 (all_spec (B := w.heap.size + 2) (by omega)) nd ks w.heap.size 0 ka kl kc () (by omega) N0 T1 trivial).mono ?_
  rintro e w2 ⟨n, d, t, s', ok, rfl, -, b2, yes, no⟩
  have hz2 := b2.size
  have N2 := Lib.hid (N0.kept b2 (by omega))
  have N2' := Lib.hid (N0'.kept b2 (by omega))
  have T2 := Lib.hid (T1.kept b2 (Nat.le_refl _))
  have T2' := Lib.hid (T1'.kept b2 (Nat.le_refl _))
  have B2 := Lib.hid (bw.trans (b2.mono (by omega)))
  have Y := Lib.hid (And.intro yes no)
  clear N0 N0' T1 T1' bw b2 yes no
  go_wp2_with fail
  refine (walk_any w2 (all_spec (B := w.heap.size + 2) (by omega)) nd' ks' (w.heap.size + 1) 0 ka' kl' kc' () (by omega) N2'.out T2'.out trivial).mono ?_
  rintro e w3 ⟨n', d', t', s'', ok', rfl, -, b3, yes', no'⟩
  have hz3 := b3.size
  have N3 := Lib.hid (N2.out.kept b3 (by omega))
  have N3' := Lib.hid (N2'.out.kept b3 (by omega))
  have T3 := Lib.hid (T2.out.kept b3 (Nat.le_refl _))
  have T3' := Lib.hid (T2'.out.kept b3 (Nat.le_refl _))
  have B3 := Lib.hid (B2.out.trans (b3.mono (by omega)))
  have Y' := Lib.hid (And.intro yes' no')
  clear b3 yes' no'
  by_cases f : Fine nd ks
  · obtain ⟨rfl, y1, -, -, -⟩ := Y.out.1 f
    by_cases f' : Fine nd' ks'
    · obtain ⟨rfl, y1', -, -, -⟩ := Y'.out.1 f'
      have hx : sameV nd nd' ks ks' = sameB nd nd' ks ks' := by simp [sameV, f, f']
      by_cases q : n = n'
      · have q1 : (n == n') = true := by simp [q]
        have HX := Lib.hid hx; clear hx f f' q y1 y1'
        go_wp2_with fail
        refine (same_any nd ks nd' ks' w3 w.heap.size 0 (w.heap.size + 1) 0 ka ka' kl kc kl' kc' N3.out N3'.out (T3.out.mono (by omega)) (T3'.out.mono (by omega))).mono ?_
        rintro e w4 ⟨rfl, b4⟩
        have B4 := Lib.hid (B3.out.trans (b4.mono (by omega)))
        clear b4
        go_wp2
        go_ret
        exact ⟨ret_bool HX.out.symm, B4.out⟩
      · have q1 : (n == n') = false := by simp [q]
        have hy : sameV nd nd' ks ks' = false := by
          rw [hx]; simp only [sameB, decide_eq_false_iff_not]
          rintro ⟨-, rfl⟩; omega
        have HX := Lib.hid hy; clear hx hy f f' q y1 y1'
        go_wp2
        go_ret
        exact ⟨ret_bool HX.out.symm, B3.out⟩
    · obtain rfl := Y'.out.2 f'
      have hx : sameV nd nd' ks ks' = false := by simp [sameV, f']
      have HX := Lib.hid hx; clear hx f f' y1
      go_wp2
      go_ret
      exact ⟨ret_bool HX.out.symm, B3.out⟩
  · obtain rfl := Y.out.2 f
    have hx : sameV nd nd' ks ks' = false := by simp [sameV, f]
    have HX := Lib.hid hx; clear hx f
    cases ok'
    all_goals
      go_wp2
      go_ret
      exact ⟨ret_bool HX.out.symm, B3.out⟩
end Go.Proofs.YtnhgeojcelegbaaDoor
