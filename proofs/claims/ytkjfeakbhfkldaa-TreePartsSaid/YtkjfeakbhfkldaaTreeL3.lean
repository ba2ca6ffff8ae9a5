/- TreeParts: a tree's numbers and what it reads are those of its kids together. -/
import Derived.Test.YtkjfeakbhfkldaaTreeBg
import Derived.Test.YtkjfeakbhfkldaaTreeArg
import Derived.Test.YtkjfeakbhfkldaaLaw
namespace Go.Proofs.Ytkjfeakbhfkldaa
open Go.ChangeShapes Go.WideShapes Go.ChangeAt Go.RowKit

theorem ArAt.sub {w : World} {B : Nat} {dn m r : List Ar} {b off : Nat} (h : ArAt w B (dn ++ (m ++ r)) (some ⟨b, off, none⟩)) : ArAt w B m (some ⟨b, off + dn.length * 4, none⟩) := by
  refine ⟨by have := h.1; simp only [List.length_append] at this; omega, fun j x hj => ?_⟩
  have hl := (List.getElem?_eq_some_iff.1 hj).1
  obtain ⟨b', off', e, lt, lt2, c0, c1, c2, c3⟩ := h.2 (dn.length + j) x (by rw [List.getElem?_append_right (by omega), Nat.add_sub_cancel_left, List.getElem?_append_left hl]; exact hj)
  simp only [Option.some.injEq, Addr.mk.injEq, and_true] at e
  obtain ⟨rfl, rfl⟩ := e
  have q : off + (dn.length + j) * 4 = off + dn.length * 4 + j * 4 := by omega
  rw [q] at c0 c1 c2 c3
  exact ⟨b, _, rfl, lt, lt2, c0, c1, c2, c3⟩
theorem ArAt.of_nil {w : World} {B : Nat} {m : List Ar} {a : Option Addr} (h : m.length = 0) : ArAt w B m a := ⟨by omega, fun j x hj => by have := (List.getElem?_eq_some_iff.1 hj).1; omega⟩
theorem ArAt.sub' {w : World} {B : Nat} {dn m r : List Ar} {a : Option Addr} (h : ArAt w B (dn ++ (m ++ r)) a) : ArAt w B m (a.map fun x => x.add (dn.length * 4)) := by
  rcases Nat.eq_zero_or_pos m.length with z | z
  · exact .of_nil z
  · obtain ⟨b, off, rfl, -⟩ := h.2 dn.length m[0] (by rw [List.getElem?_append_right (Nat.le_refl _), Nat.sub_self, List.getElem?_append_left z, List.getElem?_eq_getElem z])
    have := h.sub
    rw [Option.map_some, addr_add]
    exact this
theorem ArAt.none_nil {w : World} {B : Nat} {l : List Ar} (h : ArAt w B l none) : l = [] := by
  cases l with
  | nil => rfl
  | cons x r => obtain ⟨_, _, e, _⟩ := h.2 0 x rfl; cases e
theorem ArRow.cap {b0 : Nat} {w : World} {l : List Ar} {a : Option Addr} {n kc : Nat} (h : ArRow b0 w l (.slice a n kc)) : l.length ≤ kc ∧ kc ≤ 9223372036854775807 ∧ (∀ x, a = some x → x.spot = none) := by
  rcases h.2 with ⟨e, z⟩ | ⟨g, cap, cur, e, _, _, h1, h2, _⟩
  · simp only [Value.slice.injEq] at e; obtain ⟨rfl, rfl, rfl⟩ := e; exact ⟨by omega, by omega, fun x hx => by cases hx⟩
  · simp only [Value.slice.injEq] at e; obtain ⟨rfl, -, rfl⟩ := e
    have : maxLen = 9223372036854775807 := rfl
    exact ⟨h1, by omega, fun x hx => by cases hx; rfl⟩
theorem mayE_kid {h : Hd} {k r : Trees} (a : allFits (.cons h k r) = true) (f : Fine h k) : mayE h k = 0 ∧ allFits r = true := by
  simp only [allFits, Bool.and_eq_true] at a
  exact ⟨by simp [mayE, f, treeFits, a.1.1, a.1.2], a.2⟩
theorem mayE_fits {h : Hd} {ks : Trees} (e : mayE h ks = 0) : allFits ks = true := by
  have f := mayE_fine e
  simp only [mayE, f, if_true] at e
  by_cases q : treeFits h ks = true
  · simp only [treeFits, Bool.and_eq_true] at q; exact q.2
  · simp [q] at e
theorem mayE_bad {h : Hd} {ks : Trees} (f : Fine h ks) (e : mayE h ks ≠ 0) : mayE h ks = 22 := by
  simp only [mayE, f, if_true] at e ⊢
  by_cases q : treeFits h ks = true
  · simp [q] at e
  · simp [q]
/-- A kid of a tree that is not too great is not, either. -/
theorem kid_fine {nd h : Hd} {ks k r : Trees} {N D T : Nat} (f : Fine nd ks) (n : N + (Trees.cons h k r).nodes = 1 + ks.nodes) (n1 : 1 ≤ N) (d : max D (Trees.cons h k r).deep = ks.deep) (t : T + (Trees.cons h k r).bytes = nd.bytes + ks.bytes) : Fine h k := by
  obtain ⟨f1, f2, f3⟩ := f
  simp only [Trees.nodes, Trees.deep, Trees.bytes] at n d t
  exact ⟨by omega, by omega, by omega⟩

def PtRel (nd : Hd) (ks : Trees) (kl B : Nat) (ka : Option Addr) (l : List Ar) (good : Bool) (w0 wr : World) (nn dd tt at_ i : Value) : Prop :=
  ∃ (j N D T : Nat) (rest : Trees) (dn : List Ar), i = .int .i64 j ∧ nn = .int .i64 N ∧ dd = .int .i64 D ∧ tt = .int .i64 T ∧ at_ = .int .i64 dn.length ∧ j + rest.len = kl ∧ RowIn wr B rest ka j ∧ Below w0.heap.size w0 wr ∧
    1 ≤ N ∧ Hid (N + rest.nodes = 1 + ks.nodes) ∧ Hid (max D rest.deep = ks.deep) ∧ Hid (T + rest.bytes = nd.bytes + ks.bytes) ∧ (if good then Hid (l = dn ++ readsL rest) ∧ Hid (allFits rest = true) else dn = [])
structure PNext (ks : Trees) (nd : Hd) (r : Trees) (N D T : Nat) : Prop where
  n : N + r.nodes = 1 + ks.nodes
  d : max D r.deep = ks.deep
  t : T + r.bytes = nd.bytes + ks.bytes

set_option maxRecDepth 100000 in
set_option maxHeartbeats 4000000 in
theorem parts_great (w : World) (nd : Hd) (ks : Trees) (ka : Option Addr) (kl kc : Nat) (tv : TreeV w w.heap.size nd ks ka kl) (f : ¬ Fine nd ks) :
    Calls Try.prog 6 #[.agg #[.int .i64 nd.kind, .int .i64 nd.op, .int .i64 nd.num, .string ⟨nd.text.toArray⟩, .int .i64 nd.ref.row, .int .i64 nd.ref.col, .bool nd.ref.pr, .bool nd.ref.pc, .int .i64 nd.to.row, .int .i64 nd.to.col, .bool nd.to.pr, .bool nd.to.pc, .int .i64 nd.fn, .slice ka kl kc]] w (TruePost w) := by
  have b0 := ext_alloc (Below.refl _ w) (.cells #[.int .i64 nd.kind, .int .i64 nd.op, .int .i64 nd.num, .string ⟨nd.text.toArray⟩, .int .i64 nd.ref.row, .int .i64 nd.ref.col, .bool nd.ref.pr, .bool nd.ref.pc, .int .i64 nd.to.row, .int .i64 nd.to.col, .bool nd.to.pr, .bool nd.to.pc, .int .i64 nd.fn, .slice ka kl kc] 29)
  have p0 : PlR w w.heap.size (.cells #[.int .i64 nd.kind, .int .i64 nd.op, .int .i64 nd.num, .string ⟨nd.text.toArray⟩, .int .i64 nd.ref.row, .int .i64 nd.ref.col, .bool nd.ref.pr, .bool nd.ref.pc, .int .i64 nd.to.row, .int .i64 nd.to.col, .bool nd.to.pr, .bool nd.to.pc, .int .i64 nd.fn, .slice ka kl kc] 29) nd nd ks ks ka ka kl kl (w.alloc (.cells #[.int .i64 nd.kind, .int .i64 nd.op, .int .i64 nd.num, .string ⟨nd.text.toArray⟩, .int .i64 nd.ref.row, .int .i64 nd.ref.col, .bool nd.ref.pr, .bool nd.ref.pc, .int .i64 nd.to.row, .int .i64 nd.to.col, .bool nd.to.pr, .bool nd.to.pc, .int .i64 nd.fn, .slice ka kl kc] 29)) :=
    ⟨Nat.le_refl _, heap_alloc_new _ _, b0, tv.kept b0 (Nat.le_refl _), tv.kept b0 (Nat.le_refl _)⟩
  have P0 := Lib.hid p0
  have HKL := Lib.hid tv.len; have hkm := tv.max
  clear b0 p0 tv
  go_enter Try.func6, Try.ntmps6
  go_wp2_with fail
  refine (begun_any _).mono ?_
  rintro e w1 ⟨rfl, b1⟩
  obtain ⟨c1, p1⟩ := P0.out.step b1
  have P1 := Lib.hid p1
  clear b1 p1
  go_wp2_with fail
  obtain ⟨s1, s2, s3⟩ := size_no f
  have cS : Calls Try.prog 24 #[.agg #[.int .i64 nd.kind, .int .i64 nd.op, .int .i64 nd.num, .string ⟨nd.text.toArray⟩, .int .i64 nd.ref.row, .int .i64 nd.ref.col, .bool nd.ref.pr, .bool nd.ref.pc, .int .i64 nd.to.row, .int .i64 nd.to.col, .bool nd.to.pr, .bool nd.to.pc, .int .i64 nd.fn, .slice ka kl kc]] w1 (fun e w' => e = .returned (.tuple #[.int .i64 513, .int .i64 65, .int .i64 16385]) ∧ Below w1.heap.size w1 w') := (size_any nd ks w1 _ ka kl kc P1.out.le P1.out.t).mono fun e w' q => ⟨by have := q.1; rw [s1, s2, s3] at this; exact this, q.2⟩
  refine cS.mono ?_
  rintro e w2 ⟨rfl, b2⟩
  obtain ⟨c2, p2⟩ := P1.out.step b2
  have P2 := Lib.hid p2
  clear b2 p2 cS c1
  go_wp2_with fail
  have cM : Calls Try.prog 23 #[.agg #[.int .i64 nd.kind, .int .i64 nd.op, .int .i64 nd.num, .string ⟨nd.text.toArray⟩, .int .i64 nd.ref.row, .int .i64 nd.ref.col, .bool nd.ref.pr, .bool nd.ref.pc, .int .i64 nd.to.row, .int .i64 nd.to.col, .bool nd.to.pr, .bool nd.to.pc, .int .i64 nd.fn, .slice ka kl kc]] w2 (fun e w' => e = .returned (.int .i64 2) ∧ Below w2.heap.size w2 w') := (may_any nd ks w2 _ ka kl kc P2.out.le P2.out.t).mono fun e w' q => ⟨by have := q.1; simp only [mayE, f, if_false] at this; exact this, q.2⟩
  refine cM.mono ?_
  rintro e w3 ⟨rfl, b3⟩
  obtain ⟨-, p3⟩ := P2.out.step b3
  have P3 := Lib.hid p3
  clear b3 p3 cM c2 f s1 s2 s3
  go_wp2
  go_ret
  exact ⟨ret_bool (by simp), P3.out.bel⟩

set_option maxRecDepth 100000 in
set_option maxHeartbeats 4000000 in
theorem parts_bad_text (w : World) (nd : Hd) (ks : Trees) (ka : Option Addr) (kl kc : Nat) (tv : TreeV w w.heap.size nd ks ka kl) (f : Fine nd ks) (k2 : nd.kind = 2) (hm0 : mayE nd ks ≠ 0) :
    Calls Try.prog 6 #[.agg #[.int .i64 nd.kind, .int .i64 nd.op, .int .i64 nd.num, .string ⟨nd.text.toArray⟩, .int .i64 nd.ref.row, .int .i64 nd.ref.col, .bool nd.ref.pr, .bool nd.ref.pc, .int .i64 nd.to.row, .int .i64 nd.to.col, .bool nd.to.pr, .bool nd.to.pc, .int .i64 nd.fn, .slice ka kl kc]] w (TruePost w) := by
  have b0 := ext_alloc (Below.refl _ w) (.cells #[.int .i64 nd.kind, .int .i64 nd.op, .int .i64 nd.num, .string ⟨nd.text.toArray⟩, .int .i64 nd.ref.row, .int .i64 nd.ref.col, .bool nd.ref.pr, .bool nd.ref.pc, .int .i64 nd.to.row, .int .i64 nd.to.col, .bool nd.to.pr, .bool nd.to.pc, .int .i64 nd.fn, .slice ka kl kc] 29)
  have p0 : PlR w w.heap.size (.cells #[.int .i64 nd.kind, .int .i64 nd.op, .int .i64 nd.num, .string ⟨nd.text.toArray⟩, .int .i64 nd.ref.row, .int .i64 nd.ref.col, .bool nd.ref.pr, .bool nd.ref.pc, .int .i64 nd.to.row, .int .i64 nd.to.col, .bool nd.to.pr, .bool nd.to.pc, .int .i64 nd.fn, .slice ka kl kc] 29) nd nd ks ks ka ka kl kl (w.alloc (.cells #[.int .i64 nd.kind, .int .i64 nd.op, .int .i64 nd.num, .string ⟨nd.text.toArray⟩, .int .i64 nd.ref.row, .int .i64 nd.ref.col, .bool nd.ref.pr, .bool nd.ref.pc, .int .i64 nd.to.row, .int .i64 nd.to.col, .bool nd.to.pr, .bool nd.to.pc, .int .i64 nd.fn, .slice ka kl kc] 29)) :=
    ⟨Nat.le_refl _, heap_alloc_new _ _, b0, tv.kept b0 (Nat.le_refl _), tv.kept b0 (Nat.le_refl _)⟩
  have P0 := Lib.hid p0
  have hm := mayE_bad f hm0
  have e2 : (nd.kind == 2) = true := by simp [k2]
  have hby : nd.bytes = nd.text.length := by simp [Hd.bytes, k2]
  have f1 := f.1; have f2 := f.2.1
  have F := Lib.hid f
  have HM := Lib.hid hm; have HBY := Lib.hid hby
  have KK := Lib.hid k2
  clear hm hby f k2 hm0
  have HKL := Lib.hid tv.len; have hkm := tv.max
  clear b0 p0 tv
  go_enter Try.func6, Try.ntmps6
  go_wp2_with fail
  refine (begun_any _).mono ?_
  rintro e w1 ⟨rfl, b1⟩
  obtain ⟨c1, p1⟩ := P0.out.step b1
  have P1 := Lib.hid p1
  clear b1 p1
  go_wp2_with fail
  obtain ⟨s1, s2, s3⟩ := size_yes F.out
  rw [HBY.out] at s3
  have cS : Calls Try.prog 24 #[.agg #[.int .i64 nd.kind, .int .i64 nd.op, .int .i64 nd.num, .string ⟨nd.text.toArray⟩, .int .i64 nd.ref.row, .int .i64 nd.ref.col, .bool nd.ref.pr, .bool nd.ref.pc, .int .i64 nd.to.row, .int .i64 nd.to.col, .bool nd.to.pr, .bool nd.to.pc, .int .i64 nd.fn, .slice ka kl kc]] w1 (fun e w' => e = .returned (.tuple #[.int .i64 (1 + ks.nodes), .int .i64 (1 + ks.deep), .int .i64 ((nd.text.length : Nat) + ks.bytes)]) ∧ Below w1.heap.size w1 w') := (size_any nd ks w1 _ ka kl kc P1.out.le P1.out.t).mono fun e w' q => ⟨by have := q.1; rw [s1, s2, s3] at this; exact this, q.2⟩
  refine cS.mono ?_
  rintro e w2 ⟨rfl, b2⟩
  obtain ⟨c2, p2⟩ := P1.out.step b2
  have P2 := Lib.hid p2
  clear b2 p2 cS c1 s1 s2 s3
  go_wp2_with fail
  have cM : Calls Try.prog 23 #[.agg #[.int .i64 nd.kind, .int .i64 nd.op, .int .i64 nd.num, .string ⟨nd.text.toArray⟩, .int .i64 nd.ref.row, .int .i64 nd.ref.col, .bool nd.ref.pr, .bool nd.ref.pc, .int .i64 nd.to.row, .int .i64 nd.to.col, .bool nd.to.pr, .bool nd.to.pc, .int .i64 nd.fn, .slice ka kl kc]] w2 (fun e w' => e = .returned (.int .i64 22) ∧ Below w2.heap.size w2 w') := (may_any nd ks w2 _ ka kl kc P2.out.le P2.out.t).mono fun e w' q => ⟨by have := q.1; rw [HM.out] at this; exact this, q.2⟩
  refine cM.mono ?_
  rintro e w3 ⟨rfl, b3⟩
  obtain ⟨c3, p3⟩ := P2.out.step b3
  have P3 := Lib.hid p3
  clear b3 p3 cM c2
  go_wp2_with fail
  refine (reads_any nd ks w3 _ ka kl kc P3.out.le P3.out.t).mono ?_
  rintro e w4 ⟨v4, rfl, b4, a4⟩
  rw [HM.out]
  unfold ReadsAns at a4
  rw [if_neg (by rw [HM.out]; decide)] at a4
  obtain ⟨la, lc, rfl, ar, -⟩ := a4.at_
  obtain ⟨hcap, hcm, -⟩ := a4.cap
  obtain ⟨c4, p4⟩ := P3.out.step b4
  have P4 := Lib.hid p4
  have AR := Lib.hid ar
  have R4 := Lib.hid (p4.t.row)
  have hlm := ar.1
  have hz4 := p4.lt
  clear b4 p4 c3 a4 ar
  have C4 := Lib.hid c4
  go_wp2_with fail
  go_loopw [7, 8, 9, 12, 13, 14, 15, 16, 17, 18] (fun nn dd tt at_ i _ _ _ _ _ wr => PtRel nd ks kl w.heap.size ka (([] : List Ar)) false w4 wr nn dd tt at_ i) (fun _ _ _ _ i _ _ _ _ _ _ => kl - (intOf i).toNat)
  case atStart =>
    exact ⟨0, 1, 0, nd.text.length, ks, [], rfl, rfl, rfl, rfl, rfl, by have := HKL.out; omega, R4.out, Below.refl _ _, Nat.le_refl _, Lib.hid rfl, Lib.hid (by simp), Lib.hid (by rw [HBY.out]), rfl⟩
  case round =>
    obtain ⟨j, N, D, T, rest, dn, rfl, rfl, rfl, rfl, rfl, hj, hrow, hb, hN, hNN, hDD, hTT, hg⟩ := hrel
    have hsz := hb.size
    have cb : ∀ o, wr.cell? ⟨w.heap.size, o, none⟩ = _ := fun o => (hb.cell (p := ⟨w.heap.size, o, none⟩) hz4).trans (C4.out o)
    have hltb : w.heap.size < wr.heap.size := by omega
    by_cases hlt : j < kl
    · obtain ⟨h', k', r', rfl⟩ := trees_cons (rest := rest) (by omega)
      obtain ⟨b1, off, ka', kl', kc', rfl, hb1, N1, tv1⟩ := hrow.head
      obtain ⟨hl1', c0, c1, c2, c3, c4', c5, c6, c7, c8, c9, c10, c11, c12, c13, d5, d6, d7, d9, d10, d11⟩ := N1.facts
      have fk := kid_fine F.out hNN.out hN hDD.out hTT.out
      obtain ⟨u1, u2, u3⟩ := size_yes fk
      have HN1 := Lib.hid N1; have T1 := Lib.hid tv1; have HRow := Lib.hid hrow.2
      have HB := Lib.hid hb
      have FK := Lib.hid fk
      clear d5 d6 d7 d9 d10 d11 N1 tv1 hrow hb fk
      have cS : Calls Try.prog 24 #[.agg #[.int .i64 h'.kind, .int .i64 h'.op, .int .i64 h'.num, .string ⟨h'.text.toArray⟩, .int .i64 h'.ref.row, .int .i64 h'.ref.col, .bool h'.ref.pr, .bool h'.ref.pc, .int .i64 h'.to.row, .int .i64 h'.to.col, .bool h'.to.pr, .bool h'.to.pc, .int .i64 h'.fn, .slice ka' kl' kc']] wr (fun e w' => e = .returned (.tuple #[.int .i64 (1 + k'.nodes), .int .i64 (1 + k'.deep), .int .i64 (h'.bytes + k'.bytes)]) ∧ Below wr.heap.size wr w') := (size_any h' k' wr w.heap.size ka' kl' kc' (by omega) T1.out).mono fun e w' q => ⟨by have := q.1; rw [u1, u2, u3] at this; exact this, q.2⟩
      have CS := Lib.hid cS
      have lim : N + (1 + k'.nodes) ≤ 512 ∧ T + (h'.bytes + k'.bytes) ≤ 16384 ∧ D ≤ 64 ∧ 1 + k'.deep ≤ 64 := by
        have q1 := hNN.out; have q2 := hDD.out; have q3 := hTT.out; obtain ⟨g1, g2, g3⟩ := F.out
        simp only [Trees.nodes, Trees.deep, Trees.bytes] at q1 q2 q3
        omega
      obtain ⟨lim1, lim2, lim3, lim4⟩ := lim
      clear cS u1 u2 u3
      go_wp2_with fail
      refine CS.out.mono ?_
      rintro e w5 ⟨rfl, b5⟩
      have hz5 := b5.size
      have HB5 := Lib.hid (HB.out.trans (b5.mono hsz))
      have nx : PNext ks nd r' (N + (1 + k'.nodes)) (max D (1 + k'.deep)) (T + (h'.bytes + k'.bytes)) := ⟨by rw [← hNN.out]; simp only [Trees.nodes]; omega, by rw [← hDD.out]; simp only [Trees.deep]; omega, by rw [← hTT.out]; simp only [Trees.bytes]; omega⟩
      have NX := Lib.hid nx
      clear c0 c1 c2 c3 c4' c5 c6 c7 c8 c9 c10 c11 c12 c13 cb nx
      obtain rfl : dn = [] := hg
      have T5 := Lib.hid b5
      have cb : ∀ o, w5.cell? ⟨w.heap.size, o, none⟩ = _ := fun o => (HB5.out.cell (p := ⟨w.heap.size, o, none⟩) hz4).trans (C4.out o)
      clear b5
      go_wp2
      exact ⟨⟨j + 1, N + (1 + k'.nodes), max D (1 + k'.deep), T + (h'.bytes + k'.bytes), r', [], by go_num, by go_num, congrArg (Value.int .i64) (by omega), by go_num, rfl, by simp only [Trees.len] at hj; omega, HRow.out.kept (T5.out.mono (by omega)) (Nat.le_refl _), HB5.out, by omega, Lib.hid NX.out.n, Lib.hid NX.out.d, Lib.hid NX.out.t, rfl⟩, by simp [intOf]; omega⟩
    · have hz : rest.len = 0 := by omega
      obtain rfl := trees_nil hz
      have q1 := hNN.out; have q2 := hDD.out; have q3 := hTT.out
      simp only [Trees.nodes, Trees.deep, Trees.bytes, Nat.add_zero, Nat.max_zero] at q1 q2 q3
      rw [HBY.out] at q3
      subst q1 q2 q3
      obtain rfl : dn = [] := hg
      have HB := Lib.hid (P4.out.bel.trans (hb.mono (by omega)))
      clear hb hrow
      go_wp2
      go_ret
      exact ⟨ret_bool (by simp), HB.out⟩

set_option maxRecDepth 100000 in
set_option maxHeartbeats 4000000 in
theorem parts_bad (w : World) (nd : Hd) (ks : Trees) (ka : Option Addr) (kl kc : Nat) (tv : TreeV w w.heap.size nd ks ka kl) (f : Fine nd ks) (k2 : nd.kind ≠ 2) (hm0 : mayE nd ks ≠ 0) :
    Calls Try.prog 6 #[.agg #[.int .i64 nd.kind, .int .i64 nd.op, .int .i64 nd.num, .string ⟨nd.text.toArray⟩, .int .i64 nd.ref.row, .int .i64 nd.ref.col, .bool nd.ref.pr, .bool nd.ref.pc, .int .i64 nd.to.row, .int .i64 nd.to.col, .bool nd.to.pr, .bool nd.to.pc, .int .i64 nd.fn, .slice ka kl kc]] w (TruePost w) := by
  have b0 := ext_alloc (Below.refl _ w) (.cells #[.int .i64 nd.kind, .int .i64 nd.op, .int .i64 nd.num, .string ⟨nd.text.toArray⟩, .int .i64 nd.ref.row, .int .i64 nd.ref.col, .bool nd.ref.pr, .bool nd.ref.pc, .int .i64 nd.to.row, .int .i64 nd.to.col, .bool nd.to.pr, .bool nd.to.pc, .int .i64 nd.fn, .slice ka kl kc] 29)
  have p0 : PlR w w.heap.size (.cells #[.int .i64 nd.kind, .int .i64 nd.op, .int .i64 nd.num, .string ⟨nd.text.toArray⟩, .int .i64 nd.ref.row, .int .i64 nd.ref.col, .bool nd.ref.pr, .bool nd.ref.pc, .int .i64 nd.to.row, .int .i64 nd.to.col, .bool nd.to.pr, .bool nd.to.pc, .int .i64 nd.fn, .slice ka kl kc] 29) nd nd ks ks ka ka kl kl (w.alloc (.cells #[.int .i64 nd.kind, .int .i64 nd.op, .int .i64 nd.num, .string ⟨nd.text.toArray⟩, .int .i64 nd.ref.row, .int .i64 nd.ref.col, .bool nd.ref.pr, .bool nd.ref.pc, .int .i64 nd.to.row, .int .i64 nd.to.col, .bool nd.to.pr, .bool nd.to.pc, .int .i64 nd.fn, .slice ka kl kc] 29)) :=
    ⟨Nat.le_refl _, heap_alloc_new _ _, b0, tv.kept b0 (Nat.le_refl _), tv.kept b0 (Nat.le_refl _)⟩
  have P0 := Lib.hid p0
  have hm := mayE_bad f hm0
  have e2 : (nd.kind == 2) = false := by simp [k2]
  have hby : nd.bytes = 0 := by simp [Hd.bytes, k2]
  have f1 := f.1; have f2 := f.2.1
  have F := Lib.hid f
  have HM := Lib.hid hm; have HBY := Lib.hid hby
  have KK := Lib.hid k2
  clear hm hby f k2 hm0
  have HKL := Lib.hid tv.len; have hkm := tv.max
  clear b0 p0 tv
  go_enter Try.func6, Try.ntmps6
  go_wp2_with fail
  refine (begun_any _).mono ?_
  rintro e w1 ⟨rfl, b1⟩
  obtain ⟨c1, p1⟩ := P0.out.step b1
  have P1 := Lib.hid p1
  clear b1 p1
  go_wp2_with fail
  obtain ⟨s1, s2, s3⟩ := size_yes F.out
  rw [HBY.out] at s3
  have cS : Calls Try.prog 24 #[.agg #[.int .i64 nd.kind, .int .i64 nd.op, .int .i64 nd.num, .string ⟨nd.text.toArray⟩, .int .i64 nd.ref.row, .int .i64 nd.ref.col, .bool nd.ref.pr, .bool nd.ref.pc, .int .i64 nd.to.row, .int .i64 nd.to.col, .bool nd.to.pr, .bool nd.to.pc, .int .i64 nd.fn, .slice ka kl kc]] w1 (fun e w' => e = .returned (.tuple #[.int .i64 (1 + ks.nodes), .int .i64 (1 + ks.deep), .int .i64 ((0 : Nat) + ks.bytes)]) ∧ Below w1.heap.size w1 w') := (size_any nd ks w1 _ ka kl kc P1.out.le P1.out.t).mono fun e w' q => ⟨by have := q.1; rw [s1, s2, s3] at this; exact this, q.2⟩
  refine cS.mono ?_
  rintro e w2 ⟨rfl, b2⟩
  obtain ⟨c2, p2⟩ := P1.out.step b2
  have P2 := Lib.hid p2
  clear b2 p2 cS c1 s1 s2 s3
  go_wp2_with fail
  have cM : Calls Try.prog 23 #[.agg #[.int .i64 nd.kind, .int .i64 nd.op, .int .i64 nd.num, .string ⟨nd.text.toArray⟩, .int .i64 nd.ref.row, .int .i64 nd.ref.col, .bool nd.ref.pr, .bool nd.ref.pc, .int .i64 nd.to.row, .int .i64 nd.to.col, .bool nd.to.pr, .bool nd.to.pc, .int .i64 nd.fn, .slice ka kl kc]] w2 (fun e w' => e = .returned (.int .i64 22) ∧ Below w2.heap.size w2 w') := (may_any nd ks w2 _ ka kl kc P2.out.le P2.out.t).mono fun e w' q => ⟨by have := q.1; rw [HM.out] at this; exact this, q.2⟩
  refine cM.mono ?_
  rintro e w3 ⟨rfl, b3⟩
  obtain ⟨c3, p3⟩ := P2.out.step b3
  have P3 := Lib.hid p3
  clear b3 p3 cM c2
  go_wp2_with fail
  refine (reads_any nd ks w3 _ ka kl kc P3.out.le P3.out.t).mono ?_
  rintro e w4 ⟨v4, rfl, b4, a4⟩
  rw [HM.out]
  unfold ReadsAns at a4
  rw [if_neg (by rw [HM.out]; decide)] at a4
  obtain ⟨la, lc, rfl, ar, -⟩ := a4.at_
  obtain ⟨hcap, hcm, -⟩ := a4.cap
  obtain ⟨c4, p4⟩ := P3.out.step b4
  have P4 := Lib.hid p4
  have AR := Lib.hid ar
  have R4 := Lib.hid (p4.t.row)
  have hlm := ar.1
  have hz4 := p4.lt
  clear b4 p4 c3 a4 ar
  have C4 := Lib.hid c4
  go_wp2_with fail
  go_loopw [7, 8, 9, 12, 13, 14, 15, 16, 17, 18] (fun nn dd tt at_ i _ _ _ _ _ wr => PtRel nd ks kl w.heap.size ka (([] : List Ar)) false w4 wr nn dd tt at_ i) (fun _ _ _ _ i _ _ _ _ _ _ => kl - (intOf i).toNat)
  case atStart =>
    exact ⟨0, 1, 0, 0, ks, [], rfl, rfl, rfl, rfl, rfl, by have := HKL.out; omega, R4.out, Below.refl _ _, Nat.le_refl _, Lib.hid rfl, Lib.hid (by simp), Lib.hid (by rw [HBY.out]), rfl⟩
  case round =>
    obtain ⟨j, N, D, T, rest, dn, rfl, rfl, rfl, rfl, rfl, hj, hrow, hb, hN, hNN, hDD, hTT, hg⟩ := hrel
    have hsz := hb.size
    have cb : ∀ o, wr.cell? ⟨w.heap.size, o, none⟩ = _ := fun o => (hb.cell (p := ⟨w.heap.size, o, none⟩) hz4).trans (C4.out o)
    have hltb : w.heap.size < wr.heap.size := by omega
    by_cases hlt : j < kl
    · obtain ⟨h', k', r', rfl⟩ := trees_cons (rest := rest) (by omega)
      obtain ⟨b1, off, ka', kl', kc', rfl, hb1, N1, tv1⟩ := hrow.head
      obtain ⟨hl1', c0, c1, c2, c3, c4', c5, c6, c7, c8, c9, c10, c11, c12, c13, d5, d6, d7, d9, d10, d11⟩ := N1.facts
      have fk := kid_fine F.out hNN.out hN hDD.out hTT.out
      obtain ⟨u1, u2, u3⟩ := size_yes fk
      have HN1 := Lib.hid N1; have T1 := Lib.hid tv1; have HRow := Lib.hid hrow.2
      have HB := Lib.hid hb
      have FK := Lib.hid fk
      clear d5 d6 d7 d9 d10 d11 N1 tv1 hrow hb fk
      have cS : Calls Try.prog 24 #[.agg #[.int .i64 h'.kind, .int .i64 h'.op, .int .i64 h'.num, .string ⟨h'.text.toArray⟩, .int .i64 h'.ref.row, .int .i64 h'.ref.col, .bool h'.ref.pr, .bool h'.ref.pc, .int .i64 h'.to.row, .int .i64 h'.to.col, .bool h'.to.pr, .bool h'.to.pc, .int .i64 h'.fn, .slice ka' kl' kc']] wr (fun e w' => e = .returned (.tuple #[.int .i64 (1 + k'.nodes), .int .i64 (1 + k'.deep), .int .i64 (h'.bytes + k'.bytes)]) ∧ Below wr.heap.size wr w') := (size_any h' k' wr w.heap.size ka' kl' kc' (by omega) T1.out).mono fun e w' q => ⟨by have := q.1; rw [u1, u2, u3] at this; exact this, q.2⟩
      have CS := Lib.hid cS
      have lim : N + (1 + k'.nodes) ≤ 512 ∧ T + (h'.bytes + k'.bytes) ≤ 16384 ∧ D ≤ 64 ∧ 1 + k'.deep ≤ 64 := by
        have q1 := hNN.out; have q2 := hDD.out; have q3 := hTT.out; obtain ⟨g1, g2, g3⟩ := F.out
        simp only [Trees.nodes, Trees.deep, Trees.bytes] at q1 q2 q3
        omega
      obtain ⟨lim1, lim2, lim3, lim4⟩ := lim
      clear cS u1 u2 u3
      go_wp2_with fail
      refine CS.out.mono ?_
      rintro e w5 ⟨rfl, b5⟩
      have hz5 := b5.size
      have HB5 := Lib.hid (HB.out.trans (b5.mono hsz))
      have nx : PNext ks nd r' (N + (1 + k'.nodes)) (max D (1 + k'.deep)) (T + (h'.bytes + k'.bytes)) := ⟨by rw [← hNN.out]; simp only [Trees.nodes]; omega, by rw [← hDD.out]; simp only [Trees.deep]; omega, by rw [← hTT.out]; simp only [Trees.bytes]; omega⟩
      have NX := Lib.hid nx
      clear c0 c1 c2 c3 c4' c5 c6 c7 c8 c9 c10 c11 c12 c13 cb nx
      obtain rfl : dn = [] := hg
      have T5 := Lib.hid b5
      have cb : ∀ o, w5.cell? ⟨w.heap.size, o, none⟩ = _ := fun o => (HB5.out.cell (p := ⟨w.heap.size, o, none⟩) hz4).trans (C4.out o)
      clear b5
      go_wp2
      exact ⟨⟨j + 1, N + (1 + k'.nodes), max D (1 + k'.deep), T + (h'.bytes + k'.bytes), r', [], by go_num, by go_num, congrArg (Value.int .i64) (by omega), by go_num, rfl, by simp only [Trees.len] at hj; omega, HRow.out.kept (T5.out.mono (by omega)) (Nat.le_refl _), HB5.out, by omega, Lib.hid NX.out.n, Lib.hid NX.out.d, Lib.hid NX.out.t, rfl⟩, by simp [intOf]; omega⟩
    · have hz : rest.len = 0 := by omega
      obtain rfl := trees_nil hz
      have q1 := hNN.out; have q2 := hDD.out; have q3 := hTT.out
      simp only [Trees.nodes, Trees.deep, Trees.bytes, Nat.add_zero, Nat.max_zero] at q1 q2 q3
      rw [HBY.out] at q3
      subst q1 q2 q3
      obtain rfl : dn = [] := hg
      have HB := Lib.hid (P4.out.bel.trans (hb.mono (by omega)))
      clear hb hrow
      go_wp2
      go_ret
      exact ⟨ret_bool (by simp), HB.out⟩
end Go.Proofs.Ytkjfeakbhfkldaa
