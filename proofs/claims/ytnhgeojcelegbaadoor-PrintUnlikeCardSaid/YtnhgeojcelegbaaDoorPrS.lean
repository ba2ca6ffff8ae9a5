/- print: the map of signs. -/
import Derived.Test.YtnhgeojcelegbaaDoorPrT
import Derived.Maps.Own
import Derived.Maps.OwnOps
import Derived.Maps.Keyed
import Derived.WalkKit
namespace Go.Proofs.YtnhgeojcelegbaaDoor
open Go.RowKit Go.Lib Go.WideMaps Go.Maps

/-- How a sign and its level read. -/
def sgR (v : Value) : Option (DataW Unit × List MemPlace) := match v with
  | .agg ⟨[.string s, .int .i64 n]⟩ => some (.agg [.lit (.string s.data.toList), .lit (.int .i64 n)], [])
  | _ => none
theorem sgR_inv {v : Value} {l : List UInt8} {n : Int} {p : List MemPlace} (h : sgR v = some (.agg [.lit (.string l), .lit (.int .i64 n)], p)) : v = .agg #[.string (strB l), .int .i64 n] := by
  unfold sgR at h
  split at h
  · simp only [Option.some.injEq, Prod.mk.injEq, DataW.agg.injEq, List.cons.injEq, DataW.lit.injEq, Lit.string.injEq, Lit.int.injEq, and_true, true_and] at h
    obtain ⟨⟨h1, h2⟩, -⟩ := h
    subst h1 h2
    rename_i s n
    rfl
  · cases h
def sgD (k : Nat) : DataW Unit := .agg [.lit (.string (signL k)), .lit (.int .i64 (levN k))]
/-- The map behind k entries. -/
def signsD : Nat → DataW Unit
  | 0 => .map []
  | k + 1 => (signsD k).put (.int .i64 ((k + 1 : Nat) : Int)) (sgD (k + 1))
theorem signsD_at (k : Nat) (h1 : 1 ≤ k) (h2 : k ≤ 12) (zd : DataW Unit) : (signsD 12).atKey (.int .i64 (k : Int)) zd = sgD k := by
  match k, h1, h2 with
  | 1, _, _ => exact (by kernel_rfl : (signsD 12).atKey (.int .i64 ((1 : Nat) : Int)) zd = sgD 1)
  | 2, _, _ => exact (by kernel_rfl : (signsD 12).atKey (.int .i64 ((2 : Nat) : Int)) zd = sgD 2)
  | 3, _, _ => exact (by kernel_rfl : (signsD 12).atKey (.int .i64 ((3 : Nat) : Int)) zd = sgD 3)
  | 4, _, _ => exact (by kernel_rfl : (signsD 12).atKey (.int .i64 ((4 : Nat) : Int)) zd = sgD 4)
  | 5, _, _ => exact (by kernel_rfl : (signsD 12).atKey (.int .i64 ((5 : Nat) : Int)) zd = sgD 5)
  | 6, _, _ => exact (by kernel_rfl : (signsD 12).atKey (.int .i64 ((6 : Nat) : Int)) zd = sgD 6)
  | 7, _, _ => exact (by kernel_rfl : (signsD 12).atKey (.int .i64 ((7 : Nat) : Int)) zd = sgD 7)
  | 8, _, _ => exact (by kernel_rfl : (signsD 12).atKey (.int .i64 ((8 : Nat) : Int)) zd = sgD 8)
  | 9, _, _ => exact (by kernel_rfl : (signsD 12).atKey (.int .i64 ((9 : Nat) : Int)) zd = sgD 9)
  | 10, _, _ => exact (by kernel_rfl : (signsD 12).atKey (.int .i64 ((10 : Nat) : Int)) zd = sgD 10)
  | 11, _, _ => exact (by kernel_rfl : (signsD 12).atKey (.int .i64 ((11 : Nat) : Int)) zd = sgD 11)
  | 12, _, _ => exact (by kernel_rfl : (signsD 12).atKey (.int .i64 ((12 : Nat) : Int)) zd = sgD 12)
theorem intLaw : Keyed Tryd.prog 3 := int_keyed Tryd.underlying3
theorem zeroSign (w : World) : (zeroValue 77).run Tryd.prog w = .ok (.agg #[.string ⟨#[]⟩, .int .i64 0]) w := by kernel_rfl
theorem wpList_insert_own {H : Type} {P : Program} (w : World) {ops : Array Oper} {rest : List Oper} {o : Oper} {a : Act} {Q : Exit → Act → World → Prop}
    (hg : o.guard = none) (m x v : Operand) (t : TypeId) (hop : o.op = Op.insert t m x v)
    (k e : TypeId) (K : Keyed P k) (ht : P.underlying t = some (.map k e)) (R : Value → Option (DataW H × List MemPlace)) (b n : Nat) (D : DataW H)
    (hm : a.eval m = .map (some b)) (hown : w.ownsMap P k R b n D) (hn : n < maxLen) (key val : Value) (kl : Lit) (hx : a.eval x = key) (hv : a.eval v = val) (hkey : keyOf P k key = some kl)
    (d : DataW H) (ps : List MemPlace) (hval : R val = some (d, ps))
    (hK : ∀ w', w'.ownsMap P k R b (n + 1) (D.put kl d) → w.grownBy w' (some b) → wpList P ops Q rest (a.put o.dst undef) w') :
    wpList P ops Q (o :: rest) a w := by
  refine wpList_plain hg fun K' hK' => ?_
  obtain ⟨w', hrun, r1, r2⟩ := hown.update K ht hn hkey hval
  unfold Oper.wp
  simp [execOp, hop, hm, hx, hv, hrun, Result.andThen]
  exact hK' _ _ (hK w' r1 r2)
/-- Behind k entries. -/
structure SgS (w : World) (k : Nat) (W : World) : Prop where
  own : W.ownsMap Tryd.prog 3 sgR w.heap.size k (signsD k)
  bel : Below w.heap.size w W
theorem SgS.next {w W W' : World} {k : Nat} (h : SgS w k W) (own : W'.ownsMap Tryd.prog 3 sgR w.heap.size (k + 1) (signsD (k + 1))) (g : W.grownBy W' (some w.heap.size)) : SgS w (k + 1) W' :=
  ⟨own, h.bel.grown g h.bel.size (fun j hj => by cases hj; exact Nat.le_refl _)⟩
def SignsPost (w : World) (e : Ending) (w' : World) : Prop := e = .returned (.map (some w.heap.size)) ∧ SgS w 12 w'
set_option maxRecDepth 100000 in
set_option maxHeartbeats 2000000 in
theorem signs_any (w : World) : Calls Tryd.prog 35 #[] w (SignsPost w) := by
  have hmm := @run_makeMap Tryd.prog
  have S0 : SgS w 0 (w.alloc (.map #[] 0)) := ⟨World.ownsMap_made _ _ _ _, (Below.refl _ _).alloc (Nat.le_refl _) _⟩
  have H0 := Lib.hid S0
  clear S0
  go_enter Tryd.func35, Tryd.ntmps35
  go_wp2_with (refine wpList_insert_own _ rfl _ _ _ 73 rfl 3 77 intLaw Tryd.underlying73 sgR w.heap.size 0 (signsD 0) rfl H0.out.own (by decide) _ _ (.int .i64 1) rfl rfl (keyOf_int_mk Tryd.underlying3 (by decide)) (sgD 1) [] rfl ?_)
  intro w1 own1 g1
  have H1 := Lib.hid (H0.out.next own1 g1)
  clear own1 g1
  go_wp2_with (refine wpList_insert_own _ rfl _ _ _ 73 rfl 3 77 intLaw Tryd.underlying73 sgR w.heap.size 1 (signsD 1) rfl H1.out.own (by decide) _ _ (.int .i64 2) rfl rfl (keyOf_int_mk Tryd.underlying3 (by decide)) (sgD 2) [] rfl ?_)
  intro w2 own2 g2
  have H2 := Lib.hid (H1.out.next own2 g2)
  clear own2 g2
  go_wp2_with (refine wpList_insert_own _ rfl _ _ _ 73 rfl 3 77 intLaw Tryd.underlying73 sgR w.heap.size 2 (signsD 2) rfl H2.out.own (by decide) _ _ (.int .i64 3) rfl rfl (keyOf_int_mk Tryd.underlying3 (by decide)) (sgD 3) [] rfl ?_)
  intro w3 own3 g3
  have H3 := Lib.hid (H2.out.next own3 g3)
  clear own3 g3
  go_wp2_with (refine wpList_insert_own _ rfl _ _ _ 73 rfl 3 77 intLaw Tryd.underlying73 sgR w.heap.size 3 (signsD 3) rfl H3.out.own (by decide) _ _ (.int .i64 4) rfl rfl (keyOf_int_mk Tryd.underlying3 (by decide)) (sgD 4) [] rfl ?_)
  intro w4 own4 g4
  have H4 := Lib.hid (H3.out.next own4 g4)
  clear own4 g4
  go_wp2_with (refine wpList_insert_own _ rfl _ _ _ 73 rfl 3 77 intLaw Tryd.underlying73 sgR w.heap.size 4 (signsD 4) rfl H4.out.own (by decide) _ _ (.int .i64 5) rfl rfl (keyOf_int_mk Tryd.underlying3 (by decide)) (sgD 5) [] rfl ?_)
  intro w5 own5 g5
  have H5 := Lib.hid (H4.out.next own5 g5)
  clear own5 g5
  go_wp2_with (refine wpList_insert_own _ rfl _ _ _ 73 rfl 3 77 intLaw Tryd.underlying73 sgR w.heap.size 5 (signsD 5) rfl H5.out.own (by decide) _ _ (.int .i64 6) rfl rfl (keyOf_int_mk Tryd.underlying3 (by decide)) (sgD 6) [] rfl ?_)
  intro w6 own6 g6
  have H6 := Lib.hid (H5.out.next own6 g6)
  clear own6 g6
  go_wp2_with (refine wpList_insert_own _ rfl _ _ _ 73 rfl 3 77 intLaw Tryd.underlying73 sgR w.heap.size 6 (signsD 6) rfl H6.out.own (by decide) _ _ (.int .i64 7) rfl rfl (keyOf_int_mk Tryd.underlying3 (by decide)) (sgD 7) [] rfl ?_)
  intro w7 own7 g7
  have H7 := Lib.hid (H6.out.next own7 g7)
  clear own7 g7
  go_wp2_with (refine wpList_insert_own _ rfl _ _ _ 73 rfl 3 77 intLaw Tryd.underlying73 sgR w.heap.size 7 (signsD 7) rfl H7.out.own (by decide) _ _ (.int .i64 8) rfl rfl (keyOf_int_mk Tryd.underlying3 (by decide)) (sgD 8) [] rfl ?_)
  intro w8 own8 g8
  have H8 := Lib.hid (H7.out.next own8 g8)
  clear own8 g8
  go_wp2_with (refine wpList_insert_own _ rfl _ _ _ 73 rfl 3 77 intLaw Tryd.underlying73 sgR w.heap.size 8 (signsD 8) rfl H8.out.own (by decide) _ _ (.int .i64 9) rfl rfl (keyOf_int_mk Tryd.underlying3 (by decide)) (sgD 9) [] rfl ?_)
  intro w9 own9 g9
  have H9 := Lib.hid (H8.out.next own9 g9)
  clear own9 g9
  go_wp2_with (refine wpList_insert_own _ rfl _ _ _ 73 rfl 3 77 intLaw Tryd.underlying73 sgR w.heap.size 9 (signsD 9) rfl H9.out.own (by decide) _ _ (.int .i64 10) rfl rfl (keyOf_int_mk Tryd.underlying3 (by decide)) (sgD 10) [] rfl ?_)
  intro w10 own10 g10
  have H10 := Lib.hid (H9.out.next own10 g10)
  clear own10 g10
  go_wp2_with (refine wpList_insert_own _ rfl _ _ _ 73 rfl 3 77 intLaw Tryd.underlying73 sgR w.heap.size 10 (signsD 10) rfl H10.out.own (by decide) _ _ (.int .i64 11) rfl rfl (keyOf_int_mk Tryd.underlying3 (by decide)) (sgD 11) [] rfl ?_)
  intro w11 own11 g11
  have H11 := Lib.hid (H10.out.next own11 g11)
  clear own11 g11
  go_wp2_with (refine wpList_insert_own _ rfl _ _ _ 73 rfl 3 77 intLaw Tryd.underlying73 sgR w.heap.size 11 (signsD 11) rfl H11.out.own (by decide) _ _ (.int .i64 12) rfl rfl (keyOf_int_mk Tryd.underlying3 (by decide)) (sgD 12) [] rfl ?_)
  intro w12 own12 g12
  have H12 := Lib.hid (H11.out.next own12 g12)
  clear own12 g12
  go_wp2
  go_ret
  exact ⟨rfl, H12.out⟩
/-- A sign that is looked up. -/
theorem look_sign {W : World} {b k : Nat} (own : W.ownsMap Tryd.prog 3 sgR b 12 (signsD 12)) (h1 : 1 ≤ k) (h2 : k ≤ 12) :
    (Instr.lookup 73 (.map (some b)) (.int .i64 (k : Int)) false).run Tryd.prog W = .ok (.agg #[.string (strB (signL k)), .int .i64 (levN k)]) W := by
  obtain ⟨v, ps, hrun, hv⟩ := own.lookup intLaw Tryd.underlying73 (zeroSign W) (zd := .agg [.lit (.string []), .lit (.int .i64 0)]) (zp := []) rfl (key := .int .i64 (k : Int)) (kl := .int .i64 (k : Int)) (keyOf_int_mk Tryd.underlying3 (WalkArith.wf_i64 (by omega)))
  rw [signsD_at k h1 h2] at hv
  rw [hrun, sgR_inv hv]
end Go.Proofs.YtnhgeojcelegbaaDoor
