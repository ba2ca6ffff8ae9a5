/- TreeAll: every call of every script is answered as the document says. -/
import Derived.Test.YtkjfeakbhfkldaaTreeBg
import Derived.Test.YtkjfeakbhfkldaaTreeArg
import Derived.Test.YtkjfeakbhfkldaaLaw
import Derived.Deep.MidRow
namespace Go.Proofs.Ytkjfeakbhfkldaa
open Go.ChangeShapes Go.WideShapes Go.ChangeAt Go.RowKit

theorem cellsOp : Try.prog.cellsOf 31 = 29 := by kernel_rfl

/-- One call of a script lies at an address. -/
def OpAt (w : World) (b off : Nat) (k : Int) (nt nu : Hd) (ta ua : Option Addr) (tl tc ul uc : Nat) : Prop :=
  ∀ o v, (#[.int .i64 k, .int .i64 nt.kind, .int .i64 nt.op, .int .i64 nt.num, .string ⟨nt.text.toArray⟩, .int .i64 nt.ref.row, .int .i64 nt.ref.col, .bool nt.ref.pr, .bool nt.ref.pc, .int .i64 nt.to.row, .int .i64 nt.to.col, .bool nt.to.pr, .bool nt.to.pc, .int .i64 nt.fn, .slice ta tl tc, .int .i64 nu.kind, .int .i64 nu.op, .int .i64 nu.num, .string ⟨nu.text.toArray⟩, .int .i64 nu.ref.row, .int .i64 nu.ref.col, .bool nu.ref.pr, .bool nu.ref.pc, .int .i64 nu.to.row, .int .i64 nu.to.col, .bool nu.to.pr, .bool nu.to.pc, .int .i64 nu.fn, .slice ua ul uc] : Array Value)[o]? = some v → w.cell? ⟨b, off + o, none⟩ = some v
/-- The calls of a script, n of them from address a on. -/
def OpsIn (W : World) (a : Option Addr) (n : Nat) : Prop :=
  n ≤ 9223372036854775807 ∧ ∀ i, i < n → ∃ b off k nt kt ta tl tc nu ku ua ul uc, a = some ⟨b, off, none⟩ ∧ b < W.heap.size ∧ OpAt W b (off + i * 29) k nt nu ta ua tl tc ul uc ∧ TreeV W W.heap.size nt kt ta tl ∧ TreeV W W.heap.size nu ku ua ul

section
variable {H : Type} {enc : TypeId × Value → H} {W : World} {base : Nat} {sp : Nat → Bool} {held : Bool}
set_option maxRecDepth 100000 in
theorem op_of_trod {fuel : Nat} {cs : List Value} {y : DataW H × List MemPlace} (h : DataW.trod enc Try.prog W base sp held fuel 31 cs = some y) (hw : ∀ n ∈ y.1.weights Try.prog 31, n ≤ reachBytes) :
    ∃ k nt kt ta tl tc nu ku ua ul uc, cs = [.int .i64 k, .int .i64 nt.kind, .int .i64 nt.op, .int .i64 nt.num, .string ⟨nt.text.toArray⟩, .int .i64 nt.ref.row, .int .i64 nt.ref.col, .bool nt.ref.pr, .bool nt.ref.pc, .int .i64 nt.to.row, .int .i64 nt.to.col, .bool nt.to.pr, .bool nt.to.pc, .int .i64 nt.fn, .slice ta tl tc, .int .i64 nu.kind, .int .i64 nu.op, .int .i64 nu.num, .string ⟨nu.text.toArray⟩, .int .i64 nu.ref.row, .int .i64 nu.ref.col, .bool nu.ref.pr, .bool nu.ref.pc, .int .i64 nu.to.row, .int .i64 nu.to.col, .bool nu.to.pr, .bool nu.to.pc, .int .i64 nu.fn, .slice ua ul uc] ∧ TreeV W W.heap.size nt kt ta tl ∧ TreeV W W.heap.size nu ku ua ul := by
  obtain ⟨xs, n, rfl, rfl, hl, hn, hf⟩ := DataW.trod_struct Try.underlying31 h
  rw [cellsOp] at hl
  match xs, hn with
  | [x0, x1, x2], _ =>
    have f0 := fieldAt hf 0 3 0 rfl; have f1 := fieldAt hf 1 29 1 rfl; have f2 := fieldAt hf 2 29 15 rfl
    simp only [cellsInt, cellsExpr, List.getElem?_cons_zero, List.getElem?_cons_succ] at f0 f1 f2
    have hwe : ∀ (j : Nat) (T : TypeId) (d : DataW H), [3, 29, 29][j]? = some T → [x0.1, x1.1, x2.1][j]? = some d → ∀ n ∈ d.weights Try.prog T, n ≤ reachBytes := by
      intro j T d hT hd n hn
      refine hw n ?_
      have := DataW.weights_mem_each (P := Try.prog) hT hd n hn
      simpa [DataW.weights, Try.underlying31] using this
    obtain ⟨a0, e0, -, -⟩ := DataW.trod_int Try.underlying3 f0
    obtain ⟨nt, kt, ta, tl, tc, e1, t1⟩ := tree_of_trod n f1 (hwe 1 _ _ rfl rfl)
    obtain ⟨nu, ku, ua, ul, uc, e2, t2⟩ := tree_of_trod n f2 (hwe 2 _ _ rfl rfl)
    refine ⟨a0, nt, kt, ta, tl, tc, nu, ku, ua, ul, uc, ?_, t1, t2⟩
    have h1 : cs = cs.take 1 ++ ((cs.drop 1).take 14 ++ (cs.drop 15).take 14) := by
      have q1 : (cs.drop 15).take 14 = cs.drop 15 := List.take_of_length_le (by simp; omega)
      have q2 : (cs.drop 1).take 14 ++ cs.drop 15 = cs.drop 1 := by
        have := List.take_append_drop 14 (cs.drop 1)
        rwa [List.drop_drop] at this
      rw [q1, q2, List.take_append_drop]
    rw [List.drop_zero] at e0
    rw [h1, e0, e1, e2]
    rfl

set_option maxRecDepth 100000 in
theorem ops_of_trod {a : Option Addr} {len cap : Nat} {d : DataW H} {p : List MemPlace} (h : DataW.Trod enc Try.prog W base sp held 22 (.slice a len cap) d p) (hw : ∀ n ∈ d.weights Try.prog 22, n ≤ reachBytes) : OpsIn W a len := by
  obtain ⟨fuel, hf⟩ := h
  rcases DataW.trod_slice Try.underlying22 hf with ⟨e, -⟩ | ⟨x, l, c, elems, rest, m, rfl, e, g, -, hlc, hcm, hlen, hel, -, -⟩
  · simp [Value.cells] at e
    obtain ⟨rfl, rfl, rfl⟩ := e
    exact ⟨by omega, fun i hi => absurd hi (Nat.not_lt_zero _)⟩
  · simp [Value.cells] at e
    obtain ⟨rfl, rfl, rfl⟩ := e
    simp only [Prod.mk.injEq] at g
    obtain ⟨rfl, -⟩ := g
    have hmax : len ≤ 9223372036854775807 := by have : maxLen = 9223372036854775807 := rfl; omega
    refine ⟨hmax, fun i hi => ?_⟩
    have each : ∀ i, i < len → ∃ k nt kt ta tl tc nu ku ua ul uc, (∀ o v, (#[.int .i64 k, .int .i64 nt.kind, .int .i64 nt.op, .int .i64 nt.num, .string ⟨nt.text.toArray⟩, .int .i64 nt.ref.row, .int .i64 nt.ref.col, .bool nt.ref.pr, .bool nt.ref.pc, .int .i64 nt.to.row, .int .i64 nt.to.col, .bool nt.to.pr, .bool nt.to.pc, .int .i64 nt.fn, .slice ta tl tc, .int .i64 nu.kind, .int .i64 nu.op, .int .i64 nu.num, .string ⟨nu.text.toArray⟩, .int .i64 nu.ref.row, .int .i64 nu.ref.col, .bool nu.ref.pr, .bool nu.ref.pc, .int .i64 nu.to.row, .int .i64 nu.to.col, .bool nu.to.pr, .bool nu.to.pc, .int .i64 nu.fn, .slice ua ul uc] : Array Value)[o]? = some v → W.cell? ((x.add (i * 29)).add o) = some v) ∧ TreeV W W.heap.size nt kt ta tl ∧ TreeV W W.heap.size nu ku ua ul := by
      intro i hi
      obtain ⟨z, hx⟩ : ∃ z, elems[i]? = some z := ⟨elems[i]'(by omega), List.getElem?_eq_getElem _⟩
      have hb := hel i hi
      rw [hx, cellsOp, Option.bind_eq_some_iff] at hb
      obtain ⟨cs', hcs, ht⟩ := hb
      obtain ⟨k, nt, kt, ta, tl, tc, nu, ku, ua, ul, uc, rfl, t1, t2⟩ := op_of_trod ht (fun n hn => hw n (by
        simp only [DataW.weights, Try.underlying22, List.mem_cons, List.mem_append]
        exact .inr (.inl (weights_all_mem (List.mem_map_of_mem (List.mem_of_getElem? hx)) n hn))))
      obtain ⟨-, hc⟩ := cells_get hcs
      refine ⟨k, nt, kt, ta, tl, tc, nu, ku, ua, ul, uc, fun o v ho => ?_, t1, t2⟩
      have hlt : o < 29 := by have := (Array.getElem?_eq_some_iff.1 ho).1; simpa using this
      rw [hc o hlt, ← ho]
      simp only [List.getElem?_toArray]
    obtain ⟨b, off, rfl, hb⟩ : ∃ b off, x = ⟨b, off, none⟩ ∧ b < W.heap.size := by
      obtain ⟨k, nt, kt, ta, tl, tc, nu, ku, ua, ul, uc, hc, -, -⟩ := each 0 (by omega)
      have := cell_lt (hc 0 _ rfl)
      obtain ⟨b, off, spot⟩ := x
      simp only [Nat.zero_mul, Addr.add, if_true] at this
      obtain ⟨h1, rfl⟩ := this
      exact ⟨b, off, rfl, h1⟩
    obtain ⟨k, nt, kt, ta, tl, tc, nu, ku, ua, ul, uc, hc, t1, t2⟩ := each i hi
    exact ⟨b, off, k, nt, kt, ta, tl, tc, nu, ku, ua, ul, uc, rfl, hb, fun o v ho => by have := hc o v ho; rw [addr_add, addr_add] at this; exact this, t1, t2⟩
end

theorem infoOp : (Try.prog.info? 31).map (·.size) = some 29 := by kernel_rfl
set_option maxRecDepth 100000 in
theorem wpList_load_op {ops : Array Oper} {Q : Exit → Act → World → Prop} {rest : List Oper} {a : Act} {o : Oper} {s : Operand} {w : World} {b off : Nat} {k : Int} {nt nu : Hd} {ta ua : Option Addr} {tl tc ul uc : Nat} (hg : o.guard = none) (ho : o.op = Op.load 31 s) (ha : a.eval s = .pointer (some ⟨b, off, none⟩)) (hat : OpAt w b off k nt nu ta ua tl tc ul uc)
    (h : wpList Try.prog ops Q rest (a.put o.dst (.agg #[.int .i64 k, .int .i64 nt.kind, .int .i64 nt.op, .int .i64 nt.num, .string ⟨nt.text.toArray⟩, .int .i64 nt.ref.row, .int .i64 nt.ref.col, .bool nt.ref.pr, .bool nt.ref.pc, .int .i64 nt.to.row, .int .i64 nt.to.col, .bool nt.to.pr, .bool nt.to.pc, .int .i64 nt.fn, .slice ta tl tc, .int .i64 nu.kind, .int .i64 nu.op, .int .i64 nu.num, .string ⟨nu.text.toArray⟩, .int .i64 nu.ref.row, .int .i64 nu.ref.col, .bool nu.ref.pr, .bool nu.ref.pc, .int .i64 nu.to.row, .int .i64 nu.to.col, .bool nu.to.pr, .bool nu.to.pc, .int .i64 nu.fn, .slice ua ul uc])) w) : wpList Try.prog ops Q (o :: rest) a w := by
  exact wpList_load_mid hg _ s ho b off ha [.int .i64 k, .int .i64 nt.kind, .int .i64 nt.op, .int .i64 nt.num, .string ⟨nt.text.toArray⟩, .int .i64 nt.ref.row, .int .i64 nt.ref.col, .bool nt.ref.pr, .bool nt.ref.pc, .int .i64 nt.to.row, .int .i64 nt.to.col, .bool nt.to.pr, .bool nt.to.pc, .int .i64 nt.fn, .slice ta tl tc, .int .i64 nu.kind, .int .i64 nu.op, .int .i64 nu.num, .string ⟨nu.text.toArray⟩, .int .i64 nu.ref.row, .int .i64 nu.ref.col, .bool nu.ref.pr, .bool nu.ref.pc, .int .i64 nu.to.row, .int .i64 nu.to.col, .bool nu.to.pr, .bool nu.to.pc, .int .i64 nu.fn, .slice ua ul uc] _ (fun j v hv => hat j v (by simpa using hv)) Try.underlying31 rfl infoOp h

set_option maxRecDepth 100000 in
set_option maxHeartbeats 4000000 in
theorem treeAll_any (W : World) (a : Option Addr) (len cap : Nat) (hops : OpsIn W a len) : Calls Try.prog 3 #[.slice a len cap] W (TruePost W) := by
  have hm := hops.1
  have HO := Lib.hid hops; clear hops
  go_enter Try.func3, Try.ntmps3
  go_wp2_with fail
  refine (begun_any W).mono ?_
  rintro e w1 ⟨rfl, b1⟩
  have hs1 := b1.size
  have B1 := Lib.hid b1; clear b1
  go_wp2_with fail
  go_loopw [3, 4] (fun i _ wr => ∃ j : Nat, i = .int .i64 j ∧ j ≤ len ∧ Below W.heap.size W wr) (fun i _ _ => len - (intOf i).toNat)
  case atStart => exact ⟨0, rfl, Nat.zero_le _, B1.out⟩
  case round =>
    obtain ⟨j, rfl, hj, hb⟩ := hrel
    by_cases hlt : j < len
    · obtain ⟨b, off, k, nt, kt, ta, tl, tc, nu, ku, ua, ul, uc, rfl, hbl, ho, t1, t2⟩ := HO.out.2 j hlt
      have hsz := hb.size
      have hat : OpAt wr b (off + j * 29) k nt nu ta ua tl tc ul uc := fun o v h => (hb.cell (p := ⟨b, off + j * 29 + o, none⟩) hbl).trans (ho o v h)
      have HAT := Lib.hid hat
      have hbl' : b < wr.heap.size := by omega
      have T1 := Lib.hid (t1.kept hb (Nat.le_refl _)); have T2 := Lib.hid (t2.kept hb (Nat.le_refl _))
      have HB := Lib.hid hb
      clear hb t1 t2 hat ho
      go_wp2_with (refine wpList_load_op rfl rfl rfl HAT.out ?_)
      refine (plays_any k nt nu kt ku wr W.heap.size ta ua tl tc ul uc hsz T1.out T2.out).mono ?_
      rintro e w2 ⟨rfl, b2⟩
      have B2 := Lib.hid (HB.out.trans (b2.mono hsz))
      clear b2
      go_wp2
      exact ⟨⟨j + 1, by go_num, by omega, B2.out⟩, by simp [intOf]; omega⟩
    · have HB := Lib.hid hb
      clear hb
      go_wp2
      go_ret
      exact ⟨rfl, HB.out⟩

set_option maxRecDepth 100000 in
theorem treeAll_lifted (os : Os) (started : os.Started) (H : Type) (enc : TypeId × Value → H) :
    ReturnsInHanded {} Try.checked os 3 .any (Rows.treeAllSpec.pre6 enc Try.prog Try.f3 Rows.treeAllRow.domain false) (Rows.treeAllSpec.post enc Try.prog Try.f3 false true false false) := by
  refine lift_law (C := Try.checked) (tb := 4) own started (by kernel_rfl) Try.func3
    (ChangeSpec.witness6 (enc := enc) (C := Try.checked) false ⟨#[], #[.slice none 0 0], []⟩ 8 (by kernel_rfl) (by kernel_rfl) (by kernel_rfl) (by kernel_rfl)) laidOut (by kernel_rfl) rfl Try.underlying4 rfl ?_ ?_
  · rintro ds hl
    match ds, hl with
    | [_], _ => exact ⟨rfl, rfl, rfl⟩
  · intro W base args ds p hval0 hA hlt hsz
    have hval : ∀ (j : Nat) t v, Try.f3.params[j]? = some t → args[j]? = some v → Value.okWide Try.prog W .any base t v := hval0
    clear hval0
    rw [Try.params3] at hA hsz hval
    obtain ⟨v0, vs0, d0, ds0, p0, q0, hargs, rfl, rfl, h0, r0⟩ := trodAll_cons hA
    obtain ⟨rfl, rfl, rfl⟩ := trodAll_nil r0
    obtain rfl : args = #[v0] := by cases args; simp_all
    have hlt0 : ∀ x ∈ p0, x.block < W.heap.size := fun x hx => hlt x (by simp [hx])
    obtain ⟨a0, len0, cap0, rfl⟩ := okWide_slice Try.underlying22 (hval 0 _ _ rfl rfl)
    have hw : ∀ n ∈ d0.weights Try.prog 22, n ≤ reachBytes := fun n hn => by have := List.all_eq_true.1 hsz n (DataW.weights_mem_each (P := Try.prog) (j := 0) rfl rfl n hn); simpa using this
    exact treeAll_any W a0 len0 cap0 (ops_of_trod h0 hw)

set_option maxRecDepth 100000 in
theorem treeAll_holds : Rows.TreeAllSaid :=
  OpenClaim.holds_of_wide 3 Try.f3 rfl rfl rfl rfl rfl rfl rfl ⟨rfl, rfl, rfl, rfl, rfl⟩ rfl rfl rfl rfl rfl (by kernel_rfl) Try.func3 (by kernel_rfl)
    (of_decide_eq_true (by kernel_rfl)) (by unfold Func.isWrapper; first | (rw [if_pos (by decide +kernel)]; kernel_rfl) | (rw [if_neg (by decide +kernel)]; exact ⟨rfl, rfl⟩))
    (fun os started H enc _ => treeAll_lifted os started H enc)
#print axioms treeAll_holds
end Go.Proofs.Ytkjfeakbhfkldaa
