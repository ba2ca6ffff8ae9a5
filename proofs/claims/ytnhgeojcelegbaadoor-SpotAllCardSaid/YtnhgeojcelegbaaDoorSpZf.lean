/- SpotAll: a script's calls as they lie in memory; its walk. -/
import Derived.Test.YtnhgeojcelegbaaDoorSpZe
import Derived.Test.YtnhgeojcelegbaaDoorSpArg
import Derived.Deep.MidRow
import Derived.ProofKit
import Derived.SizedLaws
import Derived.OpenShut
import Derived.WalkKit
namespace Go.Proofs.YtnhgeojcelegbaaDoor
open Go.ChangeShapes Go.WideShapes Go.ChangeAt Go.RowKit

theorem cellsOp2 : Tryd.prog.cellsOf 59 = 10 := by kernel_rfl
theorem infoOp2 : (Tryd.prog.info? 59).map (·.size) = some 10 := by kernel_rfl
theorem cellsInt2 : Tryd.prog.cellsOf 3 = 1 := by kernel_rfl
theorem cellsBool2 : Tryd.prog.cellsOf 4 = 1 := by kernel_rfl
theorem cellsString2 : Tryd.prog.cellsOf 9 = 1 := by kernel_rfl
theorem cellsSpot2 : Tryd.prog.cellsOf 39 = 2 := by kernel_rfl
theorem cellsRef2 : Tryd.prog.cellsOf 28 = 4 := by kernel_rfl
theorem cell_lt2 {w : World} {a : Addr} {v : Value} (h : w.cell? a = some v) : a.block < w.heap.size ∧ a.spot = none := by
  unfold World.cell? at h
  split at h
  · rename_i hb
    refine ⟨(Array.getElem?_eq_some_iff.1 hb).1, ?_⟩
    cases hs : a.spot with
    | none => rfl
    | some _ => simp [hs] at h
  · cases h
theorem addr_add2 (b o n : Nat) : (⟨b, o, none⟩ : Addr).add n = ⟨b, o + n, none⟩ := by unfold Addr.add; split <;> simp_all
theorem cells_get2 {w : World} {base : Nat} {a : Addr} {n : Nat} {cs : List Value} (h : w.cells? base a n = some cs) : cs.length = n ∧ ∀ i, i < n → w.cell? (a.add i) = cs[i]? := by
  unfold World.cells? at h
  split at h
  · exact ⟨by simpa using mapM_some_length h, fun i hi => mapM_some_get h i i (by simp [hi])⟩
  · cases h
theorem weights_all_mem2 {H : Type} {P : Program} {e : TypeId} : ∀ {l : List (DataW H)} {d : DataW H}, d ∈ l → ∀ n ∈ d.weights P e, n ∈ DataW.weightsAll P e l
  | x :: r, d, hd, n, hn => by
    simp only [DataW.weightsAll, List.mem_append]
    rcases List.mem_cons.1 hd with rfl | hd
    · exact .inl hn
    · exact .inr (weights_all_mem2 hd n hn)
/-- One call of a script lies at an address. -/
def Op2At (w : World) (b off : Nat) (k ar ac br bc rr rc : Int) (rp rq : Bool) (s : ByteArray) : Prop :=
  ∀ o v, (#[.int .i64 k, .int .i64 ar, .int .i64 ac, .int .i64 br, .int .i64 bc, .int .i64 rr, .int .i64 rc, .bool rp, .bool rq, .string s] : Array Value)[o]? = some v → w.cell? ⟨b, off + o, none⟩ = some v
/-- The calls of a script, n of them from address a on. -/
def Ops2In (W : World) (a : Option Addr) (len : Nat) : Prop :=
  len ≤ 9223372036854775807 ∧ ∀ i, i < len → ∃ b off k ar ac br bc rr rc rp rq s, a = some ⟨b, off, none⟩ ∧ b < W.heap.size ∧ Op2At W b (off + i * 10) k ar ac br bc rr rc rp rq s ∧ s.size ≤ 140737488355328

section
variable {H : Type} {enc : TypeId × Value → H} {W : World} {base : Nat} {sp : Nat → Bool} {held : Bool}
theorem fieldAt2 {fs : Array Field} {cs : List Value} {xs : List (DataW H × List MemPlace)} {n : Nat} (hf : ∀ (i : Nat) (f : Field), fs[i]? = some f → DataW.trod enc Tryd.prog W base sp held n f.type ((cs.drop f.offset).take (Tryd.prog.cellsOf f.type)) = xs[i]?)
    (i : Nat) (T : TypeId) (off : Nat) (e : (fs[i]?).map (fun f => (f.type, f.offset)) = some (T, off)) : DataW.trod enc Tryd.prog W base sp held n T ((cs.drop off).take (Tryd.prog.cellsOf T)) = xs[i]? := by
  obtain ⟨f, h1, h2⟩ := Option.map_eq_some_iff.1 e
  simp only [Prod.mk.injEq] at h2
  obtain ⟨rfl, rfl⟩ := h2
  exact hf i f h1
set_option maxRecDepth 100000 in
theorem spot_of_trod2 {fuel : Nat} {cs : List Value} {y : DataW H × List MemPlace} (h : DataW.trod enc Tryd.prog W base sp held fuel 39 cs = some y) : ∃ a b : Int, cs = [.int .i64 a, .int .i64 b] := by
  obtain ⟨xs, n, rfl, rfl, hl, hn, hf⟩ := DataW.trod_struct Tryd.underlying39 h
  rw [cellsSpot2] at hl
  match cs, hl, xs, hn with
  | [c0, c1], _, [x0, x1], _ =>
    have f0 := fieldAt2 hf 0 3 0 rfl; have f1 := fieldAt2 hf 1 3 1 rfl
    simp only [cellsInt2, List.drop, List.take, List.getElem?_cons_zero, List.getElem?_cons_succ] at f0 f1
    obtain ⟨a0, e0, -, -⟩ := DataW.trod_int Tryd.underlying3 f0
    obtain ⟨a1, e1, -, -⟩ := DataW.trod_int Tryd.underlying3 f1
    simp only [List.cons.injEq, and_true] at e0 e1
    subst e0 e1
    exact ⟨a0, a1, rfl⟩
set_option maxRecDepth 100000 in
theorem ref_of_trod2 {fuel : Nat} {cs : List Value} {y : DataW H × List MemPlace} (h : DataW.trod enc Tryd.prog W base sp held fuel 28 cs = some y) : ∃ (a b : Int) (p q : Bool), cs = [.int .i64 a, .int .i64 b, .bool p, .bool q] := by
  obtain ⟨xs, n, rfl, rfl, hl, hn, hf⟩ := DataW.trod_struct Tryd.underlying28 h
  rw [cellsRef2] at hl
  match cs, hl, xs, hn with
  | [c0, c1, c2, c3], _, [x0, x1, x2, x3], _ =>
    have f0 := fieldAt2 hf 0 3 0 rfl; have f1 := fieldAt2 hf 1 3 1 rfl; have f2 := fieldAt2 hf 2 4 2 rfl; have f3 := fieldAt2 hf 3 4 3 rfl
    simp only [cellsInt2, cellsBool2, List.drop, List.take, List.getElem?_cons_zero, List.getElem?_cons_succ] at f0 f1 f2 f3
    obtain ⟨a0, e0, -, -⟩ := DataW.trod_int Tryd.underlying3 f0
    obtain ⟨a1, e1, -, -⟩ := DataW.trod_int Tryd.underlying3 f1
    obtain ⟨a2, e2, -⟩ := DataW.trod_bool Tryd.underlying4 f2
    obtain ⟨a3, e3, -⟩ := DataW.trod_bool Tryd.underlying4 f3
    simp only [List.cons.injEq, and_true] at e0 e1 e2 e3
    subst e0 e1 e2 e3
    exact ⟨a0, a1, a2, a3, rfl⟩
set_option maxRecDepth 100000 in
theorem op2_of_trod {fuel : Nat} {cs : List Value} {y : DataW H × List MemPlace} (h : DataW.trod enc Tryd.prog W base sp held fuel 59 cs = some y) (hw : ∀ n ∈ y.1.weights Tryd.prog 59, n ≤ reachBytes) :
    ∃ k ar ac br bc rr rc rp rq s, cs = [.int .i64 k, .int .i64 ar, .int .i64 ac, .int .i64 br, .int .i64 bc, .int .i64 rr, .int .i64 rc, .bool rp, .bool rq, .string s] ∧ ByteArray.size s ≤ 140737488355328 := by
  obtain ⟨xs, n, rfl, rfl, hl, hn, hf⟩ := DataW.trod_struct Tryd.underlying59 h
  rw [cellsOp2] at hl
  match cs, hl, xs, hn with
  | [c0, c1, c2, c3, c4, c5, c6, c7, c8, c9], _, [x0, x1, x2, x3, x4], _ =>
    have f0 := fieldAt2 hf 0 3 0 rfl; have f1 := fieldAt2 hf 1 39 1 rfl; have f2 := fieldAt2 hf 2 39 3 rfl; have f3 := fieldAt2 hf 3 28 5 rfl; have f4 := fieldAt2 hf 4 9 9 rfl
    simp only [cellsInt2, cellsSpot2, cellsRef2, cellsString2, List.drop, List.take, List.getElem?_cons_zero, List.getElem?_cons_succ] at f0 f1 f2 f3 f4
    obtain ⟨a0, e0, -, -⟩ := DataW.trod_int Tryd.underlying3 f0
    obtain ⟨a1, a2, e1⟩ := spot_of_trod2 f1
    obtain ⟨a3, a4, e2⟩ := spot_of_trod2 f2
    obtain ⟨a5, a6, a7, a8, e3⟩ := ref_of_trod2 f3
    obtain ⟨s, e4, g4, -⟩ := DataW.trod_string Tryd.underlying9 f4
    have hwe : ∀ (j : Nat) (T : TypeId) (d : DataW H), [3, 39, 39, 28, 9][j]? = some T → [x0.1, x1.1, x2.1, x3.1, x4.1][j]? = some d → ∀ n ∈ d.weights Tryd.prog T, n ≤ reachBytes := by
      intro j T d hT hd n hn
      refine hw n ?_
      have := DataW.weights_mem_each (P := Tryd.prog) hT hd n hn
      simpa [DataW.weights, Tryd.underlying59] using this
    have hstr : s.size ≤ 140737488355328 := by
      have := hwe 4 _ _ rfl rfl s.data.toList.length (by rw [g4]; simp [DataW.weights])
      rw [Lib.size_eq]
      have h2 : reachBytes = 140737488351232 := rfl
      omega
    simp only [List.cons.injEq, and_true] at e0 e1 e2 e3 e4
    obtain ⟨rfl, rfl⟩ := e1
    obtain ⟨rfl, rfl⟩ := e2
    obtain ⟨rfl, rfl, rfl, rfl⟩ := e3
    subst e0 e4
    exact ⟨a0, a1, a2, a3, a4, a5, a6, a7, a8, s, rfl, hstr⟩
set_option maxRecDepth 100000 in
theorem ops2_of_trod {a : Option Addr} {len cap : Nat} {d : DataW H} {p : List MemPlace} (h : DataW.Trod enc Tryd.prog W base sp held 56 (.slice a len cap) d p) (hw : ∀ n ∈ d.weights Tryd.prog 56, n ≤ reachBytes) : Ops2In W a len := by
  obtain ⟨fuel, hf⟩ := h
  rcases DataW.trod_slice Tryd.underlying56 hf with ⟨e, -⟩ | ⟨x, l, c, elems, rest, mm, rfl, e, g, -, hlc, hcm, hlen, hel, -, -⟩
  · simp [Value.cells] at e
    obtain ⟨rfl, rfl, rfl⟩ := e
    exact ⟨by omega, fun i hi => absurd hi (Nat.not_lt_zero _)⟩
  · simp [Value.cells] at e
    obtain ⟨rfl, rfl, rfl⟩ := e
    simp only [Prod.mk.injEq] at g
    obtain ⟨rfl, -⟩ := g
    have hmax : len ≤ 9223372036854775807 := by have : maxLen = 9223372036854775807 := rfl; omega
    refine ⟨hmax, fun i hi => ?_⟩
    have each : ∀ i, i < len → ∃ k ar ac br bc rr rc rp rq s, (∀ o v, (#[.int .i64 k, .int .i64 ar, .int .i64 ac, .int .i64 br, .int .i64 bc, .int .i64 rr, .int .i64 rc, .bool rp, .bool rq, .string s] : Array Value)[o]? = some v → W.cell? ((x.add (i * 10)).add o) = some v) ∧ ByteArray.size s ≤ 140737488355328 := by
      intro i hi
      obtain ⟨z, hx⟩ : ∃ z, elems[i]? = some z := ⟨elems[i]'(by omega), List.getElem?_eq_getElem _⟩
      have hb := hel i hi
      rw [hx, cellsOp2, Option.bind_eq_some_iff] at hb
      obtain ⟨cs', hcs, ht⟩ := hb
      obtain ⟨k, ar, ac, br, bc, rr, rc, rp, rq, s, rfl, hs⟩ := op2_of_trod ht (fun n hn => hw n (by
        simp only [DataW.weights, Tryd.underlying56, List.mem_cons, List.mem_append]
        exact .inr (.inl (weights_all_mem2 (List.mem_map_of_mem (List.mem_of_getElem? hx)) n hn))))
      obtain ⟨-, hc⟩ := cells_get2 hcs
      refine ⟨k, ar, ac, br, bc, rr, rc, rp, rq, s, fun o v ho => ?_, hs⟩
      have hlt : o < 10 := by have := (Array.getElem?_eq_some_iff.1 ho).1; simpa using this
      rw [hc o hlt, ← ho]
      simp only [List.getElem?_toArray]
    obtain ⟨b, off, rfl, hb⟩ : ∃ b off, x = ⟨b, off, none⟩ ∧ b < W.heap.size := by
      obtain ⟨k, ar, ac, br, bc, rr, rc, rp, rq, s, hc, -⟩ := each 0 (by omega)
      have := cell_lt2 (hc 0 _ rfl)
      obtain ⟨b, off, spot⟩ := x
      simp only [Nat.zero_mul, Addr.add, if_true] at this
      obtain ⟨h1, rfl⟩ := this
      exact ⟨b, off, rfl, h1⟩
    obtain ⟨k, ar, ac, br, bc, rr, rc, rp, rq, s, hc, hs⟩ := each i hi
    exact ⟨b, off, k, ar, ac, br, bc, rr, rc, rp, rq, s, rfl, hb, fun o v ho => by have := hc o v ho; rw [addr_add2, addr_add2] at this; exact this, hs⟩
end

theorem wpList_load_op2 {ops : Array Oper} {rest : List Oper} {op : Oper} {a : Act} {w : World} {Q : Exit → Act → World → Prop} {x : Operand} {b off : Nat} {k ar ac br bc rr rc : Int} {rp rq : Bool} {s : ByteArray} (hg : op.guard = none) (ho : op.op = Op.load 59 x) (ha : a.eval x = .pointer (some ⟨b, off, none⟩)) (hat : Op2At w b off k ar ac br bc rr rc rp rq s)
    (h : wpList Tryd.prog ops Q rest (a.put op.dst (.agg #[.int .i64 k, .int .i64 ar, .int .i64 ac, .int .i64 br, .int .i64 bc, .int .i64 rr, .int .i64 rc, .bool rp, .bool rq, .string s])) w) : wpList Tryd.prog ops Q (op :: rest) a w :=
  wpList_load_mid hg _ x ho b off ha [.int .i64 k, .int .i64 ar, .int .i64 ac, .int .i64 br, .int .i64 bc, .int .i64 rr, .int .i64 rc, .bool rp, .bool rq, .string s] _ (fun j v hv => hat j v (by simpa using hv)) Tryd.underlying59 rfl infoOp2 h
def All2Rel (w : World) (len : Nat) (wr : World) (i : Value) : Prop := ∃ j : Nat, i = .int .i64 j ∧ j ≤ len ∧ Below w.heap.size w wr
set_option maxRecDepth 100000 in
set_option maxHeartbeats 4000000 in
theorem spotAll_any (w : World) (a : Option Addr) (len cap : Nat) (hO : Ops2In w a len) (L : LaidW w) : Calls Tryd.prog 9 #[.slice a len cap] w (TruePost w) := by
  have HO := Lib.hid hO; have HL := Lib.hid L
  have hlen : len ≤ 9223372036854775807 := hO.1
  clear hO L
  go_enter Tryd.func9, Tryd.ntmps9
  go_wp2_with fail
  refine (begun2_any w HL.out).mono ?_
  rintro e w1 ⟨rfl, b1⟩
  have B1 := Lib.hid b1
  clear b1
  go_wp2
  go_loopw [3] (fun i wr => All2Rel w len wr i) (fun i _ => len - (intOf i).toNat)
  case atStart => exact ⟨0, rfl, Nat.zero_le _, B1.out⟩
  case round =>
    obtain ⟨j, rfl, hj, hb⟩ := hrel
    have hw : w.heap.size ≤ wr.heap.size := hb.size
    by_cases hlt : j < len
    · obtain ⟨b, off, k, ar, ac, br, bc, rr, rc, rp, rq, s, rfl, hbl, ho, hs⟩ := HO.out.2 j hlt
      have hat : Op2At wr b (off + j * 10) k ar ac br bc rr rc rp rq s := fun o v h => (hb.cell (p := ⟨b, off + j * 10 + o, none⟩) hbl).trans (ho o v h)
      have HAT := Lib.hid hat
      have HB := Lib.hid hb; have HS := Lib.hid hs
      have hbr : b < wr.heap.size := by omega
      clear hb hat ho hs
      go_wp2_with (refine wpList_load_op2 rfl rfl rfl HAT.out ?_)
      refine (plays2_any k ar ac br bc rr rc rp rq s wr (HL.out.kept HB.out) HS.out).mono ?_
      rintro e w2 ⟨rfl, b2⟩
      have B2 := Lib.hid (HB.out.trans (b2.mono HB.out.size))
      clear b2
      go_wp2
      go_roundw
      case rel => exact ⟨j + 1, by go_num, by omega, B2.out⟩
      case measure => simp [intOf]; omega
    · have HB := Lib.hid hb
      clear hb
      go_wp2
      go_ret
      exact ⟨rfl, HB.out⟩
end Go.Proofs.YtnhgeojcelegbaaDoor
