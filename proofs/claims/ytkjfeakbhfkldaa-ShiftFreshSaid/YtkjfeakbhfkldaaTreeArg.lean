/- Trees: from what a call is handed to trees. -/
import Derived.Test.YtkjfeakbhfkldaaTreeR
import Derived.ProofKit
import Derived.SizedLaws
import Derived.OpenShut
namespace Go.Proofs.Ytkjfeakbhfkldaa
open Go.RowKit

theorem cellsInt : Try.prog.cellsOf 3 = 1 := by kernel_rfl
theorem cellsI64 : Try.prog.cellsOf 2 = 1 := by kernel_rfl
theorem cellsBool : Try.prog.cellsOf 4 = 1 := by kernel_rfl
theorem cellsString : Try.prog.cellsOf 9 = 1 := by kernel_rfl
theorem cellsRef : Try.prog.cellsOf 26 = 4 := by kernel_rfl
theorem cellsExpr : Try.prog.cellsOf 29 = 14 := by kernel_rfl
theorem cellsExprs : Try.prog.cellsOf 27 = 1 := by kernel_rfl

theorem cell_lt {w : World} {a : Addr} {v : Value} (h : w.cell? a = some v) : a.block < w.heap.size ∧ a.spot = none := by
  unfold World.cell? at h
  split at h
  · rename_i hb
    refine ⟨(Array.getElem?_eq_some_iff.1 hb).1, ?_⟩
    cases hs : a.spot with
    | none => rfl
    | some _ => simp [hs] at h
  · cases h
theorem addr_add (b o n : Nat) : (⟨b, o, none⟩ : Addr).add n = ⟨b, o + n, none⟩ := by unfold Addr.add; split <;> simp_all
theorem cells_get {w : World} {base : Nat} {a : Addr} {n : Nat} {cs : List Value} (h : w.cells? base a n = some cs) : cs.length = n ∧ ∀ i, i < n → w.cell? (a.add i) = cs[i]? := by
  unfold World.cells? at h
  split at h
  · exact ⟨by simpa using mapM_some_length h, fun i hi => mapM_some_get h i i (by simp [hi])⟩
  · cases h

section
variable {H : Type} {enc : TypeId × Value → H} {W : World} {base : Nat} {sp : Nat → Bool} {held : Bool}

theorem fieldAt {fs : Array Field} {cs : List Value} {xs : List (DataW H × List MemPlace)} {n : Nat} (hf : ∀ (i : Nat) (f : Field), fs[i]? = some f → DataW.trod enc Try.prog W base sp held n f.type ((cs.drop f.offset).take (Try.prog.cellsOf f.type)) = xs[i]?)
    (i : Nat) (T : TypeId) (off : Nat) (e : (fs[i]?).map (fun f => (f.type, f.offset)) = some (T, off)) : DataW.trod enc Try.prog W base sp held n T ((cs.drop off).take (Try.prog.cellsOf T)) = xs[i]? := by
  obtain ⟨f, h1, h2⟩ := Option.map_eq_some_iff.1 e
  simp only [Prod.mk.injEq] at h2
  obtain ⟨rfl, rfl⟩ := h2
  exact hf i f h1

theorem i64_of {n : Int} (h : (Lit.int .i64 n).wf = true) : I64 n := bounds_i64 h

set_option maxRecDepth 100000 in
theorem ref_of_trod {fuel : Nat} {cs : List Value} {y : DataW H × List MemPlace} (h : DataW.trod enc Try.prog W base sp held fuel 26 cs = some y) :
    ∃ r : RefT, cs = [.int .i64 r.row, .int .i64 r.col, .bool r.pr, .bool r.pc] ∧ I64 r.row ∧ I64 r.col := by
  obtain ⟨xs, n, rfl, rfl, hl, hn, hf⟩ := DataW.trod_struct Try.underlying26 h
  rw [cellsRef] at hl
  match cs, hl, xs, hn with
  | [c0, c1, c2, c3], _, [x0, x1, x2, x3], _ =>
    have f0 := fieldAt hf 0 3 0 rfl; have f1 := fieldAt hf 1 3 1 rfl; have f2 := fieldAt hf 2 4 2 rfl; have f3 := fieldAt hf 3 4 3 rfl
    simp only [cellsInt, cellsBool, List.drop, List.take, List.getElem?_cons_zero, List.getElem?_cons_succ] at f0 f1 f2 f3
    obtain ⟨a, e0, -, w0⟩ := DataW.trod_int Try.underlying3 f0
    obtain ⟨b, e1, -, w1⟩ := DataW.trod_int Try.underlying3 f1
    obtain ⟨c, e2, -⟩ := DataW.trod_bool Try.underlying4 f2
    obtain ⟨d, e3, -⟩ := DataW.trod_bool Try.underlying4 f3
    simp only [List.cons.injEq, and_true] at e0 e1 e2 e3
    subst e0 e1 e2 e3
    exact ⟨⟨a, b, c, d⟩, rfl, i64_of w0, i64_of w1⟩

/-- A row of trees out of each one of them. -/
theorem rowIn_of {w : World} {B b off : Nat} : ∀ (n j : Nat), (∀ i, j ≤ i → i < j + n → b < B ∧ ∃ h ks ka kl kc, NodeAt w b (off + i * 14) h (.slice ka kl kc) ∧ TreeV w B h ks ka kl) →
    ∃ ts : Trees, ts.len = n ∧ RowIn w B ts (some ⟨b, off, none⟩) j
  | 0, _, _ => ⟨.nil, rfl, trivial⟩
  | n + 1, j, h => by
    obtain ⟨hb, hd, ks, ka, kl, kc, N, tv⟩ := h j (Nat.le_refl _) (by omega)
    obtain ⟨ts, hl, hr⟩ := rowIn_of n (j + 1) fun i h1 h2 => h i (by omega) (by omega)
    exact ⟨.cons hd ks ts, by simp [Trees.len, hl], ⟨b, off, ka, kl, kc, rfl, hb, N, tv.len, tv.max, tv.ok, tv.row⟩, hr⟩

theorem weights_all_mem {P : Program} {e : TypeId} : ∀ {l : List (DataW H)} {d : DataW H}, d ∈ l → ∀ n ∈ d.weights P e, n ∈ DataW.weightsAll P e l
  | x :: r, d, hd, n, hn => by
    simp only [DataW.weightsAll, List.mem_append]
    rcases List.mem_cons.1 hd with rfl | hd
    · exact .inl hn
    · exact .inr (weights_all_mem hd n hn)

set_option maxRecDepth 100000 in
set_option maxHeartbeats 1000000 in
/-- A tree that a call is handed. -/
theorem tree_of_trod : ∀ (fuel : Nat) {cs : List Value} {y : DataW H × List MemPlace}, DataW.trod enc Try.prog W base sp held fuel 29 cs = some y → (∀ n ∈ y.1.weights Try.prog 29, n ≤ reachBytes) →
    ∃ (h : Hd) (ks : Trees) (ka : Option Addr) (kl kc : Nat), cs = h.vals (.slice ka kl kc) ∧ TreeV W W.heap.size h ks ka kl := by
  intro fuel
  induction fuel using Nat.strongRecOn with
  | ind fuel ih =>
    intro cs y h hw
    obtain ⟨xs, n, rfl, rfl, hl, hn, hf⟩ := DataW.trod_struct Try.underlying29 h
    rw [cellsExpr] at hl
    match cs, hl, xs, hn with
    | [c0, c1, c2, c3, c4, c5, c6, c7, c8, c9, c10, c11, c12, c13], _, [x0, x1, x2, x3, x4, x5, x6, x7], _ =>
      have f0 := fieldAt hf 0 3 0 rfl; have f1 := fieldAt hf 1 3 1 rfl; have f2 := fieldAt hf 2 2 2 rfl; have f3 := fieldAt hf 3 9 3 rfl
      have f4 := fieldAt hf 4 26 4 rfl; have f5 := fieldAt hf 5 26 8 rfl; have f6 := fieldAt hf 6 3 12 rfl; have f7 := fieldAt hf 7 27 13 rfl
      simp only [cellsInt, cellsI64, cellsString, cellsRef, cellsExprs, List.drop, List.take, List.getElem?_cons_zero, List.getElem?_cons_succ] at f0 f1 f2 f3 f4 f5 f6 f7
      obtain ⟨a0, e0, -, w0⟩ := DataW.trod_int Try.underlying3 f0
      obtain ⟨a1, e1, -, w1⟩ := DataW.trod_int Try.underlying3 f1
      obtain ⟨a2, e2, -, w2⟩ := DataW.trod_int Try.underlying2 f2
      obtain ⟨s, e3, g3, -⟩ := DataW.trod_string Try.underlying9 f3
      obtain ⟨r, e4, w4, w4'⟩ := ref_of_trod f4
      obtain ⟨t, e5, w5, w5'⟩ := ref_of_trod f5
      obtain ⟨a6, e6, -, w6⟩ := DataW.trod_int Try.underlying3 f6
      simp only [List.cons.injEq, and_true] at e0 e1 e2 e3 e4 e5 e6
      obtain ⟨rfl, rfl, rfl, rfl⟩ := e4
      obtain ⟨rfl, rfl, rfl, rfl⟩ := e5
      subst e0 e1 e2 e3 e6
      have hwe : ∀ (j : Nat) (T : TypeId) (d : DataW H), [3, 3, 2, 9, 26, 26, 3, 27][j]? = some T → [x0.1, x1.1, x2.1, x3.1, x4.1, x5.1, x6.1, x7.1][j]? = some d →
          ∀ n ∈ d.weights Try.prog T, n ≤ reachBytes := by
        intro j T d hT hd n hn
        refine hw n ?_
        have := DataW.weights_mem_each (P := Try.prog) hT hd n hn
        simpa [DataW.weights, Try.underlying29] using this
      have hstr : s.data.toList.length ≤ 140737488351232 := by
        have := hwe 3 _ _ rfl rfl s.data.toList.length (by rw [g3]; simp [DataW.weights])
        simpa [reachBytes] using this
      have hs : s = ⟨s.data.toList.toArray⟩ := by cases s; simp
      have hok : Hd.ok ⟨a0, a1, a2, s.data.toList, r, t, a6⟩ := ⟨hstr, i64_of w0, i64_of w1, i64_of w2, w4, w4', w5, w5', i64_of w6⟩
      rcases DataW.trod_slice Try.underlying27 f7 with ⟨e7, -⟩ | ⟨a, len, cap, elems, rest, m, rfl, e7, g7, -, hlc, hcm, hlen, hel, -, -⟩
      · simp only [List.cons.injEq, and_true] at e7
        subst e7
        exact ⟨⟨a0, a1, a2, s.data.toList, r, t, a6⟩, .nil, none, 0, 0, by simp only [Hd.vals, ← hs], ⟨rfl, by omega, hok, trivial⟩⟩
      · simp only [List.cons.injEq, and_true] at e7
        subst e7
        have hmax : len ≤ 9223372036854775807 := by have : maxLen = 9223372036854775807 := rfl; omega
        have hkw : ∀ x ∈ elems, ∀ n ∈ x.1.weights Try.prog 29, n ≤ reachBytes := by
          intro x hx n hn
          refine hwe 7 _ _ rfl rfl n ?_
          rw [g7]
          simp only [DataW.weights, Try.underlying27, List.mem_cons, List.mem_append]
          exact .inr (.inl (weights_all_mem (List.mem_map_of_mem hx) n hn))
        rcases Nat.eq_zero_or_pos len with z | z
        · subst z
          exact ⟨⟨a0, a1, a2, s.data.toList, r, t, a6⟩, .nil, some a, 0, cap, by simp only [Hd.vals, ← hs], ⟨rfl, by omega, hok, trivial⟩⟩
        have each : ∀ i, i < len → ∃ h ks ka kl kc, TreeV W W.heap.size h ks ka kl ∧ ∀ j v, (h.vals (.slice ka kl kc))[j]? = some v → W.cell? ((a.add (i * 14)).add j) = some v := by
          intro i hi
          obtain ⟨x, hx⟩ : ∃ x, elems[i]? = some x := ⟨elems[i]'(by omega), List.getElem?_eq_getElem _⟩
          have hb := hel i hi
          rw [hx, cellsExpr, Option.bind_eq_some_iff] at hb
          obtain ⟨cs', hcs, ht⟩ := hb
          obtain ⟨h', ks, ka, kl, kc, rfl, tv⟩ := ih m (Nat.lt_succ_of_lt (Nat.lt_succ_self _)) ht (hkw x (List.mem_of_getElem? hx))
          obtain ⟨hl', hc⟩ := cells_get hcs
          exact ⟨h', ks, ka, kl, kc, tv, fun j v hj => (hc j (by have := (List.getElem?_eq_some_iff.1 hj).1; simpa [Hd.vals] using this)).trans hj⟩
        obtain ⟨b, off, rfl, hb⟩ : ∃ b off, a = ⟨b, off, none⟩ ∧ b < W.heap.size := by
          obtain ⟨h', ks, ka, kl, kc, tv, hc⟩ := each 0 z
          have := cell_lt (hc 0 _ rfl)
          obtain ⟨b, off, spot⟩ := a
          simp only [Nat.zero_mul, Addr.add, if_true] at this
          obtain ⟨h1, rfl⟩ := this
          exact ⟨b, off, rfl, h1⟩
        obtain ⟨ts, hlt, hrow⟩ := rowIn_of (w := W) (B := W.heap.size) (b := b) (off := off) len 0 fun i _ hi => by
          obtain ⟨h', ks, ka, kl, kc, tv, hc⟩ := each i (by omega)
          exact ⟨hb, h', ks, ka, kl, kc, ⟨hb, fun j v hj => by have := hc j v hj; rw [addr_add, addr_add] at this; exact this⟩, tv⟩
        exact ⟨⟨a0, a1, a2, s.data.toList, r, t, a6⟩, ts, some ⟨b, off, none⟩, len, cap, by simp only [Hd.vals, ← hs], ⟨hlt.symm, hmax, hok, hrow⟩⟩

set_option maxRecDepth 100000 in
/-- A tree as an argument. -/
theorem treeArg {r : Reach} {v : Value} {d : DataW H} {p : List MemPlace} (hv : Value.okWide Try.prog W r base 29 v) (h : DataW.Trod enc Try.prog W 0 sp held 29 v d p) (hw : ∀ n ∈ d.weights Try.prog 29, n ≤ reachBytes) :
    ∃ (h : Hd) (ks : Trees) (ka : Option Addr) (kl kc : Nat), v = .agg #[.int .i64 h.kind, .int .i64 h.op, .int .i64 h.num, .string ⟨h.text.toArray⟩, .int .i64 h.ref.row, .int .i64 h.ref.col, .bool h.ref.pr, .bool h.ref.pc, .int .i64 h.to.row, .int .i64 h.to.col, .bool h.to.pr, .bool h.to.pc, .int .i64 h.fn, .slice ka kl kc] ∧ TreeV W W.heap.size h ks ka kl := by
  obtain ⟨cs, rfl, -⟩ := Go.WideShapes.okWide_struct Try.underlying29 hv
  obtain ⟨fuel, hf⟩ := h
  obtain ⟨hd, ks, ka, kl, kc, e, tv⟩ := tree_of_trod fuel hf hw
  refine ⟨hd, ks, ka, kl, kc, ?_, tv⟩
  have : cs = (hd.vals (.slice ka kl kc)).toArray := by
    have e' : cs.toList = hd.vals (.slice ka kl kc) := e
    rw [← e']
  rw [this]; rfl
set_option maxRecDepth 100000 in
theorem u8_of_trod {r : Reach} {v : Value} (hv : Value.okWide Try.prog W r base 5 v) {d : DataW H} {p : List MemPlace} (h : DataW.Trod enc Try.prog W base sp held 5 v d p) : ∃ n : Int, v = .int .u8 n ∧ 0 ≤ n ∧ n ≤ 255 := by
  obtain ⟨fuel, hf⟩ := h
  obtain ⟨n, e, -, hw⟩ := DataW.trod_int Try.underlying5 hf
  obtain ⟨m, rfl⟩ := Go.WideShapes.okWide_int Try.underlying5 hv
  simp [Value.cells] at e
  subst e
  exact ⟨_, rfl, bounds_u8 hw⟩
end
end Go.Proofs.Ytkjfeakbhfkldaa
