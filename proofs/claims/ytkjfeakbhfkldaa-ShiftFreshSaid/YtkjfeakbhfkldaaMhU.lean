/- Shifting: a script's calls as they lie in memory; the law's call, whatever its kind. -/
import Derived.Test.YtkjfeakbhfkldaaMhOc
import Derived.Test.YtkjfeakbhfkldaaTreeArg
import Derived.Test.YtkjfeakbhfkldaaTreeArg2
import Derived.Test.YtkjfeakbhfkldaaLaw
import Derived.Deep.MidRow
namespace Go.Proofs.Ytkjfeakbhfkldaa
open Go.ChangeShapes Go.WideShapes Go.ChangeAt Go.RowKit

theorem cellsOp12 : Try.prog.cellsOf 60 = 17 := by kernel_rfl

/-- One call of a script lies at an address. -/
def Op12At (w : World) (b off : Nat) (k : Int) (nt : Hd) (ta : Option Addr) (tl tc : Nat) (m n : Int) : Prop :=
  ∀ o v, (#[.int .i64 k, .int .i64 nt.kind, .int .i64 nt.op, .int .i64 nt.num, .string ⟨nt.text.toArray⟩, .int .i64 nt.ref.row, .int .i64 nt.ref.col, .bool nt.ref.pr, .bool nt.ref.pc, .int .i64 nt.to.row, .int .i64 nt.to.col, .bool nt.to.pr, .bool nt.to.pc, .int .i64 nt.fn, .slice ta tl tc, .int .i64 m, .int .i64 n] : Array Value)[o]? = some v → w.cell? ⟨b, off + o, none⟩ = some v
/-- The calls of a script, n of them from address a on. -/
def Ops12In (W : World) (a : Option Addr) (len : Nat) : Prop :=
  len ≤ 9223372036854775807 ∧ ∀ i, i < len → ∃ b off k nt kt ta tl tc m n, a = some ⟨b, off, none⟩ ∧ b < W.heap.size ∧ Op12At W b (off + i * 17) k nt ta tl tc m n ∧ TreeV W W.heap.size nt kt ta tl ∧ I64 m ∧ I64 n

section
variable {H : Type} {enc : TypeId × Value → H} {W : World} {base : Nat} {sp : Nat → Bool} {held : Bool}
set_option maxRecDepth 100000 in
theorem op12_of_trod {fuel : Nat} {cs : List Value} {y : DataW H × List MemPlace} (h : DataW.trod enc Try.prog W base sp held fuel 60 cs = some y) (hw : ∀ n ∈ y.1.weights Try.prog 60, n ≤ reachBytes) :
    ∃ k nt kt ta tl tc m n, cs = [.int .i64 k, .int .i64 nt.kind, .int .i64 nt.op, .int .i64 nt.num, .string ⟨nt.text.toArray⟩, .int .i64 nt.ref.row, .int .i64 nt.ref.col, .bool nt.ref.pr, .bool nt.ref.pc, .int .i64 nt.to.row, .int .i64 nt.to.col, .bool nt.to.pr, .bool nt.to.pc, .int .i64 nt.fn, .slice ta tl tc, .int .i64 m, .int .i64 n] ∧ TreeV W W.heap.size nt kt ta tl ∧ I64 m ∧ I64 n := by
  obtain ⟨xs, n, rfl, rfl, hl, hn, hf⟩ := DataW.trod_struct Try.underlying60 h
  rw [cellsOp12] at hl
  match xs, hn with
  | [x0, x1, x2, x3], _ =>
    have f0 := fieldAt hf 0 3 0 rfl; have f1 := fieldAt hf 1 29 1 rfl; have f2 := fieldAt hf 2 2 15 rfl; have f3 := fieldAt hf 3 2 16 rfl
    simp only [cellsInt, cellsExpr, cellsI64, List.getElem?_cons_zero, List.getElem?_cons_succ] at f0 f1 f2 f3
    have hwe : ∀ (j : Nat) (T : TypeId) (d : DataW H), [3, 29, 2, 2][j]? = some T → [x0.1, x1.1, x2.1, x3.1][j]? = some d → ∀ n ∈ d.weights Try.prog T, n ≤ reachBytes := by
      intro j T d hT hd n hn
      refine hw n ?_
      have := DataW.weights_mem_each (P := Try.prog) hT hd n hn
      simpa [DataW.weights, Try.underlying60] using this
    obtain ⟨a0, e0, -, -⟩ := DataW.trod_int Try.underlying3 f0
    obtain ⟨nt, kt, ta, tl, tc, e1, t1⟩ := tree_of_trod n f1 (hwe 1 _ _ rfl rfl)
    obtain ⟨a2, e2, -, w2⟩ := DataW.trod_int Try.underlying2 f2
    obtain ⟨a3, e3, -, w3⟩ := DataW.trod_int Try.underlying2 f3
    refine ⟨a0, nt, kt, ta, tl, tc, a2, a3, ?_, t1, bounds_i64 w2, bounds_i64 w3⟩
    have h1 : cs = cs.take 1 ++ ((cs.drop 1).take 14 ++ ((cs.drop 15).take 1 ++ (cs.drop 16).take 1)) := by
      have q0 : (cs.drop 16).take 1 = cs.drop 16 := List.take_of_length_le (by simp; omega)
      have q1 : (cs.drop 15).take 1 ++ cs.drop 16 = cs.drop 15 := by
        have := List.take_append_drop 1 (cs.drop 15)
        rwa [List.drop_drop] at this
      have q2 : (cs.drop 1).take 14 ++ cs.drop 15 = cs.drop 1 := by
        have := List.take_append_drop 14 (cs.drop 1)
        rwa [List.drop_drop] at this
      rw [q0, q1, q2, List.take_append_drop]
    rw [List.drop_zero] at e0
    rw [h1, e0, e1, e2, e3]
    rfl

set_option maxRecDepth 100000 in
theorem ops12_of_trod {a : Option Addr} {len cap : Nat} {d : DataW H} {p : List MemPlace} (h : DataW.Trod enc Try.prog W base sp held 58 (.slice a len cap) d p) (hw : ∀ n ∈ d.weights Try.prog 58, n ≤ reachBytes) : Ops12In W a len := by
  obtain ⟨fuel, hf⟩ := h
  rcases DataW.trod_slice Try.underlying58 hf with ⟨e, -⟩ | ⟨x, l, c, elems, rest, mm, rfl, e, g, -, hlc, hcm, hlen, hel, -, -⟩
  · simp [Value.cells] at e
    obtain ⟨rfl, rfl, rfl⟩ := e
    exact ⟨by omega, fun i hi => absurd hi (Nat.not_lt_zero _)⟩
  · simp [Value.cells] at e
    obtain ⟨rfl, rfl, rfl⟩ := e
    simp only [Prod.mk.injEq] at g
    obtain ⟨rfl, -⟩ := g
    have hmax : len ≤ 9223372036854775807 := by have : maxLen = 9223372036854775807 := rfl; omega
    refine ⟨hmax, fun i hi => ?_⟩
    have each : ∀ i, i < len → ∃ k nt kt ta tl tc m n, (∀ o v, (#[.int .i64 k, .int .i64 nt.kind, .int .i64 nt.op, .int .i64 nt.num, .string ⟨nt.text.toArray⟩, .int .i64 nt.ref.row, .int .i64 nt.ref.col, .bool nt.ref.pr, .bool nt.ref.pc, .int .i64 nt.to.row, .int .i64 nt.to.col, .bool nt.to.pr, .bool nt.to.pc, .int .i64 nt.fn, .slice ta tl tc, .int .i64 m, .int .i64 n] : Array Value)[o]? = some v → W.cell? ((x.add (i * 17)).add o) = some v) ∧ TreeV W W.heap.size nt kt ta tl ∧ I64 m ∧ I64 n := by
      intro i hi
      obtain ⟨z, hx⟩ : ∃ z, elems[i]? = some z := ⟨elems[i]'(by omega), List.getElem?_eq_getElem _⟩
      have hb := hel i hi
      rw [hx, cellsOp12, Option.bind_eq_some_iff] at hb
      obtain ⟨cs', hcs, ht⟩ := hb
      obtain ⟨k, nt, kt, ta, tl, tc, m, n, rfl, t1, im, iN⟩ := op12_of_trod ht (fun n hn => hw n (by
        simp only [DataW.weights, Try.underlying58, List.mem_cons, List.mem_append]
        exact .inr (.inl (weights_all_mem (List.mem_map_of_mem (List.mem_of_getElem? hx)) n hn))))
      obtain ⟨-, hc⟩ := cells_get hcs
      refine ⟨k, nt, kt, ta, tl, tc, m, n, fun o v ho => ?_, t1, im, iN⟩
      have hlt : o < 17 := by have := (Array.getElem?_eq_some_iff.1 ho).1; simpa using this
      rw [hc o hlt, ← ho]
      simp only [List.getElem?_toArray]
    obtain ⟨b, off, rfl, hb⟩ : ∃ b off, x = ⟨b, off, none⟩ ∧ b < W.heap.size := by
      obtain ⟨k, nt, kt, ta, tl, tc, m, n, hc, -, -⟩ := each 0 (by omega)
      have := cell_lt (hc 0 _ rfl)
      obtain ⟨b, off, spot⟩ := x
      simp only [Nat.zero_mul, Addr.add, if_true] at this
      obtain ⟨h1, rfl⟩ := this
      exact ⟨b, off, rfl, h1⟩
    obtain ⟨k, nt, kt, ta, tl, tc, m, n, hc, t1, im, iN⟩ := each i hi
    exact ⟨b, off, k, nt, kt, ta, tl, tc, m, n, rfl, hb, fun o v ho => by have := hc o v ho; rw [addr_add, addr_add] at this; exact this, t1, im, iN⟩
end

/-- What both calls give is one and the same tree. -/
theorem GX.one {m : Mv} {h g g' : Hd} {ks gk gk' : Trees} (a : GX m h ks g gk) (b : GX m h ks g' gk') : g' = g ∧ gk' = gk := by
  rcases a with ⟨s, e1, e2⟩ | ⟨s, e1, e2⟩
  · rcases b with ⟨-, d1, d2⟩ | ⟨t, -⟩
    · exact ⟨d1.trans e1.symm, d2.trans e2.symm⟩
    · exact absurd s t
  · rcases b with ⟨t, -⟩ | ⟨-, d1, d2⟩
    · exact absurd t s
    · exact ⟨d1.trans e1.symm, d2.trans e2.symm⟩
def CallSPost (w : World) (B' : Nat) (e : Ending) (w' : World) : Prop := ∃ (g : Hd) (gk : Trees) (pa qa : Option Addr) (pl pc ql qc : Nat) (er : Int) (F : List Nat),
  e = .returned (.tuple #[.agg #[.int .i64 g.kind, .int .i64 g.op, .int .i64 g.num, .string ⟨g.text.toArray⟩, .int .i64 g.ref.row, .int .i64 g.ref.col, .bool g.ref.pr, .bool g.ref.pc, .int .i64 g.to.row, .int .i64 g.to.col, .bool g.to.pr, .bool g.to.pc, .int .i64 g.fn, .slice pa pl pc], .int .i64 er, .agg #[.int .i64 g.kind, .int .i64 g.op, .int .i64 g.num, .string ⟨g.text.toArray⟩, .int .i64 g.ref.row, .int .i64 g.ref.col, .bool g.ref.pr, .bool g.ref.pc, .int .i64 g.to.row, .int .i64 g.to.col, .bool g.to.pr, .bool g.to.pc, .int .i64 g.fn, .slice qa ql qc], .int .i64 er]) ∧ Below w.heap.size w w' ∧ Fresh w' w.heap.size gk (.slice pa pl pc) F ∧ TreeX w' (OkR w B' w') g gk qa ql
theorem callS_any (k : Int) (h : Hd) (ks : Trees) (x y : Int) (w : World) (B B' : Nat) (ka a : Option Addr) (kl kc l c : Nat) (hB : B ≤ w.heap.size) (hB' : B' ≤ w.heap.size) (tv : TreeV w B h ks ka kl) (tv' : TreeV w B' h ks a l) (hx : I64 x) (hy : I64 y) :
    Calls Try.prog 33 #[.agg #[.int .i64 k, .int .i64 h.kind, .int .i64 h.op, .int .i64 h.num, .string ⟨h.text.toArray⟩, .int .i64 h.ref.row, .int .i64 h.ref.col, .bool h.ref.pr, .bool h.ref.pc, .int .i64 h.to.row, .int .i64 h.to.col, .bool h.to.pr, .bool h.to.pc, .int .i64 h.fn, .slice a l c, .int .i64 x, .int .i64 y], .agg #[.int .i64 h.kind, .int .i64 h.op, .int .i64 h.num, .string ⟨h.text.toArray⟩, .int .i64 h.ref.row, .int .i64 h.ref.col, .bool h.ref.pr, .bool h.ref.pc, .int .i64 h.to.row, .int .i64 h.to.col, .bool h.to.pr, .bool h.to.pc, .int .i64 h.fn, .slice ka kl kc]] w (CallSPost w B') := by
  by_cases k1 : k = 1
  · subst k1
    refine (call_paste h h ks ks x y w B B' ka a kl kc l c hB hB' tv tv' hx hy).mono ?_
    rintro e w' ⟨b, g, g', gk, gk', pa, qa, pl, pc, ql, qc, hg, hg', he, ⟨F, f⟩, t⟩
    obtain ⟨rfl, rfl⟩ := hg.one hg'
    exact ⟨_, _, pa, qa, pl, pc, ql, qc, _, F, he, b, f, t⟩
  · by_cases k2 : k = 2
    · subst k2
      refine (call_rows h h ks ks x y w B B' ka a kl kc l c hB hB' tv tv' hx hy).mono ?_
      rintro e w' ⟨b, g, g', gk, gk', pa, qa, pl, pc, ql, qc, hg, hg', he, ⟨F, f⟩, t⟩
      obtain ⟨rfl, rfl⟩ := hg.one hg'
      exact ⟨_, _, pa, qa, pl, pc, ql, qc, _, F, he, b, f, t⟩
    · refine (call_cols h h ks ks x y w B B' ka a kl kc l c hB hB' tv tv' hx hy k (by simp [k1]) (by simp [k2])).mono ?_
      rintro e w' ⟨b, g, g', gk, gk', pa, qa, pl, pc, ql, qc, hg, hg', he, ⟨F, f⟩, t⟩
      obtain ⟨rfl, rfl⟩ := hg.one hg'
      exact ⟨_, _, pa, qa, pl, pc, ql, qc, _, F, he, b, f, t⟩

/-- Behind the law's call, two boxes made, c5 and c7 in them. -/
structure A8 (w3 : World) (N5 N7 : Nat) (c5 c7 : Array Value) (g : Hd) (gk : Trees) (pa : Option Addr) (pl pc : Nat) (qa : Option Addr) (ql : Nat) (W : World) : Prop where
  bel : Below w3.heap.size w3 W
  b5 : W.heap[N5]? = some (.cells c5 29 (0, 0))
  b7 : W.heap[N7]? = some (.cells c7 29 (0, 0))
  n5 : w3.heap.size ≤ N5
  n7 : w3.heap.size ≤ N7
  ne : N5 ≠ N7
  fr : ∃ F, OwnV W gk (.slice pa pl pc) F ∧ F.Nodup ∧ ∀ b ∈ F, w3.heap.size ≤ b ∧ b < W.heap.size ∧ b ≠ N5 ∧ b ≠ N7
  ok : g.ok
  t7 : TreeX W (fun b => b < W.heap.size ∧ b ≠ N5 ∧ b ≠ N7) g gk qa ql
section
variable {w3 W W' W1 w' : World} {N5 N7 : Nat} {c5 c7 : Array Value} {g : Hd} {gk : Trees} {pa qa : Option Addr} {pl pc ql : Nat} {F : List Nat}
theorem A8.t5 (p : A8 w3 N5 N7 c5 c7 g gk pa pl pc qa ql W) : TreeV W W.heap.size g gk pa pl := by
  obtain ⟨F, f, -, hF⟩ := p.fr
  obtain ⟨ka', kc', e', t'⟩ := f.tree (Nat.le_refl _) (fun b hb => (hF b hb).2.1) p.ok
  simp only [Value.slice.injEq] at e'
  obtain ⟨rfl, rfl, rfl⟩ := e'
  exact t'
theorem A8.t7v (p : A8 w3 N5 N7 c5 c7 g gk pa pl pc qa ql W) : TreeV W W.heap.size g gk qa ql := p.t7.to fun _ h => h.1
theorem A8.step (p : A8 w3 N5 N7 c5 c7 g gk pa pl pc qa ql W) (b : Below W.heap.size W W') : A8 w3 N5 N7 c5 c7 g gk pa pl pc qa ql W' :=
  ⟨p.bel.trans (b.mono p.bel.size), (b.block _ (lt_of_block p.b5)).trans p.b5, (b.block _ (lt_of_block p.b7)).trans p.b7, p.n5, p.n7, p.ne, (by
    obtain ⟨F, f, u, hF⟩ := p.fr
    exact ⟨F, f.kept fun k hk => b.block k (hF k hk).2.1, u, fun k hk => ⟨(hF k hk).1, Nat.lt_of_lt_of_le (hF k hk).2.1 b.size, (hF k hk).2.2⟩⟩), p.ok, p.t7.kept fun k hk => ⟨⟨Nat.lt_of_lt_of_le hk.1 b.size, hk.2⟩, b.block k hk.1⟩⟩
theorem A8.of (fr : Fresh w' W1.heap.size gk (.slice pa pl pc) F) (tx : TreeX w' (OkR W1 w3.heap.size w') g gk qa ql)
    (hn : w3.heap.size ≤ W1.heap.size) (bel : Below w3.heap.size w3 W) (hz : w3.heap.size ≤ w'.heap.size) (same : ∀ b, b < w'.heap.size → W.heap[b]? = w'.heap[b]?) (sz : w'.heap.size ≤ W.heap.size)
    (h5 : w3.heap.size ≤ N5 ∧ (N5 < W1.heap.size ∨ w'.heap.size ≤ N5)) (h7 : w3.heap.size ≤ N7 ∧ (N7 < W1.heap.size ∨ w'.heap.size ≤ N7)) (ne : N5 ≠ N7)
    (b5 : W.heap[N5]? = some (.cells c5 29 (0, 0))) (b7 : W.heap[N7]? = some (.cells c7 29 (0, 0))) : A8 w3 N5 N7 c5 c7 g gk pa pl pc qa ql W := by
  refine ⟨bel, b5, b7, h5.1, h7.1, ne, ⟨F, fr.own.kept fun b hb => ?_, fr.once, fun b hb => ?_⟩, tx.hok, tx.kept fun b hb => ?_⟩
  · exact same b (fr.lt b hb)
  · have := fr.new b hb; have := fr.lt b hb
    refine ⟨by omega, by omega, by omega, by omega⟩
  · unfold OkR at hb
    have : b < w'.heap.size := by rcases hb with q | q <;> omega
    exact ⟨⟨by omega, by omega, by omega⟩, same b this⟩
theorem A8.set5 (p : A8 w3 N5 N7 c5 c7 g gk pa pl pc qa ql W) {vs : List Value} (hl : c5.size = vs.length) : A8 w3 N5 N7 vs.toArray c7 g gk pa pl pc qa ql (W.setCells N5 0 vs) :=
  ⟨setCells_below p.n5 vs 0 p.bel, setCells_all p.b5 hl, (setCells_other (Ne.symm p.ne) vs 0 W).trans p.b7, p.n5, p.n7, p.ne, (by
    obtain ⟨F, f, u, hF⟩ := p.fr
    exact ⟨F, f.kept fun k hk => setCells_other (hF k hk).2.2.1 vs 0 W, u, fun k hk => by rw [setCells_size]; exact hF k hk⟩), p.ok, p.t7.kept fun k hk => ⟨by rw [setCells_size]; exact hk, setCells_other hk.2.1 vs 0 W⟩⟩
theorem A8.set7 (p : A8 w3 N5 N7 c5 c7 g gk pa pl pc qa ql W) {vs : List Value} (hl : c7.size = vs.length) : A8 w3 N5 N7 c5 vs.toArray g gk pa pl pc qa ql (W.setCells N7 0 vs) :=
  ⟨setCells_below p.n7 vs 0 p.bel, (setCells_other p.ne vs 0 W).trans p.b5, setCells_all p.b7 hl, p.n5, p.n7, p.ne, (by
    obtain ⟨F, f, u, hF⟩ := p.fr
    exact ⟨F, f.kept fun k hk => setCells_other (hF k hk).2.2.2 vs 0 W, u, fun k hk => by rw [setCells_size]; exact hF k hk⟩), p.ok, p.t7.kept fun k hk => ⟨by rw [setCells_size]; exact hk, setCells_other hk.2.2 vs 0 W⟩⟩
theorem there_box {W : World} {N : Nat} {cs : Array Value} {T : TypeId} (h : W.heap[N]? = some (.cells cs T (0, 0))) : W.there N 0 cs.size := fun j hj => by
  refine ⟨?_, frees_of_block h _⟩
  rw [cells_of_block h]; simp [hj]
theorem kept_new2a {w w' : World} {cs cs' : Array Value} {T T' : TypeId} (h : Below ((w.alloc (.cells cs T)).alloc (.cells cs' T')).drew.heap.size ((w.alloc (.cells cs T)).alloc (.cells cs' T')).drew w') : w'.heap[w.heap.size]? = some (.cells cs T (0, 0)) ∧ w'.heap[w.heap.size + 1]? = some (.cells cs' T' (0, 0)) :=
  ⟨(h.block _ (by simp <;> omega)).trans (heap_alloc2_old _ _ _), (h.block _ (by simp)).trans (heap_alloc2_new _ _ _)⟩
end
theorem wpAnyH_listed {P : Program} {md : Region.Mode} {ops : Array Oper} {Q : Exit → Act → World → Prop} {S : World → Prop} {f f' : Nat} {l l' : Array Bool} {a : Act} {w : World} (hf : f = f') (hl : l = l') (h : wpAnyH P md ops Q S f' l' a w) : wpAnyH P md ops Q S f l a w := by subst hf hl; exact h
theorem wanted_wp {P : Program} {ops : Array Oper} {o : Oper} {a : Act} {w : World} {K : Act → World → Prop} {Q : Exit → Act → World → Prop} (hw : Region.wanted o (yielded ops a.tmps) = true) (h : Oper.wp P o a w K Q) : if Region.wanted o (yielded ops a.tmps) = true then Oper.wp P o a w K Q else K (a.put o.dst undef) w := by rw [if_pos hw]; exact h
theorem infoOp12 : (Try.prog.info? 60).map (·.size) = some 17 := by kernel_rfl
end Go.Proofs.Ytkjfeakbhfkldaa
