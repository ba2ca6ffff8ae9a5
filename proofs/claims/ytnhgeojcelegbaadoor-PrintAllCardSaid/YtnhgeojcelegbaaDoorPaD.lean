/- PrintAll holds: every tree; it stays as it is. No condition. -/
import Derived.Test.YtnhgeojcelegbaaDoorTreeArg
import Derived.Test.YtnhgeojcelegbaaDoorPaB
import Derived.Test.YtnhgeojcelegbaaDoorPaC
import Derived.Test.YtnhgeojcelegbaaDoorPaA
import Derived.Test.YtnhgeojcelegbaaDoorPrL
namespace Go.Proofs.YtnhgeojcelegbaaDoor
open Go.ChangeShapes Go.WideShapes Go.ChangeAt Go.RowKit
section
variable {H : Type} {enc : TypeId × Value → H} {W : World} {base : Nat} {sp : Nat → Bool} {held : Bool}
set_option maxRecDepth 100000 in
theorem trees_of_trod {a : Option Addr} {len cap : Nat} {d : DataW H} {p : List MemPlace} (h : DataW.Trod enc Tryd.prog W base sp held 22 (.slice a len cap) d p) (hw : ∀ n ∈ d.weights Tryd.prog 22, n ≤ reachBytes) :
    ∃ ts : Trees, len = ts.len ∧ len ≤ 9223372036854775807 ∧ RowIn W W.heap.size ts a 0 := by
  obtain ⟨fuel, hf⟩ := h
  rcases DataW.trod_slice Tryd.underlying22 hf with ⟨e, -⟩ | ⟨x, l, c, elems, rest, mm, rfl, e, g, -, hlc, hcm, hlen, hel, -, -⟩
  · simp [Value.cells] at e
    obtain ⟨rfl, rfl, rfl⟩ := e
    exact ⟨.nil, rfl, by omega, trivial⟩
  · simp [Value.cells] at e
    obtain ⟨rfl, rfl, rfl⟩ := e
    simp only [Prod.mk.injEq] at g
    obtain ⟨rfl, -⟩ := g
    have hmax : len ≤ 9223372036854775807 := by have : maxLen = 9223372036854775807 := rfl; omega
    rcases Nat.eq_zero_or_pos len with z | z
    · subst z
      exact ⟨.nil, rfl, hmax, trivial⟩
    have each : ∀ i, i < len → ∃ h ks ka kl kc, TreeV W W.heap.size h ks ka kl ∧ ∀ j v, (h.vals (.slice ka kl kc))[j]? = some v → W.cell? ((x.add (i * 14)).add j) = some v := by
      intro i hi
      obtain ⟨y, hx⟩ : ∃ y, elems[i]? = some y := ⟨elems[i]'(by omega), List.getElem?_eq_getElem _⟩
      have hb := hel i hi
      rw [hx, cellsExpr, Option.bind_eq_some_iff] at hb
      obtain ⟨cs', hcs, ht⟩ := hb
      obtain ⟨h', ks, ka, kl, kc, rfl, tv⟩ := tree_of_trod mm ht (fun n hn => hw n (by
        simp only [DataW.weights, Tryd.underlying22, List.mem_cons, List.mem_append]
        exact .inr (.inl (weights_all_mem (List.mem_map_of_mem (List.mem_of_getElem? hx)) n hn))))
      obtain ⟨hl', hc⟩ := cells_get hcs
      exact ⟨h', ks, ka, kl, kc, tv, fun j v hj => (hc j (by have := (List.getElem?_eq_some_iff.1 hj).1; simpa [Hd.vals] using this)).trans hj⟩
    obtain ⟨b, off, rfl, hb⟩ : ∃ b off, x = ⟨b, off, none⟩ ∧ b < W.heap.size := by
      obtain ⟨h', ks, ka, kl, kc, tv, hc⟩ := each 0 z
      have := cell_lt (hc 0 _ rfl)
      obtain ⟨b, off, spot⟩ := x
      simp only [Nat.zero_mul, Addr.add, if_true] at this
      obtain ⟨h1, rfl⟩ := this
      exact ⟨b, off, rfl, h1⟩
    obtain ⟨ts, hlt, hrow⟩ := rowIn_of (w := W) (B := W.heap.size) (b := b) (off := off) len 0 fun i _ hi => by
      obtain ⟨h', ks, ka, kl, kc, tv, hc⟩ := each i (by omega)
      exact ⟨hb, h', ks, ka, kl, kc, ⟨hb, fun j v hj => by have := hc j v hj; rw [addr_add, addr_add] at this; exact this⟩, tv⟩
    exact ⟨ts, hlt.symm, hmax, hrow⟩
end
end Go.Proofs.YtnhgeojcelegbaaDoor

namespace Go.Proofs.YtnhgeojcelegbaaDoor
open Go.RowKit Go.Lib

theorem box_rng {w : World} {N : Nat} {cs : Array Value} {T : TypeId} (h : w.heap[N]? = some (.cells cs T (0, 0))) : w.rangeAt N 0 cs.toList := fun j v hv => by rw [cells_of_block h, ← hv]; simp
theorem OwnV.tv {w : World} {h : Hd} {ks : Trees} {a : Option Addr} {l c : Nat} {F : List Nat} (o : OwnV w ks (.slice a l c) F) (hF : ∀ b ∈ F, b < w.heap.size) (ok : h.ok) : TreeV w w.heap.size h ks a l := by
  obtain ⟨ka', kc', e', t'⟩ := o.tree (Nat.le_refl _) hF ok
  simp only [Value.slice.injEq] at e'
  obtain ⟨rfl, rfl, rfl⟩ := e'
  exact t'
/-- What a tree is written as, and its error: the model's and the document's are one. -/
def PaRel (w : World) (len : Nat) (a : Option Addr) (wr : World) (i : Value) : Prop :=
  ∃ (j : Nat) (rest : Trees), i = .int .i64 j ∧ j + rest.len = len ∧ RowIn w w.heap.size rest a j ∧ Hid (Below w.heap.size w wr)
set_option maxRecDepth 100000 in
set_option maxHeartbeats 4000000 in
theorem printAll_any (w : World) (a : Option Addr) (len cap : Nat) (ts : Trees) (hl : len = ts.len) (hmax : len ≤ 9223372036854775807) (row : RowIn w w.heap.size ts a 0) (T : TabW w) : Calls Tryd.prog 3 #[.slice a len cap] w (TruePost w) := by
  have ROW := Lib.hid row; have HT0 := Lib.hid T; have HL := Lib.hid hl
  clear row T hl
  go_enter Tryd.func3, Tryd.ntmps3
  go_wp2_with fail
  refine (begun11_any w HT0.out).mono ?_
  rintro e w1 ⟨rfl, b1⟩
  have B1 := Lib.hid b1
  clear b1
  go_wp2
  go_loopw [3] (fun i wr => PaRel w len a wr i) (fun i _ => len - (intOf i).toNat)
  case atStart => exact ⟨0, ts, rfl, (by have := HL.out; omega), ROW.out, B1⟩
  case round =>
    obtain ⟨j, rest, rfl, hj, hrow, HB⟩ := hrel
    have hbw : w.heap.size ≤ wr.heap.size := HB.out.size
    by_cases hlt : j < len
    · obtain ⟨h', k', r', rfl⟩ : ∃ h' k' r', rest = .cons h' k' r' := by
        cases rest with
        | nil => exact absurd hj (by simp only [Trees.len]; omega)
        | cons x y z => exact ⟨x, y, z, rfl⟩
      obtain ⟨b1, off, ka', kl', kc', rfl, hb1, nd0, tv0⟩ := hrow.head
      have HR := Lib.hid hrow.2
      have ND := Lib.hid nd0; have TO := Lib.hid tv0
      have ND1 := Lib.hid (nd0.kept HB.out hb1)
      have hji : (j : Int) < (len : Int) := by omega
      have hj0 : (0 : Int) ≤ (j : Int) := by omega
      simp only [Trees.len] at hj
      have HJ := Lib.hid hj
      clear hrow nd0 tv0 hj
      go_wp2_with (refine wpList_load_nd rfl rfl rfl ND1.out ?_)
      have cf := refFormula_any h' k' wr w.heap.size ka' kl' kc' hbw (TO.out.kept HB.out (Nat.le_refl _))
      refine cf.mono ?_
      clear cf
      rintro e w2 ⟨rfl, b2⟩
      have B2 := Lib.hid (HB.out.trans (b2.mono hbw))
      have ND2 := Lib.hid (ND.out.kept B2.out hb1)
      have hs2 : w.heap.size ≤ w2.heap.size := B2.out.size
      clear b2 ND1
      by_cases f : Fine h' k'
      rotate_left
      · have hm : mayE h' k' = 2 := by rw [mayE, if_neg f]
        have hf : formL h' k' = [] := by rw [formL, if_neg (by rw [hm]; decide)]
        rw [hm, hf]
        clear f
        have he0 : (strB []).toList = [] := (ByteArray.toList_eq _).trans rfl
        go_wp2_with (refine wpList_load_nd rfl rfl rfl ND2.out ?_)
        have cf := formula_any h' k' w2 w.heap.size ka' kl' kc' hs2 (TO.out.kept B2.out (Nat.le_refl _)) (HT0.out.kept B2.out)
        refine cf.mono ?_
        clear cf
        unfold FormPost
        rw [hm, hf]
        rintro e w3 ⟨rfl, b3⟩
        have B3 := Lib.hid (B2.out.trans (b3.mono hs2))
        clear b3
        go_wp2
        go_roundw
        case rel => exact ⟨j + 1, r', by go_num, (by have := HJ.out; omega), HR.out, B3⟩
        case measure => simp [intOf]; omega
      · have hno : k'.nodes ≤ 100000 := fine_nodes f
        have hm : (mayE h' k' == 2) = false := by unfold mayE; rw [if_pos f]; split <;> rfl
        obtain ⟨fl, hfl⟩ : ∃ fl, fl = strB (formL h' k') := ⟨_, rfl⟩
        obtain ⟨me, hme⟩ : ∃ me, me = mayE h' k' := ⟨_, rfl⟩
        have EF := Lib.hid (show FormPost h' k' = fun w e w' => e = .returned (.tuple #[.string fl, .int .i64 me]) ∧ Below w.heap.size w w' by rw [hfl, hme]; rfl)
        rw [← hfl, ← hme]
        rw [← hme] at hm
        clear f hfl hme
        go_wp2_with (refine wpList_load_nd rfl rfl rfl ND2.out ?_)
        have cc := lay_any h' k' w2 w.heap.size ka' kl' kc' hs2 (TO.out.kept B2.out (Nat.le_refl _)) hno
        refine cc.mono ?_
        clear cc
        rintro e w3 ⟨ta, tl, tc, Ft, rfl, b3, ft, lt⟩
        have LT := Lib.hid lt
        have OT := Lib.hid ft.own
        have HT := Lib.hid (show ∀ q ∈ Ft, w2.heap.size ≤ q ∧ q < w3.heap.size from fun q hq => ⟨ft.new q hq, ft.lt q hq⟩)
        have NT := Lib.hid ft.once
        have B3 := Lib.hid (B2.out.trans (b3.mono hs2))
        have hs3 : w2.heap.size ≤ w3.heap.size := b3.size
        clear lt ft b3
        go_wp2_with (first
        | (refine wpList_store_mem (N := w3.heap.size) (off := 0) (vs := [.int .i64 h'.kind, .int .i64 h'.op, .int .i64 h'.num, .string ⟨h'.text.toArray⟩, .int .i64 h'.ref.row, .int .i64 h'.ref.col, .bool h'.ref.pr, .bool h'.ref.pc, .int .i64 h'.to.row, .int .i64 h'.to.col, .bool h'.to.pr, .bool h'.to.pc, .int .i64 h'.fn, .slice ta tl tc]) infoExprS rfl rfl rfl rfl (heap_alloc_new w3 (.cells #[.int .i64 0, .int .i64 0, .int .i64 0, .string ⟨#[]⟩, .int .i64 0, .int .i64 0, .bool false, .bool false, .int .i64 0, .int .i64 0, .bool false, .bool false, .int .i64 0, .slice none 0 0] 30)) (by simp) rfl (by simp [Value.oneCell']) ?_
           intro w4 hWn
           have BX4 := Lib.hid (show w4.heap[w3.heap.size]? = some (.cells #[.int .i64 h'.kind, .int .i64 h'.op, .int .i64 h'.num, .string ⟨h'.text.toArray⟩, .int .i64 h'.ref.row, .int .i64 h'.ref.col, .bool h'.ref.pr, .bool h'.ref.pc, .int .i64 h'.to.row, .int .i64 h'.to.col, .bool h'.to.pr, .bool h'.to.pc, .int .i64 h'.fn, .slice ta tl tc] 30 (0, 0)) by rw [hWn]; exact setCells_all (vs := [.int .i64 h'.kind, .int .i64 h'.op, .int .i64 h'.num, .string ⟨h'.text.toArray⟩, .int .i64 h'.ref.row, .int .i64 h'.ref.col, .bool h'.ref.pr, .bool h'.ref.pc, .int .i64 h'.to.row, .int .i64 h'.to.col, .bool h'.to.pr, .bool h'.to.pc, .int .i64 h'.fn, .slice ta tl tc]) (heap_alloc_new w3 (.cells #[.int .i64 0, .int .i64 0, .int .i64 0, .string ⟨#[]⟩, .int .i64 0, .int .i64 0, .bool false, .bool false, .int .i64 0, .int .i64 0, .bool false, .bool false, .int .i64 0, .slice none 0 0] 30)) rfl)
           have BN := Lib.hid (show Below w3.heap.size w3 w4 by rw [hWn]; exact setCells_below (Nat.le_refl _) _ _ (ext_alloc (Below.refl _ w3) _))
           have hs4 : w3.heap.size ≤ w4.heap.size := BN.out.size
           have hl4 : w3.heap.size < w4.heap.size := lt_of_block BX4.out
           have B4 := Lib.hid (B3.out.trans (BN.out.mono (Nat.le_trans hs2 hs3)))
           clear hWn)
        | (refine wpList_load_X rfl rfl rfl BX4.out rfl ?_))
        have LT4 := Lib.hid (LT.out.kept (ok' := fun q => w2.heap.size ≤ q ∧ q < w3.heap.size) fun q hq => ⟨hq, BN.out.block q hq.2⟩)
        have OT4 := Lib.hid (OT.out.kept fun q hq => BN.out.block q (HT.out q hq).2)
        have TV4 := Lib.hid (OT4.out.tv (h := h') (fun q hq => Nat.lt_of_lt_of_le (HT.out q hq).2 hs4) LT.out.hok)
        clear LT OT BN
        have cf := formula_any h' k' w4 w4.heap.size ta tl tc (Nat.le_refl _) TV4.out (HT0.out.kept B4.out)
        rw [EF.out] at cf
        refine cf.mono ?_
        clear cf
        rintro e w5 ⟨rfl, b5⟩
        have LT := Lib.hid (LT4.out.kept (ok' := fun q => w2.heap.size ≤ q ∧ q < w3.heap.size) fun q hq => ⟨hq, b5.block q (by omega)⟩)
        have OT := Lib.hid (OT4.out.kept fun q hq => b5.block q (by have := HT.out q hq; omega))
        have BX5 := Lib.hid (blk_below b5 BX4.out)
        have hs5 : w4.heap.size ≤ w5.heap.size := b5.size
        have B5 := Lib.hid (B4.out.trans (b5.mono (by omega)))
        clear b5 LT4 OT4 TV4 BX4 EF
        go_upto_region 13 with (fail)
        refine wp_region_noPanic ?_
        refine wp_region_held_drew (S := fun W => Spd Ft w5 W) (by kernel_rfl) (Spd.of (Below.refl _ _).drew) (fun hS1 => ?_)
        have bd : Below w5.heap.size w5 w5.drew := (Below.refl _ _).drew
        have LTd := Lib.hid (LT.out.kept (ok' := fun q => w2.heap.size ≤ q ∧ q < w3.heap.size) fun q hq => ⟨hq, bd.block q (by omega)⟩)
        have OTd := Lib.hid (OT.out.kept fun q hq => bd.block q (by have := HT.out q hq; omega))
        have TOd := Lib.hid ((TO.out.kept B5.out (Nat.le_refl _)).kept (bd.mono (by omega)) (Nat.le_refl _))
        clear bd
        refine wpAnyH_take (i := 0) (oi := { dst := some 55, op := Go.Op.load 30 (Go.Operand.tmp 8), type := 30, pos := "law.go:46", after := #[], guard := none }) (v := (.agg #[.int .i64 h'.kind, .int .i64 h'.op, .int .i64 h'.num, .string ⟨h'.text.toArray⟩, .int .i64 h'.ref.row, .int .i64 h'.ref.col, .bool h'.ref.pr, .bool h'.ref.pc, .int .i64 h'.to.row, .int .i64 h'.to.col, .bool h'.to.pr, .bool h'.to.pc, .int .i64 h'.fn, .slice ta tl tc])) rfl (by kernel_rfl) (by kernel_rfl) (by kernel_rfl) (fun _ _ _ h => h) (yieldsIf_load_mid (by rfl) 30 _ rfl w3.heap.size 0 rfl [.int .i64 h'.kind, .int .i64 h'.op, .int .i64 h'.num, .string ⟨h'.text.toArray⟩, .int .i64 h'.ref.row, .int .i64 h'.ref.col, .bool h'.ref.pr, .bool h'.ref.pc, .int .i64 h'.to.row, .int .i64 h'.to.col, .bool h'.to.pr, .bool h'.to.pc, .int .i64 h'.fn, .slice ta tl tc] _ (fun W hW => box_rng ((hW.same w3.heap.size (lt_of_block BX5.out) (fun hm => by have := HT.out _ hm; omega)).trans BX5.out)) Tryd.underlying30 rfl infoExprS) hS1 ?_
        try simp only [Act.put, List.setIfInBounds_toArray, List.set_cons_zero, List.set_cons_succ]
        refine wpAnyH_take (i := 1) (oi := { dst := some 56, op := Go.Op.move (Go.Operand.tmp 0), type := 22, pos := "law.go:46", after := #[], guard := none }) (v := (.slice (some ⟨b1, off, none⟩) len cap)) rfl (by kernel_rfl) (by kernel_rfl) (by kernel_rfl) (fun _ _ _ h => h) (Or.inl ⟨by rfl, fun W hW => by first | (go_simp; done) | (go_simp; with_reducible rfl)⟩) hS1 ?_
        try simp only [Act.put, List.setIfInBounds_toArray, List.set_cons_zero, List.set_cons_succ]
        refine wpAnyH_take (i := 2) (oi := { dst := some 57, op := Go.Op.move (Go.Operand.tmp 3), type := 3, pos := "law.go:46", after := #[], guard := none }) (v := (.int .i64 j)) rfl (by kernel_rfl) (by kernel_rfl) (by kernel_rfl) (fun _ _ _ h => h) (Or.inl ⟨by rfl, fun W hW => by first | (go_simp; done) | (go_simp; with_reducible rfl)⟩) hS1 ?_
        try simp only [Act.put, List.setIfInBounds_toArray, List.set_cons_zero, List.set_cons_succ]
        refine wpAnyH_take (i := 3) (oi := { dst := some 58, op := Go.Op.indexAddr 22 (Go.Operand.tmp 56) (Go.Operand.tmp 57), type := 0, pos := "law.go:46", after := #[{ on := 1, ground := Go.Ground.data }, { on := 2, ground := Go.Ground.data }], guard := none }) (v := (.pointer (some ⟨b1, off + j * 14, none⟩))) rfl (by kernel_rfl) (by kernel_rfl) (by kernel_rfl) (fun _ _ _ h => h) (Or.inl ⟨by rfl, fun W hW => by first | (go_simp; done) | (go_simp; with_reducible rfl)⟩) hS1 ?_
        try simp only [Act.put, List.setIfInBounds_toArray, List.set_cons_zero, List.set_cons_succ]
        refine wpAnyH_take (i := 4) (oi := { dst := some 59, op := Go.Op.load 30 (Go.Operand.tmp 58), type := 30, pos := "law.go:46", after := #[{ on := 3, ground := Go.Ground.data }], guard := none }) (v := (.agg #[.int .i64 h'.kind, .int .i64 h'.op, .int .i64 h'.num, .string ⟨h'.text.toArray⟩, .int .i64 h'.ref.row, .int .i64 h'.ref.col, .bool h'.ref.pr, .bool h'.ref.pc, .int .i64 h'.to.row, .int .i64 h'.to.col, .bool h'.to.pr, .bool h'.to.pc, .int .i64 h'.fn, .slice ka' kl' kc'])) rfl (by kernel_rfl) (by kernel_rfl) (by kernel_rfl) (fun _ _ _ h => h) (yieldsIf_load_mid (by rfl) 30 _ rfl b1 (off + j * 14) rfl [.int .i64 h'.kind, .int .i64 h'.op, .int .i64 h'.num, .string ⟨h'.text.toArray⟩, .int .i64 h'.ref.row, .int .i64 h'.ref.col, .bool h'.ref.pr, .bool h'.ref.pc, .int .i64 h'.to.row, .int .i64 h'.to.col, .bool h'.to.pr, .bool h'.to.pc, .int .i64 h'.fn, .slice ka' kl' kc'] _ (fun W hW => fun q x hx => (World.cell?_of_block (a := ⟨b1, off + j * 14 + q, none⟩) (hW.same b1 (by omega) (fun hm => by have := HT.out _ hm; omega))).trans ((ND.out.kept B5.out hb1).2 q x hx)) Tryd.underlying30 rfl infoExprS) hS1 ?_
        try simp only [Act.put, List.setIfInBounds_toArray, List.set_cons_zero, List.set_cons_succ]
        refine wpAnyH_ready (rs := [5]) (by kernel_rfl) (by simp) ?_
        refine AllReadyH.cons (o := { dst := some 60, op := Go.Op.call { callee := Go.Callee.value (Go.Operand.func 15), args := #[Go.Operand.tmp 55, Go.Operand.tmp 59], argTypes := #[30, 30] }, type := 4, pos := "law.go:46", after := #[{ on := 0, ground := Go.Ground.data }, { on := 4, ground := Go.Ground.data }], guard := none }) rfl (fun K hK => ?_) AllReadyH.nil
        refine wanted_wp (by rfl) ?_
        go_simp
        go_at_call 15
        have cc := kept9_any h' k' w5.drew (fun q => w2.heap.size ≤ q ∧ q < w3.heap.size) w.heap.size Ft ta ka' tl tc kl' kc' (fun q hq => by have : w5.drew.heap.size = w5.heap.size := rfl; omega) (by have : w5.drew.heap.size = w5.heap.size := rfl; omega) LTd.out OTd.out NT.out (fun q hq => by have := HT.out q hq; have : w5.drew.heap.size = w5.heap.size := rfl; omega) hno TOd.out
        with_reducible refine cc.mono ?_
        clear cc
        rintro e w20 ⟨rfl, sq⟩
        refine hK.out _ _ (hS1.trans sq fun q hq => .inl hq) (fun hS1 => ?_)
        clear hK K sq LTd OTd TOd
        try simp only [Act.put, List.setIfInBounds_toArray, List.set_cons_zero, List.set_cons_succ]
        refine wpAnyH_take (i := 6) (oi := { dst := some 11, op := Go.Op.assign (Go.Operand.tmp 60), type := 4, pos := "law.go:46", after := #[{ on := 5, ground := Go.Ground.data }, { on := 5, ground := Go.Ground.chain }, { on := 0, ground := Go.Ground.phase }, { on := 1, ground := Go.Ground.phase }, { on := 2, ground := Go.Ground.phase }, { on := 3, ground := Go.Ground.phase }, { on := 4, ground := Go.Ground.phase }, { on := 5, ground := Go.Ground.phase }], guard := none }) (v := (.bool true)) rfl (by kernel_rfl) (by kernel_rfl) (by kernel_rfl) (fun _ _ _ h => h) (Or.inl ⟨by rfl, fun W hW => by first | (go_simp; done) | (go_simp; with_reducible rfl)⟩) hS1 ?_
        try simp only [Act.put, List.setIfInBounds_toArray, List.set_cons_zero, List.set_cons_succ]
        refine wpAnyH_done (by kernel_rfl) ?_ _
        refine NoPanic.normal ?_
        have B6 := Lib.hid (B5.out.trans (hS1.below (B := w.heap.size) (by omega) (fun q hq => by have := HT.out q hq; omega)))
        clear hS1
        go_wp2
        go_roundw
        case rel => exact ⟨j + 1, r', by go_num, (by have := HJ.out; omega), HR.out, B6⟩
        case measure => simp [intOf]; omega
    · clear hrow
      go_wp2
      go_ret
      exact ⟨rfl, HB.out⟩
end Go.Proofs.YtnhgeojcelegbaaDoor

namespace Go.Proofs.YtnhgeojcelegbaaDoor
open Go.ChangeShapes Go.WideShapes Go.ChangeAt Go.RowKit
set_option maxRecDepth 100000 in
theorem printAll_lifted (os : Os) (started : os.Started) (H : Type) (enc : TypeId × Value → H) :
    ReturnsInHanded {} Tryd.checked os 3 .any (fun w args => (Rows.printAllSpec.pre enc Tryd.prog Tryd.f3 [] false w args ∧ laidMetH Tryd.prog Rows.printAllRow.laid w) ∧ sizedMet enc Tryd.prog Tryd.f3 (OpenSpec.ofChange Rows.printAllSpec) false w args)
      (Rows.printAllSpec.post enc Tryd.prog Tryd.f3 false true false false) := by
  refine lift_lawS (C := Tryd.checked) (tb := 4) (laidVars := Rows.printAllRow.laid) own started (by kernel_rfl) Tryd.func3
    (ChangeSpec.witness_shaped (enc := enc) (C := Tryd.checked) (os := os) (X := fun w _ => laidMetH Tryd.prog Rows.printAllRow.laid w) false (World.laidAll Tryd.prog os Rows.printAllRow.laid) #[.slice none 0 0] 8 (World.laidAll_os _ _ _)
      (World.shaped_of_ZipB (by kernel_rfl) (by kernel_rfl)) (by kernel_rfl) (by kernel_rfl) (by kernel_rfl)
      (by rw [MakeChecks.laidMetH_plain _ _ _ (by kernel_rfl)]; exact laidMet_laidAll _ (by kernel_rfl) (by kernel_rfl))) laidOut (by kernel_rfl) rfl Tryd.underlying4 rfl ?_ ?_
  · rintro ds hl
    match ds, hl with
    | [_], _ => exact ⟨rfl, rfl, rfl⟩
  · intro W base args ds p hval0 hA hlt hsz hL hsh
    have hval : ∀ (j : Nat) t v, Tryd.f3.params[j]? = some t → args[j]? = some v → Value.okWide Tryd.prog W .any base t v := hval0
    clear hval0
    rw [Tryd.params3] at hA hsz hval
    obtain ⟨v0, vs0, d0, ds0, p0, q0, hargs, rfl, rfl, h0, r0⟩ := trodAll_cons hA
    obtain ⟨rfl, rfl, rfl⟩ := trodAll_nil r0
    obtain rfl : args = #[v0] := by cases args; simp_all
    have TW : TabW W := tabW_of hL hsh
    obtain ⟨a0, len0, cap0, rfl⟩ := okWide_slice Tryd.underlying22 (hval 0 _ _ rfl rfl)
    have hw : ∀ n ∈ d0.weights Tryd.prog 22, n ≤ reachBytes := fun n hn => by have := List.all_eq_true.1 hsz n (DataW.weights_mem_each (P := Tryd.prog) (j := 0) rfl rfl n hn); simpa using this
    obtain ⟨ts, e1, e2, row⟩ := trees_of_trod h0 hw
    exact printAll_any W a0 len0 cap0 ts e1 e2 row TW

theorem printAll_row : Rows.PrintAllSaid :=
  OpenClaim.holds_of_wide 3 Tryd.f3 rfl rfl rfl rfl rfl rfl rfl ⟨rfl, rfl, rfl, rfl, rfl⟩ rfl rfl rfl rfl rfl (by kernel_rfl) Tryd.func3 (by kernel_rfl)
    (of_decide_eq_true (by kernel_rfl)) (by unfold Func.isWrapper; first | (rw [if_pos (by decide +kernel)]; kernel_rfl) | (rw [if_neg (by decide +kernel)]; exact ⟨rfl, rfl⟩))
    (fun os started H enc _ => printAll_lifted os started H enc)
theorem printAll_holds : Rows.PrintAllCardSaid :=
  Claim7.holds_tied_plain_at .later [] Rows.printAllCard.laidKinds true Rows.printAllCard.stood.harness Rows.printAllCard.stood.looks printAll_row (fun _ h => by cases h) (by kernel_rfl) (fun _ h => by cases h) printAll_row_tie rfl ⟨rfl, rfl⟩ (by kernel_rfl) rfl
    (fun f fn hf hfn => by
      obtain rfl : f = 3 := Option.some.inj ((show Tryd.prog.funcNamed "quadrille/quadrillelaw11.PrintAll" = some 3 by kernel_rfl).symm.trans hf) |>.symm
      obtain rfl : fn = Tryd.f3 := (Option.some.inj (Tryd.func3.symm.trans hfn)).symm
      exact ⟨by kernel_rfl, fun j t ht => by
        rw [Tryd.params3] at ht
        have hm : t ∈ ([22] : List TypeId) := by simpa using Array.mem_of_getElem? ht
        have hall : (([22] : List TypeId).all fun u => !Tryd.prog.wantsStandIn u) = true := by kernel_rfl
        exact (show Tryd.prog.wantsStandIn t = false by simpa using List.all_eq_true.1 hall t hm)⟩)
    (by kernel_rfl)
#print axioms printAll_holds
end Go.Proofs.YtnhgeojcelegbaaDoor
