/- print.Formula: a formula's one text. -/
import Derived.Test.YtnhgeojcelegbaaDoorPrC
import Derived.Test.YtnhgeojcelegbaaDoorPrD
import Derived.Test.YtnhgeojcelegbaaDoorPrE
import Derived.Test.YtnhgeojcelegbaaDoorPrJ
import Derived.Deep.MidRow
namespace Go.Proofs.YtnhgeojcelegbaaDoor
open Go.RowKit Go.Lib

theorem lay_node {w0 : World} {N : Ns} (T : TabW w0) (h : Hd) (ks : Trees) (A : AllT (LayS w0 N) ks) : LayS w0 N h ks := by
  intro W wa bs b off ka kl kc hb nd tv P hl hy hf
  have hg := (good_of (h := h) (n := ks.len) (by simp only [treeFits, Bool.and_eq_true] at hf; exact hf.1)).1
  obtain ⟨kind, op, num, text, ref, tr, fn⟩ := h
  simp only at hg
  rcases (show kind = 1 ∨ kind = 2 ∨ kind = 3 ∨ kind = 4 ∨ kind = 5 ∨ kind = 6 ∨ kind = 7 ∨ kind = 8 ∨ kind = 9 by omega) with hk1 | hk2 | hk3 | hk4 | hk5 | hk6 | hk7 | hk8 | hk9
  · subst hk1
    exact lay_k1 T _ _ _ _ _ _ _ W wa bs b off ka kl kc hb nd tv P hl hy hf
  · subst hk2
    exact lay_k2 T _ _ _ _ _ _ _ W wa bs b off ka kl kc hb nd tv P hl hy hf
  · subst hk3
    exact lay_k3 T _ _ _ _ _ _ _ W wa bs b off ka kl kc hb nd tv P hl hy hf
  · subst hk4
    exact lay_k4 T _ _ _ _ _ _ _ W wa bs b off ka kl kc hb nd tv P hl hy hf
  · subst hk5
    exact lay_k5 T _ _ _ _ _ _ _ W wa bs b off ka kl kc hb nd tv P hl hy hf
  · subst hk6
    exact lay_k6 T _ _ _ _ _ _ _ W wa bs b off ka kl kc hb nd tv P hl hy hf
  · subst hk7
    exact lay_k7 T _ _ _ _ _ _ _ A W wa bs b off ka kl kc hb nd tv P hl hy hf
  · subst hk8
    exact lay_k8 T _ _ _ _ _ _ _ A W wa bs b off ka kl kc hb nd tv P hl hy hf
  · subst hk9
    exact lay_k9 T _ _ _ _ _ _ _ A W wa bs b off ka kl kc hb nd tv P hl hy hf
theorem lay_all {w0 : World} {N : Ns} (T : TabW w0) (h : Hd) (ks : Trees) : LayS w0 N h ks := lay_node T h ks (allT (fun h k a => lay_node T h k a) ks)
theorem infoExprP : (Tryd.prog.info? 30).map (·.size) = some 14 := by kernel_rfl
theorem wpList_load_X {ops : Array Oper} {Q : Exit → Act → World → Prop} {rest : List Oper} {a : Act} {o : Oper} {s : Operand} {w : World} {n : Nat} {cs : Array Value} {T' : TypeId} (hg : o.guard = none) (ho : o.op = Op.load 30 s) (ha : a.eval s = .pointer (some ⟨n, 0, none⟩)) (hb : w.heap[n]? = some (.cells cs T' (0, 0))) (hl : cs.size = 14) (h : wpList Tryd.prog ops Q rest (a.put o.dst (.agg cs)) w) : wpList Tryd.prog ops Q (o :: rest) a w :=
  wpList_load_mid hg _ s ho n 0 ha cs.toList _ (fun j v hv => by rw [← hv]; simp [World.cell?, hb]) Tryd.underlying30 rfl (by simpa [hl] using infoExprP) (by simpa using h)
theorem heap_up {W : World} {b : Nat} {o : Obj} (x : Obj) (h : W.heap[b]? = some o) : (W.alloc x).heap[b]? = some o := blk_below (ext_alloc (Below.refl _ _) x) h
theorem heap_at {W : World} {b : Nat} (o : Obj) (h : W.heap.size = b) : (W.alloc o).heap[b]? = some o := by subst h; exact heap_alloc_new W o
def nsAt (n5 m q : Nat) : Ns := ⟨n5, m, q, q + 1, q + 1 + 1, q + 1 + 1 + 1, q + 1 + 1 + 1 + 1⟩
/-- The world when all closures stand. -/
def layW (w : World) (n5 m : Nat) : World :=
  ((((w.alloc (.cells #[.map (some m)] 73)).alloc (.cells #[levV (nsAt n5 m w.heap.size)] 78)).alloc (.cells #[refV (nsAt n5 m w.heap.size)] 81)).alloc (.cells #[layV (nsAt n5 m w.heap.size)] 82)).alloc (.cells #[fromV (nsAt n5 m w.heap.size)] 83)
theorem layW_bel (w : World) (n5 m : Nat) : Below w.heap.size w (layW w n5 m) := ext_alloc (ext_alloc (ext_alloc (ext_alloc (ext_alloc (Below.refl _ _) _) _) _) _) _
theorem layW_init {w0 w : World} {n5 m : Nat} {p : Value} {bs : List UInt8} (bld : BuilderAtF 69 5 w0.heap.size n5 p (byteCells bs) w) (hp : p = .pointer (some ⟨n5, 0, none⟩)) (own : w.ownsMap Tryd.prog 3 sgR m 12 (signsD 12)) (bel : Below w0.heap.size w0 w) (hm : m ≠ n5) :
    PrW w0 (nsAt n5 m w.heap.size) (layW w n5 m) bs (layW w n5 m) := by
  subst hp
  have hn := bld.lt
  have lb := layW_bel w n5 m
  refine ⟨bel.trans (lb.mono bel.size), .inr (bldF_below bld lb), own.kept (row := none) ⟨lb.os, lb.tape, lb.output, lb.size, fun k hk _ => lb.block k hk⟩ (by simp), ?_, ?_, ?_, ?_, ?_, ⟨hm, ?_, ?_, ?_, ?_, ?_⟩, OthersKept.refl _ _ _⟩
  · exact heap_up _ (heap_up _ (heap_up _ (heap_up _ (heap_at _ rfl))))
  · exact heap_up _ (heap_up _ (heap_up _ (heap_at _ (by simp [nsAt]))))
  · exact heap_up _ (heap_up _ (heap_at _ (by simp [nsAt])))
  · exact heap_up _ (heap_at _ (by simp [nsAt]))
  · exact heap_at _ (by simp [nsAt])
  all_goals (simp only [nsAt]; omega)
def FormPost (h : Hd) (ks : Trees) (w : World) (e : Ending) (w' : World) : Prop := e = .returned (.tuple #[.string (strB (formL h ks)), .int .i64 (mayE h ks)]) ∧ Below w.heap.size w w'
set_option maxRecDepth 100000 in
set_option maxHeartbeats 2000000 in
theorem formula_any (nd : Hd) (ks : Trees) (w : World) (B : Nat) (ka : Option Addr) (kl kc : Nat) (hB : B ≤ w.heap.size) (tv : TreeV w B nd ks ka kl) (T : TabW w) :
    Calls Tryd.prog 13 #[.agg #[.int .i64 nd.kind, .int .i64 nd.op, .int .i64 nd.num, .string ⟨nd.text.toArray⟩, .int .i64 nd.ref.row, .int .i64 nd.ref.col, .bool nd.ref.pr, .bool nd.ref.pc, .int .i64 nd.to.row, .int .i64 nd.to.col, .bool nd.to.pr, .bool nd.to.pc, .int .i64 nd.fn, .slice ka kl kc]] w (FormPost nd ks w) := by
  have HTV := Lib.hid tv; have HT := Lib.hid T
  clear tv T
  go_enter Tryd.func13, Tryd.ntmps13
  go_upto_region 1 with (fail)
  have N0 := node_box w nd (.slice ka kl kc)
  have BX : (w.alloc (.cells #[.int .i64 nd.kind, .int .i64 nd.op, .int .i64 nd.num, .string ⟨nd.text.toArray⟩, .int .i64 nd.ref.row, .int .i64 nd.ref.col, .bool nd.ref.pr, .bool nd.ref.pc, .int .i64 nd.to.row, .int .i64 nd.to.col, .bool nd.to.pr, .bool nd.to.pc, .int .i64 nd.fn, .slice ka kl kc] 30)).heap[w.heap.size]? = some (.cells #[.int .i64 nd.kind, .int .i64 nd.op, .int .i64 nd.num, .string ⟨nd.text.toArray⟩, .int .i64 nd.ref.row, .int .i64 nd.ref.col, .bool nd.ref.pr, .bool nd.ref.pc, .int .i64 nd.to.row, .int .i64 nd.to.col, .bool nd.to.pr, .bool nd.to.pc, .int .i64 nd.fn, .slice ka kl kc] 30 (0, 0)) := heap_alloc_new w _
  have b0 : Below w.heap.size w (w.alloc (.cells #[.int .i64 nd.kind, .int .i64 nd.op, .int .i64 nd.num, .string ⟨nd.text.toArray⟩, .int .i64 nd.ref.row, .int .i64 nd.ref.col, .bool nd.ref.pr, .bool nd.ref.pc, .int .i64 nd.to.row, .int .i64 nd.to.col, .bool nd.to.pr, .bool nd.to.pc, .int .i64 nd.fn, .slice ka kl kc] 30)) := ext_alloc (Below.refl _ _) _
  have hs1 : (w.alloc (.cells #[.int .i64 nd.kind, .int .i64 nd.op, .int .i64 nd.num, .string ⟨nd.text.toArray⟩, .int .i64 nd.ref.row, .int .i64 nd.ref.col, .bool nd.ref.pr, .bool nd.ref.pc, .int .i64 nd.to.row, .int .i64 nd.to.col, .bool nd.to.pr, .bool nd.to.pc, .int .i64 nd.fn, .slice ka kl kc] 30)).heap.size = w.heap.size + 1 := by simp
  generalize w.alloc (.cells #[.int .i64 nd.kind, .int .i64 nd.op, .int .i64 nd.num, .string ⟨nd.text.toArray⟩, .int .i64 nd.ref.row, .int .i64 nd.ref.col, .bool nd.ref.pr, .bool nd.ref.pc, .int .i64 nd.to.row, .int .i64 nd.to.col, .bool nd.to.pr, .bool nd.to.pc, .int .i64 nd.fn, .slice ka kl kc] 30) = w0 at *
  have TV0 := Lib.hid (((HTV.out.kept b0 hB).mono (Nat.le_trans hB (Nat.le_succ _))).mono (Nat.le_of_eq hs1.symm))
  have T0 := Lib.hid (HT.out.kept b0)
  have HBX := Lib.hid BX; have HN0 := Lib.hid N0; have HB0 := Lib.hid b0; have HS1 := Lib.hid hs1
  have hlt : w.heap.size < w0.heap.size := by omega
  clear BX N0 b0 hs1
  go_wp2_with (refine wpList_load_X rfl rfl rfl HBX.out rfl ?_)
  refine (may_any nd ks w0 w0.heap.size ka kl kc (Nat.le_refl _) TV0.out).mono ?_
  rintro e w1 ⟨rfl, b1⟩
  have B1 := Lib.hid b1
  clear b1
  obtain ⟨x, hx⟩ : ∃ x, mayE nd ks = x := ⟨_, rfl⟩
  rw [hx]
  have HX := Lib.hid hx
  clear hx
  by_cases h0 : x = 0
  rotate_left
  · have hb : (x != 0) = true := by simpa using h0
    go_wp2
    go_ret2
    exact ⟨by rw [formL, HX.out, if_neg h0]; rfl, HB0.out.trans (B1.out.mono (Nat.le_of_lt hlt))⟩
  · subst h0
    have hn5 : w0.heap.size ≤ w1.heap.size := B1.out.size
    have BD0 : IsBuilderF 69 5 w0.heap.size w1.heap.size (byteCells []) (w1.alloc (.cells #[.pointer none, .slice none 0 0] 69)) :=
      .inl ⟨hn5, .slice none 0 0, heap_alloc_new w1 _, World.ownsRowF_nil _ _ _ _, by simp [Value.ownBlock]⟩
    have B2 := Lib.hid (B1.out.alloc hn5 (.cells #[.pointer none, .slice none 0 0] 69))
    have hn5' : w1.heap.size < (w1.alloc (.cells #[.pointer none, .slice none 0 0] 69)).heap.size := by simp
    go_wp2_with fail
    generalize w1.alloc (.cells #[.pointer none, .slice none 0 0] 69) = w2 at *
    have HBD0 := Lib.hid BD0
    clear BD0
    generalize w1.heap.size = n5 at *
    refine (Tryd.Builder_WriteByte_k w0.heap.size n5 (byteCells []) 61 w2 HBD0.out (by simp [byteCells]) B2.out.size).mono ?_
    rintro e w3 ⟨rfl, bd, bel, -⟩
    have BD1 := Lib.hid bd
    have B3 := Lib.hid (B2.out.trans bel)
    have hn53 : n5 < w3.heap.size := bd.lt
    clear bd bel
    go_wp2_with fail
    refine (signs_any w3).mono ?_
    rintro e w4 ⟨rfl, sg⟩
    have SG := Lib.hid sg
    have BD2 := Lib.hid (bldF_below BD1.out sg.bel)
    have B4 := Lib.hid (B3.out.trans (sg.bel.mono B3.out.size))
    have hm4 : w3.heap.size < w4.heap.size := sg.own.lt
    clear sg
    have hmn : w3.heap.size ≠ n5 := by omega
    have hx : w.heap.size < w4.heap.size := by omega
    go_upto_region 12 with (fail)
    have PI := layW_init (bs := [61]) BD2.out rfl SG.out.own B4.out hmn
    have HPI := Lib.hid PI
    clear PI
    change Code.wp _ _ _ _ (layW w4 n5 w3.heap.size)
    have hmay := HX.out
    have hfine : Fine nd ks ∧ treeFits nd ks = true := by
      unfold mayE at hmay
      split at hmay
      · rename_i f
        split at hmay
        · rename_i t; exact ⟨f, t⟩
        · cases hmay
      · cases hmay
    obtain ⟨⟨f1, f2, f3⟩, hfit⟩ := hfine
    have hroom : roomH nd ks ≤ 1000000 := by
      have hft := hfit
      simp only [treeFits, Bool.and_eq_true] at hft
      have h1 := room_fine ks hft.2
      have h2 := text_bytes hft.1
      unfold roomH
      omega
    have lay := lay_all T0.out (N := nsAt n5 w3.heap.size w4.heap.size) nd ks (layW w4 n5 w3.heap.size) (layW w4 n5 w3.heap.size) [61] w.heap.size 0 ka kl kc hlt HN0.out TV0.out HPI.out (by simp only [List.length_cons, List.length_nil]; omega) f3 hfit
    have LAY := Lib.hid lay
    have d9 := HPI.out.d9
    simp only [nsAt] at d9
    clear lay hmay f1 f2 f3 hfit
    go_wp2_with fail
    refine LAY.out.mono ?_
    rintro e w6 ⟨rfl, P6⟩
    have H6 := Lib.hid P6
    clear P6 d9
    go_wp2_with fail
    refine (Tryd.Builder_String_any_k w0.heap.size n5 ([61] ++ textL nd ks) w6 H6.out.bld H6.out.bel.size).mono ?_
    rintro e w7 ⟨rfl, -, bel, -⟩
    have B7 := Lib.hid (HB0.out.trans ((H6.out.bel.trans bel).mono (Nat.le_of_lt hlt)))
    clear bel
    go_wp2
    go_ret2
    exact ⟨by rw [formL, HX.out, if_pos rfl]; rfl, B7.out⟩
end Go.Proofs.YtnhgeojcelegbaaDoor
