/- Shifting: a tree with its references moved, in memory of its own. -/
import Derived.Test.YtkjfeakbhfkldaaMhG
import Derived.Test.YtkjfeakbhfkldaaMhD
import Derived.Test.YtkjfeakbhfkldaaTreeJ
namespace Go.Proofs.Ytkjfeakbhfkldaa
open Go.RowKit

def capsP (D D2 : Nat) : Array Value := #[.pointer (some ⟨D, 0, none⟩), .pointer (some ⟨D2, 0, none⟩)]
theorem paste_spec (lim D D2 : Nat) (dr dc : Int) (hD : D < lim ∧ D2 < lim) (h1 : I64 dr) (h2 : I64 dc) : MovSpec (.func (.func 70) #[] (capsP D D2)) 70 (capsP D D2) lim ⟨1, dr, dc, 0, 0⟩ (BoxE D D2 dr dc) :=
  ⟨rfl, fun _ _ => by kernel_rfl, fun _ _ h b => ⟨(b.block D hD.1).trans h.1, (b.block D2 hD.2).trans h.2⟩,
   fun w b g pre post r hE hb hg hgb hlb _ hp => paste_one lim D D2 dr dc hD h1 h2 w b g pre post r hE hb hg hgb hlb hp,
   fun w b g pre post r t hE hb hg hgb hlb _ hp hp2 => paste_two lim D D2 dr dc hD h1 h2 w b g pre post r t hE hb hg hgb hlb hp hp2⟩

set_option maxRecDepth 100000 in
set_option maxHeartbeats 4000000 in
theorem walk_sh {mval : Value} {fs : FuncId} {caps : Array Value} {m : Mv} {Env : World → Prop} (nd : Hd) (ks : Trees) (w : World) (S : MovSpec mval fs caps w.heap.size m Env) (hE : Env w) (B : Nat) (ka : Option Addr) (kl kc : Nat) (hB : B ≤ w.heap.size) (tv : TreeV w B nd ks ka kl) (hm : mayE nd ks = 0) :
    Calls Try.prog 69 #[.agg #[.int .i64 nd.kind, .int .i64 nd.op, .int .i64 nd.num, .string ⟨nd.text.toArray⟩, .int .i64 nd.ref.row, .int .i64 nd.ref.col, .bool nd.ref.pr, .bool nd.ref.pc, .int .i64 nd.to.row, .int .i64 nd.to.col, .bool nd.to.pr, .bool nd.to.pc, .int .i64 nd.fn, .slice ka kl kc], mval] w fun e w' => ∃ xa xl xc F, e = .returned (.agg #[.int .i64 (mvH m nd).kind, .int .i64 (mvH m nd).op, .int .i64 (mvH m nd).num, .string ⟨(mvH m nd).text.toArray⟩, .int .i64 (mvH m nd).ref.row, .int .i64 (mvH m nd).ref.col, .bool (mvH m nd).ref.pr, .bool (mvH m nd).ref.pc, .int .i64 (mvH m nd).to.row, .int .i64 (mvH m nd).to.col, .bool (mvH m nd).to.pr, .bool (mvH m nd).to.pc, .int .i64 (mvH m nd).fn, .slice xa xl xc]) ∧ Below w.heap.size w w' ∧ Fresh w' w.heap.size (mvK m ks) (.slice xa xl xc) F := by
  have b0 := ext_alloc (ext_alloc (Below.refl _ w) (.cells #[.int .i64 nd.kind, .int .i64 nd.op, .int .i64 nd.num, .string ⟨nd.text.toArray⟩, .int .i64 nd.ref.row, .int .i64 nd.ref.col, .bool nd.ref.pr, .bool nd.ref.pc, .int .i64 nd.to.row, .int .i64 nd.to.col, .bool nd.to.pr, .bool nd.to.pc, .int .i64 nd.fn, .slice ka kl kc] 29)) (.cells #[.int .i64 0, .int .i64 0, .int .i64 0, .string ⟨#[]⟩, .int .i64 0, .int .i64 0, .bool false, .bool false, .int .i64 0, .int .i64 0, .bool false, .bool false, .int .i64 0, .slice none 0 0] 29)
  have T0 := Lib.hid (tv.kept (b0.mono hB) (Nat.le_refl _))
  have B0 := Lib.hid b0
  have HS := Lib.hid S; have HM := Lib.hid hm; have HE := Lib.hid hE
  clear tv b0 S hm hE
  go_enter Try.func69, Try.ntmps69
  go_wp2_with fail
  refine (copy_any nd ks _ B ka kl kc (by simp; omega) T0.out).mono ?_
  rintro e w2 ⟨b2, ⟨-, xa, xl, xc, F, rfl, f2⟩ | ⟨f', -⟩⟩
  case inr => exact absurd (mayE_fine HM.out) f'
  obtain ⟨zb, cb, cb'⟩ := kept_block2 b2
  have hr2 : w2.heap[w.heap.size + 1]? = some (.cells #[.int .i64 0, .int .i64 0, .int .i64 0, .string ⟨#[]⟩, .int .i64 0, .int .i64 0, .bool false, .bool false, .int .i64 0, .int .i64 0, .bool false, .bool false, .int .i64 0, .slice none 0 0] 29 (0, 0)) := (b2.block _ (by simp)).trans (heap_alloc2_new _ _ _)
  have bw2 := B0.out.trans (b2.mono B0.out.size)
  have hs2 : w.heap.size + 2 ≤ w2.heap.size := by omega
  have hnew : ∀ b ∈ F, w.heap.size + 2 ≤ b := fun b hb => by have := f2.new b hb; simpa using this
  have bw3 := ext_alloc bw2 (.cells #[.int .i64 nd.kind, .int .i64 nd.op, .int .i64 nd.num, .string ⟨nd.text.toArray⟩, .int .i64 nd.ref.row, .int .i64 nd.ref.col, .bool nd.ref.pr, .bool nd.ref.pc, .int .i64 nd.to.row, .int .i64 nd.to.col, .bool nd.to.pr, .bool nd.to.pc, .int .i64 nd.fn, .slice xa xl xc] 29)
  have hb3 : (w2.alloc (.cells #[.int .i64 nd.kind, .int .i64 nd.op, .int .i64 nd.num, .string ⟨nd.text.toArray⟩, .int .i64 nd.ref.row, .int .i64 nd.ref.col, .bool nd.ref.pr, .bool nd.ref.pc, .int .i64 nd.to.row, .int .i64 nd.to.col, .bool nd.to.pr, .bool nd.to.pc, .int .i64 nd.fn, .slice xa xl xc] 29)).heap[w2.heap.size]? = some (.cells (([] : List Value) ++ (nd.vals (.slice xa xl xc) ++ [])).toArray 29 (0, 0)) := (heap_alloc_new _ _).trans rfl
  have cM := moved_any HS.out nd ks (w2.alloc (.cells #[.int .i64 nd.kind, .int .i64 nd.op, .int .i64 nd.num, .string ⟨nd.text.toArray⟩, .int .i64 nd.ref.row, .int .i64 nd.ref.col, .bool nd.ref.pr, .bool nd.ref.pc, .int .i64 nd.to.row, .int .i64 nd.to.col, .bool nd.to.pr, .bool nd.to.pc, .int .i64 nd.fn, .slice xa xl xc] 29)) w2.heap.size [] [] (.slice xa xl xc) F (HS.out.env _ _ HE.out bw3) hb3 (f2.own.kept fun b hb => Below.heap_alloc _ _ _ (f2.lt b hb)) f2.once (fun h => by have := f2.lt _ h; omega) (by omega) (fun x hx => ⟨by have := hnew x hx; omega, by have := f2.lt x hx; simp; omega⟩) (may_fits HM.out) (fine_nodes (mayE_fine HM.out))
  have hFlt := f2.lt
  have CM := Lib.hid cM; have HN := Lib.hid hnew; have R2 := Lib.hid hr2; have BW3 := Lib.hid bw3; have HF := Lib.hid hFlt
  clear cM hnew hr2 bw2 bw3 hb3 f2 b2 hFlt cb cb'
  go_wp2_with fail
  refine CM.out.mono ?_
  rintro e w4 ⟨rfl, b4, sm4, v', F', hb4, own4, sub4, nd4⟩
  obtain ⟨za, zl, zc, rfl⟩ : ∃ a l c, v' = .slice a l c := by
    obtain ⟨cs, G, F1, s, -, -⟩ := own4
    obtain ⟨a, c, e⟩ := s.slice
    exact ⟨a, _, c, e⟩
  have hb5 : w4.heap[w2.heap.size]? = some (.cells #[.int .i64 (mvH m nd).kind, .int .i64 (mvH m nd).op, .int .i64 (mvH m nd).num, .string ⟨(mvH m nd).text.toArray⟩, .int .i64 (mvH m nd).ref.row, .int .i64 (mvH m nd).ref.col, .bool (mvH m nd).ref.pr, .bool (mvH m nd).ref.pc, .int .i64 (mvH m nd).to.row, .int .i64 (mvH m nd).to.col, .bool (mvH m nd).to.pr, .bool (mvH m nd).to.pc, .int .i64 (mvH m nd).fn, .slice za zl zc] 29 (0, 0)) := hb4.trans rfl
  have hz4 := b4.size
  have hr4 : w4.heap[w.heap.size + 1]? = some (.cells #[.int .i64 0, .int .i64 0, .int .i64 0, .string ⟨#[]⟩, .int .i64 0, .int .i64 0, .bool false, .bool false, .int .i64 0, .int .i64 0, .bool false, .bool false, .int .i64 0, .slice none 0 0] 29 (0, 0)) := (sm4 (w.heap.size + 1) (by simp; omega) (by omega) (fun h => by have := HN.out _ h; omega)).trans ((Below.heap_alloc _ _ _ (by omega)).trans R2.out)
  have c5 := cells_of_block hb5
  have c4 := cells_of_block hr4
  have f4 := frees_of_block hr4
  have BW4 := Lib.hid (BW3.out.trans b4)
  have OW := Lib.hid own4; have SU := Lib.hid sub4; have N4 := Lib.hid nd4
  have hs4 : w2.heap.size < w4.heap.size := lt_of_block hb5
  clear b4 sm4 hb4 hb5 hr4 own4 sub4 nd4
  go_wp2
  refine bodyPost_ret (v := .agg #[.int .i64 (mvH m nd).kind, .int .i64 (mvH m nd).op, .int .i64 (mvH m nd).num, .string ⟨(mvH m nd).text.toArray⟩, .int .i64 (mvH m nd).ref.row, .int .i64 (mvH m nd).ref.col, .bool (mvH m nd).ref.pr, .bool (mvH m nd).ref.pc, .int .i64 (mvH m nd).to.row, .int .i64 (mvH m nd).to.col, .bool (mvH m nd).to.pr, .bool (mvH m nd).to.pc, .int .i64 (mvH m nd).fn, .slice za zl zc]) (by simp [results, Try.results69, go_sem, c4]) rfl ?_
  refine ⟨za, zl, zc, F', rfl, ?_, OW.out.kept fun b hb => ?_, N4.out, fun b hb => ?_, fun b hb => ?_⟩
  · repeat (refine Below.setCell ?_ (by simp; try omega) _)
    exact BW4.out
  · have := HN.out b (SU.out b hb)
    repeat rw [Below.heap_setCell _ _ _ _ (by simp; omega)]
  · have := HN.out b (SU.out b hb); omega
  · have := HF.out b (SU.out b hb)
    simp [World.setCell]; omega
end Go.Proofs.Ytkjfeakbhfkldaa
/- Shifting: Paste. -/
namespace Go.Proofs.Ytkjfeakbhfkldaa
open Go.RowKit

/-- What a shift hands back, in memory of its own. -/
def ShFPost (m : Mv) (h : Hd) (ks : Trees) (w : World) (e : Ending) (w' : World) : Prop :=
  Below w.heap.size w w' ∧ ((shErr m h ks = 0 ∧ ∃ xa xl xc F, e = .returned (.tuple #[.agg #[.int .i64 (mvH m h).kind, .int .i64 (mvH m h).op, .int .i64 (mvH m h).num, .string ⟨(mvH m h).text.toArray⟩, .int .i64 (mvH m h).ref.row, .int .i64 (mvH m h).ref.col, .bool (mvH m h).ref.pr, .bool (mvH m h).ref.pc, .int .i64 (mvH m h).to.row, .int .i64 (mvH m h).to.col, .bool (mvH m h).to.pr, .bool (mvH m h).to.pc, .int .i64 (mvH m h).fn, .slice xa xl xc], .int .i64 0]) ∧ Fresh w' w.heap.size (mvK m ks) (.slice xa xl xc) F) ∨
    (shErr m h ks ≠ 0 ∧ e = .returned (.tuple #[.agg #[.int .i64 0, .int .i64 0, .int .i64 0, .string ⟨#[]⟩, .int .i64 0, .int .i64 0, .bool false, .bool false, .int .i64 0, .int .i64 0, .bool false, .bool false, .int .i64 0, .slice none 0 0], .int .i64 (shErr m h ks)])))
theorem heap_alloc4 (w : World) (a b c d : Obj) : ((((w.alloc a).alloc b).alloc c).alloc d).heap[w.heap.size]? = some a ∧ ((((w.alloc a).alloc b).alloc c).alloc d).heap[w.heap.size + 1]? = some b ∧ ((((w.alloc a).alloc b).alloc c).alloc d).heap[w.heap.size + 1 + 1]? = some c ∧ ((((w.alloc a).alloc b).alloc c).alloc d).heap[w.heap.size + 1 + 1 + 1]? = some d := by
  obtain ⟨h1, h2, h3⟩ := heap_alloc3 w a b c
  refine ⟨(Below.heap_alloc _ _ _ (by simp <;> omega)).trans h1, (Below.heap_alloc _ _ _ (by simp <;> omega)).trans h2, (Below.heap_alloc _ _ _ (by simp)).trans h3, ?_⟩
  have := heap_alloc_new (((w.alloc a).alloc b).alloc c) d
  simpa using this

set_option maxRecDepth 100000 in
set_option maxHeartbeats 4000000 in
theorem shPaste_any (nd : Hd) (ks : Trees) (x y : Int) (w : World) (B : Nat) (ka : Option Addr) (kl kc : Nat) (hB : B ≤ w.heap.size) (tv : TreeV w B nd ks ka kl) (hx : I64 x) (hy : I64 y) : Calls Try.prog 37 #[.agg #[.int .i64 nd.kind, .int .i64 nd.op, .int .i64 nd.num, .string ⟨nd.text.toArray⟩, .int .i64 nd.ref.row, .int .i64 nd.ref.col, .bool nd.ref.pr, .bool nd.ref.pc, .int .i64 nd.to.row, .int .i64 nd.to.col, .bool nd.to.pr, .bool nd.to.pc, .int .i64 nd.fn, .slice ka kl kc], .int .i64 x, .int .i64 y] w (ShFPost ⟨1, x, y, 0, 0⟩ nd ks w) := by
  have b0 := ext_alloc (ext_alloc (ext_alloc (ext_alloc (Below.refl _ w) (.cells #[.int .i64 nd.kind, .int .i64 nd.op, .int .i64 nd.num, .string ⟨nd.text.toArray⟩, .int .i64 nd.ref.row, .int .i64 nd.ref.col, .bool nd.ref.pr, .bool nd.ref.pc, .int .i64 nd.to.row, .int .i64 nd.to.col, .bool nd.to.pr, .bool nd.to.pc, .int .i64 nd.fn, .slice ka kl kc] 29)) (.cells #[.int .i64 x] 2)) (.cells #[.int .i64 y] 2)) (.cells #[.int .i64 0, .int .i64 0, .int .i64 0, .string ⟨#[]⟩, .int .i64 0, .int .i64 0, .bool false, .bool false, .int .i64 0, .int .i64 0, .bool false, .bool false, .int .i64 0, .slice none 0 0] 29)
  obtain ⟨h0, h1, h2, h3⟩ := heap_alloc4 w (.cells #[.int .i64 nd.kind, .int .i64 nd.op, .int .i64 nd.num, .string ⟨nd.text.toArray⟩, .int .i64 nd.ref.row, .int .i64 nd.ref.col, .bool nd.ref.pr, .bool nd.ref.pc, .int .i64 nd.to.row, .int .i64 nd.to.col, .bool nd.to.pr, .bool nd.to.pc, .int .i64 nd.fn, .slice ka kl kc] 29) (.cells #[.int .i64 x] 2) (.cells #[.int .i64 y] 2) (.cells #[.int .i64 0, .int .i64 0, .int .i64 0, .string ⟨#[]⟩, .int .i64 0, .int .i64 0, .bool false, .bool false, .int .i64 0, .int .i64 0, .bool false, .bool false, .int .i64 0, .slice none 0 0] 29)
  have T0 := Lib.hid (tv.kept (b0.mono hB) (Nat.le_refl _))
  have B0 := Lib.hid b0
  have H0 := Lib.hid h0; have H1 := Lib.hid h1; have H2 := Lib.hid h2; have H3 := Lib.hid h3
  have HX := Lib.hid hx; have HY := Lib.hid hy
  clear tv b0 h0 h1 h2 h3 hx hy
  go_enter Try.func37, Try.ntmps37
  go_wp2_with fail
  refine (may_any nd ks _ B ka kl kc (by simp; omega) T0.out).mono ?_
  rintro e w2 ⟨rfl, b2⟩
  have k0 := (b2.block _ (by simp <;> omega)).trans H0.out
  have k1 := (b2.block _ (by simp <;> omega)).trans H1.out
  have k2 := (b2.block _ (by simp <;> omega)).trans H2.out
  have k3 := (b2.block _ (by simp)).trans H3.out
  have c0 := cells_of_block k0
  have c3 := cells_of_block k3
  have f3 := frees_of_block k3
  have l3 := lt_of_block k3
  have B2 := Lib.hid (B0.out.trans (b2.mono B0.out.size))
  have T2 := Lib.hid (T0.out.kept (b2.mono (by simp; omega)) (Nat.le_refl _))
  have hE : BoxE (w.heap.size + 1) (w.heap.size + 1 + 1) x y w2 := ⟨k1, k2⟩
  have HE := Lib.hid hE; have K3 := Lib.hid k3
  clear b2 T0 k0 k1 k2 k3 hE H0 H1 H2 H3
  by_cases q : mayE nd ks = 0
  · have Q := Lib.hid q
    have q1 : (mayE nd ks != 0) = false := by simp [q]
    have q2 : (mayE nd ks == 0) = true := by simp [q]
    have se : shErr ⟨1, x, y, 0, 0⟩ nd ks = 0 := by simp [shErr, q]
    have SE := Lib.hid se
    have hh : B ≤ w2.heap.size := by omega
    clear q se
    go_wp2_with fail
    refine (walk_sh nd ks w2 (paste_spec w2.heap.size (w.heap.size + 1) (w.heap.size + 1 + 1) x y ⟨by omega, by omega⟩ HX.out HY.out) HE.out B ka kl kc hh T2.out Q.out).mono ?_
    rintro e w3 ⟨xa, xl, xc, F, rfl, b3, f⟩
    have k4 := (b3.block _ l3).trans K3.out
    have c4 := cells_of_block k4
    have f4 := frees_of_block k4
    have B4 := Lib.hid (B2.out.trans (b3.mono B2.out.size))
    have FR := Lib.hid f
    have hs3 := b3.size
    clear c0 c3 f3 b3 f k4
    go_wp2
    refine bodyPost_ret (v := .tuple #[.agg #[.int .i64 (mvH ⟨1, x, y, 0, 0⟩ nd).kind, .int .i64 (mvH ⟨1, x, y, 0, 0⟩ nd).op, .int .i64 (mvH ⟨1, x, y, 0, 0⟩ nd).num, .string ⟨(mvH ⟨1, x, y, 0, 0⟩ nd).text.toArray⟩, .int .i64 (mvH ⟨1, x, y, 0, 0⟩ nd).ref.row, .int .i64 (mvH ⟨1, x, y, 0, 0⟩ nd).ref.col, .bool (mvH ⟨1, x, y, 0, 0⟩ nd).ref.pr, .bool (mvH ⟨1, x, y, 0, 0⟩ nd).ref.pc, .int .i64 (mvH ⟨1, x, y, 0, 0⟩ nd).to.row, .int .i64 (mvH ⟨1, x, y, 0, 0⟩ nd).to.col, .bool (mvH ⟨1, x, y, 0, 0⟩ nd).to.pr, .bool (mvH ⟨1, x, y, 0, 0⟩ nd).to.pc, .int .i64 (mvH ⟨1, x, y, 0, 0⟩ nd).fn, .slice xa xl xc], .int .i64 0]) (by simp [results, Try.results37, go_sem, c4]) rfl ?_
    refine ⟨?_, .inl ⟨SE.out, xa, xl, xc, F, rfl, ?_⟩⟩
    · repeat (refine Below.setCell ?_ (by simp; try omega) _)
      exact B4.out
    · have f := FR.out
      refine ⟨f.own.kept fun b hb => ?_, f.once, fun b hb => by have := f.new b hb; omega, fun b hb => by simpa [World.setCell] using f.lt b hb⟩
      have := f.new b hb
      repeat rw [Below.heap_setCell _ _ _ _ (by simp; omega)]
  · have q1 : (mayE nd ks != 0) = true := by simp [q]
    have q2 : (mayE nd ks == 0) = false := by simp [q]
    have se : shErr ⟨1, x, y, 0, 0⟩ nd ks = mayE nd ks := by simp [shErr, q]
    have SE := Lib.hid se
    have Q := Lib.hid q
    clear q se
    go_wp2
    refine bodyPost_ret (v := .tuple #[.agg #[.int .i64 0, .int .i64 0, .int .i64 0, .string ⟨#[]⟩, .int .i64 0, .int .i64 0, .bool false, .bool false, .int .i64 0, .int .i64 0, .bool false, .bool false, .int .i64 0, .slice none 0 0], .int .i64 (mayE nd ks)]) (by simp [results, Try.results37, go_sem, c3]) rfl ?_
    refine ⟨?_, .inr ⟨by rw [SE.out]; exact Q.out, by rw [SE.out]⟩⟩
    repeat (refine Below.setCell ?_ (by simp; try omega) _)
    exact B2.out
end Go.Proofs.Ytkjfeakbhfkldaa
