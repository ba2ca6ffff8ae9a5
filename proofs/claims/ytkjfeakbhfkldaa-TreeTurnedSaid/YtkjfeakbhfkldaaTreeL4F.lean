/- TreeTurned where a kid is appended: what the law answers for a tree that may be. -/
import Derived.Test.YtkjfeakbhfkldaaTreeL4
namespace Go.Proofs.Ytkjfeakbhfkldaa
open Go.ChangeShapes Go.WideShapes Go.ChangeAt Go.RowKit

theorem h77_ok : Hd.ok ⟨77, 0, 0, [], .zero, .zero, 0⟩ := ⟨by simp, by simp [I64], by simp [I64], by simp [I64], by simp [I64, RefT.zero], by simp [I64, RefT.zero], by simp [I64, RefT.zero], by simp [I64, RefT.zero], by simp [I64]⟩
theorem turned_ne5 (nd : Hd) (ks : Trees) (h : Hd) : sameV nd nd ks (ks.app (.cons h .nil .nil)) = false ∧ sameV nd nd (ks.app (.cons h .nil .nil)) ks = false := by
  have ne : ks ≠ ks.app (.cons h .nil .nil) := fun e => by
    have := congrArg Trees.len e
    rw [Trees.app_len] at this
    simp [Trees.len] at this
  simp [sameV, sameB, ne, ne.symm]
theorem app_fits {h : Hd} (hf : fitsV h 0 = false) : ∀ ks : Trees, allFits (ks.app (.cons h .nil .nil)) = false
  | .nil => by simp [Trees.app, allFits, Trees.len, hf]
  | .cons a k r => by simp [Trees.app, allFits, app_fits hf r]
theorem turned_bad5 (nd : Hd) (ks : Trees) : mayE nd (ks.app (.cons ⟨77, 0, 0, [], .zero, .zero, 0⟩ .nil .nil)) = 22 ∨ mayE nd (ks.app (.cons ⟨77, 0, 0, [], .zero, .zero, 0⟩ .nil .nil)) = 2 := by
  have q : allFits (ks.app (.cons ⟨77, 0, 0, [], .zero, .zero, 0⟩ .nil .nil)) = false := app_fits (by simp [fitsV, fitsB]) ks
  by_cases f : Fine nd (ks.app (.cons ⟨77, 0, 0, [], .zero, .zero, 0⟩ .nil .nil))
  · left; simp [mayE, f, treeFits, q]
  · right; simp [mayE, f]
/-- A kid is appended to a row that is owned: beside the node's own block. -/
theorem kid_more {w8 w10 : World} {b0 : Nat} {ks : Trees} {l v' : Value} {cs : List Value} {F' : List Nat} {U O : Obj} {h : Hd} (o : OwnCells w8 ks cs F') (once : (ownList l ++ F').Nodup) (new : ∀ b ∈ ownList l ++ F', b0 ≤ b) (lt : ∀ b ∈ ownList l ++ F', b < w8.heap.size) (ok : h.ok) (hb0 : b0 ≤ w8.heap.size)
    (hg : ((w8.alloc U).alloc O).grownBy w10 l.ownBlock) (hown : w10.ownsRow b0 29 14 v' (ks.len + 1) (cs ++ h.vals (.slice none 0 0))) (hloc : v'.ownBlock = l.ownBlock ∨ v'.ownBlock = some (w8.heap.size + 2)) :
    ∃ F, Fresh w10 b0 (ks.app (.cons h .nil .nil)) v' F ∧ (∀ b ∈ F, b ≠ w8.heap.size) ∧ w10.heap[w8.heap.size]? = some U ∧ Below b0 w8 w10 := by
  have hl : ∀ k, l.ownBlock = some k → b0 ≤ k ∧ k < w8.heap.size := fun k hk => ⟨new k (by simp [mem_ownList.2 hk]), lt k (by simp [mem_ownList.2 hk])⟩
  have f := Fresh.step (wr := w8.alloc U) (w2 := w8.alloc U) (k := .nil) (v2 := .slice none 0 0) (F2 := []) (h := h) (O := O) (l := l) (o.kept fun b hb => Below.heap_alloc _ _ _ (lt b (by simp [hb]))) once new (fun b hb => by have := lt b hb; simp; omega) (Below.refl _ _)
    ⟨⟨[], [], [], ⟨rfl, .inl ⟨rfl, rfl, rfl⟩⟩, ⟨rfl, rfl⟩, rfl⟩, List.nodup_nil, by simp, by simp⟩ ok (by simp; omega) hg hown (by simpa using hloc)
  refine ⟨_, f, fun b hb => ?_, ?_, ?_⟩
  · rcases List.mem_append.1 hb with hb | hb
    · have hb := mem_ownList.1 hb
      rcases hloc with e | e
      · rw [e] at hb; have := (hl b hb).2; omega
      · rw [e] at hb; injection hb with hb; omega
    · simp only [List.append_nil] at hb
      have := lt b (by simp [hb]); omega
  · rw [hg.block _ (by simp; omega) (fun e => by have := (hl _ e.symm).2; omega), Below.heap_alloc _ _ _ (by simp)]
    exact heap_alloc_new _ _
  · exact (((Below.refl b0 w8).alloc hb0 _).alloc (by simp; omega) _).grown hg (by simp; omega) (fun k hk => (hl k hk).1)

set_option maxRecDepth 100000 in
set_option maxHeartbeats 4000000 in
theorem turned_5 (w : World) (nd : Hd) (ks : Trees) (ka : Option Addr) (kl kc : Nat) (wh n : Int) (tv : TreeV w w.heap.size nd ks ka kl) (_ : I64 n) (hm : mayE nd ks = 0) (hn0 : n ≠ 0) (hv : wh.tmod 6 = 5) :
    Calls Try.prog 7 #[.agg #[.int .i64 nd.kind, .int .i64 nd.op, .int .i64 nd.num, .string ⟨nd.text.toArray⟩, .int .i64 nd.ref.row, .int .i64 nd.ref.col, .bool nd.ref.pr, .bool nd.ref.pc, .int .i64 nd.to.row, .int .i64 nd.to.col, .bool nd.to.pr, .bool nd.to.pc, .int .i64 nd.fn, .slice ka kl kc], .int .u8 wh, .int .i64 n] w (TruePost w) := by
  have b0 := ext_alloc (Below.refl _ w) (.cells #[.int .i64 nd.kind, .int .i64 nd.op, .int .i64 nd.num, .string ⟨nd.text.toArray⟩, .int .i64 nd.ref.row, .int .i64 nd.ref.col, .bool nd.ref.pr, .bool nd.ref.pc, .int .i64 nd.to.row, .int .i64 nd.to.col, .bool nd.to.pr, .bool nd.to.pc, .int .i64 nd.fn, .slice ka kl kc] 29)
  have p0 : PlR w w.heap.size (.cells #[.int .i64 nd.kind, .int .i64 nd.op, .int .i64 nd.num, .string ⟨nd.text.toArray⟩, .int .i64 nd.ref.row, .int .i64 nd.ref.col, .bool nd.ref.pr, .bool nd.ref.pc, .int .i64 nd.to.row, .int .i64 nd.to.col, .bool nd.to.pr, .bool nd.to.pc, .int .i64 nd.fn, .slice ka kl kc] 29) nd nd ks ks ka ka kl kl (w.alloc (.cells #[.int .i64 nd.kind, .int .i64 nd.op, .int .i64 nd.num, .string ⟨nd.text.toArray⟩, .int .i64 nd.ref.row, .int .i64 nd.ref.col, .bool nd.ref.pr, .bool nd.ref.pc, .int .i64 nd.to.row, .int .i64 nd.to.col, .bool nd.to.pr, .bool nd.to.pc, .int .i64 nd.fn, .slice ka kl kc] 29)) :=
    ⟨Nat.le_refl _, heap_alloc_new _ _, b0, tv.kept b0 (Nat.le_refl _), tv.kept b0 (Nat.le_refl _)⟩
  have P0 := Lib.hid p0
  have HM := Lib.hid hm; have FF := Lib.hid (mayE_fine hm)
  have n0 : (n == 0) = false := by simp [hn0]
  clear hm hn0
  obtain ⟨i0, hi, hz0, hz1, hz2⟩ := info_parts infoExpr
  have OK := Lib.hid tv.ok
  clear b0 p0 tv
  go_enter Try.func7, Try.ntmps7
  go_wp2_with fail
  refine (begun_any _).mono ?_
  rintro e w1 ⟨rfl, b1⟩
  obtain ⟨c1, p1⟩ := P0.out.step b1
  have P1 := Lib.hid p1
  clear b1 p1
  go_wp2_with fail
  have cM : Calls Try.prog 23 #[.agg #[.int .i64 nd.kind, .int .i64 nd.op, .int .i64 nd.num, .string ⟨nd.text.toArray⟩, .int .i64 nd.ref.row, .int .i64 nd.ref.col, .bool nd.ref.pr, .bool nd.ref.pc, .int .i64 nd.to.row, .int .i64 nd.to.col, .bool nd.to.pr, .bool nd.to.pc, .int .i64 nd.fn, .slice ka kl kc]] w1 (fun e w' => e = .returned (.int .i64 0) ∧ Below w1.heap.size w1 w') := (may_any nd ks w1 _ ka kl kc P1.out.le P1.out.t).mono fun e w' q => ⟨by have := q.1; rw [HM.out] at this; exact this, q.2⟩
  refine cM.mono ?_
  rintro e w2 ⟨rfl, b2⟩
  obtain ⟨c2, p2⟩ := P1.out.step b2
  have P2 := Lib.hid p2
  clear b2 p2 cM c1
  have c2' := c2
  go_wp2_with fail
  refine (copy_any nd ks w2 _ ka kl kc P2.out.le P2.out.t).mono ?_
  rintro e w3 ⟨b3, ⟨-, xa, xl, xc, F3, rfl, f3⟩ | ⟨f', -⟩⟩
  case inr => exact absurd FF.out f'
  obtain ⟨c3, p3⟩ := P2.out.step b3
  have hlt3 := p3.lt
  have p4 := (p3.step (ext_alloc (Below.refl _ w3) (.cells #[.int .i64 nd.kind, .int .i64 nd.op, .int .i64 nd.num, .string ⟨nd.text.toArray⟩, .int .i64 nd.ref.row, .int .i64 nd.ref.col, .bool nd.ref.pr, .bool nd.ref.pc, .int .i64 nd.to.row, .int .i64 nd.to.col, .bool nd.to.pr, .bool nd.to.pc, .int .i64 nd.fn, .slice xa xl xc] 29))).2
  have x4 := (f3.readable OK.out).kept (ext_alloc (Below.refl _ w3) (.cells #[.int .i64 nd.kind, .int .i64 nd.op, .int .i64 nd.num, .string ⟨nd.text.toArray⟩, .int .i64 nd.ref.row, .int .i64 nd.ref.col, .bool nd.ref.pr, .bool nd.ref.pc, .int .i64 nd.to.row, .int .i64 nd.to.col, .bool nd.to.pr, .bool nd.to.pc, .int .i64 nd.fn, .slice xa xl xc] 29)) (Nat.le_refl _)
  have P4 := Lib.hid p4; have X4 := Lib.hid x4
  clear b3 p3 p4 x4 f3 c2 c2'
  go_wp2_with fail
  have cA : Calls Try.prog 25 #[.agg #[.int .i64 nd.kind, .int .i64 nd.op, .int .i64 nd.num, .string ⟨nd.text.toArray⟩, .int .i64 nd.ref.row, .int .i64 nd.ref.col, .bool nd.ref.pr, .bool nd.ref.pc, .int .i64 nd.to.row, .int .i64 nd.to.col, .bool nd.to.pr, .bool nd.to.pc, .int .i64 nd.fn, .slice ka kl kc], .agg #[.int .i64 nd.kind, .int .i64 nd.op, .int .i64 nd.num, .string ⟨nd.text.toArray⟩, .int .i64 nd.ref.row, .int .i64 nd.ref.col, .bool nd.ref.pr, .bool nd.ref.pc, .int .i64 nd.to.row, .int .i64 nd.to.col, .bool nd.to.pr, .bool nd.to.pc, .int .i64 nd.fn, .slice xa xl xc]] (w3.alloc (.cells #[.int .i64 nd.kind, .int .i64 nd.op, .int .i64 nd.num, .string ⟨nd.text.toArray⟩, .int .i64 nd.ref.row, .int .i64 nd.ref.col, .bool nd.ref.pr, .bool nd.ref.pc, .int .i64 nd.to.row, .int .i64 nd.to.col, .bool nd.to.pr, .bool nd.to.pc, .int .i64 nd.fn, .slice xa xl xc] 29)) (fun e w' => e = .returned (.bool true) ∧ Below (w3.alloc (.cells #[.int .i64 nd.kind, .int .i64 nd.op, .int .i64 nd.num, .string ⟨nd.text.toArray⟩, .int .i64 nd.ref.row, .int .i64 nd.ref.col, .bool nd.ref.pr, .bool nd.ref.pc, .int .i64 nd.to.row, .int .i64 nd.to.col, .bool nd.to.pr, .bool nd.to.pc, .int .i64 nd.fn, .slice xa xl xc] 29)).heap.size (w3.alloc (.cells #[.int .i64 nd.kind, .int .i64 nd.op, .int .i64 nd.num, .string ⟨nd.text.toArray⟩, .int .i64 nd.ref.row, .int .i64 nd.ref.col, .bool nd.ref.pr, .bool nd.ref.pc, .int .i64 nd.to.row, .int .i64 nd.to.col, .bool nd.to.pr, .bool nd.to.pc, .int .i64 nd.fn, .slice xa xl xc] 29)) w') := (same_all nd nd ks ks _ _ _ ka xa kl kc xl xc P4.out.le (by simp) P4.out.t X4.out).mono fun e w' q => ⟨by have := q.1; rw [show sameV nd nd ks ks = true by simp [sameV, sameB, FF.out]] at this; exact this, q.2⟩
  refine cA.mono ?_
  rintro e w5 ⟨rfl, b5⟩
  obtain ⟨c5, p5⟩ := P4.out.step b5
  obtain ⟨hz5, k5⟩ := kept_block b5
  have X5 := Lib.hid (X4.out.kept (b5.mono (by simp)) (Nat.le_refl _))
  have P5 := Lib.hid p5
  clear b5 p5 cA c3
  go_wp2_with fail
  have cB : Calls Try.prog 25 #[.agg #[.int .i64 nd.kind, .int .i64 nd.op, .int .i64 nd.num, .string ⟨nd.text.toArray⟩, .int .i64 nd.ref.row, .int .i64 nd.ref.col, .bool nd.ref.pr, .bool nd.ref.pc, .int .i64 nd.to.row, .int .i64 nd.to.col, .bool nd.to.pr, .bool nd.to.pc, .int .i64 nd.fn, .slice xa xl xc], .agg #[.int .i64 nd.kind, .int .i64 nd.op, .int .i64 nd.num, .string ⟨nd.text.toArray⟩, .int .i64 nd.ref.row, .int .i64 nd.ref.col, .bool nd.ref.pr, .bool nd.ref.pc, .int .i64 nd.to.row, .int .i64 nd.to.col, .bool nd.to.pr, .bool nd.to.pc, .int .i64 nd.fn, .slice ka kl kc]] w5 (fun e w' => e = .returned (.bool true) ∧ Below w5.heap.size w5 w') := (same_all nd nd ks ks _ _ _ xa ka xl xc kl kc (by omega) P5.out.le X5.out P5.out.t).mono fun e w' q => ⟨by have := q.1; rw [show sameV nd nd ks ks = true by simp [sameV, sameB, FF.out]] at this; exact this, q.2⟩
  refine cB.mono ?_
  rintro e w6 ⟨rfl, b6⟩
  obtain ⟨c6, p6⟩ := P5.out.step b6
  have k6 : ∀ o, w6.cell? ⟨w3.heap.size, o, none⟩ = _ := fun o => (b6.cell (p := ⟨w3.heap.size, o, none⟩) hz5).trans (k5 o)
  have X6 := Lib.hid (X5.out.kept (b6.mono (by omega)) (Nat.le_refl _))
  have hz6 := b6.size
  have P6 := Lib.hid p6
  clear b6 p6 cB c5 k5
  go_wp2_with fail
  have cC : Calls Try.prog 23 #[.agg #[.int .i64 nd.kind, .int .i64 nd.op, .int .i64 nd.num, .string ⟨nd.text.toArray⟩, .int .i64 nd.ref.row, .int .i64 nd.ref.col, .bool nd.ref.pr, .bool nd.ref.pc, .int .i64 nd.to.row, .int .i64 nd.to.col, .bool nd.to.pr, .bool nd.to.pc, .int .i64 nd.fn, .slice xa xl xc]] w6 (fun e w' => e = .returned (.int .i64 0) ∧ Below w6.heap.size w6 w') := (may_any nd ks w6 _ xa xl xc (by omega) X6.out).mono fun e w' q => ⟨by have := q.1; rw [HM.out] at this; exact this, q.2⟩
  refine cC.mono ?_
  rintro e w7 ⟨rfl, b7⟩
  obtain ⟨c7, p7⟩ := P6.out.step b7
  have P7 := Lib.hid p7
  clear b7 p7 cC c6 k6
  go_wp2_with fail
  refine (lawOwn_any nd ks w7 _ ka kl kc P7.out.le P7.out.t (fine_nodes FF.out)).mono ?_
  rintro e w8 ⟨ua, ul, uc, F8, rfl, b8, f8⟩
  obtain ⟨c8, p8⟩ := P7.out.step b8
  have hlt8 := p8.lt
  have P8 := Lib.hid p8; have F8' := Lib.hid f8; have B8 := Lib.hid b8
  clear b8 p8 f8 c7
  obtain ⟨⟨cs, G, F', s, o, eF⟩, once, new, lt⟩ := F8'.out
  have eG := s.block
  subst eG eF
  have hown : (w8.alloc (.cells #[.int .i64 nd.kind, .int .i64 nd.op, .int .i64 nd.num, .string ⟨nd.text.toArray⟩, .int .i64 nd.ref.row, .int .i64 nd.ref.col, .bool nd.ref.pr, .bool nd.ref.pc, .int .i64 nd.to.row, .int .i64 nd.to.col, .bool nd.to.pr, .bool nd.to.pc, .int .i64 nd.fn, .slice ua ul uc] 29)).ownsRow w7.heap.size 29 14 (.slice ua ul uc) ks.len cs := (s.owns fun b hb => new b (by simp [hb])).alloc _
  have hne : ∀ k, (Value.slice ua ul uc).ownBlock = some k → k ≠ w8.heap.size := fun k hk => by have := lt k (by simp [mem_ownList.2 hk]); omega
  have h78 := B8.out.size
  have hsm : ks.len ≤ 100000 := Nat.le_trans (len_le_nodes ks) (fine_nodes FF.out)
  have O8 := Lib.hid o; have ON := Lib.hid once; have NW := Lib.hid new; have LT := Lib.hid lt; have NE0 := Lib.hid hne
  clear s o once new lt hne
  go_wp2_with (at_builtin; refine wpList_append_own_at _ rfl _ _ 27 rfl w7.heap.size 29 i0 _ 14 120 Try.underlying27 hi hz0 hz1 hz2 rfl (by decide) (.slice ua ul uc) ks.len cs rfl (hown.alloc _) ⟨w8.heap.size + 1, 0, none⟩ 1 1 (Hd.vals ⟨77, 0, 0, [], .zero, .zero, 0⟩ (.slice none 0 0)) rfl rfl (World.news_of_block (heap_alloc2_new w8 _ _)) (by simp [Value.oneCell', Hd.vals]) (by unfold maxLen; omega) (by omega) (by simp; omega) ?_)
  intro v' w10 hown3 hgrow _ hloc
  obtain ⟨F, f10, hF, hu10, b10⟩ := kid_more O8.out ON.out NW.out LT.out h77_ok h78 hgrow hown3 (by simpa using hloc)
  obtain ⟨va, vl, vc, rfl⟩ : ∃ a l c, v' = .slice a l c := by obtain ⟨a, c, e⟩ := (slot_of hown3).slice; exact ⟨a, _, c, e⟩
  have cu := cells_of_block hu10
  have fu := frees_of_block hu10
  have hl10 := lt_of_block hu10
  have U11 := Lib.hid ((block_set hu10 (i := 13) (.slice va vl vc)).trans rfl)
  have B11 := Lib.hid ((B8.out.trans (b10.mono (Nat.le_refl _))).setCell (p := ⟨w8.heap.size, 13, none⟩) h78 (.slice va vl vc))
  have f11 : Fresh (w10.setCell ⟨w8.heap.size, 13, none⟩ (.slice va vl vc)) w7.heap.size (ks.app (.cons ⟨77, 0, 0, [], .zero, .zero, 0⟩ .nil .nil)) (.slice va vl vc) F := ⟨f10.own.kept fun b hb => Below.heap_setCell _ _ _ _ (hF b hb), f10.once, f10.new, fun b hb => by simpa [World.setCell] using f10.lt b hb⟩
  have TU := Lib.hid (f11.readable (h := nd) OK.out)
  have hs11 : w8.heap.size < (w10.setCell ⟨w8.heap.size, 13, none⟩ (.slice va vl vc)).heap.size := by simpa [World.setCell] using hl10
  clear f11 f10 hF hu10 b10 hown3 hgrow hloc hown c8
  go_wp2_with fail
  have cM : Calls Try.prog 23 #[.agg #[.int .i64 nd.kind, .int .i64 nd.op, .int .i64 nd.num, .string ⟨nd.text.toArray⟩, .int .i64 nd.ref.row, .int .i64 nd.ref.col, .bool nd.ref.pr, .bool nd.ref.pc, .int .i64 nd.to.row, .int .i64 nd.to.col, .bool nd.to.pr, .bool nd.to.pc, .int .i64 nd.fn, .slice va vl vc]] (w10.setCell ⟨w8.heap.size, 13, none⟩ (.slice va vl vc)) (fun e w' => e = .returned (.int .i64 (mayE nd (ks.app (.cons ⟨77, 0, 0, [], .zero, .zero, 0⟩ .nil .nil)))) ∧ Below (w10.setCell ⟨w8.heap.size, 13, none⟩ (.slice va vl vc)).heap.size (w10.setCell ⟨w8.heap.size, 13, none⟩ (.slice va vl vc)) w') := may_any nd (ks.app (.cons ⟨77, 0, 0, [], .zero, .zero, 0⟩ .nil .nil)) (w10.setCell ⟨w8.heap.size, 13, none⟩ (.slice va vl vc)) _ va vl vc (Nat.le_refl _) TU.out
  obtain ⟨-, p11⟩ := P7.out.step B11.out
  have P11 := Lib.hid p11
  generalize (w10.setCell ⟨w8.heap.size, 13, none⟩ (.slice va vl vc)) = w11 at *
  clear cu fu p11
  refine cM.mono ?_
  rintro e w12 ⟨rfl, b12⟩
  obtain ⟨c12, p12⟩ := P11.out.step b12
  have u12 := (b12.block _ hs11).trans U11.out
  have k12 := cells_of_block u12
  have P12 := Lib.hid p12; have U12 := Lib.hid u12
  have T12 := Lib.hid (TU.out.kept b12 (Nat.le_refl _))
  have hz12 := b12.size
  have BAD := Lib.hid (turned_bad5 nd ks)
  have NE := Lib.hid (turned_ne5 nd ks ⟨77, 0, 0, [], .zero, .zero, 0⟩)
  clear b12 p12 u12 cM
  generalize hK : mayE nd (ks.app (.cons ⟨77, 0, 0, [], .zero, .zero, 0⟩ .nil .nil)) = mm at *
  clear hK
  go_wp2_with fail
  have cA : Calls Try.prog 25 #[.agg #[.int .i64 nd.kind, .int .i64 nd.op, .int .i64 nd.num, .string ⟨nd.text.toArray⟩, .int .i64 nd.ref.row, .int .i64 nd.ref.col, .bool nd.ref.pr, .bool nd.ref.pc, .int .i64 nd.to.row, .int .i64 nd.to.col, .bool nd.to.pr, .bool nd.to.pc, .int .i64 nd.fn, .slice ka kl kc], .agg #[.int .i64 nd.kind, .int .i64 nd.op, .int .i64 nd.num, .string ⟨nd.text.toArray⟩, .int .i64 nd.ref.row, .int .i64 nd.ref.col, .bool nd.ref.pr, .bool nd.ref.pc, .int .i64 nd.to.row, .int .i64 nd.to.col, .bool nd.to.pr, .bool nd.to.pc, .int .i64 nd.fn, .slice va vl vc]] w12 (fun e w' => e = .returned (.bool false) ∧ Below w12.heap.size w12 w') := (same_all nd nd ks (ks.app (.cons ⟨77, 0, 0, [], .zero, .zero, 0⟩ .nil .nil)) w12 _ _ ka va kl kc vl vc P12.out.le hz12 P12.out.t T12.out).mono fun e w' q => ⟨by have := q.1; rw [NE.out.1] at this; exact this, q.2⟩
  refine cA.mono ?_
  rintro e w13 ⟨rfl, b13⟩
  obtain ⟨c13, p13⟩ := P12.out.step b13
  have k13 := cells_of_block ((b13.block _ (by omega)).trans U12.out)
  have T13 := Lib.hid (T12.out.kept (b13.mono hz12) (Nat.le_refl _))
  have P13 := Lib.hid p13
  have hz13 := b13.size
  clear b13 p13 cA c12 k12
  go_wp2_with fail
  have cB : Calls Try.prog 25 #[.agg #[.int .i64 nd.kind, .int .i64 nd.op, .int .i64 nd.num, .string ⟨nd.text.toArray⟩, .int .i64 nd.ref.row, .int .i64 nd.ref.col, .bool nd.ref.pr, .bool nd.ref.pc, .int .i64 nd.to.row, .int .i64 nd.to.col, .bool nd.to.pr, .bool nd.to.pc, .int .i64 nd.fn, .slice va vl vc], .agg #[.int .i64 nd.kind, .int .i64 nd.op, .int .i64 nd.num, .string ⟨nd.text.toArray⟩, .int .i64 nd.ref.row, .int .i64 nd.ref.col, .bool nd.ref.pr, .bool nd.ref.pc, .int .i64 nd.to.row, .int .i64 nd.to.col, .bool nd.to.pr, .bool nd.to.pc, .int .i64 nd.fn, .slice ka kl kc]] w13 (fun e w' => e = .returned (.bool false) ∧ Below w13.heap.size w13 w') := (same_all nd nd (ks.app (.cons ⟨77, 0, 0, [], .zero, .zero, 0⟩ .nil .nil)) ks w13 _ _ va ka vl vc kl kc (by omega) P13.out.le T13.out P13.out.t).mono fun e w' q => ⟨by have := q.1; rw [NE.out.2] at this; exact this, q.2⟩
  refine cB.mono ?_
  rintro e w14 ⟨rfl, b14⟩
  have B14 := Lib.hid (P13.out.bel.trans (b14.mono P13.out.bel.size))
  clear b14 cB c13 k13
  rcases BAD.out with q | q
  · have q1 : (mm == 22) = true := by simp [q]
    have q2 : (mm == 2) = false := by simp [q]
    have Q := Lib.hid q; clear q
    go_wp2
    go_ret
    exact ⟨ret_bool (by simp), B14.out⟩
  · have q1 : (mm == 22) = false := by simp [q]
    have q2 : (mm == 2) = true := by simp [q]
    have Q := Lib.hid q; clear q
    go_wp2
    go_ret
    exact ⟨ret_bool (by simp), B14.out⟩
end Go.Proofs.Ytkjfeakbhfkldaa
