/- PrintUnlike holds: two trees that may be have one text just if they are the same. No condition. -/
import Derived.Test.YtnhgeojcelegbaaDoorPuB
import Derived.Test.YtnhgeojcelegbaaDoorPuK
import Derived.Test.YtnhgeojcelegbaaDoorPrG
import Derived.Test.YtnhgeojcelegbaaDoorPrL
import Derived.Test.YtnhgeojcelegbaaDoorTreeArg
namespace Go.Proofs.YtnhgeojcelegbaaDoor
open Go.RowKit Go.Lib

/-- Two trees that may be: one text just if the same. -/
theorem forms_same {h h' : Hd} {ks ks' : Trees} (m : mayE h ks = 0) (m' : mayE h' ks' = 0) : ((strB (formL h ks)).toList == (strB (formL h' ks')).toList) = sameV h h' ks ks' := by
  have fine : ∀ {h : Hd} {ks : Trees}, mayE h ks = 0 → Fine h ks ∧ treeFits h ks = true := by
    intro h ks m
    unfold mayE at m
    split at m
    · rename_i f
      split at m
      · rename_i t; exact ⟨f, t⟩
      · cases m
    · cases m
  obtain ⟨f, t⟩ := fine m
  obtain ⟨f', t'⟩ := fine m'
  have hs : sameV h h' ks ks' = sameB h h' ks ks' := by simp [sameV, f, f']
  rw [hs, ByteArray.toList_eq, ByteArray.toList_eq]
  show (formL h ks == formL h' ks') = _
  rw [formL, formL, if_pos m, if_pos m', Bool.eq_iff_iff, beq_iff_eq]
  simp only [sameB, decide_eq_true_eq]
  constructor
  · intro e
    injection e with _ e
    obtain ⟨rfl, rfl⟩ := text_inj t t' e
    simp
  · intro e
    obtain ⟨rfl, rfl⟩ : h = h' ∧ ks = ks' := by simpa using e
    rfl
theorem blk_cells {w : World} {b : Nat} {cs : Array Value} {T : TypeId} {fr : Nat × Nat} (h : w.heap[b]? = some (.cells cs T fr)) : ∀ o, w.cell? ⟨b, o, none⟩ = cs[o]? := fun o => by simp [World.cell?, h]
set_option maxRecDepth 100000 in
set_option maxHeartbeats 2000000 in
theorem printUnlike_any (nd nd' : Hd) (ks ks' : Trees) (w : World) (ka ka' : Option Addr) (kl kc kl' kc' : Nat) (tv : TreeV w w.heap.size nd ks ka kl) (tv' : TreeV w w.heap.size nd' ks' ka' kl') (T : TabW w) :
    Calls Tryd.prog 5 #[.agg #[.int .i64 nd.kind, .int .i64 nd.op, .int .i64 nd.num, .string ⟨nd.text.toArray⟩, .int .i64 nd.ref.row, .int .i64 nd.ref.col, .bool nd.ref.pr, .bool nd.ref.pc, .int .i64 nd.to.row, .int .i64 nd.to.col, .bool nd.to.pr, .bool nd.to.pc, .int .i64 nd.fn, (.slice ka kl kc)], .agg #[.int .i64 nd'.kind, .int .i64 nd'.op, .int .i64 nd'.num, .string ⟨nd'.text.toArray⟩, .int .i64 nd'.ref.row, .int .i64 nd'.ref.col, .bool nd'.ref.pr, .bool nd'.ref.pc, .int .i64 nd'.to.row, .int .i64 nd'.to.col, .bool nd'.to.pr, .bool nd'.to.pc, .int .i64 nd'.fn, (.slice ka' kl' kc')]] w (TruePost w) := by
  have HA := Lib.hid tv; have HB := Lib.hid tv'; have HT := Lib.hid T
  clear tv tv' T
  go_enter Tryd.func5, Tryd.ntmps5
  go_upto_region 1 with (fail)
  have BX : ((w.alloc (.cells #[.int .i64 nd.kind, .int .i64 nd.op, .int .i64 nd.num, .string ⟨nd.text.toArray⟩, .int .i64 nd.ref.row, .int .i64 nd.ref.col, .bool nd.ref.pr, .bool nd.ref.pc, .int .i64 nd.to.row, .int .i64 nd.to.col, .bool nd.to.pr, .bool nd.to.pc, .int .i64 nd.fn, (.slice ka kl kc)] 30)).alloc (.cells #[.int .i64 nd'.kind, .int .i64 nd'.op, .int .i64 nd'.num, .string ⟨nd'.text.toArray⟩, .int .i64 nd'.ref.row, .int .i64 nd'.ref.col, .bool nd'.ref.pr, .bool nd'.ref.pc, .int .i64 nd'.to.row, .int .i64 nd'.to.col, .bool nd'.to.pr, .bool nd'.to.pc, .int .i64 nd'.fn, (.slice ka' kl' kc')] 30)).heap[w.heap.size]? = some (.cells #[.int .i64 nd.kind, .int .i64 nd.op, .int .i64 nd.num, .string ⟨nd.text.toArray⟩, .int .i64 nd.ref.row, .int .i64 nd.ref.col, .bool nd.ref.pr, .bool nd.ref.pc, .int .i64 nd.to.row, .int .i64 nd.to.col, .bool nd.to.pr, .bool nd.to.pc, .int .i64 nd.fn, (.slice ka kl kc)] 30 (0, 0)) := heap_alloc2_old w _ _
  have BY : ((w.alloc (.cells #[.int .i64 nd.kind, .int .i64 nd.op, .int .i64 nd.num, .string ⟨nd.text.toArray⟩, .int .i64 nd.ref.row, .int .i64 nd.ref.col, .bool nd.ref.pr, .bool nd.ref.pc, .int .i64 nd.to.row, .int .i64 nd.to.col, .bool nd.to.pr, .bool nd.to.pc, .int .i64 nd.fn, (.slice ka kl kc)] 30)).alloc (.cells #[.int .i64 nd'.kind, .int .i64 nd'.op, .int .i64 nd'.num, .string ⟨nd'.text.toArray⟩, .int .i64 nd'.ref.row, .int .i64 nd'.ref.col, .bool nd'.ref.pr, .bool nd'.ref.pc, .int .i64 nd'.to.row, .int .i64 nd'.to.col, .bool nd'.to.pr, .bool nd'.to.pc, .int .i64 nd'.fn, (.slice ka' kl' kc')] 30)).heap[w.heap.size + 1]? = some (.cells #[.int .i64 nd'.kind, .int .i64 nd'.op, .int .i64 nd'.num, .string ⟨nd'.text.toArray⟩, .int .i64 nd'.ref.row, .int .i64 nd'.ref.col, .bool nd'.ref.pr, .bool nd'.ref.pc, .int .i64 nd'.to.row, .int .i64 nd'.to.col, .bool nd'.to.pr, .bool nd'.to.pc, .int .i64 nd'.fn, (.slice ka' kl' kc')] 30 (0, 0)) := heap_alloc2_new w _ _
  have b0 : Below w.heap.size w ((w.alloc (.cells #[.int .i64 nd.kind, .int .i64 nd.op, .int .i64 nd.num, .string ⟨nd.text.toArray⟩, .int .i64 nd.ref.row, .int .i64 nd.ref.col, .bool nd.ref.pr, .bool nd.ref.pc, .int .i64 nd.to.row, .int .i64 nd.to.col, .bool nd.to.pr, .bool nd.to.pc, .int .i64 nd.fn, (.slice ka kl kc)] 30)).alloc (.cells #[.int .i64 nd'.kind, .int .i64 nd'.op, .int .i64 nd'.num, .string ⟨nd'.text.toArray⟩, .int .i64 nd'.ref.row, .int .i64 nd'.ref.col, .bool nd'.ref.pr, .bool nd'.ref.pc, .int .i64 nd'.to.row, .int .i64 nd'.to.col, .bool nd'.to.pr, .bool nd'.to.pc, .int .i64 nd'.fn, (.slice ka' kl' kc')] 30)) := ext_alloc (ext_alloc (Below.refl _ _) _) _
  have hs1 : ((w.alloc (.cells #[.int .i64 nd.kind, .int .i64 nd.op, .int .i64 nd.num, .string ⟨nd.text.toArray⟩, .int .i64 nd.ref.row, .int .i64 nd.ref.col, .bool nd.ref.pr, .bool nd.ref.pc, .int .i64 nd.to.row, .int .i64 nd.to.col, .bool nd.to.pr, .bool nd.to.pc, .int .i64 nd.fn, (.slice ka kl kc)] 30)).alloc (.cells #[.int .i64 nd'.kind, .int .i64 nd'.op, .int .i64 nd'.num, .string ⟨nd'.text.toArray⟩, .int .i64 nd'.ref.row, .int .i64 nd'.ref.col, .bool nd'.ref.pr, .bool nd'.ref.pc, .int .i64 nd'.to.row, .int .i64 nd'.to.col, .bool nd'.to.pr, .bool nd'.to.pc, .int .i64 nd'.fn, (.slice ka' kl' kc')] 30)).heap.size = w.heap.size + 2 := by simp
  generalize (w.alloc (.cells #[.int .i64 nd.kind, .int .i64 nd.op, .int .i64 nd.num, .string ⟨nd.text.toArray⟩, .int .i64 nd.ref.row, .int .i64 nd.ref.col, .bool nd.ref.pr, .bool nd.ref.pc, .int .i64 nd.to.row, .int .i64 nd.to.col, .bool nd.to.pr, .bool nd.to.pc, .int .i64 nd.fn, (.slice ka kl kc)] 30)).alloc (.cells #[.int .i64 nd'.kind, .int .i64 nd'.op, .int .i64 nd'.num, .string ⟨nd'.text.toArray⟩, .int .i64 nd'.ref.row, .int .i64 nd'.ref.col, .bool nd'.ref.pr, .bool nd'.ref.pc, .int .i64 nd'.to.row, .int .i64 nd'.to.col, .bool nd'.to.pr, .bool nd'.to.pc, .int .i64 nd'.fn, (.slice ka' kl' kc')] 30) = w0 at *
  have TA := Lib.hid ((HA.out.kept b0 (Nat.le_refl _)).mono (B' := w0.heap.size) (by omega))
  have TB := Lib.hid ((HB.out.kept b0 (Nat.le_refl _)).mono (B' := w0.heap.size) (by omega))
  have T0 := Lib.hid (HT.out.kept b0)
  have HBX := Lib.hid BX; have HBY := Lib.hid BY; have HB0 := Lib.hid b0
  have hlt : w.heap.size ≤ w0.heap.size := by omega
  clear BX BY b0 hs1
  have hend : ∀ W, Below w0.heap.size w0 W → Below w.heap.size w W := fun W h => HB0.out.trans (h.mono hlt)
  have HEND := Lib.hid hend
  clear hend
  go_wp2_with fail
  refine (begun11_any w0 T0.out).mono ?_
  rintro e w1 ⟨rfl, b1⟩
  have BX1 := Lib.hid (blk_below b1 HBX.out); have BY1 := Lib.hid (blk_below b1 HBY.out)
  have B1 := Lib.hid b1
  clear b1
  go_wp2_with (first | (refine wpList_load_X rfl rfl rfl BX1.out rfl ?_) | (refine wpList_load_X rfl rfl rfl BY1.out rfl ?_))
  refine (may_any nd ks w1 w0.heap.size ka kl kc B1.out.size (TA.out.kept B1.out (Nat.le_refl _))).mono ?_
  rintro e w2 ⟨rfl, b2⟩
  have BX2 := Lib.hid (blk_below b2 BX1.out); have BY2 := Lib.hid (blk_below b2 BY1.out)
  have B2 := Lib.hid (B1.out.trans (b2.mono B1.out.size))
  clear b2 BX1 BY1
  by_cases h0 : mayE nd ks = 0
  rotate_left
  · generalize mayE nd ks = x at h0 ⊢
    have hb : (x != 0) = true := by simpa using h0
    go_wp2
    go_ret
    exact ⟨rfl, HEND.out _ B2.out⟩
  have H0 := Lib.hid h0
  rw [h0]
  clear h0
  have LY2 := blk_cells BY2.out
  go_wp2_with fail
  clear LY2
  refine (may_any nd' ks' w2 w0.heap.size ka' kl' kc' B2.out.size (TB.out.kept B2.out (Nat.le_refl _))).mono ?_
  rintro e w3 ⟨rfl, b3⟩
  have BX3 := Lib.hid (blk_below b3 BX2.out); have BY3 := Lib.hid (blk_below b3 BY2.out)
  have B3 := Lib.hid (B2.out.trans (b3.mono B2.out.size))
  clear b3 BX2 BY2
  by_cases h1 : mayE nd' ks' = 0
  rotate_left
  · generalize mayE nd' ks' = x at h1 ⊢
    have hb : (x != 0) = true := by simpa using h1
    go_wp2_with fail
    go_ret
    exact ⟨rfl, HEND.out _ B3.out⟩
  have H1 := Lib.hid h1
  rw [h1]
  clear h1
  go_wp2_with (refine wpList_load_X rfl rfl rfl BX3.out rfl ?_)
  refine (formula_any nd ks w3 w0.heap.size ka kl kc B3.out.size (TA.out.kept B3.out (Nat.le_refl _)) (T0.out.kept B3.out)).mono ?_
  rintro e w4 ⟨he, b4⟩
  have BX4 := Lib.hid (blk_below b4 BX3.out); have BY4 := Lib.hid (blk_below b4 BY3.out)
  have B4 := Lib.hid (B3.out.trans (b4.mono B3.out.size))
  clear b4 BX3 BY3
  have HEQ := Lib.hid (forms_same H0.out H1.out)
  have hfe := formula_any nd' ks' w4 w0.heap.size ka' kl' kc' B4.out.size (TB.out.kept B4.out (Nat.le_refl _)) (T0.out.kept B4.out)
  unfold FormPost at hfe
  rw [H1.out] at hfe
  rw [H0.out] at he
  have heq := HEQ.out
  generalize strB (formL nd ks) = s1 at he heq
  generalize strB (formL nd' ks') = s2 at hfe heq
  generalize hsv : sameV nd nd' ks ks' = sv at heq
  have HSV := Lib.hid hsv; have HFE := Lib.hid hfe
  clear HEQ hfe hsv
  subst he
  go_wp2_with (refine wpList_load_X rfl rfl rfl BY4.out rfl ?_)
  refine HFE.out.mono ?_
  rintro e w5 ⟨rfl, b5⟩
  have BX5 := Lib.hid (blk_below b5 BX4.out); have BY5 := Lib.hid (blk_below b5 BY4.out)
  have B5 := Lib.hid (B4.out.trans (b5.mono B4.out.size))
  clear b5 BX4 BY4 HFE
  have LX5 := blk_cells BX5.out; have LY5 := blk_cells BY5.out
  go_wp2_with fail
  clear LX5 LY5
  refine (same_all nd nd' ks ks' w5 w0.heap.size w0.heap.size ka ka' kl kc kl' kc' B5.out.size B5.out.size (TA.out.kept B5.out (Nat.le_refl _)) (TB.out.kept B5.out (Nat.le_refl _))).mono ?_
  rintro e w6 ⟨rfl, b6⟩
  have B6 := Lib.hid (B5.out.trans (b6.mono B5.out.size))
  rw [HSV.out]
  clear b6 BX5 BY5
  cases sv
  all_goals
    go_wp2_with fail
    go_ret
    exact ⟨rfl, HEND.out _ B6.out⟩
end Go.Proofs.YtnhgeojcelegbaaDoor

namespace Go.Proofs.YtnhgeojcelegbaaDoor
open Go.ChangeShapes Go.WideShapes Go.ChangeAt Go.RowKit
set_option maxRecDepth 100000 in
theorem printUnlike_lifted (os : Os) (started : os.Started) (H : Type) (enc : TypeId × Value → H) :
    ReturnsInHanded {} Tryd.checked os 5 .any (fun w args => (Rows.printUnlikeSpec.pre enc Tryd.prog Tryd.f5 [] false w args ∧ laidMetH Tryd.prog Rows.printUnlikeRow.laid w) ∧ sizedMet enc Tryd.prog Tryd.f5 (OpenSpec.ofChange Rows.printUnlikeSpec) false w args)
      (Rows.printUnlikeSpec.post enc Tryd.prog Tryd.f5 false true false false) := by
  refine lift_lawS (C := Tryd.checked) (tb := 4) (laidVars := Rows.printUnlikeRow.laid) own started (by kernel_rfl) Tryd.func5
    (ChangeSpec.witness_shaped (enc := enc) (C := Tryd.checked) (os := os) (X := fun w _ => laidMetH Tryd.prog Rows.printUnlikeRow.laid w) false (World.laidAll Tryd.prog os Rows.printUnlikeRow.laid) #[.agg #[.int .i64 0, .int .i64 0, .int .i64 0, .string ⟨#[]⟩, .int .i64 0, .int .i64 0, .bool false, .bool false, .int .i64 0, .int .i64 0, .bool false, .bool false, .int .i64 0, .slice none 0 0], .agg #[.int .i64 0, .int .i64 0, .int .i64 0, .string ⟨#[]⟩, .int .i64 0, .int .i64 0, .bool false, .bool false, .int .i64 0, .int .i64 0, .bool false, .bool false, .int .i64 0, .slice none 0 0]] 8 (World.laidAll_os _ _ _)
      (World.shaped_of_ZipB (by kernel_rfl) (by kernel_rfl)) (by kernel_rfl) (by kernel_rfl) (by kernel_rfl)
      (by rw [MakeChecks.laidMetH_plain _ _ _ (by kernel_rfl)]; exact laidMet_laidAll _ (by kernel_rfl) (by kernel_rfl))) laidOut (by kernel_rfl) rfl Tryd.underlying4 rfl ?_ ?_
  · rintro ds hl
    match ds, hl with
    | [_, _], _ => exact ⟨rfl, rfl, rfl⟩
  · intro W base args ds p hval0 hA hlt hsz hL hsh
    have hval : ∀ (j : Nat) t v, Tryd.f5.params[j]? = some t → args[j]? = some v → Value.okWide Tryd.prog W .any base t v := hval0
    clear hval0
    rw [Tryd.params5] at hA hsz hval
    obtain ⟨v0, vs0, d0, ds0, p0, q0, hargs, rfl, rfl, h0, r0⟩ := trodAll_cons hA
    obtain ⟨v1, vs1, d1, ds1, p1, q1, rfl, rfl, rfl, h1, r1⟩ := trodAll_cons r0
    obtain ⟨rfl, rfl, rfl⟩ := trodAll_nil r1
    obtain rfl : args = #[v0, v1] := by cases args; simp_all
    have TW : TabW W := tabW_of hL hsh
    have hw0 : ∀ n ∈ d0.weights Tryd.prog 30, n ≤ reachBytes := fun n hn => by have := List.all_eq_true.1 hsz n (DataW.weights_mem_each (P := Tryd.prog) (j := 0) rfl rfl n hn); simpa using this
    obtain ⟨h, ks, ka, kl, kc, rfl, tv⟩ := treeArg (hval 0 _ _ rfl rfl) h0 hw0
    have hw1 : ∀ n ∈ d1.weights Tryd.prog 30, n ≤ reachBytes := fun n hn => by have := List.all_eq_true.1 hsz n (DataW.weights_mem_each (P := Tryd.prog) (j := 1) rfl rfl n hn); simpa using this
    obtain ⟨h', ks', ka', kl', kc', rfl, tv'⟩ := treeArg (hval 1 _ _ rfl rfl) h1 hw1
    exact printUnlike_any h h' ks ks' W ka ka' kl kc kl' kc' tv tv' TW

theorem printUnlike_row : Rows.PrintUnlikeSaid :=
  OpenClaim.holds_of_wide 5 Tryd.f5 rfl rfl rfl rfl rfl rfl rfl ⟨rfl, rfl, rfl, rfl, rfl⟩ rfl rfl rfl rfl rfl (by kernel_rfl) Tryd.func5 (by kernel_rfl)
    (of_decide_eq_true (by kernel_rfl)) (by unfold Func.isWrapper; first | (rw [if_pos (by decide +kernel)]; kernel_rfl) | (rw [if_neg (by decide +kernel)]; exact ⟨rfl, rfl⟩))
    (fun os started H enc _ => printUnlike_lifted os started H enc)
theorem printUnlike_holds : Rows.PrintUnlikeCardSaid :=
  Claim7.holds_tied_plain_at .later [] Rows.printUnlikeCard.laidKinds true Rows.printUnlikeCard.stood.harness Rows.printUnlikeCard.stood.looks printUnlike_row (fun _ h => by cases h) (by kernel_rfl) (fun _ h => by cases h) printUnlike_row_tie rfl ⟨rfl, rfl⟩ (by kernel_rfl) rfl
    (fun f fn hf hfn => by
      obtain rfl : f = 5 := Option.some.inj ((show Tryd.prog.funcNamed "quadrille/quadrillelaw11.PrintUnlike" = some 5 by kernel_rfl).symm.trans hf) |>.symm
      obtain rfl : fn = Tryd.f5 := (Option.some.inj (Tryd.func5.symm.trans hfn)).symm
      exact ⟨by kernel_rfl, fun j t ht => by
        rw [Tryd.params5] at ht
        have hm : t ∈ ([30, 30] : List TypeId) := by simpa using Array.mem_of_getElem? ht
        have hall : (([30, 30] : List TypeId).all fun u => !Tryd.prog.wantsStandIn u) = true := by kernel_rfl
        exact (show Tryd.prog.wantsStandIn t = false by simpa using List.all_eq_true.1 hall t hm)⟩)
    (by kernel_rfl)
#print axioms printUnlike_holds
end Go.Proofs.YtnhgeojcelegbaaDoor
