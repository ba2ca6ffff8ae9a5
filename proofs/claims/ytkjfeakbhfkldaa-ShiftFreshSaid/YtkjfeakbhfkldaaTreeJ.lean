/- Trees: May. -/
import Derived.Test.YtkjfeakbhfkldaaTreeI
import Derived.Test.YtkjfeakbhfkldaaTreeD3
namespace Go.Proofs.Ytkjfeakbhfkldaa
open Go.RowKit

def OneBool (w : World) (g : Nat) (s : Bool) : Prop := w.heap[g]? = some (.cells #[.bool s] 4 (0, 0))

set_option maxRecDepth 100000 in
set_option maxHeartbeats 1000000 in
theorem may1_any (s : Bool) (w : World) (g b off : Nat) (h : Hd) (ka : Option Addr) (kl kc : Nat) (N : NodeAt w b off h (.slice ka kl kc)) (hg : OneBool w g s) :
    Calls Try.prog 57 #[.pointer (some ⟨b, off, none⟩), .pointer (some ⟨g, 0, none⟩)] w fun e w' =>
      e = .returned (.bool true) ∧ OneBool w' g (s && fitsV h kl) ∧ Below g w w' ∧ ∀ k, g < k → k < w.heap.size → w'.heap[k]? = w.heap[k]? := by
  have cg := cell_of_one hg
  have fg := free_of_one hg
  have lg := lt_of_block hg
  have HG := Lib.hid hg; clear hg
  have T := told_any h b off ka kl kc w N
  have HT := Lib.hid T; clear T N
  cases s
  · go_enter Try.func57, Try.ntmps57
    go_wp2
    go_ret
    exact ⟨rfl, one_setCell HG.out, bel_set (Below.refl g w) (Nat.le_refl g) _, fun k hk _ => Below.heap_setCell _ _ _ _ (by simp; omega)⟩
  · go_enter Try.func57, Try.ntmps57
    go_wp2_with fail
    refine HT.out.mono ?_; rintro e w1 ⟨rfl, b1⟩
    have g1 : OneBool w1 g true := (b1.block g lg).trans HG.out
    have cg1 := cell_of_one g1
    have fg1 := free_of_one g1
    have G1 := Lib.hid g1; clear g1 cg fg
    go_wp2
    go_ret
    refine ⟨rfl, ?_, bel_set (b1.mono (Nat.le_of_lt lg)) (Nat.le_refl g) _, fun k hk hk2 => (Below.heap_setCell _ _ _ _ (by simp; omega)).trans (b1.block k hk2)⟩
    rw [Bool.true_and]; exact one_setCell G1.out

theorem may_spec {g W : Nat} (h : g < W) : SeeSpec (.func (.func 57) #[] #[.pointer (some ⟨g, 0, none⟩)]) 57 #[.pointer (some ⟨g, 0, none⟩)] g W (fun _ s w => OneBool w g s) (fun s x => s && fitsV x.1 x.2) :=
  ⟨rfl, by omega, fun _ _ => by kernel_rfl, fun _ s w b off h ka kl kc _ _ _ _ N hI => (may1_any s w g b off h ka kl kc N hI).mono fun _ _ ⟨a, b, c, d⟩ => ⟨a, b, c, fun k hk hk2 => d k (by omega) (by omega)⟩,
   fun _ _ _ h => h, fun _ s w w' hI hk hs => (hk g (lt_of_block hI) (by omega)).trans hI⟩

theorem fold_fits : ∀ (ks : Trees) (s : Bool), ks.pre.foldl (fun s x => s && fitsV x.1 x.2) s = (s && allFits ks)
  | .nil, s => by simp [Trees.pre, allFits]
  | .cons h k r, s => by
    rw [Trees.pre, List.foldl_cons, List.foldl_append, fold_fits k, fold_fits r, allFits]
    simp only [Bool.and_assoc]
theorem fold_tree (h : Hd) (ks : Trees) (s : Bool) : ((h, ks.len) :: ks.pre).foldl (fun s x => s && fitsV x.1 x.2) s = (s && treeFits h ks) := by
  rw [List.foldl_cons, fold_fits, treeFits, Bool.and_assoc]

set_option maxRecDepth 100000 in
set_option maxHeartbeats 1000000 in
theorem may_any (nd : Hd) (ks : Trees) (w : World) (B : Nat) (ka : Option Addr) (kl kc : Nat) (hB : B ≤ w.heap.size) (tv : TreeV w B nd ks ka kl) :
    Calls Try.prog 23 #[.agg #[.int .i64 nd.kind, .int .i64 nd.op, .int .i64 nd.num, .string ⟨nd.text.toArray⟩, .int .i64 nd.ref.row, .int .i64 nd.ref.col, .bool nd.ref.pr, .bool nd.ref.pc, .int .i64 nd.to.row, .int .i64 nd.to.col, .bool nd.to.pr, .bool nd.to.pc, .int .i64 nd.fn, .slice ka kl kc]] w (MayPost nd ks w) := by
  have HT := Lib.hid tv; clear tv
  go_enter Try.func23, Try.ntmps23
  go_wp2_with fail
  have N0 := (node_box w nd (.slice ka kl kc)).kept ((Below.refl (w.heap.size + 1) _).alloc (by simp) (.cells #[.bool true] 4)) (Nat.lt_succ_self _)
  have hs1 : ((w.alloc (.cells #[.int .i64 nd.kind, .int .i64 nd.op, .int .i64 nd.num, .string ⟨nd.text.toArray⟩, .int .i64 nd.ref.row, .int .i64 nd.ref.col, .bool nd.ref.pr, .bool nd.ref.pc, .int .i64 nd.to.row, .int .i64 nd.to.col, .bool nd.to.pr, .bool nd.to.pc, .int .i64 nd.fn, .slice ka kl kc] 29)).alloc (.cells #[.bool true] 4)).heap.size = w.heap.size + 2 := by simp
  have hg : OneBool ((w.alloc (.cells #[.int .i64 nd.kind, .int .i64 nd.op, .int .i64 nd.num, .string ⟨nd.text.toArray⟩, .int .i64 nd.ref.row, .int .i64 nd.ref.col, .bool nd.ref.pr, .bool nd.ref.pc, .int .i64 nd.to.row, .int .i64 nd.to.col, .bool nd.to.pr, .bool nd.to.pc, .int .i64 nd.fn, .slice ka kl kc] 29)).alloc (.cells #[.bool true] 4)) (w.heap.size + 1) true := heap_alloc2_new _ _ _
  have b0 : Below B w ((w.alloc (.cells #[.int .i64 nd.kind, .int .i64 nd.op, .int .i64 nd.num, .string ⟨nd.text.toArray⟩, .int .i64 nd.ref.row, .int .i64 nd.ref.col, .bool nd.ref.pr, .bool nd.ref.pc, .int .i64 nd.to.row, .int .i64 nd.to.col, .bool nd.to.pr, .bool nd.to.pc, .int .i64 nd.fn, .slice ka kl kc] 29)).alloc (.cells #[.bool true] 4)) := ((Below.refl _ _).alloc hB _).alloc (by simp; omega) _
  have b0' : Below w.heap.size w ((w.alloc (.cells #[.int .i64 nd.kind, .int .i64 nd.op, .int .i64 nd.num, .string ⟨nd.text.toArray⟩, .int .i64 nd.ref.row, .int .i64 nd.ref.col, .bool nd.ref.pr, .bool nd.ref.pc, .int .i64 nd.to.row, .int .i64 nd.to.col, .bool nd.to.pr, .bool nd.to.pc, .int .i64 nd.fn, .slice ka kl kc] 29)).alloc (.cells #[.bool true] 4)) := ((Below.refl _ _).alloc (Nat.le_refl _) _).alloc (by simp) _
  generalize hW : World.alloc (World.alloc w _) _ = w0 at *
  clear hW
  refine (walk_any w0 (may_spec (g := w.heap.size + 1) (by omega)) nd ks w.heap.size 0 ka kl kc true (Nat.lt_succ_self _) N0 ((HT.out.kept b0 (Nat.le_refl _)).mono (by omega)) hg).mono ?_
  rintro e w2 ⟨n, d, t, s', ok, rfl, i2, b2, yes, no⟩
  rw [fold_tree] at yes
  have B3 := Lib.hid (b0'.trans (b2.mono (by omega)))
  have cg := cell_of_one i2
  clear b2 b0 b0' N0 hs1 hg i2
  by_cases f : Fine nd ks
  · obtain ⟨rfl, -, -, -, y5⟩ := yes f
    rw [Bool.true_and] at y5
    subst y5
    have hm : mayE nd ks = if treeFits nd ks = true then 0 else 22 := by simp [mayE, f]
    clear yes no
    cases hq : treeFits nd ks
    · rw [hq] at cg hm
      have HM := Lib.hid hm
      clear hm hq f
      go_wp2
      go_ret
      exact ⟨ret_int HM.out.symm, B3.out⟩
    · rw [hq] at cg hm
      have HM := Lib.hid hm
      clear hm hq f
      go_wp2
      go_ret
      exact ⟨ret_int HM.out.symm, B3.out⟩
  · obtain rfl := no f
    have hm : mayE nd ks = 2 := by simp [mayE, f]
    have HM := Lib.hid hm
    clear yes no f hm
    go_wp2
    go_ret
    exact ⟨ret_int HM.out.symm, B3.out⟩
end Go.Proofs.Ytkjfeakbhfkldaa
