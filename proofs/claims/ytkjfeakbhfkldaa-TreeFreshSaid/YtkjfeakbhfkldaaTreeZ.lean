/- Trees: Reads. -/
import Derived.Test.YtkjfeakbhfkldaaTreeY
import Derived.Test.YtkjfeakbhfkldaaTreeW
namespace Go.Proofs.Ytkjfeakbhfkldaa
open Go.RowKit

theorem reads_spec {g W : Nat} (h : g < W) : SeeSpec (.func (.func 55) #[] #[.pointer (some ⟨g, 0, none⟩)]) 55 #[.pointer (some ⟨g, 0, none⟩)] g W (ReadsI g W) (fun s x => s ++ readN x.1) :=
  ⟨rfl, by omega, fun _ _ => by kernel_rfl, fun n s w b off nd ka kl kc n0 n1 hb hW N hI => reads1_any g W h n s w b off nd ka kl kc n0 n1 hb hW N hI,
   fun _ _ _ ⟨v, a, b, c⟩ => ⟨v, a, b, by omega⟩,
   fun _ _ _ _ ⟨v, a, b, c⟩ hk _ => ⟨v, (hk g (lt_of_block a) (by omega)).trans a, b.kept fun k e => hk k (b.lt k e).2 (by have := (b.lt k e).1; omega), c⟩⟩

set_option maxRecDepth 100000 in
set_option maxHeartbeats 1000000 in
theorem reads_any (nd : Hd) (ks : Trees) (w : World) (B : Nat) (ka : Option Addr) (kl kc : Nat) (hB : B ≤ w.heap.size) (tv : TreeV w B nd ks ka kl) :
    Calls Try.prog 20 #[.agg #[.int .i64 nd.kind, .int .i64 nd.op, .int .i64 nd.num, .string ⟨nd.text.toArray⟩, .int .i64 nd.ref.row, .int .i64 nd.ref.col, .bool nd.ref.pr, .bool nd.ref.pc, .int .i64 nd.to.row, .int .i64 nd.to.col, .bool nd.to.pr, .bool nd.to.pc, .int .i64 nd.fn, .slice ka kl kc]] w (AllReadsPost nd ks w) := by
  have HT := Lib.hid tv; clear tv
  go_enter Try.func20, Try.ntmps20
  go_wp2_with fail
  have b0 := (Below.refl B w).alloc hB (.cells #[.int .i64 nd.kind, .int .i64 nd.op, .int .i64 nd.num, .string ⟨nd.text.toArray⟩, .int .i64 nd.ref.row, .int .i64 nd.ref.col, .bool nd.ref.pr, .bool nd.ref.pc, .int .i64 nd.to.row, .int .i64 nd.to.col, .bool nd.to.pr, .bool nd.to.pc, .int .i64 nd.fn, .slice ka kl kc] 29)
  refine (may_any nd ks _ B ka kl kc (by simp; omega) (HT.out.kept b0 (Nat.le_refl _))).mono ?_
  rintro e w2 ⟨rfl, b2⟩
  obtain ⟨zb, cb⟩ := kept_block b2
  have N2 := Lib.hid ((node_box w nd (.slice ka kl kc)).kept b2 (by simp))
  have T2 := Lib.hid (HT.out.kept (b0.trans (b2.mono (by simp; omega))) (Nat.le_refl _))
  have B2 := Lib.hid ((ext_alloc (Below.refl _ w) (.cells #[.int .i64 nd.kind, .int .i64 nd.op, .int .i64 nd.num, .string ⟨nd.text.toArray⟩, .int .i64 nd.ref.row, .int .i64 nd.ref.col, .bool nd.ref.pr, .bool nd.ref.pc, .int .i64 nd.to.row, .int .i64 nd.to.col, .bool nd.to.pr, .bool nd.to.pc, .int .i64 nd.fn, .slice ka kl kc] 29)).trans (b2.mono (by simp)))
  clear b0 b2
  by_cases q : mayE nd ks = 0
  · have q1 : (mayE nd ks != 0) = false := by simp [q]
    have q2 : (mayE nd ks == 0) = true := by simp [q]
    have Q := Lib.hid q
    go_wp2_with fail
    have hI : ReadsI w2.heap.size (w2.alloc (.cells #[.slice none 0 0] 41)).heap.size 0 [] (w2.alloc (.cells #[.slice none 0 0] 41)) := ⟨_, heap_alloc_new _ _, ArRow.nil _ _, by simp⟩
    have hb3 : Below w2.heap.size w2 (w2.alloc (.cells #[.slice none 0 0] 41)) := ext_alloc (Below.refl _ _) _
    have hz3 : (w2.alloc (.cells #[.slice none 0 0] 41)).heap.size = w2.heap.size + 1 := by simp
    refine (walk_any _ (reads_spec (g := w2.heap.size) (by omega)) nd ks w.heap.size 0 ka kl kc [] (by omega) (N2.out.kept hb3 (by omega)) ((T2.out.kept (hb3.mono (by omega : B ≤ _)) (Nat.le_refl _)).mono (by omega)) hI).mono ?_
    rintro e w4 ⟨n, d, t, s', ok, rfl, ⟨v, hg4, hv4, -⟩, b4, yes, -⟩
    obtain ⟨-, -, -, -, rfl⟩ := yes (mayE_fine Q.out)
    have cg := cell_of_one hg4
    have V4 := Lib.hid hv4
    have B4 := Lib.hid (B2.out.trans ((hb3.mono (by omega : w.heap.size ≤ _)).trans (b4.mono (by omega))))
    clear hI hb3 b4 yes hg4 hv4 cb
    go_wp2
    refine bodyPost_ret (v := .tuple #[v, .int .i64 0]) (by simp [results, Try.results20, go_sem]) rfl ?_
    have A := V4.out
    rw [fold_readsT, List.nil_append] at A
    refine ⟨v, by rw [Q.out], B4.out, ?_⟩
    unfold ReadsAns
    rw [if_pos Q.out]
    refine ⟨A.1, ?_⟩
    rcases A.2 with q | ⟨g, cap, cur, hv, hb, r⟩
    · exact .inl q
    · exact .inr ⟨g, cap, cur, hv, by omega, r⟩
  · have q1 : (mayE nd ks != 0) = true := by simp [q]
    have q2 : (mayE nd ks == 0) = false := by simp [q]
    have Q := Lib.hid q
    clear q
    go_wp2
    refine bodyPost_ret (v := .tuple #[.slice none 0 0, .int .i64 (mayE nd ks)]) (by simp [results, Try.results20, go_sem]) rfl ?_
    refine ⟨_, rfl, B2.out, ?_⟩
    unfold ReadsAns
    rw [if_neg Q.out]
    exact ArRow.nil _ _
end Go.Proofs.Ytkjfeakbhfkldaa
