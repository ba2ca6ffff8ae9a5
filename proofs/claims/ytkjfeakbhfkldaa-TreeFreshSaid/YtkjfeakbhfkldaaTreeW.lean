/- Trees: the reference's Reads and Same. -/
import Derived.Test.YtkjfeakbhfkldaaTreeU
import Derived.Test.YtkjfeakbhfkldaaTreeF
namespace Go.Proofs.Ytkjfeakbhfkldaa
open Go.RowKit
def ReadsAns (h : Hd) (ks : Trees) : List Ar := if mayE h ks = 0 then readsT h ks else []
def AllReadsPost (h : Hd) (ks : Trees) (w : World) (e : Ending) (w' : World) : Prop :=
  ∃ v, e = .returned (.tuple #[v, .int .i64 (mayE h ks)]) ∧ Below w.heap.size w w' ∧ ArRow w.heap.size w' (ReadsAns h ks) v
theorem mayE_fine {h : Hd} {ks : Trees} (e : mayE h ks = 0) : Fine h ks := by
  unfold mayE at e
  by_cases f : Fine h ks
  · exact f
  · simp [f] at e

set_option maxRecDepth 100000 in
set_option maxHeartbeats 1000000 in
theorem refAllReads_any (nd : Hd) (ks : Trees) (w : World) (B : Nat) (ka : Option Addr) (kl kc : Nat) (hB : B ≤ w.heap.size) (tv : TreeV w B nd ks ka kl) :
    Calls Try.prog 27 #[.agg #[.int .i64 nd.kind, .int .i64 nd.op, .int .i64 nd.num, .string ⟨nd.text.toArray⟩, .int .i64 nd.ref.row, .int .i64 nd.ref.col, .bool nd.ref.pr, .bool nd.ref.pc, .int .i64 nd.to.row, .int .i64 nd.to.col, .bool nd.to.pr, .bool nd.to.pc, .int .i64 nd.fn, .slice ka kl kc]] w (AllReadsPost nd ks w) := by
  have HT := Lib.hid tv; clear tv
  go_enter Try.func27, Try.ntmps27
  go_wp2_with fail
  have b0 := (Below.refl B w).alloc hB (.cells #[.int .i64 nd.kind, .int .i64 nd.op, .int .i64 nd.num, .string ⟨nd.text.toArray⟩, .int .i64 nd.ref.row, .int .i64 nd.ref.col, .bool nd.ref.pr, .bool nd.ref.pc, .int .i64 nd.to.row, .int .i64 nd.to.col, .bool nd.to.pr, .bool nd.to.pc, .int .i64 nd.fn, .slice ka kl kc] 29)
  refine (refMay_any nd ks _ B ka kl kc (by simp; omega) (HT.out.kept b0 (Nat.le_refl _))).mono ?_
  rintro e w2 ⟨rfl, b2⟩
  obtain ⟨zb, cb⟩ := kept_block b2
  have T2 := Lib.hid (HT.out.kept (b0.trans (b2.mono (by simp; omega))) (Nat.le_refl _))
  have B2 := Lib.hid ((ext_alloc (Below.refl _ w) (.cells #[.int .i64 nd.kind, .int .i64 nd.op, .int .i64 nd.num, .string ⟨nd.text.toArray⟩, .int .i64 nd.ref.row, .int .i64 nd.ref.col, .bool nd.ref.pr, .bool nd.ref.pc, .int .i64 nd.to.row, .int .i64 nd.to.col, .bool nd.to.pr, .bool nd.to.pc, .int .i64 nd.fn, .slice ka kl kc] 29)).trans (b2.mono (by simp)))
  clear b0 b2
  by_cases q : mayE nd ks = 0
  · have q1 : (mayE nd ks != 0) = false := by simp [q]
    have q2 : (mayE nd ks == 0) = true := by simp [q]
    have Q := Lib.hid q
    go_wp2_with fail
    refine (refReads_any nd ks _ B w2.heap.size ka kl kc [] (.slice none 0 0) (by omega) (Nat.le_refl _) T2.out (ArRow.nil _ _) (by have := (mayE_fine Q.out).1; simp; omega)).mono ?_
    rintro e w3 ⟨v', rfl, g3, a3⟩
    have G3 := Lib.hid g3; have A3 := Lib.hid a3
    clear g3 a3 cb
    go_wp2
    refine bodyPost_ret (v := .tuple #[v', .int .i64 0]) (by simp [results, Try.results27, go_sem]) rfl ?_
    have A := A3.out
    refine ⟨v', by rw [Q.out], B2.out.trans (G3.out.below (by omega) (fun k hk => by cases hk)), ?_⟩
    unfold ReadsAns
    rw [if_pos Q.out]
    refine ⟨A.1, ?_⟩
    rcases A.2 with q | ⟨g, cap, cur, hv, hb, r⟩
    · exact .inl q
    · exact .inr ⟨g, cap, cur, hv, by omega, r⟩
  · have q1 : (mayE nd ks != 0) = true := by simp [q]
    have q2 : (mayE nd ks == 0) = false := by simp [q]
    have Q := Lib.hid q
    clear q
    go_wp2
    refine bodyPost_ret (v := .tuple #[.slice none 0 0, .int .i64 (mayE nd ks)]) (by simp [results, Try.results27, go_sem]) rfl ?_
    refine ⟨_, rfl, B2.out, ?_⟩
    unfold ReadsAns
    rw [if_neg Q.out]
    exact ArRow.nil _ _
end Go.Proofs.Ytkjfeakbhfkldaa
