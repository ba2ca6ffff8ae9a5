/- Trees: tree.Size. -/
import Derived.Test.YtlmpiobdgkmmgaaGreatDoorKcE
namespace Go.Proofs.YtlmpiobdgkmmgaaGreatDoor
open Go.RowKit
set_option maxRecDepth 100000 in
set_option maxHeartbeats 1000000 in
theorem size_any (nd : Hd) (ks : Trees) (w : World) (B : Nat) (ka : Option Addr) (kl kc : Nat) (hB : B ≤ w.heap.size) (tv : TreeV w B nd ks ka kl) :
    Calls Tryz.prog 18 #[.agg #[.int .i64 nd.kind, .int .i64 nd.op, .int .i64 nd.num, .string ⟨nd.text.toArray⟩, .int .i64 nd.ref.row, .int .i64 nd.ref.col, .bool nd.ref.pr, .bool nd.ref.pc, .int .i64 nd.to.row, .int .i64 nd.to.col, .bool nd.to.pr, .bool nd.to.pc, .int .i64 nd.fn, .slice ka kl kc]] w (SizePost nd ks w) := by
  have HT := Lib.hid tv; clear tv
  go_enter Tryz.func18, Tryz.ntmps18
  go_wp2_with fail
  have N0 := node_box w nd (.slice ka kl kc)
  have hs1 : ∀ o : Obj, (w.alloc o).heap.size = w.heap.size + 1 := fun o => by simp
  refine (walk_any _ (all_spec (B := w.heap.size + 1) (by rw [hs1]; exact Nat.le_refl _)) nd ks w.heap.size 0 ka kl kc () (Nat.lt_succ_self _) N0 ((HT.out.kept ((Below.refl _ _).alloc hB _) (Nat.le_refl _)).mono (by omega)) trivial).mono ?_
  rintro e w2 ⟨n, d, t, s', ok, rfl, -, b2, yes, no⟩
  have b3 : Below w.heap.size w w2 := ((Below.refl _ _).alloc (Nat.le_refl _) _).trans (b2.mono (by omega))
  have B3 := Lib.hid b3
  clear b2 b3 N0 hs1
  by_cases f : Fine nd ks
  · obtain ⟨rfl, y1, y2, y3, -⟩ := yes f
    obtain ⟨s1, s2, s3⟩ := size_yes f
    have Y := Lib.hid (And.intro (y1.trans s1.symm) (And.intro (y2.trans s2.symm) (y3.trans s3.symm)))
    clear yes no f y1 y2 y3 s1 s2 s3
    go_wp2
    go_ret3
    exact ⟨ret3 Y.out.1 Y.out.2.1 Y.out.2.2, B3.out⟩
  · obtain rfl := no f
    obtain ⟨s1, s2, s3⟩ := size_no f
    have Y := Lib.hid (And.intro s1.symm (And.intro s2.symm s3.symm))
    clear yes no f s1 s2 s3
    go_wp2
    go_ret3
    exact ⟨ret3 Y.out.1 Y.out.2.1 Y.out.2.2, B3.out⟩
end Go.Proofs.YtlmpiobdgkmmgaaGreatDoor
