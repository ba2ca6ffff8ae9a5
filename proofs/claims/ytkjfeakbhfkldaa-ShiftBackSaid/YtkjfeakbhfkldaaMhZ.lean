/- Shifting: ShiftBack: rows or columns put in and taken out again give the same tree, if nothing left the grid; what stands ahead of them stays. -/
import Derived.Test.YtkjfeakbhfkldaaMhY
import Derived.Test.YtkjfeakbhfkldaaMhYa
import Derived.Test.YtkjfeakbhfkldaaMhYb
import Derived.Test.YtkjfeakbhfkldaaMhYc
import Derived.Test.YtkjfeakbhfkldaaMhYd
import Derived.Test.YtkjfeakbhfkldaaTreeArg
import Derived.Test.YtkjfeakbhfkldaaTreeArg2
import Derived.Test.YtkjfeakbhfkldaaLaw
namespace Go.Proofs.Ytkjfeakbhfkldaa
open Go.RowKit

theorem back_any (nd : Hd) (ks : Trees) (at_ n : Int) (w : World) (B : Nat) (ka : Option Addr) (kl kc : Nat) (hB : B ≤ w.heap.size) (tv : TreeV w B nd ks ka kl) (C : Bool) : Calls Try.prog 12 #[.agg #[.int .i64 nd.kind, .int .i64 nd.op, .int .i64 nd.num, .string ⟨nd.text.toArray⟩, .int .i64 nd.ref.row, .int .i64 nd.ref.col, .bool nd.ref.pr, .bool nd.ref.pc, .int .i64 nd.to.row, .int .i64 nd.to.col, .bool nd.to.pr, .bool nd.to.pc, .int .i64 nd.fn, .slice ka kl kc], .int .i64 at_, .int .i64 n, .bool C] w (TruePost w) := by
  cases so : (smallB nd ks && decide (mayE nd ks = 0))
  · exact back_not nd ks at_ n w B ka kl kc hB tv C so
  · by_cases far : n < 1 ∨ 70000 < n ∨ at_ < 0 ∨ 70000 < at_
    · exact back_far nd ks at_ n w B ka kl kc hB tv C so far
    · have n1 : 1 ≤ n := by omega
      have n2 : n ≤ 70000 := by omega
      have a1 : 0 ≤ at_ := by omega
      have a2 : at_ ≤ 70000 := by omega
      cases C
      · by_cases off : 65536 ≤ at_
        · exact back_bad_rows nd ks at_ n w B ka kl kc hB tv so n1 n2 a1 a2 off
        · have a3 : at_ < 65536 := by omega
          cases ah : aheadB 0 at_ nd ks
          · by_cases L : refsOf (mvH ⟨2, 0, 0, at_, n⟩ nd) (mvK ⟨2, 0, 0, at_, n⟩ ks) = refsOf nd ks
            · exact back_rows_nk nd ks at_ n w B ka kl kc hB tv so n1 n2 a1 a3 ah L
            · exact back_rows_nl nd ks at_ n w B ka kl kc hB tv so n1 n2 a1 a3 ah L
          · by_cases L : refsOf (mvH ⟨2, 0, 0, at_, n⟩ nd) (mvK ⟨2, 0, 0, at_, n⟩ ks) = refsOf nd ks
            · exact back_rows_ak nd ks at_ n w B ka kl kc hB tv so n1 n2 a1 a3 ah L
            · exact back_rows_al nd ks at_ n w B ka kl kc hB tv so n1 n2 a1 a3 ah L
      · by_cases off : 702 ≤ at_
        · exact back_bad_cols nd ks at_ n w B ka kl kc hB tv so n1 n2 a1 a2 off
        · have a3 : at_ < 702 := by omega
          cases ah : aheadB 1 at_ nd ks
          · by_cases L : refsOf (mvH ⟨3, 0, 0, at_, n⟩ nd) (mvK ⟨3, 0, 0, at_, n⟩ ks) = refsOf nd ks
            · exact back_cols_nk nd ks at_ n w B ka kl kc hB tv so n1 n2 a1 a3 ah L
            · exact back_cols_nl nd ks at_ n w B ka kl kc hB tv so n1 n2 a1 a3 ah L
          · by_cases L : refsOf (mvH ⟨3, 0, 0, at_, n⟩ nd) (mvK ⟨3, 0, 0, at_, n⟩ ks) = refsOf nd ks
            · exact back_cols_ak nd ks at_ n w B ka kl kc hB tv so n1 n2 a1 a3 ah L
            · exact back_cols_al nd ks at_ n w B ka kl kc hB tv so n1 n2 a1 a3 ah L

open Go.ChangeShapes Go.WideShapes Go.ChangeAt
set_option maxRecDepth 100000 in
theorem shiftBack_lifted (os : Os) (started : os.Started) (H : Type) (enc : TypeId × Value → H) :
    ReturnsInHanded {} Try.checked os 12 .any (Rows.shiftBackSpec.pre6 enc Try.prog Try.f12 Rows.shiftBackRow.domain false) (Rows.shiftBackSpec.post enc Try.prog Try.f12 false true false false) := by
  refine lift_law (C := Try.checked) (tb := 4) own started (by kernel_rfl) Try.func12
    (ChangeSpec.witness6 (enc := enc) (C := Try.checked) false ⟨#[], #[.agg #[.int .i64 0, .int .i64 0, .int .i64 0, .string ⟨#[]⟩, .int .i64 0, .int .i64 0, .bool false, .bool false, .int .i64 0, .int .i64 0, .bool false, .bool false, .int .i64 0, .slice none 0 0], .int .i64 0, .int .i64 0, .bool false], []⟩ 8 (by kernel_rfl) (by kernel_rfl) (by kernel_rfl) (by kernel_rfl)) laidOut (by kernel_rfl) rfl Try.underlying4 rfl ?_ ?_
  · rintro ds hl
    match ds, hl with
    | [_, _, _, _], _ => exact ⟨rfl, rfl, rfl⟩
  · intro W base args ds p hval0 hA hlt hsz
    have hval : ∀ (j : Nat) t v, Try.f12.params[j]? = some t → args[j]? = some v → Value.okWide Try.prog W .any base t v := hval0
    clear hval0
    rw [Try.params12] at hA hsz hval
    obtain ⟨v0, vs0, d0, ds0, p0, q0, hargs, rfl, rfl, h0, r0⟩ := trodAll_cons hA
    obtain ⟨v1, vs1, d1, ds1, p1, q1, rfl, rfl, rfl, h1, r1⟩ := trodAll_cons r0
    obtain ⟨v2, vs2, d2, ds2, p2, q2, rfl, rfl, rfl, h2, r2⟩ := trodAll_cons r1
    obtain ⟨v3, vs3, d3, ds3, p3, q3, rfl, rfl, rfl, h3, r3⟩ := trodAll_cons r2
    obtain ⟨rfl, rfl, rfl⟩ := trodAll_nil r3
    obtain rfl : args = #[v0, v1, v2, v3] := by cases args; simp_all
    have hlt0 : ∀ x ∈ p0, x.block < W.heap.size := fun x hx => hlt x (by simp [hx])
    have hlt1 : ∀ x ∈ p1, x.block < W.heap.size := fun x hx => hlt x (by simp [hx])
    have hlt2 : ∀ x ∈ p2, x.block < W.heap.size := fun x hx => hlt x (by simp [hx])
    have hlt3 : ∀ x ∈ p3, x.block < W.heap.size := fun x hx => hlt x (by simp [hx])
    have hv0 : Value.okWide Try.prog W .any base 29 v0 := hval 0 _ _ rfl rfl
    have g0 : DataW.Trod enc Try.prog W 0 (fun _ => true) true 29 v0 d0 p0 := h0
    have hv1 : Value.okWide Try.prog W .any base 2 v1 := hval 1 _ _ rfl rfl
    have g1 : DataW.Trod enc Try.prog W 0 (fun _ => true) true 2 v1 d1 p1 := h1
    have hv2 : Value.okWide Try.prog W .any base 2 v2 := hval 2 _ _ rfl rfl
    have g2 : DataW.Trod enc Try.prog W 0 (fun _ => true) true 2 v2 d2 p2 := h2
    have hv3 : Value.okWide Try.prog W .any base 4 v3 := hval 3 _ _ rfl rfl
    have g3 : DataW.Trod enc Try.prog W 0 (fun _ => true) true 4 v3 d3 p3 := h3
    obtain ⟨nt, kt, ta, tl, tc, rfl, tv⟩ := treeArg hv0 g0 (fun n hn => by have := List.all_eq_true.1 hsz n (DataW.weights_mem_each (P := Try.prog) (j := 0) rfl rfl n hn); simpa using this)
    obtain ⟨n1, rfl, hn1⟩ := arg_int64 hv1 g1
    obtain ⟨n2, rfl, hn2⟩ := arg_int64 hv2 g2
    obtain ⟨bb, rfl⟩ := okWide_bool Try.underlying4 hv3
    exact back_any nt kt n1 n2 W W.heap.size ta tl tc (Nat.le_refl _) tv bb

set_option maxRecDepth 100000 in
theorem shiftBack_holds : Rows.ShiftBackSaid :=
  OpenClaim.holds_of_wide 12 Try.f12 rfl rfl rfl rfl rfl rfl rfl ⟨rfl, rfl, rfl, rfl, rfl⟩ rfl rfl rfl rfl rfl (by kernel_rfl) Try.func12 (by kernel_rfl)
    (of_decide_eq_true (by kernel_rfl)) (by unfold Func.isWrapper; first | (rw [if_pos (by decide +kernel)]; kernel_rfl) | (rw [if_neg (by decide +kernel)]; exact ⟨rfl, rfl⟩))
    (fun os started H enc _ => shiftBack_lifted os started H enc)
#print axioms shiftBack_holds
end Go.Proofs.Ytkjfeakbhfkldaa
