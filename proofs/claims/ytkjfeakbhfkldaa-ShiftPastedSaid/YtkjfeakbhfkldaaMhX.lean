/- Shifting: ShiftPasted. -/
import Derived.Test.YtkjfeakbhfkldaaMhWa
import Derived.Test.YtkjfeakbhfkldaaMhWb
import Derived.Test.YtkjfeakbhfkldaaMhWc
import Derived.Test.YtkjfeakbhfkldaaMhWd
import Derived.Test.YtkjfeakbhfkldaaMhWe
namespace Go.Proofs.Ytkjfeakbhfkldaa
open Go.RowKit

theorem pasted_any (nd : Hd) (ks : Trees) (a b c d : Int) (w : World) (B : Nat) (ka : Option Addr) (kl kc : Nat) (hB : B ≤ w.heap.size) (tv : TreeV w B nd ks ka kl) (h1 : I64 a) (h2 : I64 b) (h3 : I64 c) (h4 : I64 d) : Calls Try.prog 10 #[.agg #[.int .i64 nd.kind, .int .i64 nd.op, .int .i64 nd.num, .string ⟨nd.text.toArray⟩, .int .i64 nd.ref.row, .int .i64 nd.ref.col, .bool nd.ref.pr, .bool nd.ref.pc, .int .i64 nd.to.row, .int .i64 nd.to.col, .bool nd.to.pr, .bool nd.to.pc, .int .i64 nd.fn, .slice ka kl kc], .int .i64 a, .int .i64 b, .int .i64 c, .int .i64 d] w (TruePost w) := by
  cases so : (smallB nd ks && decide (mayE nd ks = 0))
  · exact pasted_not nd ks a b c d w B ka kl kc hB tv so
  · by_cases L : refsOf (mvH ⟨1, a, b, 0, 0⟩ nd) (mvK ⟨1, a, b, 0, 0⟩ ks) = refsOf nd ks
    · by_cases am : a = -9223372036854775808
      · by_cases bm : b = -9223372036854775808
        · exact pasted_mm nd ks a b c d w B ka kl kc hB tv so h1 h2 h3 h4 L am bm
        · exact pasted_mb nd ks a b c d w B ka kl kc hB tv so h1 h2 h3 h4 L am bm
      · by_cases bm : b = -9223372036854775808
        · exact pasted_am nd ks a b c d w B ka kl kc hB tv so h1 h2 h3 h4 L am bm
        · exact pasted_ab nd ks a b c d w B ka kl kc hB tv so h1 h2 h3 h4 L am bm
    · exact pasted_lost nd ks a b c d w B ka kl kc hB tv so h1 h2 h3 h4 L

open Go.ChangeShapes Go.WideShapes Go.ChangeAt
set_option maxRecDepth 100000 in
theorem shiftPasted_lifted (os : Os) (started : os.Started) (H : Type) (enc : TypeId × Value → H) :
    ReturnsInHanded {} Try.checked os 10 .any (Rows.shiftPastedSpec.pre6 enc Try.prog Try.f10 Rows.shiftPastedRow.domain false) (Rows.shiftPastedSpec.post enc Try.prog Try.f10 false true false false) := by
  refine lift_law (C := Try.checked) (tb := 4) own started (by kernel_rfl) Try.func10
    (ChangeSpec.witness6 (enc := enc) (C := Try.checked) false ⟨#[], #[.agg #[.int .i64 0, .int .i64 0, .int .i64 0, .string ⟨#[]⟩, .int .i64 0, .int .i64 0, .bool false, .bool false, .int .i64 0, .int .i64 0, .bool false, .bool false, .int .i64 0, .slice none 0 0], .int .i64 0, .int .i64 0, .int .i64 0, .int .i64 0], []⟩ 8 (by kernel_rfl) (by kernel_rfl) (by kernel_rfl) (by kernel_rfl)) laidOut (by kernel_rfl) rfl Try.underlying4 rfl ?_ ?_
  · rintro ds hl
    match ds, hl with
    | [_, _, _, _, _], _ => exact ⟨rfl, rfl, rfl⟩
  · intro W base args ds p hval0 hA hlt hsz
    have hval : ∀ (j : Nat) t v, Try.f10.params[j]? = some t → args[j]? = some v → Value.okWide Try.prog W .any base t v := hval0
    clear hval0
    rw [Try.params10] at hA hsz hval
    obtain ⟨v0, vs0, d0, ds0, p0, q0, hargs, rfl, rfl, h0, r0⟩ := trodAll_cons hA
    obtain ⟨v1, vs1, d1, ds1, p1, q1, rfl, rfl, rfl, h1, r1⟩ := trodAll_cons r0
    obtain ⟨v2, vs2, d2, ds2, p2, q2, rfl, rfl, rfl, h2, r2⟩ := trodAll_cons r1
    obtain ⟨v3, vs3, d3, ds3, p3, q3, rfl, rfl, rfl, h3, r3⟩ := trodAll_cons r2
    obtain ⟨v4, vs4, d4, ds4, p4, q4, rfl, rfl, rfl, h4, r4⟩ := trodAll_cons r3
    obtain ⟨rfl, rfl, rfl⟩ := trodAll_nil r4
    obtain rfl : args = #[v0, v1, v2, v3, v4] := by cases args; simp_all
    have hlt0 : ∀ x ∈ p0, x.block < W.heap.size := fun x hx => hlt x (by simp [hx])
    have hlt1 : ∀ x ∈ p1, x.block < W.heap.size := fun x hx => hlt x (by simp [hx])
    have hlt2 : ∀ x ∈ p2, x.block < W.heap.size := fun x hx => hlt x (by simp [hx])
    have hlt3 : ∀ x ∈ p3, x.block < W.heap.size := fun x hx => hlt x (by simp [hx])
    have hlt4 : ∀ x ∈ p4, x.block < W.heap.size := fun x hx => hlt x (by simp [hx])
    have hv0 : Value.okWide Try.prog W .any base 29 v0 := hval 0 _ _ rfl rfl
    have g0 : DataW.Trod enc Try.prog W 0 (fun _ => true) true 29 v0 d0 p0 := h0
    have hv1 : Value.okWide Try.prog W .any base 2 v1 := hval 1 _ _ rfl rfl
    have g1 : DataW.Trod enc Try.prog W 0 (fun _ => true) true 2 v1 d1 p1 := h1
    have hv2 : Value.okWide Try.prog W .any base 2 v2 := hval 2 _ _ rfl rfl
    have g2 : DataW.Trod enc Try.prog W 0 (fun _ => true) true 2 v2 d2 p2 := h2
    have hv3 : Value.okWide Try.prog W .any base 2 v3 := hval 3 _ _ rfl rfl
    have g3 : DataW.Trod enc Try.prog W 0 (fun _ => true) true 2 v3 d3 p3 := h3
    have hv4 : Value.okWide Try.prog W .any base 2 v4 := hval 4 _ _ rfl rfl
    have g4 : DataW.Trod enc Try.prog W 0 (fun _ => true) true 2 v4 d4 p4 := h4
    obtain ⟨nt, kt, ta, tl, tc, rfl, tv⟩ := treeArg hv0 g0 (fun n hn => by have := List.all_eq_true.1 hsz n (DataW.weights_mem_each (P := Try.prog) (j := 0) rfl rfl n hn); simpa using this)
    obtain ⟨n1, rfl, hn1⟩ := arg_int64 hv1 g1
    obtain ⟨n2, rfl, hn2⟩ := arg_int64 hv2 g2
    obtain ⟨n3, rfl, hn3⟩ := arg_int64 hv3 g3
    obtain ⟨n4, rfl, hn4⟩ := arg_int64 hv4 g4
    exact pasted_any nt kt n1 n2 n3 n4 W W.heap.size ta tl tc (Nat.le_refl _) tv hn1 hn2 hn3 hn4

set_option maxRecDepth 100000 in
theorem shiftPasted_holds : Rows.ShiftPastedSaid :=
  OpenClaim.holds_of_wide 10 Try.f10 rfl rfl rfl rfl rfl rfl rfl ⟨rfl, rfl, rfl, rfl, rfl⟩ rfl rfl rfl rfl rfl (by kernel_rfl) Try.func10 (by kernel_rfl)
    (of_decide_eq_true (by kernel_rfl)) (by unfold Func.isWrapper; first | (rw [if_pos (by decide +kernel)]; kernel_rfl) | (rw [if_neg (by decide +kernel)]; exact ⟨rfl, rfl⟩))
    (fun os started H enc _ => shiftPasted_lifted os started H enc)
#print axioms shiftPasted_holds
end Go.Proofs.Ytkjfeakbhfkldaa
