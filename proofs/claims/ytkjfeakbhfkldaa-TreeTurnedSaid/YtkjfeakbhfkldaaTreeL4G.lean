/- TreeTurned: a copy is the same, and with one field more set it is not. -/
import Derived.Test.YtkjfeakbhfkldaaTreeL4A
import Derived.Test.YtkjfeakbhfkldaaTreeL4B
import Derived.Test.YtkjfeakbhfkldaaTreeL4B2
import Derived.Test.YtkjfeakbhfkldaaTreeL4C
import Derived.Test.YtkjfeakbhfkldaaTreeL4D
import Derived.Test.YtkjfeakbhfkldaaTreeL4E
import Derived.Test.YtkjfeakbhfkldaaTreeL4F
import Derived.Test.YtkjfeakbhfkldaaTreeArg2
namespace Go.Proofs.Ytkjfeakbhfkldaa
open Go.ChangeShapes Go.WideShapes Go.ChangeAt Go.RowKit

theorem turned_any (w : World) (nd : Hd) (ks : Trees) (ka : Option Addr) (kl kc : Nat) (wh n : Int) (tv : TreeV w w.heap.size nd ks ka kl) (h0 : 0 ≤ wh) (hn : I64 n) :
    Calls Try.prog 7 #[.agg #[.int .i64 nd.kind, .int .i64 nd.op, .int .i64 nd.num, .string ⟨nd.text.toArray⟩, .int .i64 nd.ref.row, .int .i64 nd.ref.col, .bool nd.ref.pr, .bool nd.ref.pc, .int .i64 nd.to.row, .int .i64 nd.to.col, .bool nd.to.pr, .bool nd.to.pc, .int .i64 nd.fn, .slice ka kl kc], .int .u8 wh, .int .i64 n] w (TruePost w) := by
  by_cases hm : mayE nd ks = 0
  · by_cases hn0 : n = 0
    · exact turned_not w nd ks ka kl kc wh n tv (.inr hn0)
    have hr : wh.tmod 6 = 0 ∨ wh.tmod 6 = 1 ∨ wh.tmod 6 = 2 ∨ wh.tmod 6 = 3 ∨ wh.tmod 6 = 4 ∨ wh.tmod 6 = 5 := by
      have e := Int.tmod_eq_emod_of_nonneg (a := wh) (b := 6) h0
      omega
    rcases hr with hv | hv | hv | hv | hv | hv
    · by_cases k7 : nd.kind = 7
      · exact turned_0_7 w nd ks ka kl kc wh n tv hn hm hn0 hv k7
      by_cases k8 : nd.kind = 8
      · exact turned_0_8 w nd ks ka kl kc wh n tv hn hm hn0 hv k8
      exact turned_0_no w nd ks ka kl kc wh n tv hn hm hn0 hv k7 k8
    · by_cases k1 : nd.kind = 1
      · exact turned_1_1 w nd ks ka kl kc wh n tv hn hm hn0 hv k1
      by_cases k4 : nd.kind = 4
      · exact turned_1_4 w nd ks ka kl kc wh n tv hn hm hn0 hv k4
      by_cases k3 : nd.kind = 3
      · exact turned_1_3 w nd ks ka kl kc wh n tv hn hm hn0 hv k3
      exact turned_1_no w nd ks ka kl kc wh n tv hn hm hn0 hv k1 k4 k3
    · by_cases k2 : nd.kind = 2
      · exact turned_2_2 w nd ks ka kl kc wh n tv hn hm hn0 hv k2
      exact turned_2_no w nd ks ka kl kc wh n tv hn hm hn0 hv k2
    · by_cases k5 : nd.kind = 5
      · exact turned_3_5 w nd ks ka kl kc wh n tv hn hm hn0 hv k5
      by_cases k6 : nd.kind = 6
      · exact turned_3_6 w nd ks ka kl kc wh n tv hn hm hn0 hv k6
      exact turned_3_no w nd ks ka kl kc wh n tv hn hm hn0 hv k5 k6
    · by_cases k6 : nd.kind = 6
      · exact turned_4_6 w nd ks ka kl kc wh n tv hn hm hn0 hv k6
      exact turned_4_no w nd ks ka kl kc wh n tv hn hm hn0 hv k6
    · exact turned_5 w nd ks ka kl kc wh n tv hn hm hn0 hv
  · exact turned_not w nd ks ka kl kc wh n tv (.inl hm)

set_option maxRecDepth 100000 in
theorem treeTurned_lifted (os : Os) (started : os.Started) (H : Type) (enc : TypeId × Value → H) :
    ReturnsInHanded {} Try.checked os 7 .any (Rows.treeTurnedSpec.pre6 enc Try.prog Try.f7 Rows.treeTurnedRow.domain false) (Rows.treeTurnedSpec.post enc Try.prog Try.f7 false true false false) := by
  refine lift_law (C := Try.checked) (tb := 4) own started (by kernel_rfl) Try.func7
    (ChangeSpec.witness6 (enc := enc) (C := Try.checked) false ⟨#[], #[.agg #[.int .i64 0, .int .i64 0, .int .i64 0, .string ⟨#[]⟩, .int .i64 0, .int .i64 0, .bool false, .bool false, .int .i64 0, .int .i64 0, .bool false, .bool false, .int .i64 0, .slice none 0 0], .int .u8 0, .int .i64 0], []⟩ 8 (by kernel_rfl) (by kernel_rfl) (by kernel_rfl) (by kernel_rfl)) laidOut (by kernel_rfl) rfl Try.underlying4 rfl ?_ ?_
  · rintro ds hl
    match ds, hl with
    | [_, _, _], _ => exact ⟨rfl, rfl, rfl⟩
  · intro W base args ds p hval0 hA hlt hsz
    have hval : ∀ (j : Nat) t v, Try.f7.params[j]? = some t → args[j]? = some v → Value.okWide Try.prog W .any base t v := hval0
    clear hval0
    rw [Try.params7] at hA hsz hval
    obtain ⟨v0, vs0, d0, ds0, p0, q0, hargs, rfl, rfl, h0, r0⟩ := trodAll_cons hA
    obtain ⟨v1, vs1, d1, ds1, p1, q1, rfl, rfl, rfl, h1, r1⟩ := trodAll_cons r0
    obtain ⟨v2, vs2, d2, ds2, p2, q2, rfl, rfl, rfl, h2, r2⟩ := trodAll_cons r1
    obtain ⟨rfl, rfl, rfl⟩ := trodAll_nil r2
    obtain rfl : args = #[v0, v1, v2] := by cases args; simp_all
    have hlt0 : ∀ x ∈ p0, x.block < W.heap.size := fun x hx => hlt x (by simp [hx])
    have hlt1 : ∀ x ∈ p1, x.block < W.heap.size := fun x hx => hlt x (by simp [hx])
    have hlt2 : ∀ x ∈ p2, x.block < W.heap.size := fun x hx => hlt x (by simp [hx])
    have hv0 : Value.okWide Try.prog W .any base 29 v0 := hval 0 _ _ rfl rfl
    have g0 : DataW.Trod enc Try.prog W 0 (fun _ => true) true 29 v0 d0 p0 := h0
    have hv1 : Value.okWide Try.prog W .any base 5 v1 := hval 1 _ _ rfl rfl
    have g1 : DataW.Trod enc Try.prog W 0 (fun _ => true) true 5 v1 d1 p1 := h1
    have hv2 : Value.okWide Try.prog W .any base 3 v2 := hval 2 _ _ rfl rfl
    have g2 : DataW.Trod enc Try.prog W 0 (fun _ => true) true 3 v2 d2 p2 := h2
    obtain ⟨n1, rfl, hn1⟩ := arg_uint8 hv1 g1
    obtain ⟨n2, rfl, hn2⟩ := arg_int hv2 g2
    obtain ⟨nt, kt, ta, tl, tc, rfl, tv⟩ := treeArg hv0 g0 (fun n hn => by have := List.all_eq_true.1 hsz n (DataW.weights_mem_each (P := Try.prog) (j := 0) rfl rfl n hn); simpa using this)
    exact turned_any W nt kt ta tl tc n1 n2 tv hn1.1 hn2

set_option maxRecDepth 100000 in
theorem treeTurned_holds : Rows.TreeTurnedSaid :=
  OpenClaim.holds_of_wide 7 Try.f7 rfl rfl rfl rfl rfl rfl rfl ⟨rfl, rfl, rfl, rfl, rfl⟩ rfl rfl rfl rfl rfl (by kernel_rfl) Try.func7 (by kernel_rfl)
    (of_decide_eq_true (by kernel_rfl)) (by unfold Func.isWrapper; first | (rw [if_pos (by decide +kernel)]; kernel_rfl) | (rw [if_neg (by decide +kernel)]; exact ⟨rfl, rfl⟩))
    (fun os started H enc _ => treeTurned_lifted os started H enc)
#print axioms treeTurned_holds
end Go.Proofs.Ytkjfeakbhfkldaa
