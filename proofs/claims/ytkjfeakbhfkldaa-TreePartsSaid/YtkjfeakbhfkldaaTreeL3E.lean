/- TreeParts: a tree's numbers and what it reads are those of its kids together. -/
import Derived.Test.YtkjfeakbhfkldaaTreeL3A
import Derived.Test.YtkjfeakbhfkldaaTreeL3B
import Derived.Test.YtkjfeakbhfkldaaTreeL3C
import Derived.Test.YtkjfeakbhfkldaaTreeL3D
namespace Go.Proofs.Ytkjfeakbhfkldaa
open Go.ChangeShapes Go.WideShapes Go.ChangeAt Go.RowKit

theorem treeParts_any (w : World) (nd : Hd) (ks : Trees) (ka : Option Addr) (kl kc : Nat) (tv : TreeV w w.heap.size nd ks ka kl) :
    Calls Try.prog 6 #[.agg #[.int .i64 nd.kind, .int .i64 nd.op, .int .i64 nd.num, .string ⟨nd.text.toArray⟩, .int .i64 nd.ref.row, .int .i64 nd.ref.col, .bool nd.ref.pr, .bool nd.ref.pc, .int .i64 nd.to.row, .int .i64 nd.to.col, .bool nd.to.pr, .bool nd.to.pc, .int .i64 nd.fn, .slice ka kl kc]] w (TruePost w) := by
  by_cases f : Fine nd ks
  · by_cases hm : mayE nd ks = 0
    · by_cases k2 : nd.kind = 2
      · exact parts_ok_text w nd ks ka kl kc tv f k2 hm
      by_cases k5 : nd.kind = 5
      · exact parts_ok5 w nd ks ka kl kc tv f k5 hm
      by_cases k6 : nd.kind = 6
      · exact parts_ok6 w nd ks ka kl kc tv f k6 hm
      exact parts_ok w nd ks ka kl kc tv f k2 k5 k6 hm
    · by_cases k2 : nd.kind = 2
      · exact parts_bad_text w nd ks ka kl kc tv f k2 hm
      exact parts_bad w nd ks ka kl kc tv f k2 hm
  · exact parts_great w nd ks ka kl kc tv f

set_option maxRecDepth 100000 in
theorem treeParts_lifted (os : Os) (started : os.Started) (H : Type) (enc : TypeId × Value → H) :
    ReturnsInHanded {} Try.checked os 6 .any (Rows.treePartsSpec.pre6 enc Try.prog Try.f6 Rows.treePartsRow.domain false) (Rows.treePartsSpec.post enc Try.prog Try.f6 false true false false) := by
  refine lift_law (C := Try.checked) (tb := 4) own started (by kernel_rfl) Try.func6
    (ChangeSpec.witness6 (enc := enc) (C := Try.checked) false ⟨#[], #[.agg #[.int .i64 0, .int .i64 0, .int .i64 0, .string ⟨#[]⟩, .int .i64 0, .int .i64 0, .bool false, .bool false, .int .i64 0, .int .i64 0, .bool false, .bool false, .int .i64 0, .slice none 0 0]], []⟩ 8 (by kernel_rfl) (by kernel_rfl) (by kernel_rfl) (by kernel_rfl)) laidOut (by kernel_rfl) rfl Try.underlying4 rfl ?_ ?_
  · rintro ds hl
    match ds, hl with
    | [_], _ => exact ⟨rfl, rfl, rfl⟩
  · intro W base args ds p hval0 hA hlt hsz
    have hval : ∀ (j : Nat) t v, Try.f6.params[j]? = some t → args[j]? = some v → Value.okWide Try.prog W .any base t v := hval0
    clear hval0
    rw [Try.params6] at hA hsz hval
    obtain ⟨v0, vs0, d0, ds0, p0, q0, hargs, rfl, rfl, h0, r0⟩ := trodAll_cons hA
    obtain ⟨rfl, rfl, rfl⟩ := trodAll_nil r0
    obtain rfl : args = #[v0] := by cases args; simp_all
    have hlt0 : ∀ x ∈ p0, x.block < W.heap.size := fun x hx => hlt x (by simp [hx])
    have hv0 : Value.okWide Try.prog W .any base 29 v0 := hval 0 _ _ rfl rfl
    have g0 : DataW.Trod enc Try.prog W 0 (fun _ => true) true 29 v0 d0 p0 := h0
    obtain ⟨nt, kt, ta, tl, tc, rfl, tv⟩ := treeArg hv0 g0 (fun n hn => by have := List.all_eq_true.1 hsz n (DataW.weights_mem_each (P := Try.prog) (j := 0) rfl rfl n hn); simpa using this)
    exact treeParts_any W nt kt ta tl tc tv

set_option maxRecDepth 100000 in
theorem treeParts_holds : Rows.TreePartsSaid :=
  OpenClaim.holds_of_wide 6 Try.f6 rfl rfl rfl rfl rfl rfl rfl ⟨rfl, rfl, rfl, rfl, rfl⟩ rfl rfl rfl rfl rfl (by kernel_rfl) Try.func6 (by kernel_rfl)
    (of_decide_eq_true (by kernel_rfl)) (by unfold Func.isWrapper; first | (rw [if_pos (by decide +kernel)]; kernel_rfl) | (rw [if_neg (by decide +kernel)]; exact ⟨rfl, rfl⟩))
    (fun os started H enc _ => treeParts_lifted os started H enc)
#print axioms treeParts_holds
end Go.Proofs.Ytkjfeakbhfkldaa
