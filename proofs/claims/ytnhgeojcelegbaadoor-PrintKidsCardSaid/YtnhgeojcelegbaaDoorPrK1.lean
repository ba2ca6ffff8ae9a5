/- PrintKids holds: a node's text has its kids' texts in it, in order. No condition. -/
import Derived.Test.YtnhgeojcelegbaaDoorPrK
import Derived.Test.YtnhgeojcelegbaaDoorPrL
import Derived.Test.YtnhgeojcelegbaaDoorTreeArg
namespace Go.Proofs.YtnhgeojcelegbaaDoor
open Go.ChangeShapes Go.WideShapes Go.ChangeAt Go.RowKit
set_option maxRecDepth 100000 in
theorem printKids_lifted (os : Os) (started : os.Started) (H : Type) (enc : TypeId × Value → H) :
    ReturnsInHanded {} Tryd.checked os 4 .any (fun w args => (Rows.printKidsSpec.pre enc Tryd.prog Tryd.f4 [] false w args ∧ laidMetH Tryd.prog Rows.printKidsRow.laid w) ∧ sizedMet enc Tryd.prog Tryd.f4 (OpenSpec.ofChange Rows.printKidsSpec) false w args)
      (Rows.printKidsSpec.post enc Tryd.prog Tryd.f4 false true false false) := by
  refine lift_lawS (C := Tryd.checked) (tb := 4) (laidVars := Rows.printKidsRow.laid) own started (by kernel_rfl) Tryd.func4
    (ChangeSpec.witness_shaped (enc := enc) (C := Tryd.checked) (os := os) (X := fun w _ => laidMetH Tryd.prog Rows.printKidsRow.laid w) false (World.laidAll Tryd.prog os Rows.printKidsRow.laid) #[.agg #[.int .i64 0, .int .i64 0, .int .i64 0, .string ⟨#[]⟩, .int .i64 0, .int .i64 0, .bool false, .bool false, .int .i64 0, .int .i64 0, .bool false, .bool false, .int .i64 0, .slice none 0 0]] 8 (World.laidAll_os _ _ _)
      (World.shaped_of_ZipB (by kernel_rfl) (by kernel_rfl)) (by kernel_rfl) (by kernel_rfl) (by kernel_rfl)
      (by rw [MakeChecks.laidMetH_plain _ _ _ (by kernel_rfl)]; exact laidMet_laidAll _ (by kernel_rfl) (by kernel_rfl))) laidOut (by kernel_rfl) rfl Tryd.underlying4 rfl ?_ ?_
  · rintro ds hl
    match ds, hl with
    | [_], _ => exact ⟨rfl, rfl, rfl⟩
  · intro W base args ds p hval0 hA hlt hsz hL hsh
    have hval : ∀ (j : Nat) t v, Tryd.f4.params[j]? = some t → args[j]? = some v → Value.okWide Tryd.prog W .any base t v := hval0
    clear hval0
    rw [Tryd.params4] at hA hsz hval
    obtain ⟨v0, vs0, d0, ds0, p0, q0, hargs, rfl, rfl, h0, r0⟩ := trodAll_cons hA
    obtain ⟨rfl, rfl, rfl⟩ := trodAll_nil r0
    obtain rfl : args = #[v0] := by cases args; simp_all
    have TW : TabW W := tabW_of hL hsh
    have hw : ∀ n ∈ d0.weights Tryd.prog 30, n ≤ reachBytes := fun n hn => by have := List.all_eq_true.1 hsz n (DataW.weights_mem_each (P := Tryd.prog) (j := 0) rfl rfl n hn); simpa using this
    obtain ⟨h, ks, ka, kl, kc, rfl, tv⟩ := treeArg (hval 0 _ _ rfl rfl) h0 hw
    exact printKids_any h ks W W.heap.size ka kl kc (Nat.le_refl _) tv TW

theorem printKids_row : Rows.PrintKidsSaid :=
  OpenClaim.holds_of_wide 4 Tryd.f4 rfl rfl rfl rfl rfl rfl rfl ⟨rfl, rfl, rfl, rfl, rfl⟩ rfl rfl rfl rfl rfl (by kernel_rfl) Tryd.func4 (by kernel_rfl)
    (of_decide_eq_true (by kernel_rfl)) (by unfold Func.isWrapper; first | (rw [if_pos (by decide +kernel)]; kernel_rfl) | (rw [if_neg (by decide +kernel)]; exact ⟨rfl, rfl⟩))
    (fun os started H enc _ => printKids_lifted os started H enc)
theorem printKids_holds : Rows.PrintKidsCardSaid :=
  Claim7.holds_tied_plain_at .later [] Rows.printKidsCard.laidKinds true Rows.printKidsCard.stood.harness Rows.printKidsCard.stood.looks printKids_row (fun _ h => by cases h) (by kernel_rfl) (fun _ h => by cases h) printKids_row_tie rfl ⟨rfl, rfl⟩ (by kernel_rfl) rfl
    (fun f fn hf hfn => by
      obtain rfl : f = 4 := Option.some.inj ((show Tryd.prog.funcNamed "quadrille/quadrillelaw11.PrintKids" = some 4 by kernel_rfl).symm.trans hf) |>.symm
      obtain rfl : fn = Tryd.f4 := (Option.some.inj (Tryd.func4.symm.trans hfn)).symm
      exact ⟨by kernel_rfl, fun j t ht => by
        rw [Tryd.params4] at ht
        have hm : t ∈ ([30] : List TypeId) := by simpa using Array.mem_of_getElem? ht
        have hall : (([30] : List TypeId).all fun u => !Tryd.prog.wantsStandIn u) = true := by kernel_rfl
        exact (show Tryd.prog.wantsStandIn t = false by simpa using List.all_eq_true.1 hall t hm)⟩)
    (by kernel_rfl)
#print axioms printKids_holds
end Go.Proofs.YtnhgeojcelegbaaDoor
