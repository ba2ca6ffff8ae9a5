/- SpotThere holds: a place, and a reference, that there is, written and read is itself. No condition. -/
import Derived.Test.YtnhgeojcelegbaaDoorSpO
import Derived.Test.YtnhgeojcelegbaaDoorDLaw
import Derived.Test.YtnhgeojcelegbaaDoorSpArg
namespace Go.Proofs.YtnhgeojcelegbaaDoor
open Go.ChangeShapes Go.WideShapes Go.ChangeAt Go.RowKit
set_option maxRecDepth 100000 in
theorem spotThere_lifted (os : Os) (started : os.Started) (H : Type) (enc : TypeId × Value → H) :
    ReturnsInHanded {} Tryd.checked os 6 .any (fun w args => (Rows.spotThereSpec.pre enc Tryd.prog Tryd.f6 [] false w args ∧ laidMetH Tryd.prog Rows.spotThereRow.laid w) ∧ sizedMet enc Tryd.prog Tryd.f6 (OpenSpec.ofChange Rows.spotThereSpec) false w args)
      (Rows.spotThereSpec.post enc Tryd.prog Tryd.f6 false true false false) := by
  refine lift_lawL (C := Tryd.checked) (tb := 4) (laidVars := Rows.spotThereRow.laid) own started (by kernel_rfl) Tryd.func6
    (ChangeSpec.witness_shaped (enc := enc) (C := Tryd.checked) (os := os) (X := fun w _ => laidMetH Tryd.prog Rows.spotThereRow.laid w) false (World.laidAll Tryd.prog os Rows.spotThereRow.laid) #[.agg #[.int .i64 0, .int .i64 0, .bool false, .bool false]] 8 (World.laidAll_os _ _ _)
      (World.shaped_of_ZipB (by kernel_rfl) (by kernel_rfl)) (by kernel_rfl) (by kernel_rfl) (by kernel_rfl)
      (by rw [MakeChecks.laidMetH_plain _ _ _ (by kernel_rfl)]; exact laidMet_laidAll _ (by kernel_rfl) (by kernel_rfl))) laidOut (by kernel_rfl) rfl Tryd.underlying4 rfl ?_ ?_
  · rintro ds hl
    match ds, hl with
    | [_], _ => exact ⟨rfl, rfl, rfl⟩
  · intro W base args ds p hval0 hA hlt hsz hL
    have hval : ∀ (j : Nat) t v, Tryd.f6.params[j]? = some t → args[j]? = some v → Value.okWide Tryd.prog W .any base t v := hval0
    clear hval0
    rw [Tryd.params6] at hA hsz hval
    obtain ⟨v0, vs0, d0, ds0, p0, q0, hargs, rfl, rfl, h0, r0⟩ := trodAll_cons hA
    obtain ⟨rfl, rfl, rfl⟩ := trodAll_nil r0
    obtain rfl : args = #[v0] := by cases args; simp_all
    have LW : LaidW W := laidW_of hL
    obtain ⟨⟨row, col, pr, pc⟩, rfl⟩ := refArg2 (hval 0 _ _ rfl rfl) h0
    exact spotThere_any row col pr pc W LW

theorem spotThere_row : Rows.SpotThereSaid :=
  OpenClaim.holds_of_wide 6 Tryd.f6 rfl rfl rfl rfl rfl rfl rfl ⟨rfl, rfl, rfl, rfl, rfl⟩ rfl rfl rfl rfl rfl (by kernel_rfl) Tryd.func6 (by kernel_rfl)
    (of_decide_eq_true (by kernel_rfl)) (by unfold Func.isWrapper; first | (rw [if_pos (by decide +kernel)]; kernel_rfl) | (rw [if_neg (by decide +kernel)]; exact ⟨rfl, rfl⟩))
    (fun os started H enc _ => spotThere_lifted os started H enc)
theorem spotThere_holds : Rows.SpotThereCardSaid :=
  Claim7.holds_tied_plain_at .later [] Rows.spotThereCard.laidKinds true Rows.spotThereCard.stood.harness Rows.spotThereCard.stood.looks spotThere_row (fun _ h => by cases h) (by kernel_rfl) (fun _ h => by cases h) spotThere_row_tie rfl ⟨rfl, rfl⟩ (by kernel_rfl) rfl
    (fun f fn hf hfn => by
      obtain rfl : f = 6 := Option.some.inj ((show Tryd.prog.funcNamed "quadrille/quadrillelaw2.SpotThere" = some 6 by kernel_rfl).symm.trans hf) |>.symm
      obtain rfl : fn = Tryd.f6 := (Option.some.inj (Tryd.func6.symm.trans hfn)).symm
      exact ⟨by kernel_rfl, fun j t ht => by
        rw [Tryd.params6] at ht
        have hm : t ∈ ([28] : List TypeId) := by simpa using Array.mem_of_getElem? ht
        have hall : (([28] : List TypeId).all fun u => !Tryd.prog.wantsStandIn u) = true := by kernel_rfl
        exact (show Tryd.prog.wantsStandIn t = false by simpa using List.all_eq_true.1 hall t hm)⟩)
    (by kernel_rfl)
#print axioms spotThere_holds
end Go.Proofs.YtnhgeojcelegbaaDoor
