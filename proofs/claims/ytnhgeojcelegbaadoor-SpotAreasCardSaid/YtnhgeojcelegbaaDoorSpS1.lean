/- SpotAreas holds: two references either way round are their area. No condition. -/
import Derived.Test.YtnhgeojcelegbaaDoorSpS
import Derived.Test.YtnhgeojcelegbaaDoorDLaw
import Derived.Test.YtnhgeojcelegbaaDoorSpArg
namespace Go.Proofs.YtnhgeojcelegbaaDoor
open Go.ChangeShapes Go.WideShapes Go.ChangeAt Go.RowKit
set_option maxRecDepth 100000 in
theorem spotAreas_lifted (os : Os) (started : os.Started) (H : Type) (enc : TypeId × Value → H) :
    ReturnsInHanded {} Tryd.checked os 8 .any (fun w args => (Rows.spotAreasSpec.pre enc Tryd.prog Tryd.f8 [] false w args ∧ laidMetH Tryd.prog Rows.spotAreasRow.laid w) ∧ sizedMet enc Tryd.prog Tryd.f8 (OpenSpec.ofChange Rows.spotAreasSpec) false w args)
      (Rows.spotAreasSpec.post enc Tryd.prog Tryd.f8 false true false false) := by
  refine lift_lawL (C := Tryd.checked) (tb := 4) (laidVars := Rows.spotAreasRow.laid) own started (by kernel_rfl) Tryd.func8
    (ChangeSpec.witness_shaped (enc := enc) (C := Tryd.checked) (os := os) (X := fun w _ => laidMetH Tryd.prog Rows.spotAreasRow.laid w) false (World.laidAll Tryd.prog os Rows.spotAreasRow.laid) #[.agg #[.int .i64 0, .int .i64 0, .bool false, .bool false], .agg #[.int .i64 0, .int .i64 0, .bool false, .bool false]] 8 (World.laidAll_os _ _ _)
      (World.shaped_of_ZipB (by kernel_rfl) (by kernel_rfl)) (by kernel_rfl) (by kernel_rfl) (by kernel_rfl)
      (by rw [MakeChecks.laidMetH_plain _ _ _ (by kernel_rfl)]; exact laidMet_laidAll _ (by kernel_rfl) (by kernel_rfl))) laidOut (by kernel_rfl) rfl Tryd.underlying4 rfl ?_ ?_
  · rintro ds hl
    match ds, hl with
    | [_, _], _ => exact ⟨rfl, rfl, rfl⟩
  · intro W base args ds p hval0 hA hlt hsz hL
    have hval : ∀ (j : Nat) t v, Tryd.f8.params[j]? = some t → args[j]? = some v → Value.okWide Tryd.prog W .any base t v := hval0
    clear hval0
    rw [Tryd.params8] at hA hsz hval
    obtain ⟨v0, vs0, d0, ds0, p0, q0, hargs, rfl, rfl, h0, r0⟩ := trodAll_cons hA
    obtain ⟨v1, vs1, d1, ds1, p1, q1, rfl, rfl, rfl, h1, r1⟩ := trodAll_cons r0
    obtain ⟨rfl, rfl, rfl⟩ := trodAll_nil r1
    obtain rfl : args = #[v0, v1] := by cases args; simp_all
    have LW : LaidW W := laidW_of hL
    obtain ⟨⟨ar, ac, apr, apc⟩, rfl⟩ := refArg2 (hval 0 _ _ rfl rfl) h0
    obtain ⟨⟨br, bc, bpr, bpc⟩, rfl⟩ := refArg2 (hval 1 _ _ rfl rfl) h1
    exact spotAreas_any ar ac br bc apr apc bpr bpc W LW

theorem spotAreas_row : Rows.SpotAreasSaid :=
  OpenClaim.holds_of_wide 8 Tryd.f8 rfl rfl rfl rfl rfl rfl rfl ⟨rfl, rfl, rfl, rfl, rfl⟩ rfl rfl rfl rfl rfl (by kernel_rfl) Tryd.func8 (by kernel_rfl)
    (of_decide_eq_true (by kernel_rfl)) (by unfold Func.isWrapper; first | (rw [if_pos (by decide +kernel)]; kernel_rfl) | (rw [if_neg (by decide +kernel)]; exact ⟨rfl, rfl⟩))
    (fun os started H enc _ => spotAreas_lifted os started H enc)
theorem spotAreas_holds : Rows.SpotAreasCardSaid :=
  Claim7.holds_tied_plain_at .later [] Rows.spotAreasCard.laidKinds true Rows.spotAreasCard.stood.harness Rows.spotAreasCard.stood.looks spotAreas_row (fun _ h => by cases h) (by kernel_rfl) (fun _ h => by cases h) spotAreas_row_tie rfl ⟨rfl, rfl⟩ (by kernel_rfl) rfl
    (fun f fn hf hfn => by
      obtain rfl : f = 8 := Option.some.inj ((show Tryd.prog.funcNamed "quadrille/quadrillelaw2.SpotAreas" = some 8 by kernel_rfl).symm.trans hf) |>.symm
      obtain rfl : fn = Tryd.f8 := (Option.some.inj (Tryd.func8.symm.trans hfn)).symm
      exact ⟨by kernel_rfl, fun j t ht => by
        rw [Tryd.params8] at ht
        have hm : t ∈ ([28, 28] : List TypeId) := by simpa using Array.mem_of_getElem? ht
        have hall : (([28, 28] : List TypeId).all fun u => !Tryd.prog.wantsStandIn u) = true := by kernel_rfl
        exact (show Tryd.prog.wantsStandIn t = false by simpa using List.all_eq_true.1 hall t hm)⟩)
    (by kernel_rfl)
#print axioms spotAreas_holds
end Go.Proofs.YtnhgeojcelegbaaDoor
