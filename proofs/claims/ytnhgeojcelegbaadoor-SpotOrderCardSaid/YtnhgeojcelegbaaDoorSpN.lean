/- SpotOrder holds: an order of places, whatever the numbers. No condition. -/
import Derived.Test.YtnhgeojcelegbaaDoorSpM
import Derived.Test.YtnhgeojcelegbaaDoorDLaw
import Derived.Test.YtnhgeojcelegbaaDoorSpArg
namespace Go.Proofs.YtnhgeojcelegbaaDoor
open Go.ChangeShapes Go.WideShapes Go.ChangeAt Go.RowKit
set_option maxRecDepth 100000 in
theorem spotOrder_lifted (os : Os) (started : os.Started) (H : Type) (enc : TypeId × Value → H) :
    ReturnsInHanded {} Tryd.checked os 10 .any (fun w args => (Rows.spotOrderSpec.pre enc Tryd.prog Tryd.f10 [] false w args ∧ laidMetH Tryd.prog Rows.spotOrderRow.laid w) ∧ sizedMet enc Tryd.prog Tryd.f10 (OpenSpec.ofChange Rows.spotOrderSpec) false w args)
      (Rows.spotOrderSpec.post enc Tryd.prog Tryd.f10 false true false false) := by
  refine lift_lawL (C := Tryd.checked) (tb := 4) (laidVars := Rows.spotOrderRow.laid) own started (by kernel_rfl) Tryd.func10
    (ChangeSpec.witness_shaped (enc := enc) (C := Tryd.checked) (os := os) (X := fun w _ => laidMetH Tryd.prog Rows.spotOrderRow.laid w) false (World.laidAll Tryd.prog os Rows.spotOrderRow.laid) #[.agg #[.int .i64 0, .int .i64 0], .agg #[.int .i64 0, .int .i64 0], .agg #[.int .i64 0, .int .i64 0]] 8 (World.laidAll_os _ _ _)
      (World.shaped_of_ZipB (by kernel_rfl) (by kernel_rfl)) (by kernel_rfl) (by kernel_rfl) (by kernel_rfl)
      (by rw [MakeChecks.laidMetH_plain _ _ _ (by kernel_rfl)]; exact laidMet_laidAll _ (by kernel_rfl) (by kernel_rfl))) laidOut (by kernel_rfl) rfl Tryd.underlying4 rfl ?_ ?_
  · rintro ds hl
    match ds, hl with
    | [_, _, _], _ => exact ⟨rfl, rfl, rfl⟩
  · intro W base args ds p hval0 hA hlt hsz hL
    have hval : ∀ (j : Nat) t v, Tryd.f10.params[j]? = some t → args[j]? = some v → Value.okWide Tryd.prog W .any base t v := hval0
    clear hval0
    rw [Tryd.params10] at hA hsz hval
    obtain ⟨v0, vs0, d0, ds0, p0, q0, hargs, rfl, rfl, h0, r0⟩ := trodAll_cons hA
    obtain ⟨v1, vs1, d1, ds1, p1, q1, rfl, rfl, rfl, h1, r1⟩ := trodAll_cons r0
    obtain ⟨v2, vs2, d2, ds2, p2, q2, rfl, rfl, rfl, h2, r2⟩ := trodAll_cons r1
    obtain ⟨rfl, rfl, rfl⟩ := trodAll_nil r2
    obtain rfl : args = #[v0, v1, v2] := by cases args; simp_all
    have LW : LaidW W := laidW_of hL
    obtain ⟨ar, ac, rfl⟩ := spotArg (hval 0 _ _ rfl rfl) h0
    obtain ⟨br, bc, rfl⟩ := spotArg (hval 1 _ _ rfl rfl) h1
    obtain ⟨cr, cc, rfl⟩ := spotArg (hval 2 _ _ rfl rfl) h2
    exact spotOrder_any ar ac br bc cr cc W LW

theorem spotOrder_row : Rows.SpotOrderSaid :=
  OpenClaim.holds_of_wide 10 Tryd.f10 rfl rfl rfl rfl rfl rfl rfl ⟨rfl, rfl, rfl, rfl, rfl⟩ rfl rfl rfl rfl rfl (by kernel_rfl) Tryd.func10 (by kernel_rfl)
    (of_decide_eq_true (by kernel_rfl)) (by unfold Func.isWrapper; first | (rw [if_pos (by decide +kernel)]; kernel_rfl) | (rw [if_neg (by decide +kernel)]; exact ⟨rfl, rfl⟩))
    (fun os started H enc _ => spotOrder_lifted os started H enc)
theorem spotOrder_holds : Rows.SpotOrderCardSaid :=
  Claim7.holds_tied_plain_at .later [] Rows.spotOrderCard.laidKinds true Rows.spotOrderCard.stood.harness Rows.spotOrderCard.stood.looks spotOrder_row (fun _ h => by cases h) (by kernel_rfl) (fun _ h => by cases h) spotOrder_row_tie rfl ⟨rfl, rfl⟩ (by kernel_rfl) rfl
    (fun f fn hf hfn => by
      obtain rfl : f = 10 := Option.some.inj ((show Tryd.prog.funcNamed "quadrille/quadrillelaw2.SpotOrder" = some 10 by kernel_rfl).symm.trans hf) |>.symm
      obtain rfl : fn = Tryd.f10 := (Option.some.inj (Tryd.func10.symm.trans hfn)).symm
      exact ⟨by kernel_rfl, fun j t ht => by
        rw [Tryd.params10] at ht
        have hm : t ∈ ([39, 39, 39] : List TypeId) := by simpa using Array.mem_of_getElem? ht
        have hall : (([39, 39, 39] : List TypeId).all fun u => !Tryd.prog.wantsStandIn u) = true := by kernel_rfl
        exact (show Tryd.prog.wantsStandIn t = false by simpa using List.all_eq_true.1 hall t hm)⟩)
    (by kernel_rfl)
#print axioms spotOrder_holds
end Go.Proofs.YtnhgeojcelegbaaDoor
