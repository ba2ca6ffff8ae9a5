/- SpotAll holds: every call, in every order, is answered as the document says. No condition. -/
import Derived.Test.YtnhgeojcelegbaaDoorSpZf
import Derived.Test.YtnhgeojcelegbaaDoorDLaw
import Derived.Test.YtnhgeojcelegbaaDoorSpArg
namespace Go.Proofs.YtnhgeojcelegbaaDoor
open Go.ChangeShapes Go.WideShapes Go.ChangeAt Go.RowKit
set_option maxRecDepth 100000 in
theorem spotAll_lifted (os : Os) (started : os.Started) (H : Type) (enc : TypeId × Value → H) :
    ReturnsInHanded {} Tryd.checked os 9 .any (fun w args => (Rows.spotAllSpec.pre enc Tryd.prog Tryd.f9 [] false w args ∧ laidMetH Tryd.prog Rows.spotAllRow.laid w) ∧ sizedMet enc Tryd.prog Tryd.f9 (OpenSpec.ofChange Rows.spotAllSpec) false w args)
      (Rows.spotAllSpec.post enc Tryd.prog Tryd.f9 false true false false) := by
  refine lift_lawL (C := Tryd.checked) (tb := 4) (laidVars := Rows.spotAllRow.laid) own started (by kernel_rfl) Tryd.func9
    (ChangeSpec.witness_shaped (enc := enc) (C := Tryd.checked) (os := os) (X := fun w _ => laidMetH Tryd.prog Rows.spotAllRow.laid w) false (World.laidAll Tryd.prog os Rows.spotAllRow.laid) #[.slice none 0 0] 8 (World.laidAll_os _ _ _)
      (World.shaped_of_ZipB (by kernel_rfl) (by kernel_rfl)) (by kernel_rfl) (by kernel_rfl) (by kernel_rfl)
      (by rw [MakeChecks.laidMetH_plain _ _ _ (by kernel_rfl)]; exact laidMet_laidAll _ (by kernel_rfl) (by kernel_rfl))) laidOut (by kernel_rfl) rfl Tryd.underlying4 rfl ?_ ?_
  · rintro ds hl
    match ds, hl with
    | [_], _ => exact ⟨rfl, rfl, rfl⟩
  · intro W base args ds p hval0 hA hlt hsz hL
    have hval : ∀ (j : Nat) t v, Tryd.f9.params[j]? = some t → args[j]? = some v → Value.okWide Tryd.prog W .any base t v := hval0
    clear hval0
    rw [Tryd.params9] at hA hsz hval
    obtain ⟨v0, vs0, d0, ds0, p0, q0, hargs, rfl, rfl, h0, r0⟩ := trodAll_cons hA
    obtain ⟨rfl, rfl, rfl⟩ := trodAll_nil r0
    obtain rfl : args = #[v0] := by cases args; simp_all
    have LW : LaidW W := laidW_of hL
    obtain ⟨a0, len0, cap0, rfl⟩ := okWide_slice Tryd.underlying56 (hval 0 _ _ rfl rfl)
    have hw : ∀ n ∈ d0.weights Tryd.prog 56, n ≤ reachBytes := fun n hn => by have := List.all_eq_true.1 hsz n (DataW.weights_mem_each (P := Tryd.prog) (j := 0) rfl rfl n hn); simpa using this
    exact spotAll_any W a0 len0 cap0 (ops2_of_trod h0 hw) LW

theorem spotAll_row : Rows.SpotAllSaid :=
  OpenClaim.holds_of_wide 9 Tryd.f9 rfl rfl rfl rfl rfl rfl rfl ⟨rfl, rfl, rfl, rfl, rfl⟩ rfl rfl rfl rfl rfl (by kernel_rfl) Tryd.func9 (by kernel_rfl)
    (of_decide_eq_true (by kernel_rfl)) (by unfold Func.isWrapper; first | (rw [if_pos (by decide +kernel)]; kernel_rfl) | (rw [if_neg (by decide +kernel)]; exact ⟨rfl, rfl⟩))
    (fun os started H enc _ => spotAll_lifted os started H enc)
theorem spotAll_holds : Rows.SpotAllCardSaid :=
  Claim7.holds_tied_plain_at .later [] Rows.spotAllCard.laidKinds true Rows.spotAllCard.stood.harness Rows.spotAllCard.stood.looks spotAll_row (fun _ h => by cases h) (by kernel_rfl) (fun _ h => by cases h) spotAll_row_tie rfl ⟨rfl, rfl⟩ (by kernel_rfl) rfl
    (fun f fn hf hfn => by
      obtain rfl : f = 9 := Option.some.inj ((show Tryd.prog.funcNamed "quadrille/quadrillelaw2.SpotAll" = some 9 by kernel_rfl).symm.trans hf) |>.symm
      obtain rfl : fn = Tryd.f9 := (Option.some.inj (Tryd.func9.symm.trans hfn)).symm
      exact ⟨by kernel_rfl, fun j t ht => by
        rw [Tryd.params9] at ht
        have hm : t ∈ ([56] : List TypeId) := by simpa using Array.mem_of_getElem? ht
        have hall : (([56] : List TypeId).all fun u => !Tryd.prog.wantsStandIn u) = true := by kernel_rfl
        exact (show Tryd.prog.wantsStandIn t = false by simpa using List.all_eq_true.1 hall t hm)⟩)
    (by kernel_rfl)
#print axioms spotAll_holds
end Go.Proofs.YtnhgeojcelegbaaDoor
