/- SpotBegins holds: what stands behind a reference says nothing; small letters are capitals. No condition. -/
import Derived.Test.YtnhgeojcelegbaaDoorSpW
import Derived.Test.YtnhgeojcelegbaaDoorDLaw
import Derived.Test.YtnhgeojcelegbaaDoorSpArg
namespace Go.Proofs.YtnhgeojcelegbaaDoor
open Go.ChangeMaps (open_string)
open Go.ChangeShapes Go.WideShapes Go.ChangeAt Go.RowKit
set_option maxRecDepth 100000 in
theorem spotBegins_lifted (os : Os) (started : os.Started) (H : Type) (enc : TypeId × Value → H) :
    ReturnsInHanded {} Tryd.checked os 7 .any (fun w args => (Rows.spotBeginsSpec.pre enc Tryd.prog Tryd.f7 [] false w args ∧ laidMetH Tryd.prog Rows.spotBeginsRow.laid w) ∧ sizedMet enc Tryd.prog Tryd.f7 (OpenSpec.ofChange Rows.spotBeginsSpec) false w args)
      (Rows.spotBeginsSpec.post enc Tryd.prog Tryd.f7 false true false false) := by
  refine lift_lawL (C := Tryd.checked) (tb := 4) (laidVars := Rows.spotBeginsRow.laid) own started (by kernel_rfl) Tryd.func7
    (ChangeSpec.witness_shaped (enc := enc) (C := Tryd.checked) (os := os) (X := fun w _ => laidMetH Tryd.prog Rows.spotBeginsRow.laid w) false (World.laidAll Tryd.prog os Rows.spotBeginsRow.laid) #[.string ⟨#[]⟩, .string ⟨#[]⟩] 8 (World.laidAll_os _ _ _)
      (World.shaped_of_ZipB (by kernel_rfl) (by kernel_rfl)) (by kernel_rfl) (by kernel_rfl) (by kernel_rfl)
      (by rw [MakeChecks.laidMetH_plain _ _ _ (by kernel_rfl)]; exact laidMet_laidAll _ (by kernel_rfl) (by kernel_rfl))) laidOut (by kernel_rfl) rfl Tryd.underlying4 rfl ?_ ?_
  · rintro ds hl
    match ds, hl with
    | [_, _], _ => exact ⟨rfl, rfl, rfl⟩
  · intro W base args ds p hval0 hA hlt hsz hL
    have hval : ∀ (j : Nat) t v, Tryd.f7.params[j]? = some t → args[j]? = some v → Value.okWide Tryd.prog W .any base t v := hval0
    clear hval0
    rw [Tryd.params7] at hA hsz hval
    obtain ⟨v0, vs0, d0, ds0, p0, q0, hargs, rfl, rfl, h0, r0⟩ := trodAll_cons hA
    obtain ⟨v1, vs1, d1, ds1, p1, q1, rfl, rfl, rfl, h1, r1⟩ := trodAll_cons r0
    obtain ⟨rfl, rfl, rfl⟩ := trodAll_nil r1
    obtain rfl : args = #[v0, v1] := by cases args; simp_all
    have LW : LaidW W := laidW_of hL
    obtain ⟨s, rfl, rfl, rfl, -⟩ := open_string Tryd.underlying9 (hval 0 9 v0 rfl rfl) h0
    obtain ⟨more, rfl, rfl, rfl, -⟩ := open_string Tryd.underlying9 (hval 1 9 v1 rfl rfl) h1
    exact spotBegins_any s more W LW

theorem spotBegins_row : Rows.SpotBeginsSaid :=
  OpenClaim.holds_of_wide 7 Tryd.f7 rfl rfl rfl rfl rfl rfl rfl ⟨rfl, rfl, rfl, rfl, rfl⟩ rfl rfl rfl rfl rfl (by kernel_rfl) Tryd.func7 (by kernel_rfl)
    (of_decide_eq_true (by kernel_rfl)) (by unfold Func.isWrapper; first | (rw [if_pos (by decide +kernel)]; kernel_rfl) | (rw [if_neg (by decide +kernel)]; exact ⟨rfl, rfl⟩))
    (fun os started H enc _ => spotBegins_lifted os started H enc)
theorem spotBegins_holds : Rows.SpotBeginsCardSaid :=
  Claim7.holds_tied_plain_at .later [] Rows.spotBeginsCard.laidKinds true Rows.spotBeginsCard.stood.harness Rows.spotBeginsCard.stood.looks spotBegins_row (fun _ h => by cases h) (by kernel_rfl) (fun _ h => by cases h) spotBegins_row_tie rfl ⟨rfl, rfl⟩ (by kernel_rfl) rfl
    (fun f fn hf hfn => by
      obtain rfl : f = 7 := Option.some.inj ((show Tryd.prog.funcNamed "quadrille/quadrillelaw2.SpotBegins" = some 7 by kernel_rfl).symm.trans hf) |>.symm
      obtain rfl : fn = Tryd.f7 := (Option.some.inj (Tryd.func7.symm.trans hfn)).symm
      exact ⟨by kernel_rfl, fun j t ht => by
        rw [Tryd.params7] at ht
        have hm : t ∈ ([9, 9] : List TypeId) := by simpa using Array.mem_of_getElem? ht
        have hall : (([9, 9] : List TypeId).all fun u => !Tryd.prog.wantsStandIn u) = true := by kernel_rfl
        exact (show Tryd.prog.wantsStandIn t = false by simpa using List.all_eq_true.1 hall t hm)⟩)
    (by kernel_rfl)
#print axioms spotBegins_holds
end Go.Proofs.YtnhgeojcelegbaaDoor
