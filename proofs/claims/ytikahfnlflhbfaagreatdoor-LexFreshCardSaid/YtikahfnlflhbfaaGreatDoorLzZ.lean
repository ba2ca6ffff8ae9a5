/- LexFresh holds: lists are new memory. No condition. -/
import Derived.Test.YtikahfnlflhbfaaGreatDoorLzW
import Derived.Test.YtikahfnlflhbfaaGreatDoorLzQ
import Derived.Test.YtikahfnlflhbfaaGreatDoorLxDL
namespace Go.Proofs.YtikahfnlflhbfaaGreatDoor
open Go.ChangeMaps (open_string)
open Go.ChangeShapes Go.WideShapes Go.ChangeAt Go.RowKit
theorem laidX_lexFresh {W : World} (h : laidMetH Tryz.prog Rows.lexFreshRow.laid W) : LaidX W := by
  rw [MakeChecks.laidMetH_plain _ _ _ (by kernel_rfl)] at h
  exact ⟨⟨tab_of_reads (Lib.laidMet.reads h (.tail _ (.tail _ (.head _)))), err_of_reads (Lib.laidMet.reads h (.tail _ (.tail _ (.tail _ (.tail _ (.head _))))))⟩,
    tabs_of_reads (Lib.laidMet.reads h (.tail _ (.tail _ (.tail _ (.tail _ (.tail _ (.tail _ (.tail _ (.head _))))))))) (Lib.laidMet.reads h (.tail _ (.tail _ (.tail _ (.head _)))))⟩
set_option maxRecDepth 100000 in
theorem lexFresh_lifted (os : Os) (started : os.Started) (H : Type) (enc : TypeId × Value → H) :
    ReturnsInHanded {} Tryz.checked os 4 .any (fun w args => (Rows.lexFreshSpec.pre enc Tryz.prog Tryz.f4 [] false w args ∧ laidMetH Tryz.prog Rows.lexFreshRow.laid w) ∧ sizedMet enc Tryz.prog Tryz.f4 (OpenSpec.ofChange Rows.lexFreshSpec) false w args)
      (Rows.lexFreshSpec.post enc Tryz.prog Tryz.f4 false true false false) := by
  refine lift_lawL (C := Tryz.checked) (tb := 4) (laidVars := Rows.lexFreshRow.laid) own started (by kernel_rfl) Tryz.func4
    (ChangeSpec.witness_shaped (enc := enc) (C := Tryz.checked) (os := os) (X := fun w _ => laidMetH Tryz.prog Rows.lexFreshRow.laid w) false (World.laidAll Tryz.prog os Rows.lexFreshRow.laid) #[.slice none 0 0] 8 (World.laidAll_os _ _ _)
      (World.shaped_of_ZipB (by kernel_rfl) (by kernel_rfl)) (by kernel_rfl) (by kernel_rfl) (by kernel_rfl)
      (by rw [MakeChecks.laidMetH_plain _ _ _ (by kernel_rfl)]; exact laidMet_laidAll _ (by kernel_rfl) (by kernel_rfl))) laidOut (by kernel_rfl) rfl Tryz.underlying4 rfl ?_ ?_
  · rintro ds hl
    match ds, hl with
    | [_], _ => exact ⟨rfl, rfl, rfl⟩
  · intro W base args ds p hval0 hA hlt hsz hL
    have hval : ∀ (j : Nat) t v, Tryz.f4.params[j]? = some t → args[j]? = some v → Value.okWide Tryz.prog W .any base t v := hval0
    clear hval0
    rw [Tryz.params4] at hA hsz hval
    obtain ⟨v0, vs0, d0, ds0, p0, q0, hargs, rfl, rfl, h0, r0⟩ := trodAll_cons hA
    obtain ⟨rfl, rfl, rfl⟩ := trodAll_nil r0
    obtain rfl : args = #[v0] := by cases args; simp_all
    have LW : LaidX W := laidX_lexFresh hL
    obtain ⟨ha, hl, hc, rfl⟩ := okWide_slice Tryz.underlying22 (hval 0 22 v0 rfl rfl)
    exact lexFresh_any ha hl hc W LW (Lib.hid (texts_of_trod h0))

theorem lexFresh_row : Rows.LexFreshSaid :=
  OpenClaim.holds_of_wide 4 Tryz.f4 rfl rfl rfl rfl rfl rfl rfl ⟨rfl, rfl, rfl, rfl, rfl⟩ rfl rfl rfl rfl rfl (by kernel_rfl) Tryz.func4 (by kernel_rfl)
    (of_decide_eq_true (by kernel_rfl)) (by unfold Func.isWrapper; first | (rw [if_pos (by decide +kernel)]; kernel_rfl) | (rw [if_neg (by decide +kernel)]; exact ⟨rfl, rfl⟩))
    (fun os started H enc _ => lexFresh_lifted os started H enc)
theorem lexFresh_holds : Rows.LexFreshCardSaid :=
  Claim7.holds_tied_plain_at .later [] Rows.lexFreshCard.laidKinds true Rows.lexFreshCard.stood.harness Rows.lexFreshCard.stood.looks lexFresh_row (fun _ h => by cases h) (by kernel_rfl) (fun _ h => by cases h) lexFresh_row_tie rfl ⟨rfl, rfl⟩ (by kernel_rfl) rfl
    (fun f fn hf hfn => by
      obtain rfl : f = 4 := Option.some.inj ((show Tryz.prog.funcNamed "quadrille/quadrillelaw8.LexFresh" = some 4 by kernel_rfl).symm.trans hf) |>.symm
      obtain rfl : fn = Tryz.f4 := (Option.some.inj (Tryz.func4.symm.trans hfn)).symm
      exact ⟨by kernel_rfl, fun j t ht => by
        rw [Tryz.params4] at ht
        have hm : t ∈ ([22] : List TypeId) := by simpa using Array.mem_of_getElem? ht
        have hall : (([22] : List TypeId).all fun u => !Tryz.prog.wantsStandIn u) = true := by kernel_rfl
        exact (show Tryz.prog.wantsStandIn t = false by simpa using List.all_eq_true.1 hall t hm)⟩)
    (by kernel_rfl)
#print axioms lexFresh_holds
end Go.Proofs.YtikahfnlflhbfaaGreatDoor
