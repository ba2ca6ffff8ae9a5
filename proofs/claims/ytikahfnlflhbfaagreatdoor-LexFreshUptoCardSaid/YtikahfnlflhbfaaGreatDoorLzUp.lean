/- LexFresh holds, where what it reads is of the given bulk: lists are new memory. The bound is the statement's own and is not used. -/
import Derived.Test.YtikahfnlflhbfaaGreatDoorLzW
import Derived.Test.YtikahfnlflhbfaaGreatDoorLzQ
import Derived.Test.YtikahfnlflhbfaaGreatDoorLxDL
import Derived.Deep.DeepHandedRow
import Derived.JoinedCond
namespace Go.Proofs.YtikahfnlflhbfaaGreatDoor
open Go.ChangeMaps (open_string)
open Go.ChangeShapes Go.WideShapes Go.ChangeAt Go.RowKit
theorem laidX_lexFresh {W : World} (h : laidMetH Tryz.prog Rows.lexFreshUptoRow.laid W) : LaidX W := by
  rw [MakeChecks.laidMetH_plain _ _ _ (by kernel_rfl)] at h
  exact ⟨⟨tab_of_reads (Lib.laidMet.reads h (.tail _ (.tail _ (.head _)))), err_of_reads (Lib.laidMet.reads h (.tail _ (.tail _ (.tail _ (.tail _ (.head _))))))⟩,
    tabs_of_reads (Lib.laidMet.reads h (.tail _ (.tail _ (.tail _ (.tail _ (.tail _ (.tail _ (.tail _ (.head _))))))))) (Lib.laidMet.reads h (.tail _ (.tail _ (.tail _ (.head _)))))⟩
theorem lift_lawU {C : Checked} {os : Os} {f : FuncId} {fn : Func} {s : ChangeSpec} {H : Type} {enc : TypeId × Value → H} {tb : TypeId} {laidVars : List (String × DataW Unit)} {k : (H : Type) → List (DataW H) → Bool} {F : Stop.Interp}
    (own : ownKnob C.prog.godebug = none) (started : os.Started) (noInit : C.prog.inits.idxOf? f = none) (hfn : C.prog.funcs[f]? = some fn)
    (w0 : World) (args : Array Value) (hos : w0.os = os) (hsh : (w0.forCall (fun _ _ => 0) ⟨#[], args, []⟩).Shaped C.prog)
    (hok : Input.okWideB C.prog (w0.forCall (fun _ _ => 0) ⟨#[], args, []⟩) f ⟨#[], args, []⟩ = true)
    (hrow : ({ OpenSpec.ofChange s with cond := some k } : OpenSpec).preRow enc C.prog fn [] false laidVars (w0.forCall (fun _ _ => 0) ⟨#[], args, []⟩).memory args)
    (laid : laidOutB C.prog = true) (hread : fn.params.toList.all (fun t => C.prog.readableRec t && decide (t < C.prog.types.size)) = true)
    (hres : fn.resultTypes = #[tb]) (hb : C.prog.underlying tb = some .bool) (hvars : s.vars = [])
    (hspec : ∀ ds : List (DataW H), ds.length = fn.params.toList.length → (s.fn H (ds ++ [])).results = [.lit (.bool true)] ∧ (s.fn H (ds ++ [])).args = ds ∧ (s.fn H (ds ++ [])).vars = [])
    (walk : ∀ (W : World) (base : Nat) (args : Array Value) (ds : List (DataW H)) (p : List MemPlace),
      (∀ (j : Nat) t v, fn.params[j]? = some t → args[j]? = some v → Value.okWide C.prog W .any base t v) →
      DataW.TrodAll enc C.prog W 0 (fun _ => true) true fn.params.toList args.toList ds p → (∀ x ∈ p, x.block < W.heap.size) →
      (DataW.weightsEach C.prog fn.params.toList ds).all (· ≤ reachBytes) = true → laidMetH C.prog laidVars W → Calls C.prog f args W (TruePost W)) :
    ReturnsInHanded {} C os f .any (({ OpenSpec.ofChange s with cond := some k } : OpenSpec).preRow enc C.prog fn [] false laidVars) ((({ OpenSpec.ofChange s with cond := some k } : OpenSpec).at F).post enc C.prog fn false true false false) := by
  refine returnsInHanded_of_row (s := { OpenSpec.ofChange s with cond := some k }) own started noInit hfn ⟨w0, fun _ _ => 0, ⟨#[], args, []⟩, hos, hsh, (Input.okWide_of_okWideB (base := 0) hok).1, (Input.okWide_of_okWideB hok).2, hrow, by
    simp only [Assume.holds]
    exact ⟨by simp, by simp, fun _ => Modest.zero, by simp, by simp⟩⟩ ?_
  clear hrow hok hsh hos args w0
  intro W base args ds gs before hval hW _ _ hsz hL _ _
  have hW' := hW
  obtain ⟨p, q, hA0, hV, rfl, hfz, hnd⟩ := hW
  have hA : DataW.TrodAll enc C.prog W 0 (fun _ => true) true fn.params.toList args.toList ds p := hA0
  rw [show ({ OpenSpec.ofChange s with cond := some k } : OpenSpec).vars = [] from hvars] at hV
  obtain ⟨rfl, rfl⟩ := trodVars_none hV
  have hvt : ({ OpenSpec.ofChange s with cond := some k } : OpenSpec).bare.plain.varTypes C.prog = [] := by
    unfold DataSpec.varTypes ChangeSpec.plain
    show List.filterMap _ s.vars = []
    rw [hvars]; rfl
  rw [hvt, List.append_nil, List.append_nil] at hsz
  have hlt : ∀ x ∈ p, x.block < W.heap.size := fun x hx => hW'.lt x (by simpa using hx)
  have hlen : ds.length = fn.params.toList.length := by
    have : ∀ {ts : List TypeId} {vs : List Value} {ds : List (DataW H)} {ps : List MemPlace}, DataW.TrodAll enc C.prog W 0 (fun _ => true) true ts vs ds ps → ds.length = ts.length := by
      intro ts
      induction ts with
      | nil => intro vs ds ps h; cases vs <;> cases ds <;> simp_all [DataW.TrodAll]
      | cons t ts ih =>
        intro vs ds ps h
        obtain ⟨v, vs', d, ds', p, q, rfl, rfl, rfl, h0, h1⟩ := trodAll_cons h
        simp [ih h1]
    exact this hA
  refine (walk W base args ds p hval hA hlt hsz hL).mono fun e W' ⟨he, bel⟩ => ?_
  obtain ⟨s1, s2, s3⟩ := hspec ds hlen
  subst he
  show ∃ v, _ = Ending.returned v ∧ s.post enc C.prog fn false true false false W args v W'
  refine ⟨_, rfl, _, _, _, [], p, [], hW', ?_, ?_, ?_, bel.frame _, fun h => by cases h⟩
  · rw [s1, hres]; exact trodAll_mk1 (shut_bool hb _)
  · rw [s2]; exact trodAll_below laid bel (fun t ht => by have := List.all_eq_true.1 hread t ht; simpa using this) hA hlt
  · rw [s3]
    rw [hvars]; rfl

set_option maxRecDepth 100000 in
theorem lexFresh_liftedU (os : Os) (started : os.Started) (H : Type) (enc : TypeId × Value → H) (F : Stop.Interp) :
    ReturnsInHanded {} Tryz.checked os 4 .any ((Rows.OpenSpec.upto Rows.lexFreshSpec).preRow enc Tryz.prog Tryz.f4 Rows.lexFreshUptoRow.domain false Rows.lexFreshUptoRow.laid)
      (((Rows.OpenSpec.upto Rows.lexFreshSpec).at F).post enc Tryz.prog Tryz.f4 false true false false) := by
  obtain ⟨places, hx⟩ : ∃ places, DataW.whole enc Tryz.prog ((World.laidAll Tryz.prog os Rows.lexFreshUptoRow.laid).forCall (fun _ _ => 0) ⟨#[], #[.slice none 0 0], []⟩).memory Tryz.f4.params.toList Rows.lexFreshSpec.vars false #[Value.slice none 0 0].toList 8 = some ([.nil], [], places) := ⟨[], by kernel_rfl⟩
  refine lift_lawU (C := Tryz.checked) (tb := 4) (s := Rows.lexFreshSpec) (k := Rows.uptoSmall) (laidVars := Rows.lexFreshUptoRow.laid) own started (by kernel_rfl) Tryz.func4
    (World.laidAll Tryz.prog os Rows.lexFreshUptoRow.laid) #[.slice none 0 0] (World.laidAll_os _ _ _) (World.shaped_of_ZipB (by kernel_rfl) (by kernel_rfl)) (by kernel_rfl)
    (OpenSpec.preRow_of_cond 8 hx (by kernel_rfl) (fun k hk => by cases hk; kernel_rfl) (by kernel_rfl) (by rw [MakeChecks.laidMetH_plain _ _ _ (by kernel_rfl)]; exact laidMet_laidAll _ (by kernel_rfl) (by kernel_rfl)))
    laidOut (by kernel_rfl) rfl Tryz.underlying4 rfl ?_ ?_
  · rintro ds hl
    match ds, hl with
    | [_], _ => exact ⟨rfl, rfl, rfl⟩
  · intro W base args ds p hval0 hA hlt hsz hL
    have hval : ∀ (j : Nat) t v, Tryz.f4.params[j]? = some t → args[j]? = some v → Value.okWide Tryz.prog W .any base t v := hval0
    clear hval0
    rw [Tryz.params4] at hA hsz hval
    obtain ⟨v0, vs0, d0, ds0, p0, q0, hargs, rfl, rfl, h0, r0⟩ := trodAll_cons hA
    obtain ⟨rfl, rfl, rfl⟩ := trodAll_nil r0
    obtain rfl : args = #[v0] := by cases args; simp_all
    have LW : LaidX W := laidX_lexFresh hL
    obtain ⟨ha, hl, hc, rfl⟩ := okWide_slice Tryz.underlying22 (hval 0 22 v0 rfl rfl)
    exact lexFresh_any ha hl hc W LW (Lib.hid (texts_of_trod h0))

theorem lexFresh_rowU : Rows.LexFreshUptoSaid :=
  OpenClaim.holds_of_cond 4 Tryz.f4 rfl rfl rfl rfl rfl rfl rfl ⟨rfl, rfl, rfl, rfl, rfl⟩ rfl rfl rfl rfl rfl (by kernel_rfl) Tryz.func4 (by kernel_rfl)
    (of_decide_eq_true (by kernel_rfl)) (by unfold Func.isWrapper; first | (rw [if_pos (by decide +kernel)]; kernel_rfl) | (rw [if_neg (by decide +kernel)]; exact ⟨rfl, rfl⟩))
    (fun os started H enc _ F => by rw [OpenClaim.pre_eq_preRow]; exact lexFresh_liftedU os started H enc F)
theorem lexFreshUpto_holds : Rows.LexFreshUptoCardSaid :=
  Claim7.holds_tied_plain_at .later [] Rows.lexFreshUptoCard.laidKinds true Rows.lexFreshUptoCard.stood.harness Rows.lexFreshUptoCard.stood.looks lexFresh_rowU (fun _ h => by cases h) (by kernel_rfl) (fun _ h => by cases h) lexFreshUpto_row_tie rfl ⟨rfl, rfl⟩ (by kernel_rfl) rfl
    (fun f fn hf hfn => by
      obtain rfl : f = 4 := Option.some.inj ((show Tryz.prog.funcNamed "quadrille/quadrillelaw8.LexFresh" = some 4 by kernel_rfl).symm.trans hf) |>.symm
      obtain rfl : fn = Tryz.f4 := (Option.some.inj (Tryz.func4.symm.trans hfn)).symm
      exact ⟨by kernel_rfl, fun j t ht => by
        rw [Tryz.params4] at ht
        have hm : t ∈ ([22] : List TypeId) := by simpa using Array.mem_of_getElem? ht
        have hall : (([22] : List TypeId).all fun u => !Tryz.prog.wantsStandIn u) = true := by kernel_rfl
        exact (show Tryz.prog.wantsStandIn t = false by simpa using List.all_eq_true.1 hall t hm)⟩)
    (by kernel_rfl)
#print axioms lexFreshUpto_holds
end Go.Proofs.YtikahfnlflhbfaaGreatDoor
