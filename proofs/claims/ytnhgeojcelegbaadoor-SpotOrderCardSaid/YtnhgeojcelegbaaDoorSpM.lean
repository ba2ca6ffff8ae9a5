/- SpotOrder: an order, whatever the numbers. -/
import Derived.Test.YtnhgeojcelegbaaDoorSpL
import Derived.Deep.Cut
namespace Go.Proofs.YtnhgeojcelegbaaDoor
open Go.RowKit Go.Lib

structure OrdS (w W : World) : Prop where
  bel : Below w.heap.size w W
  lt : w.heap.size + 2 < W.heap.size
theorem OrdS.step {w W W' : World} (h : OrdS w W) (b : Below W.heap.size W W') : OrdS w W' := ⟨h.bel.trans (b.mono h.bel.size), Nat.lt_of_lt_of_le h.lt b.size⟩
theorem cells_step {w W W' : World} {i : Nat} {A : Array Value} (hi : i ≤ 2) (h : OrdS w W) (b : Below W.heap.size W W') (c : ∀ o, W.cell? ⟨w.heap.size + i, o, none⟩ = A[o]?) : ∀ o, W'.cell? ⟨w.heap.size + i, o, none⟩ = A[o]? := fun o => (b.cell (p := ⟨w.heap.size + i, o, none⟩) (by have := h.lt; show w.heap.size + i < _; omega)).trans (c o)
theorem cmpS_neg (a b c d : Int) : cmpS c d a b = - cmpS a b c d := by
  unfold cmpS
  repeat' split
  all_goals omega
theorem cmpS_ok (ar ac br bc cr cc : Int) : cmpS ar ac br bc > 0 ∨ cmpS br bc cr cc > 0 ∨ (cmpS ar ac cr cc ≤ 0 ∧ (cmpS ar ac cr cc = 0 ↔ (cmpS ar ac br bc = 0 ∧ cmpS br bc cr cc = 0))) := by
  unfold cmpS
  repeat' split
  all_goals omega
theorem cmpS_range (a b c d : Int) : cmpS a b c d = -1 ∨ cmpS a b c d = 0 ∨ cmpS a b c d = 1 := by
  unfold cmpS
  repeat' split
  all_goals omega
set_option maxRecDepth 100000 in
set_option maxHeartbeats 8000000 in
theorem spotOrder_any (ar ac br bc cr cc : Int) (w : World) (L : LaidW w) : Calls Tryd.prog 10 #[.agg #[.int .i64 ar, .int .i64 ac], .agg #[.int .i64 br, .int .i64 bc], .agg #[.int .i64 cr, .int .i64 cc]] w (TruePost w) := by
  have B0 := Lib.hid (ext_alloc (ext_alloc (ext_alloc (Below.refl _ w) (.cells #[.int .i64 ar, .int .i64 ac] 39)) (.cells #[.int .i64 br, .int .i64 bc] 39)) (.cells #[.int .i64 cr, .int .i64 cc] 39))
  have HL := Lib.hid L
  clear L
  go_enter Tryd.func10, Tryd.ntmps10
  go_wp2_with fail
  refine (begun2_any _ (HL.out.kept B0.out)).mono ?_
  rintro e w1 ⟨rfl, b1⟩
  have k0 : OrdS w (((w.alloc (.cells #[.int .i64 ar, .int .i64 ac] 39)).alloc (.cells #[.int .i64 br, .int .i64 bc] 39)).alloc (.cells #[.int .i64 cr, .int .i64 cc] 39)) := ⟨B0.out, by simp⟩
  have k1 : OrdS w w1 := k0.step b1
  have q0 : ∀ o, (((w.alloc (.cells #[.int .i64 ar, .int .i64 ac] 39)).alloc (.cells #[.int .i64 br, .int .i64 bc] 39)).alloc (.cells #[.int .i64 cr, .int .i64 cc] 39)).cell? ⟨w.heap.size, o, none⟩ = (#[.int .i64 ar, .int .i64 ac] : Array Value)[o]? := fun o => (World.cell?_alloc_past _ _ _ (by simp; omega)).trans ((World.cell?_alloc_past _ _ _ (by simp)).trans (World.cell?_alloc_at _ _ _ _ rfl))
  have q1 : ∀ o, (((w.alloc (.cells #[.int .i64 ar, .int .i64 ac] 39)).alloc (.cells #[.int .i64 br, .int .i64 bc] 39)).alloc (.cells #[.int .i64 cr, .int .i64 cc] 39)).cell? ⟨w.heap.size + 1, o, none⟩ = (#[.int .i64 br, .int .i64 bc] : Array Value)[o]? := fun o => (World.cell?_alloc_past _ _ _ (by simp)).trans (World.cell?_alloc_at _ _ _ _ (by simp))
  have q2 : ∀ o, (((w.alloc (.cells #[.int .i64 ar, .int .i64 ac] 39)).alloc (.cells #[.int .i64 br, .int .i64 bc] 39)).alloc (.cells #[.int .i64 cr, .int .i64 cc] 39)).cell? ⟨w.heap.size + 2, o, none⟩ = (#[.int .i64 cr, .int .i64 cc] : Array Value)[o]? := fun o => World.cell?_alloc_at _ _ _ _ (by simp)
  have c0 := cells_step (i := 0) (by omega) k0 b1 q0
  have c1 := cells_step (i := 1) (by omega) k0 b1 q1
  have c2 := cells_step (i := 2) (by omega) k0 b1 q2
  clear q0 q1 q2 k0 b1
  simp only [Nat.add_zero] at c0
  obtain ⟨x, hx⟩ : ∃ x, x = cmpS ar ac br bc := ⟨_, rfl⟩
  obtain ⟨y, hy⟩ : ∃ y, y = cmpS br bc cr cc := ⟨_, rfl⟩
  obtain ⟨z, hz⟩ : ∃ z, z = cmpS ar ac cr cc := ⟨_, rfl⟩
  have HX := Lib.hid hx; have HY := Lib.hid hy; have HZ := Lib.hid hz
  clear hx hy hz
  have cC : ∀ (W : World) (p q r s : Int), (((∀ o, W.cell? ⟨w.heap.size, o, none⟩ = (#[.int .i64 ar, .int .i64 ac] : Array Value)[o]?) ∧ (∀ o, W.cell? ⟨w.heap.size + 1, o, none⟩ = (#[.int .i64 br, .int .i64 bc] : Array Value)[o]?) ∧ (∀ o, W.cell? ⟨w.heap.size + 2, o, none⟩ = (#[.int .i64 cr, .int .i64 cc] : Array Value)[o]?)) ∧ OrdS w W) → Calls Tryd.prog 29 #[.agg #[.int .i64 p, .int .i64 q], .agg #[.int .i64 r, .int .i64 s]] W (fun e w' => e = .returned (.int .i64 (cmpS p q r s)) ∧ (((∀ o, w'.cell? ⟨w.heap.size, o, none⟩ = (#[.int .i64 ar, .int .i64 ac] : Array Value)[o]?) ∧ (∀ o, w'.cell? ⟨w.heap.size + 1, o, none⟩ = (#[.int .i64 br, .int .i64 bc] : Array Value)[o]?) ∧ (∀ o, w'.cell? ⟨w.heap.size + 2, o, none⟩ = (#[.int .i64 cr, .int .i64 cc] : Array Value)[o]?)) ∧ OrdS w w')) := fun W p q r s hW =>
    (spCompare_any p q r s W).mono fun e w' h => ⟨h.1, ⟨by have := cells_step (i := 0) (by omega) hW.2 h.2 hW.1.1; simpa using this, cells_step (i := 1) (by omega) hW.2 h.2 hW.1.2.1, cells_step (i := 2) (by omega) hW.2 h.2 hW.1.2.2⟩, hW.2.step h.2⟩
  have CC := Lib.hid cC
  clear cC
  go_wp2_with fail
  go_cut [7, 8, 9] from 12 (fun v7 v8 v9 W => v7 = .int .i64 x ∧ v8 = .int .i64 y ∧ v9 = .int .i64 z ∧ (((∀ o, W.cell? ⟨w.heap.size, o, none⟩ = (#[.int .i64 ar, .int .i64 ac] : Array Value)[o]?) ∧ (∀ o, W.cell? ⟨w.heap.size + 1, o, none⟩ = (#[.int .i64 br, .int .i64 bc] : Array Value)[o]?) ∧ (∀ o, W.cell? ⟨w.heap.size + 2, o, none⟩ = (#[.int .i64 cr, .int .i64 cc] : Array Value)[o]?)) ∧ OrdS w W))
  case first =>
    have hd : OrdS w w1.drew := ⟨k1.bel.drew, k1.lt⟩
    go_region_held3 (fun W => ((∀ o, W.cell? ⟨w.heap.size, o, none⟩ = (#[.int .i64 ar, .int .i64 ac] : Array Value)[o]?) ∧ (∀ o, W.cell? ⟨w.heap.size + 1, o, none⟩ = (#[.int .i64 br, .int .i64 bc] : Array Value)[o]?) ∧ (∀ o, W.cell? ⟨w.heap.size + 2, o, none⟩ = (#[.int .i64 cr, .int .i64 cc] : Array Value)[o]?)) ∧ OrdS w W) (first | assumption | exact ⟨⟨c0, c1, c2⟩, hd⟩ | exact hd) (first
      | (go_at_call 29
         refine (CC.out _ _ _ _ _ (by assumption)).mono ?_
         rintro e w' ⟨rfl, hS'⟩))
    all_goals
      have HS9 := Lib.hid hS'
      clear hS' hd k1 c0 c1 c2
      go_wp2
      go_meet
      case rel => exact ⟨by rw [HX.out], by rw [HY.out], by rw [HZ.out], HS9.out⟩
  case rest =>
    obtain ⟨rfl, rfl, rfl, ⟨d0, d1, d2⟩, kc⟩ := hcut
    have KC := Lib.hid kc
    have HB := Lib.hid kc.bel
    clear kc k1 c0 c1 c2
    have hn := cmpS_neg ar ac br bc
    rw [← HX.out] at hn
    have hok := cmpS_ok ar ac br bc cr cc
    rw [← HX.out, ← HY.out, ← HZ.out] at hok
    have hxr := cmpS_range ar ac br bc
    have hyr := cmpS_range br bc cr cc
    have hzr := cmpS_range ar ac cr cc
    rw [← HX.out] at hxr
    rw [← HY.out] at hyr
    rw [← HZ.out] at hzr
    have HN := Lib.hid hn
    clear hn
    have hcmp : (x = -1 ∧ (ar < br ∨ (ar = br ∧ ac < bc))) ∨ (x = 0 ∧ ar = br ∧ ac = bc) ∨ (x = 1 ∧ (br < ar ∨ (ar = br ∧ bc < ac))) := by
      have := HX.out
      unfold cmpS at this
      repeat' split at this
      all_goals omega
    have CF := Lib.hid (spCompare_any br bc ar ac wc)
    clear CC HX HY HZ
    have HOK := Lib.hid hok
    rcases hcmp with ⟨rfl, hc⟩ | ⟨rfl, rfl, rfl⟩ | ⟨rfl, hc⟩
    · rcases hc with hc | ⟨rfl, hc⟩
      · clear hok hxr
        go_wp2_with fail
        refine CF.out.mono ?_
        rintro e w4 ⟨he, b4⟩
        rw [HN.out, show -(-1 : Int) = 1 from rfl] at he
        subst he
        have e0 := cells_step (i := 0) (by omega) KC.out b4 d0
        have e1 := cells_step (i := 1) (by omega) KC.out b4 d1
        simp only [Nat.add_zero] at e0
        have HB4 := Lib.hid (HB.out.trans (b4.mono HB.out.size))
        clear b4 d0 d1 d2
        rcases hyr with rfl | rfl | rfl <;> rcases hzr with rfl | rfl | rfl
        all_goals first
          | (exfalso; have := HOK.out; omega)
          | (exfalso; have := HOK.out; revert this; decide)
          | (go_wp2
             go_ret
             exact ⟨rfl, HB4.out⟩)
      · clear hok hxr
        go_wp2_with fail
        refine CF.out.mono ?_
        rintro e w4 ⟨he, b4⟩
        rw [HN.out, show -(-1 : Int) = 1 from rfl] at he
        subst he
        have e0 := cells_step (i := 0) (by omega) KC.out b4 d0
        have e1 := cells_step (i := 1) (by omega) KC.out b4 d1
        simp only [Nat.add_zero] at e0
        have HB4 := Lib.hid (HB.out.trans (b4.mono HB.out.size))
        clear b4 d0 d1 d2
        rcases hyr with rfl | rfl | rfl <;> rcases hzr with rfl | rfl | rfl
        all_goals first
          | (exfalso; have := HOK.out; omega)
          | (exfalso; have := HOK.out; revert this; decide)
          | (go_wp2
             go_ret
             exact ⟨rfl, HB4.out⟩)
    · clear hok hxr
      go_wp2_with fail
      refine CF.out.mono ?_
      rintro e w4 ⟨he, b4⟩
      rw [HN.out] at he
      subst he
      have e0 := cells_step (i := 0) (by omega) KC.out b4 d0
      have e1 := cells_step (i := 1) (by omega) KC.out b4 d1
      simp only [Nat.add_zero] at e0
      have HB4 := Lib.hid (HB.out.trans (b4.mono HB.out.size))
      clear b4 d0 d1 d2
      rcases hyr with rfl | rfl | rfl <;> rcases hzr with rfl | rfl | rfl
      all_goals first
        | (exfalso; have := HOK.out; omega)
        | (exfalso; have := HOK.out; revert this; decide)
        | (go_wp2
           go_ret
           exact ⟨rfl, HB4.out⟩)
    · rcases hc with hc | ⟨rfl, hc⟩
      · clear hok hxr
        go_wp2_with fail
        refine CF.out.mono ?_
        rintro e w4 ⟨he, b4⟩
        rw [HN.out] at he
        subst he
        have e0 := cells_step (i := 0) (by omega) KC.out b4 d0
        have e1 := cells_step (i := 1) (by omega) KC.out b4 d1
        simp only [Nat.add_zero] at e0
        have HB4 := Lib.hid (HB.out.trans (b4.mono HB.out.size))
        clear b4 d0 d1 d2
        rcases hyr with rfl | rfl | rfl <;> rcases hzr with rfl | rfl | rfl
        all_goals first
          | (exfalso; have := HOK.out; omega)
          | (exfalso; have := HOK.out; revert this; decide)
          | (go_wp2
             go_ret
             exact ⟨rfl, HB4.out⟩)
      · clear hok hxr
        go_wp2_with fail
        refine CF.out.mono ?_
        rintro e w4 ⟨he, b4⟩
        rw [HN.out] at he
        subst he
        have e0 := cells_step (i := 0) (by omega) KC.out b4 d0
        have e1 := cells_step (i := 1) (by omega) KC.out b4 d1
        simp only [Nat.add_zero] at e0
        have HB4 := Lib.hid (HB.out.trans (b4.mono HB.out.size))
        clear b4 d0 d1 d2
        rcases hyr with rfl | rfl | rfl <;> rcases hzr with rfl | rfl | rfl
        all_goals first
          | (exfalso; have := HOK.out; omega)
          | (exfalso; have := HOK.out; revert this; decide)
          | (go_wp2
             go_ret
             exact ⟨rfl, HB4.out⟩)
end Go.Proofs.YtnhgeojcelegbaaDoor
