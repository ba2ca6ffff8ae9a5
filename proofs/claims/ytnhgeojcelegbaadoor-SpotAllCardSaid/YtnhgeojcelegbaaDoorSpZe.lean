/- SpotAll's round: law2's plays. -/
import Derived.Test.YtnhgeojcelegbaaDoorSpZc
import Derived.Test.YtnhgeojcelegbaaDoorSpZd
import Derived.Test.YtnhgeojcelegbaaDoorSpL
namespace Go.Proofs.YtnhgeojcelegbaaDoor
open Go.RowKit Go.Lib

set_option maxRecDepth 10000 in
set_option maxHeartbeats 8000000 in
theorem plays2_any (k ar ac br bc rr rc : Int) (rp rq : Bool) (s : ByteArray) (w : World) (L : LaidW w) (hs : s.size ≤ 140737488355328) : Calls Tryd.prog 28 #[.agg #[.int .i64 k, .int .i64 ar, .int .i64 ac, .int .i64 br, .int .i64 bc, .int .i64 rr, .int .i64 rc, .bool rp, .bool rq, .string s]] w fun e w' => e = .returned (.bool true) ∧ Below w.heap.size w w' := by
  have HL := Lib.hid L
  clear L
  have B1 := Lib.hid (ext_alloc (Below.refl w.heap.size w) (.cells #[.int .i64 k, .int .i64 ar, .int .i64 ac, .int .i64 br, .int .i64 bc, .int .i64 rr, .int .i64 rc, .bool rp, .bool rq, .string s] 59))
  by_cases k1 : k = 1
  · subst k1
    go_enter Tryd.func28, Tryd.ntmps28
    go_upto_region 3 with (fail)
    have h0 : ((∀ o, (w.alloc (.cells #[.int .i64 1, .int .i64 ar, .int .i64 ac, .int .i64 br, .int .i64 bc, .int .i64 rr, .int .i64 rc, .bool rp, .bool rq, .string s] 59)).drew.cell? ⟨w.heap.size, o, none⟩ = (#[.int .i64 1, .int .i64 ar, .int .i64 ac, .int .i64 br, .int .i64 bc, .int .i64 rr, .int .i64 rc, .bool rp, .bool rq, .string s] : Array Value)[o]?) ∧ RtS w (w.alloc (.cells #[.int .i64 1, .int .i64 ar, .int .i64 ac, .int .i64 br, .int .i64 bc, .int .i64 rr, .int .i64 rc, .bool rp, .bool rq, .string s] 59)).drew) := ⟨fun o => World.cell?_alloc_at _ _ _ _ rfl, (ext_alloc (Below.refl _ w) _).drew, by simp⟩
    obtain ⟨v, hv⟩ : ∃ v, placeB ⟨ar, ac, false, false⟩ = v := ⟨_, rfl⟩
    have HV := Lib.hid hv
    clear hv
    have cA : ∀ W, ((∀ o, W.cell? ⟨w.heap.size, o, none⟩ = (#[.int .i64 1, .int .i64 ar, .int .i64 ac, .int .i64 br, .int .i64 bc, .int .i64 rr, .int .i64 rc, .bool rp, .bool rq, .string s] : Array Value)[o]?) ∧ RtS w W) → Calls Tryd.prog 22 #[.agg #[.int .i64 ar, .int .i64 ac]] W (fun e w' => e = .returned (.bool v) ∧ ((∀ o, w'.cell? ⟨w.heap.size, o, none⟩ = (#[.int .i64 1, .int .i64 ar, .int .i64 ac, .int .i64 br, .int .i64 bc, .int .i64 rr, .int .i64 rc, .bool rp, .bool rq, .string s] : Array Value)[o]?) ∧ RtS w w')) :=
      fun W hW => by
        have h0 := spMay_any ar ac W
        rw [HV.out] at h0
        exact h0.mono fun e w' h => ⟨h.1, fun o => (h.2.cell (p := ⟨w.heap.size, o, none⟩) hW.2.lt).trans (hW.1 o), hW.2.bel.trans (h.2.mono (Nat.le_of_lt hW.2.lt)), Nat.lt_of_lt_of_le hW.2.lt h.2.size⟩
    have CA := Lib.hid cA
    clear cA
    have cB : ∀ W, ((∀ o, W.cell? ⟨w.heap.size, o, none⟩ = (#[.int .i64 1, .int .i64 ar, .int .i64 ac, .int .i64 br, .int .i64 bc, .int .i64 rr, .int .i64 rc, .bool rp, .bool rq, .string s] : Array Value)[o]?) ∧ RtS w W) → Calls Tryd.prog 66 #[.agg #[.int .i64 ar, .int .i64 ac]] W (fun e w' => e = .returned (.bool v) ∧ ((∀ o, w'.cell? ⟨w.heap.size, o, none⟩ = (#[.int .i64 1, .int .i64 ar, .int .i64 ac, .int .i64 br, .int .i64 bc, .int .i64 rr, .int .i64 rc, .bool rp, .bool rq, .string s] : Array Value)[o]?) ∧ RtS w w')) :=
      fun W hW => by
        have h0 := rfMay_any ar ac W
        rw [HV.out] at h0
        exact h0.mono fun e w' h => ⟨h.1, fun o => (h.2.cell (p := ⟨w.heap.size, o, none⟩) hW.2.lt).trans (hW.1 o), hW.2.bel.trans (h.2.mono (Nat.le_of_lt hW.2.lt)), Nat.lt_of_lt_of_le hW.2.lt h.2.size⟩
    have CB := Lib.hid cB
    clear cB
    have hvv : (v == v) = true := beq_self_eq_true _
    go_region_held3 (fun W => ((∀ o, W.cell? ⟨w.heap.size, o, none⟩ = (#[.int .i64 1, .int .i64 ar, .int .i64 ac, .int .i64 br, .int .i64 bc, .int .i64 rr, .int .i64 rc, .bool rp, .bool rq, .string s] : Array Value)[o]?) ∧ RtS w W)) (first | assumption | exact h0) (first
      | (go_at_call 22
         with_reducible refine (CA.out _ (by assumption)).mono ?_
         rintro e w' ⟨rfl, hS'⟩)
      | (go_at_call 66
         with_reducible refine (CB.out _ (by assumption)).mono ?_
         rintro e w' ⟨rfl, hS'⟩))
    all_goals
      have HS := Lib.hid hS'.2.bel
      clear hS' h0
      go_wp2
      go_ret
      exact ⟨rfl, HS.out⟩
  have j1 : (k == 1) = false := beq_eq_false_iff_ne.2 k1
  by_cases k2 : k = 2
  · subst k2
    go_enter Tryd.func28, Tryd.ntmps28
    go_wp2_with fail
    refine (spText_any ar ac _ (HL.out.kept B1.out)).mono ?_
    rintro e w2 ⟨rfl, b2⟩
    have z2 : w.heap.size < w2.heap.size := (kept_block b2).1
    have a2 := (kept_block b2).2
    have B2 := Lib.hid (B1.out.trans (b2.mono B1.out.size))
    clear b2
    obtain ⟨t, ht⟩ : ∃ t, t = strB (refTextL ⟨ar, ac, false, false⟩) := ⟨_, rfl⟩
    obtain ⟨x, hx⟩ : ∃ x, x = refTextE ⟨ar, ac, false, false⟩ := ⟨_, rfl⟩
    rw [← ht, ← hx]
    have HT := Lib.hid ht; have HX := Lib.hid hx
    clear ht hx
    go_wp2_with fail
    refine (rfText_any ar ac _).mono ?_
    rintro e w3 ⟨he, b3⟩
    rw [← HT.out, ← HX.out] at he
    subst he
    have B3 := Lib.hid (B2.out.trans (b3.mono B2.out.size))
    clear b3
    have hss : (t.toList == t.toList) = true := beq_self_eq_true _
    have hxx : (x == x) = true := beq_self_eq_true _
    go_wp2
    go_ret
    exact ⟨rfl, B3.out⟩
  have j2 : (k == 2) = false := beq_eq_false_iff_ne.2 k2
  by_cases k3 : k = 3
  · subst k3
    go_enter Tryd.func28, Tryd.ntmps28
    go_wp2_with fail
    refine (spRead_any s _ (HL.out.kept B1.out) hs).mono ?_
    rintro e w2 ⟨he, b2⟩
    obtain ⟨⟨x, y, z⟩, hv⟩ : ∃ v, spotAns s.data.toList = v := ⟨_, rfl⟩
    have HE := Lib.hid hv
    rw [hv] at he
    clear hv
    subst he
    have z2 : w.heap.size < w2.heap.size := (kept_block b2).1
    have a2 := kpA (.cells #[.int .i64 x, .int .i64 y] 39) z2 (kept_block b2).2
    have d2 := nwA (A := #[.int .i64 x, .int .i64 y]) (T := 39) w2
    have B2 := Lib.hid (ext_alloc (B1.out.trans (b2.mono B1.out.size)) (.cells #[.int .i64 x, .int .i64 y] 39))
    clear b2
    go_wp2_with fail
    refine (rfRead_any s _ hs).mono ?_
    rintro e w3 ⟨he, b3⟩
    rw [HE.out] at he
    subst he
    have z3 : w2.heap.size < w3.heap.size := Nat.lt_of_lt_of_le (by simp) b3.size
    have d3 := kpA (.cells #[.int .i64 x, .int .i64 y] 39) z3 (kpC b3 (by simp) d2)
    have n3 := nwA (A := #[.int .i64 x, .int .i64 y]) (T := 39) w3
    have B3 := Lib.hid (ext_alloc (B2.out.trans (b3.mono B2.out.size)) (.cells #[.int .i64 x, .int .i64 y] 39))
    clear b3 a2 d2
    have e0 : (x == x) = true := beq_self_eq_true _
    have e1 : (y == y) = true := beq_self_eq_true _
    have e2 : (z == z) = true := beq_self_eq_true _
    go_wp2
    go_ret
    exact ⟨rfl, B3.out⟩
  have j3 : (k == 3) = false := beq_eq_false_iff_ne.2 k3
  by_cases k4 : k = 4
  · subst k4
    go_enter Tryd.func28, Tryd.ntmps28
    go_wp2_with fail
    refine (refText_any ⟨rr, rc, rp, rq⟩ _ (HL.out.kept B1.out)).mono ?_
    rintro e w2 ⟨rfl, b2⟩
    have z2 : w.heap.size < w2.heap.size := (kept_block b2).1
    have a2 := (kept_block b2).2
    have B2 := Lib.hid (B1.out.trans (b2.mono B1.out.size))
    clear b2
    obtain ⟨t, ht⟩ : ∃ t, t = strB (refTextL ⟨rr, rc, rp, rq⟩) := ⟨_, rfl⟩
    obtain ⟨x, hx⟩ : ∃ x, x = refTextE ⟨rr, rc, rp, rq⟩ := ⟨_, rfl⟩
    rw [← ht, ← hx]
    have HT := Lib.hid ht; have HX := Lib.hid hx
    clear ht hx
    go_wp2_with fail
    refine (rfRefText_any ⟨rr, rc, rp, rq⟩ _).mono ?_
    rintro e w3 ⟨he, b3⟩
    rw [← HT.out, ← HX.out] at he
    subst he
    have B3 := Lib.hid (B2.out.trans (b3.mono B2.out.size))
    clear b3
    have hss : (t.toList == t.toList) = true := beq_self_eq_true _
    have hxx : (x == x) = true := beq_self_eq_true _
    go_wp2
    go_ret
    exact ⟨rfl, B3.out⟩
  have j4 : (k == 4) = false := beq_eq_false_iff_ne.2 k4
  by_cases k5 : k = 5
  · subst k5
    go_enter Tryd.func28, Tryd.ntmps28
    go_wp2_with fail
    refine (readRef_any s _ (HL.out.kept B1.out) hs).mono ?_
    rintro e w2 ⟨he, b2⟩
    obtain ⟨⟨⟨x, y, p, q⟩, n, z⟩, hv⟩ : ∃ v, refAns s.data.toList = v := ⟨_, rfl⟩
    have HE := Lib.hid hv
    rw [hv] at he
    clear hv
    simp only [RefVal] at he
    subst he
    have z2 : w.heap.size < w2.heap.size := (kept_block b2).1
    have a2 := kpA (.cells #[.int .i64 x, .int .i64 y, .bool p, .bool q] 28) z2 (kept_block b2).2
    have d2 := nwA (A := #[.int .i64 x, .int .i64 y, .bool p, .bool q]) (T := 28) w2
    have B2 := Lib.hid (ext_alloc (B1.out.trans (b2.mono B1.out.size)) (.cells #[.int .i64 x, .int .i64 y, .bool p, .bool q] 28))
    clear b2
    go_wp2_with fail
    refine (rfReadRef_any s _ hs).mono ?_
    rintro e w3 ⟨he, b3⟩
    rw [HE.out] at he
    simp only [RefVal] at he
    subst he
    have z3 : w2.heap.size < w3.heap.size := Nat.lt_of_lt_of_le (by simp) b3.size
    have d3 := kpA (.cells #[.int .i64 x, .int .i64 y, .bool p, .bool q] 28) z3 (kpC b3 (by simp) d2)
    have n3 := nwA (A := #[.int .i64 x, .int .i64 y, .bool p, .bool q]) (T := 28) w3
    have B3 := Lib.hid (ext_alloc (B2.out.trans (b3.mono B2.out.size)) (.cells #[.int .i64 x, .int .i64 y, .bool p, .bool q] 28))
    clear b3 a2 d2
    have e0 : (x == x) = true := beq_self_eq_true _
    have e1 : (y == y) = true := beq_self_eq_true _
    have e2 : (p == p) = true := beq_self_eq_true _
    have e3 : (q == q) = true := beq_self_eq_true _
    have e4 : ((n : Int) == (n : Int)) = true := beq_self_eq_true _
    have e5 : (z == z) = true := beq_self_eq_true _
    go_wp2
    go_ret
    exact ⟨rfl, B3.out⟩
  have j5 : (k == 5) = false := beq_eq_false_iff_ne.2 k5
  by_cases k6 : k = 6
  · subst k6
    go_enter Tryd.func28, Tryd.ntmps28
    go_wp2_with fail
    refine (readArea_any s _ (HL.out.kept B1.out) hs).mono ?_
    rintro e w2 ⟨he, b2⟩
    obtain ⟨⟨⟨x, y, p, q⟩, z⟩, hv⟩ : ∃ v, areaAns s.data.toList = v := ⟨_, rfl⟩
    have HE := Lib.hid hv
    rw [hv] at he
    clear hv
    subst he
    have z2 : w.heap.size < w2.heap.size := (kept_block b2).1
    have a2 := kpA (.cells #[.int .i64 x, .int .i64 y, .int .i64 p, .int .i64 q] 52) z2 (kept_block b2).2
    have d2 := nwA (A := #[.int .i64 x, .int .i64 y, .int .i64 p, .int .i64 q]) (T := 52) w2
    have B2 := Lib.hid (ext_alloc (B1.out.trans (b2.mono B1.out.size)) (.cells #[.int .i64 x, .int .i64 y, .int .i64 p, .int .i64 q] 52))
    clear b2
    go_wp2_with fail
    refine (rfReadArea_any s _ hs).mono ?_
    rintro e w3 ⟨he, b3⟩
    rw [HE.out] at he
    subst he
    have z3 : w2.heap.size < w3.heap.size := Nat.lt_of_lt_of_le (by simp) b3.size
    have d3 := kpA (.cells #[.int .i64 x, .int .i64 y, .int .i64 p, .int .i64 q] 52) z3 (kpC b3 (by simp) d2)
    have n3 := nwA (A := #[.int .i64 x, .int .i64 y, .int .i64 p, .int .i64 q]) (T := 52) w3
    have B3 := Lib.hid (ext_alloc (B2.out.trans (b3.mono B2.out.size)) (.cells #[.int .i64 x, .int .i64 y, .int .i64 p, .int .i64 q] 52))
    clear b3 a2 d2
    have e0 : (x == x) = true := beq_self_eq_true _
    have e1 : (y == y) = true := beq_self_eq_true _
    have e2 : (p == p) = true := beq_self_eq_true _
    have e3 : (q == q) = true := beq_self_eq_true _
    have e4 : (z == z) = true := beq_self_eq_true _
    go_wp2
    go_ret
    exact ⟨rfl, B3.out⟩
  have j6 : (k == 6) = false := beq_eq_false_iff_ne.2 k6
  by_cases k7 : k = 7
  · subst k7
    go_enter Tryd.func28, Tryd.ntmps28
    go_upto_region 25 with (fail)
    have h0 : ((∀ o, (w.alloc (.cells #[.int .i64 7, .int .i64 ar, .int .i64 ac, .int .i64 br, .int .i64 bc, .int .i64 rr, .int .i64 rc, .bool rp, .bool rq, .string s] 59)).drew.cell? ⟨w.heap.size, o, none⟩ = (#[.int .i64 7, .int .i64 ar, .int .i64 ac, .int .i64 br, .int .i64 bc, .int .i64 rr, .int .i64 rc, .bool rp, .bool rq, .string s] : Array Value)[o]?) ∧ RtS w (w.alloc (.cells #[.int .i64 7, .int .i64 ar, .int .i64 ac, .int .i64 br, .int .i64 bc, .int .i64 rr, .int .i64 rc, .bool rp, .bool rq, .string s] 59)).drew) := ⟨fun o => World.cell?_alloc_at _ _ _ _ rfl, (ext_alloc (Below.refl _ w) _).drew, by simp⟩
    obtain ⟨v, hv⟩ : ∃ v, cmpS ar ac br bc = v := ⟨_, rfl⟩
    have HV := Lib.hid hv
    clear hv
    have cA : ∀ W, ((∀ o, W.cell? ⟨w.heap.size, o, none⟩ = (#[.int .i64 7, .int .i64 ar, .int .i64 ac, .int .i64 br, .int .i64 bc, .int .i64 rr, .int .i64 rc, .bool rp, .bool rq, .string s] : Array Value)[o]?) ∧ RtS w W) → Calls Tryd.prog 29 #[.agg #[.int .i64 ar, .int .i64 ac], .agg #[.int .i64 br, .int .i64 bc]] W (fun e w' => e = .returned (.int .i64 v) ∧ ((∀ o, w'.cell? ⟨w.heap.size, o, none⟩ = (#[.int .i64 7, .int .i64 ar, .int .i64 ac, .int .i64 br, .int .i64 bc, .int .i64 rr, .int .i64 rc, .bool rp, .bool rq, .string s] : Array Value)[o]?) ∧ RtS w w')) :=
      fun W hW => by
        have h0 := spCompare_any ar ac br bc W
        rw [HV.out] at h0
        exact h0.mono fun e w' h => ⟨h.1, fun o => (h.2.cell (p := ⟨w.heap.size, o, none⟩) hW.2.lt).trans (hW.1 o), hW.2.bel.trans (h.2.mono (Nat.le_of_lt hW.2.lt)), Nat.lt_of_lt_of_le hW.2.lt h.2.size⟩
    have CA := Lib.hid cA
    clear cA
    have cB : ∀ W, ((∀ o, W.cell? ⟨w.heap.size, o, none⟩ = (#[.int .i64 7, .int .i64 ar, .int .i64 ac, .int .i64 br, .int .i64 bc, .int .i64 rr, .int .i64 rc, .bool rp, .bool rq, .string s] : Array Value)[o]?) ∧ RtS w W) → Calls Tryd.prog 72 #[.agg #[.int .i64 ar, .int .i64 ac], .agg #[.int .i64 br, .int .i64 bc]] W (fun e w' => e = .returned (.int .i64 v) ∧ ((∀ o, w'.cell? ⟨w.heap.size, o, none⟩ = (#[.int .i64 7, .int .i64 ar, .int .i64 ac, .int .i64 br, .int .i64 bc, .int .i64 rr, .int .i64 rc, .bool rp, .bool rq, .string s] : Array Value)[o]?) ∧ RtS w w')) :=
      fun W hW => by
        have h0 := rfCompare_any ar ac br bc W
        rw [HV.out] at h0
        exact h0.mono fun e w' h => ⟨h.1, fun o => (h.2.cell (p := ⟨w.heap.size, o, none⟩) hW.2.lt).trans (hW.1 o), hW.2.bel.trans (h.2.mono (Nat.le_of_lt hW.2.lt)), Nat.lt_of_lt_of_le hW.2.lt h.2.size⟩
    have CB := Lib.hid cB
    clear cB
    have hvv : (v == v) = true := beq_self_eq_true _
    go_region_held3 (fun W => ((∀ o, W.cell? ⟨w.heap.size, o, none⟩ = (#[.int .i64 7, .int .i64 ar, .int .i64 ac, .int .i64 br, .int .i64 bc, .int .i64 rr, .int .i64 rc, .bool rp, .bool rq, .string s] : Array Value)[o]?) ∧ RtS w W)) (first | assumption | exact h0) (first
      | (go_at_call 29
         with_reducible refine (CA.out _ (by assumption)).mono ?_
         rintro e w' ⟨rfl, hS'⟩)
      | (go_at_call 72
         with_reducible refine (CB.out _ (by assumption)).mono ?_
         rintro e w' ⟨rfl, hS'⟩))
    all_goals
      have HS := Lib.hid hS'.2.bel
      clear hS' h0
      go_wp2
      go_ret
      exact ⟨rfl, HS.out⟩
  have j7 : (k == 7) = false := beq_eq_false_iff_ne.2 k7
  clear k1 k2 k3 k4 k5 k6 k7
  go_enter Tryd.func28, Tryd.ntmps28
  go_wp2
  go_ret
  exact ⟨rfl, B1.out⟩
end Go.Proofs.YtnhgeojcelegbaaDoor
