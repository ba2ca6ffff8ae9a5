/- The document's own answer for references: their texts; one read. -/
import Derived.Test.YtnhgeojcelegbaaDoorSpY
namespace Go.Proofs.YtnhgeojcelegbaaDoor
open Go.RowKit Go.Lib

theorem kpC {N : Nat} {A : Array Value} {W W' : World} (b : Below W.heap.size W W') (h : N < W.heap.size) (c : ∀ o, W.cell? ⟨N, o, none⟩ = A[o]?) : ∀ o, W'.cell? ⟨N, o, none⟩ = A[o]? := fun o => (b.cell (p := ⟨N, o, none⟩) h).trans (c o)
theorem kpA {N : Nat} {A : Array Value} {W : World} (O : Obj) (h : N < W.heap.size) (c : ∀ o, W.cell? ⟨N, o, none⟩ = A[o]?) : ∀ o, (W.alloc O).cell? ⟨N, o, none⟩ = A[o]? := fun o => (World.cell?_alloc_past _ _ _ h).trans (c o)
theorem nwA {A : Array Value} {T : TypeId} (W : World) : ∀ o, (W.alloc (.cells A T)).cell? ⟨W.heap.size, o, none⟩ = A[o]? := fun _ => World.cell?_alloc_at _ _ _ _ rfl
theorem rfDigI_any (x : Int) (w : World) (h0 : 0 ≤ x) (h1 : x ≤ 65536) : Calls Tryd.prog 98 #[.int .i64 x] w fun e w' => e = .returned (.string (strB (decDigits x.toNat))) ∧ Below w.heap.size w w' := by
  obtain ⟨n, rfl⟩ : ∃ n : Nat, x = n := ⟨x.toNat, by omega⟩
  exact rfDigits_any n w (by omega)
set_option maxRecDepth 10000 in
set_option maxHeartbeats 2000000 in
theorem rfText_any (a b : Int) (w : World) : Calls Tryd.prog 67 #[.agg #[.int .i64 a, .int .i64 b]] w (RtPost ⟨a, b, false, false⟩ w) := by
  obtain ⟨pb, hb⟩ : ∃ pb, placeB ⟨a, b, false, false⟩ = pb := ⟨_, rfl⟩
  have HB := Lib.hid hb
  clear hb
  cases pb
  · go_enter Tryd.func67, Tryd.ntmps67
    go_wp2_with fail
    refine (rfMay_any a b _).mono ?_
    rintro e w2 ⟨he, b2⟩
    rw [HB.out] at he
    obtain rfl := he
    have B2 := Lib.hid ((ext_alloc (Below.refl _ w) (.cells #[.int .i64 a, .int .i64 b] 39)).trans (b2.mono (by simp)))
    clear b2
    go_wp2
    go_ret2
    refine ⟨?_, B2.out⟩
    have e1 : placeB ⟨a, b, false, false⟩ = false := HB.out
    simp [refTextL, refTextE, e1]
    rfl
  · have hp : 0 ≤ a ∧ a < 65536 ∧ 0 ≤ b ∧ b < 702 := by have := HB.out; simp [placeB] at this; omega
    obtain ⟨p1, p2, p3, p4⟩ := hp
    go_enter Tryd.func67, Tryd.ntmps67
    go_wp2_with fail
    refine (rfMay_any a b _).mono ?_
    rintro e w2 ⟨he, b2⟩
    rw [HB.out] at he
    obtain rfl := he
    have kb := kept_block b2
    have hc := kb.2
    have HS : RtS w w2 := ⟨(ext_alloc (Below.refl _ w) (.cells #[.int .i64 a, .int .i64 b] 39)).trans (b2.mono (by simp)), kb.1⟩
    clear b2 kb
    go_wp2_with fail
    have cL : ∀ W, ((∀ o, W.cell? ⟨w.heap.size, o, none⟩ = (#[.int .i64 a, .int .i64 b] : Array Value)[o]?) ∧ RtS w W) → Calls Tryd.prog 97 #[.int .i64 b] W (fun e w' => e = .returned (.string (strB (lettersL b))) ∧ ((∀ o, w'.cell? ⟨w.heap.size, o, none⟩ = (#[.int .i64 a, .int .i64 b] : Array Value)[o]?) ∧ RtS w w')) :=
      fun W hW => (rfLetters_any b W p3 p4).mono fun e w' h => ⟨h.1, fun o => (h.2.cell (p := ⟨w.heap.size, o, none⟩) hW.2.lt).trans (hW.1 o), hW.2.bel.trans (h.2.mono (Nat.le_of_lt hW.2.lt)), Nat.lt_of_lt_of_le hW.2.lt h.2.size⟩
    have cI : ∀ W, ((∀ o, W.cell? ⟨w.heap.size, o, none⟩ = (#[.int .i64 a, .int .i64 b] : Array Value)[o]?) ∧ RtS w W) → Calls Tryd.prog 98 #[.int .i64 (a + 1)] W (fun e w' => e = .returned (.string (strB (decDigits (a + 1).toNat))) ∧ ((∀ o, w'.cell? ⟨w.heap.size, o, none⟩ = (#[.int .i64 a, .int .i64 b] : Array Value)[o]?) ∧ RtS w w')) :=
      fun W hW => (rfDigI_any (a + 1) W (by omega) (by omega)).mono fun e w' h => ⟨h.1, fun o => (h.2.cell (p := ⟨w.heap.size, o, none⟩) hW.2.lt).trans (hW.1 o), hW.2.bel.trans (h.2.mono (Nat.le_of_lt hW.2.lt)), Nat.lt_of_lt_of_le hW.2.lt h.2.size⟩
    have CL := Lib.hid cL; have CI := Lib.hid cI
    clear cL cI
    have hd : RtS w w2.drew := ⟨HS.bel.drew, HS.lt⟩
    have s3 : (strB (lettersL b)).size ≤ 2 := by rw [strB_size]; exact lettersL_len _
    have s4 : (strB (decDigits (a + 1).toNat)).size ≤ 100 := by
      rw [strB_size]
      have := decDigits_len 5 (a + 1).toNat (by simp; omega)
      omega
    have hw1 : IntKind.i64.wrap (a + 1) = a + 1 := IntWalk.i64_in _ (by omega)
    have q3 : (9223372036854775807 < (strB (lettersL b)).size + (strB (decDigits (a + 1).toNat)).size) = False := eq_false (by omega)
    go_region_held3 (fun W => (∀ o, W.cell? ⟨w.heap.size, o, none⟩ = (#[.int .i64 a, .int .i64 b] : Array Value)[o]?) ∧ RtS w W) (first | assumption | exact ⟨hc, hd⟩ | exact hd) (first
      | (go_at_call 97
         refine (CL.out _ (by assumption)).mono ?_
         rintro e w' ⟨rfl, hS'⟩)
      | (go_at_call 98
         refine (CI.out _ (by assumption)).mono ?_
         rintro e w' ⟨rfl, hS'⟩))
    all_goals
      have HE := Lib.hid hS'.2.bel
      clear hS' HS hd hc
      go_wp2
      go_ret2
      refine ⟨?_, HE.out⟩
      have e1 : placeB ⟨a, b, false, false⟩ = true := HB.out
      show Ending.returned (.tuple #[.string (strB (lettersL b) ++ strB (decDigits (a + 1).toNat)), .int .i64 0]) = _
      rw [strB_app]
      simp [refTextL, refTextE, e1, pinL]
set_option maxRecDepth 10000 in
set_option maxHeartbeats 2000000 in
theorem rfRefText_any (r : RefT) (w : World) : Calls Tryd.prog 69 #[.agg #[.int .i64 r.row, .int .i64 r.col, .bool r.pr, .bool r.pc]] w (RtPost r w) := by
  obtain ⟨row, col, pr, pc⟩ := r
  show Calls Tryd.prog _ #[.agg #[.int .i64 row, .int .i64 col, .bool pr, .bool pc]] w _
  obtain ⟨pb, hb⟩ : ∃ pb, placeB ⟨row, col, false, false⟩ = pb := ⟨_, rfl⟩
  have HB := Lib.hid hb
  clear hb
  cases pb
  · go_enter Tryd.func69, Tryd.ntmps69
    go_wp2_with fail
    refine (rfMay_any row col _).mono ?_
    rintro e w2 ⟨he, b2⟩
    rw [HB.out] at he
    obtain rfl := he
    have B2 := Lib.hid ((ext_alloc (Below.refl _ w) (.cells #[.int .i64 row, .int .i64 col, .bool pr, .bool pc] 28)).trans (b2.mono (by simp)))
    clear b2
    go_wp2
    go_ret2
    refine ⟨?_, B2.out⟩
    have e1 : placeB ⟨row, col, pr, pc⟩ = false := HB.out
    simp [refTextL, refTextE, e1]
    rfl
  · have hp : 0 ≤ row ∧ row < 65536 ∧ 0 ≤ col ∧ col < 702 := by have := HB.out; simp [placeB] at this; omega
    obtain ⟨p1, p2, p3, p4⟩ := hp
    have hT : refTextL ⟨row, col, pr, pc⟩ = pinL pc ++ lettersL col ++ pinL pr ++ decDigits (row + 1).toNat := by
      have e1 : placeB ⟨row, col, pr, pc⟩ = true := HB.out
      simp [refTextL, e1]
    have hE : refTextE ⟨row, col, pr, pc⟩ = 0 := by
      have e1 : placeB ⟨row, col, pr, pc⟩ = true := HB.out
      simp [refTextE, e1]
    unfold RtPost
    rw [hT, hE]
    clear hT hE
    go_enter Tryd.func69, Tryd.ntmps69
    go_wp2_with fail
    refine (rfMay_any row col _).mono ?_
    rintro e w2 ⟨he, b2⟩
    rw [HB.out] at he
    obtain rfl := he
    have z2 := (kept_block b2).1
    have a2 := (kept_block b2).2
    have B2 := Lib.hid ((ext_alloc (Below.refl _ w) (.cells #[.int .i64 row, .int .i64 col, .bool pr, .bool pc] 28)).trans (b2.mono (by simp)))
    clear b2
    go_wp2_with fail
    refine (rfLetters_any col _ p3 p4).mono ?_
    rintro e w3 ⟨rfl, b3⟩
    have z3 : w.heap.size < w3.heap.size := Nat.lt_of_lt_of_le z2 b3.size
    have a3 := kpC b3 (by omega) a2
    have B3 := Lib.hid (B2.out.trans (b3.mono B2.out.size))
    clear b3 a2
    have s3 : (strB (lettersL col)).size ≤ 2 := by rw [strB_size]; exact lettersL_len _
    have s4 : (strB (decDigits (row + 1).toNat)).size ≤ 100 := by
      rw [strB_size]
      have := decDigits_len 5 (row + 1).toNat (by simp; omega)
      omega
    obtain ⟨L, hL⟩ : ∃ L, L = strB (lettersL col) := ⟨_, rfl⟩
    obtain ⟨D, hD⟩ : ∃ D, D = strB (decDigits (row + 1).toNat) := ⟨_, rfl⟩
    rw [← hL] at s3 ⊢
    rw [← hD] at s4
    obtain ⟨d, hd⟩ : ∃ d : ByteArray, d = ⟨#[36]⟩ := ⟨_, rfl⟩
    have sd : d.size = 1 := by rw [hd]; rfl
    have q1 : (9223372036854775807 < 1 + L.size) = False := eq_false (by omega)
    have q2 : (9223372036854775807 < L.size + 1) = False := eq_false (by omega)
    have q3 : (9223372036854775807 < 1 + L.size + 1) = False := eq_false (by omega)
    have q4 : (9223372036854775807 < L.size + D.size) = False := eq_false (by omega)
    have q5 : (9223372036854775807 < 1 + L.size + D.size) = False := eq_false (by omega)
    have q6 : (9223372036854775807 < L.size + 1 + D.size) = False := eq_false (by omega)
    have q7 : (9223372036854775807 < 1 + L.size + 1 + D.size) = False := eq_false (by omega)
    have cd : ∀ W, Calls Tryd.prog 98 #[.int .i64 (row + 1)] W fun e w' => e = .returned (.string D) ∧ Below W.heap.size W w' := fun W => by rw [hD]; exact rfDigI_any (row + 1) W (by omega) (by omega)
    have CD := Lib.hid cd; have HL := Lib.hid hL; have HD := Lib.hid hD
    clear cd hL hD
    clear sd hd d
    cases pc <;> cases pr
    all_goals
      go_wp2_with fail
      refine (CD.out _).mono ?_
      rintro e w4 ⟨rfl, b4⟩
      have B4 := Lib.hid (B3.out.trans (b4.mono B3.out.size))
      clear b4
      go_wp2
      go_ret2
      refine ⟨?_, B4.out⟩
      simp only [pinL, if_true, Bool.false_eq_true, if_false, List.nil_append, List.append_nil, ← strB_app, ← HL.out, ← HD.out]
      rfl
theorem form_facts {l : List UInt8} {x : Fm} (h : form l = some x) : 1 ≤ x.n ∧ x.n ≤ l.length ∧ 0 ≤ x.row ∧ 0 ≤ x.col ∧ x.row ≤ 65536 := by
  obtain ⟨ws, ds, rest, P⟩ := form_parts h
  have h1 := P.n
  have h2 := congrArg List.length P.eq
  simp only [List.length_append] at h2
  have h3 := List.length_pos_iff.2 P.w0
  have h4 := digV_pos P.d P.d0 P.z
  have h5 := colN_ge P.w
  refine ⟨by omega, by omega, ?_, by rw [P.col]; exact h5, ?_⟩
  · rw [P.row, rowN]; split <;> omega
  · rw [P.row, rowN]; split <;> omega
theorem placeB_iff {r c : Int} (h0 : 0 ≤ r) (h1 : 0 ≤ c) : placeB ⟨r, c, false, false⟩ = decide (c < 702 ∧ r < 65536) := by
  rw [Bool.eq_iff_iff]
  simp [placeB]
  omega
end Go.Proofs.YtnhgeojcelegbaaDoor
