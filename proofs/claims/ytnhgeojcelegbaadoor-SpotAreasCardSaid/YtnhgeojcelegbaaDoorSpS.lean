/- SpotAreas: two references either way round are their area. -/
import Derived.Test.YtnhgeojcelegbaaDoorSpO
import Derived.Test.YtnhgeojcelegbaaDoorSpR2
namespace Go.Proofs.YtnhgeojcelegbaaDoor
open Go.RowKit Go.Lib

theorem refText_len {r : RefT} (h : placeB r = true) : (refTextL r).length ≤ 100 := by
  have hp : 0 ≤ r.row ∧ r.row < 65536 ∧ 0 ≤ r.col ∧ r.col < 702 := by simp [placeB] at h; omega
  rw [(refText_parts h).1]
  have h1 := lettersL_len r.col
  have h2 := decDigits_len 5 (r.row + 1).toNat (by simp; omega)
  have h3 := pinL_len r.pc
  have h4 := pinL_len r.pr
  simp only [List.length_append, List.length_nil]; omega
set_option maxRecDepth 100000 in
set_option maxHeartbeats 8000000 in
theorem spotAreas_any (ar ac br bc : Int) (apr apc bpr bpc : Bool) (w : World) (L : LaidW w) : Calls Tryd.prog 8 #[.agg #[.int .i64 ar, .int .i64 ac, .bool apr, .bool apc], .agg #[.int .i64 br, .int .i64 bc, .bool bpr, .bool bpc]] w (TruePost w) := by
  have B0 := Lib.hid (ext_alloc (ext_alloc (Below.refl _ w) (.cells #[.int .i64 ar, .int .i64 ac, .bool apr, .bool apc] 28)) (.cells #[.int .i64 br, .int .i64 bc, .bool bpr, .bool bpc] 28))
  have HL := Lib.hid L
  clear L
  go_enter Tryd.func8, Tryd.ntmps8
  go_wp2_with fail
  refine (begun2_any _ (HL.out.kept B0.out)).mono ?_
  rintro e w1 ⟨rfl, b1⟩
  obtain ⟨z1, a1, c1⟩ := kept_block2 b1
  have B1 := Lib.hid (B0.out.trans (b1.mono (by first | omega | (simp; done) | (simp; omega))))
  clear b1
  go_wp2_with fail
  refine (refText_any ⟨ar, ac, apr, apc⟩ _ (HL.out.kept B1.out)).mono ?_
  rintro e w2 ⟨rfl, b2⟩
  have z2 := b2.size
  have a2 := keepC b2 (by first | omega | (simp; done) | (simp; omega)) a1
  have c2 := keepC b2 (by first | omega | (simp; done) | (simp; omega)) c1
  have B2 := Lib.hid (B1.out.trans (b2.mono B1.out.size))
  clear b2 a1 c1
  go_wp2_with fail
  refine (refText_any ⟨br, bc, bpr, bpc⟩ _ (HL.out.kept B2.out)).mono ?_
  rintro e w3 ⟨rfl, b3⟩
  have z3 := b3.size
  have a3 := keepC b3 (by first | omega | (simp; done) | (simp; omega)) a2
  have c3 := keepC b3 (by first | omega | (simp; done) | (simp; omega)) c2
  have B3 := Lib.hid (B2.out.trans (b3.mono B2.out.size))
  clear b3 a2 c2
  obtain ⟨pa, hpa⟩ : ∃ b, placeB ⟨ar, ac, apr, apc⟩ = b := ⟨_, rfl⟩
  obtain ⟨pb, hpb⟩ : ∃ b, placeB ⟨br, bc, bpr, bpc⟩ = b := ⟨_, rfl⟩
  have ea : refTextE ⟨ar, ac, apr, apc⟩ = if pa then 0 else 10 := by rw [refTextE, hpa]
  have eb : refTextE ⟨br, bc, bpr, bpc⟩ = if pb then 0 else 10 := by rw [refTextE, hpb]
  rw [ea, eb]
  clear ea eb
  cases pa
  · have HPA := Lib.hid hpa; have HPB := Lib.hid hpb
    clear hpa hpb
    cases pb
    all_goals
      simp only [Bool.false_eq_true, if_false, if_true]
      go_wp2
      go_ret
      exact ⟨rfl, B3.out⟩
  · cases pb
    · have HPA := Lib.hid hpa; have HPB := Lib.hid hpb
      clear hpa hpb
      simp only [Bool.false_eq_true, if_false, if_true]
      go_wp2
      go_ret
      exact ⟨rfl, B3.out⟩
    · have t1 := areas_two hpa hpb
      have t2 := areas_two hpb hpa
      have t3 := areas_one hpa
      rw [areaOfR_comm] at t2
      have la : (refTextL ⟨ar, ac, apr, apc⟩).length ≤ 100 := refText_len hpa
      have lb : (refTextL ⟨br, bc, bpr, bpc⟩).length ≤ 100 := refText_len hpb
      have ha : 0 ≤ ar ∧ ar < 65536 ∧ 0 ≤ ac ∧ ac < 702 := by simp [placeB] at hpa; omega
      have hb : 0 ≤ br ∧ br < 65536 ∧ 0 ≤ bc ∧ bc < 702 := by simp [placeB] at hpb; omega
      obtain ⟨ha1, ha2, ha3, ha4⟩ := ha
      obtain ⟨hb1, hb2, hb3, hb4⟩ := hb
      simp only [if_true]
      obtain ⟨LA, hLA⟩ : ∃ LA, LA = refTextL ⟨ar, ac, apr, apc⟩ := ⟨_, rfl⟩
      obtain ⟨LB, hLB⟩ : ∃ LB, LB = refTextL ⟨br, bc, bpr, bpc⟩ := ⟨_, rfl⟩
      rw [← hLA] at t1 t2 t3 la
      rw [← hLB] at t1 t2 lb
      rw [← hLA, ← hLB]
      obtain ⟨vA, hvA⟩ : ∃ v : ByteArray, v = strB LA := ⟨_, rfl⟩
      obtain ⟨vB, hvB⟩ : ∃ v : ByteArray, v = strB LB := ⟨_, rfl⟩
      rw [← hvA, ← hvB]
      have gA : vA.size ≤ 100 := by rw [hvA, strB_size]; exact la
      have gB : vB.size ≤ 100 := by rw [hvB, strB_size]; exact lb
      have s1 : (vA ++ (⟨#[58]⟩ : ByteArray) ++ vB).data.toList = LA ++ [58] ++ LB := by rw [hvA, hvB, show (⟨#[58]⟩ : ByteArray) = strB [58] from rfl, strB_app, strB_app, strB_list]
      have s2 : (vB ++ (⟨#[58]⟩ : ByteArray) ++ vA).data.toList = LB ++ [58] ++ LA := by rw [hvA, hvB, show (⟨#[58]⟩ : ByteArray) = strB [58] from rfl, strB_app, strB_app, strB_list]
      have s3 : vA.data.toList = LA := by rw [hvA, strB_list]
      obtain ⟨⟨⟨x1, x2, x3, x4⟩, xe⟩, hX⟩ : ∃ Xa, Xa = areaOfR ⟨ar, ac, apr, apc⟩ ⟨br, bc, bpr, bpc⟩ := ⟨_, rfl⟩
      rw [← hX] at t1 t2
      have q1 : (9223372036854775807 < vA.size + 1) = False := eq_false (by omega)
      have q2 : (9223372036854775807 < vA.size + 1 + vB.size) = False := eq_false (by omega)
      have q3 : (9223372036854775807 < vB.size + 1) = False := eq_false (by omega)
      have q4 : (9223372036854775807 < vB.size + 1 + vA.size) = False := eq_false (by omega)
      have y1 : (vA ++ (⟨#[58]⟩ : ByteArray) ++ vB).size ≤ 140737488355328 := by simp only [ByteArray.size_append]; have : (⟨#[58]⟩ : ByteArray).size = 1 := rfl; omega
      have y2 : (vB ++ (⟨#[58]⟩ : ByteArray) ++ vA).size ≤ 140737488355328 := by simp only [ByteArray.size_append]; have : (⟨#[58]⟩ : ByteArray).size = 1 := rfl; omega
      have T1 := Lib.hid t1; have T2 := Lib.hid t2; have T3 := Lib.hid t3; have S1 := Lib.hid s1; have S2 := Lib.hid s2; have S3 := Lib.hid s3; have HX := Lib.hid hX
      have Y1 := Lib.hid y1; have Y2 := Lib.hid y2
      clear t1 t2 t3 s1 s2 s3 hX hvA hvB hLA hLB hpa hpb la lb y1 y2
      go_wp2_with fail
      refine (readArea_any (vA ++ (⟨#[58]⟩ : ByteArray) ++ vB) w3 (HL.out.kept B3.out) Y1.out).mono ?_
      rintro e w4 ⟨he, b4⟩
      rw [S1.out, T1.out] at he
      simp only at he
      subst he
      have z4 := b4.size
      have a4 := keepA (.cells #[.int .i64 x1, .int .i64 x2, .int .i64 x3, .int .i64 x4] 52) (by first | omega | (simp; done) | (simp; omega)) (keepC b4 (by first | omega | (simp; done) | (simp; omega)) a3)
      have c4 := keepA (.cells #[.int .i64 x1, .int .i64 x2, .int .i64 x3, .int .i64 x4] 52) (by first | omega | (simp; done) | (simp; omega)) (keepC b4 (by first | omega | (simp; done) | (simp; omega)) c3)
      have d4 := newA (A := #[.int .i64 x1, .int .i64 x2, .int .i64 x3, .int .i64 x4]) (T := 52) w4
      have B4 := Lib.hid (ext_alloc (B3.out.trans (b4.mono B3.out.size)) (.cells #[.int .i64 x1, .int .i64 x2, .int .i64 x3, .int .i64 x4] 52))
      clear b4 a3 c3
      go_wp2_with fail
      refine (readArea_any (vB ++ (⟨#[58]⟩ : ByteArray) ++ vA) _ (HL.out.kept B4.out) Y2.out).mono ?_
      rintro e w5 ⟨he, b5⟩
      rw [S2.out, T2.out] at he
      simp only at he
      subst he
      have z5 : w4.heap.size < w5.heap.size := (kept_block b5).1
      have a5 := keepA (.cells #[.int .i64 x1, .int .i64 x2, .int .i64 x3, .int .i64 x4] 52) (by first | omega | (simp; done) | (simp; omega)) (keepC b5 (by first | omega | (simp; done) | (simp; omega)) a4)
      have c5 := keepA (.cells #[.int .i64 x1, .int .i64 x2, .int .i64 x3, .int .i64 x4] 52) (by first | omega | (simp; done) | (simp; omega)) (keepC b5 (by first | omega | (simp; done) | (simp; omega)) c4)
      have d5 := keepA (.cells #[.int .i64 x1, .int .i64 x2, .int .i64 x3, .int .i64 x4] 52) (by first | omega | (simp; done) | (simp; omega)) (keepC b5 (by first | omega | (simp; done) | (simp; omega)) d4)
      have f5 := newA (A := #[.int .i64 x1, .int .i64 x2, .int .i64 x3, .int .i64 x4]) (T := 52) w5
      have B5 := Lib.hid (ext_alloc (B4.out.trans (b5.mono B4.out.size)) (.cells #[.int .i64 x1, .int .i64 x2, .int .i64 x3, .int .i64 x4] 52))
      clear b5 a4 c4 d4
      go_wp2_with fail
      refine (readArea_any vA _ (HL.out.kept B5.out) (by omega)).mono ?_
      rintro e w6 ⟨he, b6⟩
      rw [S3.out, T3.out] at he
      simp only at he
      subst he
      have z6 : w5.heap.size < w6.heap.size := (kept_block b6).1
      have a6 := keepA (.cells #[.int .i64 ar, .int .i64 ac, .int .i64 ar, .int .i64 ac] 52) (by first | omega | (simp; done) | (simp; omega)) (keepC b6 (by first | omega | (simp; done) | (simp; omega)) a5)
      have c6 := keepA (.cells #[.int .i64 ar, .int .i64 ac, .int .i64 ar, .int .i64 ac] 52) (by first | omega | (simp; done) | (simp; omega)) (keepC b6 (by first | omega | (simp; done) | (simp; omega)) c5)
      have d6 := keepA (.cells #[.int .i64 ar, .int .i64 ac, .int .i64 ar, .int .i64 ac] 52) (by first | omega | (simp; done) | (simp; omega)) (keepC b6 (by first | omega | (simp; done) | (simp; omega)) d5)
      have f6 := keepA (.cells #[.int .i64 ar, .int .i64 ac, .int .i64 ar, .int .i64 ac] 52) (by first | omega | (simp; done) | (simp; omega)) (keepC b6 (by first | omega | (simp; done) | (simp; omega)) f5)
      have B6 := Lib.hid (ext_alloc (B5.out.trans (b6.mono B5.out.size)) (.cells #[.int .i64 ar, .int .i64 ac, .int .i64 ar, .int .i64 ac] 52))
      clear b6 a5 c5 d5 f5
      have a7 := keepA (.cells #[.int .i64 (min ar br), .int .i64 (min ac bc), .int .i64 (max ar br), .int .i64 (max ac bc)] 52) (by first | omega | (simp; done) | (simp; omega)) a6
      have c7 := keepA (.cells #[.int .i64 (min ar br), .int .i64 (min ac bc), .int .i64 (max ar br), .int .i64 (max ac bc)] 52) (by first | omega | (simp; done) | (simp; omega)) c6
      have d7 := keepA (.cells #[.int .i64 (min ar br), .int .i64 (min ac bc), .int .i64 (max ar br), .int .i64 (max ac bc)] 52) (by first | omega | (simp; done) | (simp; omega)) d6
      have f7 := keepA (.cells #[.int .i64 (min ar br), .int .i64 (min ac bc), .int .i64 (max ar br), .int .i64 (max ac bc)] 52) (by first | omega | (simp; done) | (simp; omega)) f6
      have g7 := keepA (.cells #[.int .i64 (min ar br), .int .i64 (min ac bc), .int .i64 (max ar br), .int .i64 (max ac bc)] 52) (by first | omega | (simp; done) | (simp; omega)) (newA (A := #[.int .i64 ar, .int .i64 ac, .int .i64 ar, .int .i64 ac]) (T := 52) w6)
      have h7 : ∀ o, ((w6.alloc (.cells #[.int .i64 ar, .int .i64 ac, .int .i64 ar, .int .i64 ac] 52)).alloc (.cells #[.int .i64 (min ar br), .int .i64 (min ac bc), .int .i64 (max ar br), .int .i64 (max ac bc)] 52)).cell? ⟨w6.heap.size + 1, o, none⟩ = #[.int .i64 (min ar br), .int .i64 (min ac bc), .int .i64 (max ar br), .int .i64 (max ac bc)][o]? := fun _ => World.cell?_alloc_at _ _ _ _ (by simp)
      have hp0 : 0 ≤ (max ar br - min ar br + 1) * (max ac bc - min ac bc + 1) := Int.mul_nonneg (by omega) (by omega)
      have hp1 : (max ar br - min ar br + 1) * (max ac bc - min ac bc + 1) ≤ 65536 * 702 := Int.mul_le_mul (by omega) (by omega) (by omega) (by omega)
      have hX := HX.out
      unfold areaOfR at hX
      simp only at hX
      by_cases hp : (max ar br - min ar br + 1) * (max ac bc - min ac bc + 1) > 4096
      · rw [if_pos hp] at hX
        simp only [Prod.mk.injEq, ArA.mk.injEq] at hX
        obtain ⟨⟨rfl, rfl, rfl, rfl⟩, rfl⟩ := hX
        go_wp2
        all_goals
          go_ret
          exact ⟨rfl, ext_alloc B6.out _⟩
      · rw [if_neg hp] at hX
        simp only [Prod.mk.injEq, ArA.mk.injEq] at hX
        obtain ⟨⟨rfl, rfl, rfl, rfl⟩, rfl⟩ := hX
        go_wp2
        all_goals
          go_ret
          exact ⟨rfl, ext_alloc B6.out _⟩
end Go.Proofs.YtnhgeojcelegbaaDoor
