/- References' texts: read. -/
import Derived.Test.YtikahfnlflhbfaaGreatDoorLxSe
namespace Go.Proofs.YtikahfnlflhbfaaGreatDoor
open Go.RowKit Go.Lib

theorem cut_size {s r : ByteArray} {k : Nat} (h : r.data.toList = s.data.toList.drop k) : r.size ≤ s.size := by
  rw [Lib.size_eq, Lib.size_eq, h, List.length_drop]; omega
theorem wh_size (p : UInt8 → Bool) (s : ByteArray) : wh p s.data.toList ≤ s.size := by rw [Lib.size_eq]; exact wh_le _ _
theorem dol_drop (l : List UInt8) (k : Nat) : dol (l.drop k) 0 = dol l k := by unfold dol; rw [List.getElem?_drop, Nat.add_zero]
theorem kept_free2 {w w3 : World} {c c' : Array Value} {T T' : TypeId} (h : Below ((w.alloc (.cells c T)).alloc (.cells c' T')).heap.size ((w.alloc (.cells c T)).alloc (.cells c' T')) w3) :
    (∀ o, w3.frozen? ⟨w.heap.size, o, none⟩ = false) ∧ ∀ o, w3.frozen? ⟨w.heap.size + 1, o, none⟩ = false := by
  refine ⟨fun o => ?_, fun o => ?_⟩
  · rw [h.frozen (p := ⟨w.heap.size, o, none⟩) (by simp; omega), World.frozen?_alloc_past _ _ _ (by simp)]
    exact World.frozen?_alloc_at _ _ _ _ rfl
  · rw [h.frozen (p := ⟨w.heap.size + 1, o, none⟩) (by simp)]
    exact World.frozen?_alloc_at _ _ _ _ (by simp)
theorem form_eq (l : List UInt8) {a n b m : Nat} (ha : dol l 0 = a) (hn : wh letB (l.drop a) = n) (hb : dol l (a + n) = b) (hm : wh digB (l.drop (a + n + b)) = m) :
    form l = if n = 0 ∨ m = 0 ∨ l[a + n + b]? = some 48 then none else some ⟨a + n + b + m, colN ((l.drop a).take n), rowN ((l.drop (a + n + b)).take m), decide (a = 1), decide (b = 1)⟩ := by
  subst ha hn hb hm; rfl
theorem first_dig {l : List UInt8} {r : ByteArray} {k m : Nat} (h : r.data.toList = l.drop k) (_ : wh digB r.data.toList = m) (h0 : 0 < m) {hx : 0 < (r.extract 0 m).size} (h48 : ((((r.extract 0 m)[0]'hx).toNat : Int) == 48) = true) : l[k]? = some 48 := by
  have h1 : (r.extract 0 m).data.toList[0]? = some ((r.extract 0 m)[0]'hx) := by rw [List.getElem?_eq_getElem (by simpa using hx)]; rfl
  rw [Lib.extract_data, h, List.drop_zero, List.getElem?_take, if_pos (by omega), List.getElem?_drop, Nat.add_zero] at h1
  rw [h1]
  congr 1
  apply UInt8.toNat_inj.1
  have : (((r.extract 0 m)[0]'hx).toNat : Int) = 48 := by simpa using h48
  show _ = 48
  omega
theorem first_not {l : List UInt8} {r : ByteArray} {k m : Nat} (h : r.data.toList = l.drop k) (h0 : 0 < m) {hx : 0 < (r.extract 0 m).size} (h48 : ((((r.extract 0 m)[0]'hx).toNat : Int) == 48) = false) : ¬ l[k]? = some 48 := by
  have h1 : (r.extract 0 m).data.toList[0]? = some ((r.extract 0 m)[0]'hx) := by rw [List.getElem?_eq_getElem (by simpa using hx)]; rfl
  rw [Lib.extract_data, h, List.drop_zero, List.getElem?_take, if_pos (by omega), List.getElem?_drop, Nat.add_zero] at h1
  rw [h1]
  intro e
  injection e with e
  rw [e] at h48
  simp at h48
def RefVal (a : RefA) : Value := .tuple #[.agg #[.int .i64 a.ref.row, .int .i64 a.ref.col, .bool a.ref.pr, .bool a.ref.pc], .int .i64 a.n, .int .i64 a.e]
def RrPost (l : List UInt8) (w : World) (e : Ending) (w' : World) : Prop := e = .returned (RefVal (refAns l)) ∧ Below w.heap.size w w'
set_option maxRecDepth 10000 in
set_option maxHeartbeats 2000000 in
theorem readRef_any (s : ByteArray) (w : World) (L : LaidW w) (hs : s.size ≤ 140737488355328) : Calls Tryz.prog 39 #[.string s] w (RrPost s.data.toList w) := by
  have HL := Lib.hid L
  clear L
  go_enter Tryz.func39, Tryz.ntmps39
  go_wp2_with fail
  refine (cutDol_any s _).mono ?_
  rintro e w' ⟨r1, rfl, h1, rfl⟩
  have z1 : r1.size ≤ s.size := cut_size h1
  generalize hpc : decide (dol s.data.toList 0 = 1) = pc
  have H1 := Lib.hid h1; have HPC := Lib.hid hpc
  clear h1 hpc
  go_wp2_with fail
  refine (whLetter_any r1 _ (by omega)).mono ?_
  rintro e w' ⟨rfl, rfl⟩
  have n1 := wh_size letB r1
  generalize hn : wh letB r1.data.toList = n at n1 ⊢
  have HN := Lib.hid hn
  clear hn
  go_wp2_with fail
  refine (cutDol_any _ _).mono ?_
  rintro e w' ⟨r2, rfl, h2, rfl⟩
  have z2 : r2.size ≤ r1.size := Nat.le_trans (cut_size h2) (by simp)
  have ex : (r1.extract n r1.size).data.toList = s.data.toList.drop (dol s.data.toList 0 + n) := by
    rw [Lib.extract_data, List.take_of_length_le (by rw [List.length_drop, ← Lib.size_eq]; exact Nat.le_refl _), H1.out, List.drop_drop]
  have e2 : r2.data.toList = s.data.toList.drop (dol s.data.toList 0 + n + dol s.data.toList (dol s.data.toList 0 + n)) := by
    rw [h2, ex, dol_drop, List.drop_drop]
  have hpr : decide (dol (r1.extract n r1.size).data.toList 0 = 1) = decide (dol s.data.toList (dol s.data.toList 0 + n) = 1) := by
    rw [ex, dol_drop]
  rw [hpr]
  generalize hpr2 : decide (dol s.data.toList (dol s.data.toList 0 + n) = 1) = pr
  have E2 := Lib.hid e2; have HPR := Lib.hid hpr2
  clear h2 e2 hpr hpr2 ex
  go_wp2_with fail
  refine (whDigit_any r2 _ (by omega)).mono ?_
  rintro e w' ⟨rfl, rfl⟩
  have m1 := wh_size digB r2
  generalize hm : wh digB r2.data.toList = m at m1 ⊢
  have HM := Lib.hid hm
  clear hm
  have FE := Lib.hid (form_eq s.data.toList rfl (show wh letB (s.data.toList.drop (dol s.data.toList 0)) = n by rw [← H1.out]; exact HN.out) rfl (show wh digB (s.data.toList.drop (dol s.data.toList 0 + n + dol s.data.toList (dol s.data.toList 0 + n))) = m by rw [← E2.out]; exact HM.out))
  by_cases hn0 : n = 0
  · subst hn0
    go_wp2
    exact bodyPost_ret (v := .tuple #[.agg #[.int .i64 0, .int .i64 0, .bool false, .bool false], .int .i64 0, .int .i64 20]) (by simp [results, Tryz.results39, go_sem]) rfl ⟨by have h := FE.out; rw [if_pos (by simp)] at h; simp only [refAns, h]; rfl, ext_alloc (ext_alloc (Below.refl _ _) _) _⟩
  · by_cases hm0 : m = 0
    · subst hm0
      go_wp2
      exact bodyPost_ret (v := .tuple #[.agg #[.int .i64 0, .int .i64 0, .bool false, .bool false], .int .i64 0, .int .i64 20]) (by simp [results, Tryz.results39, go_sem]) rfl ⟨by have h := FE.out; rw [if_pos (by simp)] at h; simp only [refAns, h]; rfl, ext_alloc (ext_alloc (Below.refl _ _) _) _⟩
    · go_wp2_with fail
      · rename_i h0 h48
        have H48 := Lib.hid h48
        clear h48
        exact bodyPost_ret (v := .tuple #[.agg #[.int .i64 0, .int .i64 0, .bool false, .bool false], .int .i64 0, .int .i64 20]) (by simp [results, Tryz.results39, go_sem]) rfl ⟨by have h := FE.out; rw [if_pos (.inr (.inr (first_dig E2.out HM.out (by omega) (by rcases H48.out with (h | h) | h; exact absurd h (by simp; omega); exact absurd h (by simp; omega); exact h))))] at h; simp only [refAns, h]; rfl, ext_alloc (ext_alloc (Below.refl _ _) _) _⟩
      · rename_i h0 h48 K1_ a1_ K2_ a2_
        have H48 := Lib.hid h48
        clear h48
        have ew : (r1.extract 0 n).data.toList = (s.data.toList.drop (dol s.data.toList 0)).take n := by rw [Lib.extract_data, H1.out, List.drop_zero, Nat.sub_zero]
        have hwl : (r1.extract 0 n).data.toList.all letB = true := by
          rw [Lib.extract_data, List.drop_zero, Nat.sub_zero, ← HN.out]; exact wh_all _ _
        have hwn : (r1.extract 0 n).data.toList ≠ [] := fun e => by
          have := congrArg List.length e
          rw [Lib.extract_data, List.length_take, List.length_drop, ← Lib.size_eq, List.length_nil] at this
          omega
        have ed : (r2.extract 0 m).data.toList = (s.data.toList.drop (dol s.data.toList 0 + n + dol s.data.toList (dol s.data.toList 0 + n))).take m := by rw [Lib.extract_data, E2.out, List.drop_zero, Nat.sub_zero]
        have hdl : (r2.extract 0 m).data.toList.all digB = true := by
          rw [Lib.extract_data, List.drop_zero, Nat.sub_zero, ← HM.out]; exact wh_all _ _
        have hdn : (r2.extract 0 m).data.toList ≠ [] := fun e => by
          have := congrArg List.length e
          rw [Lib.extract_data, List.length_take, List.length_drop, ← Lib.size_eq, List.length_nil] at this
          omega
        have fe := FE.out
        rw [if_neg (by rintro (h | h | h); exact hn0 h; exact hm0 h; exact first_not E2.out (by omega) H48.out.2 h), ← ew, ← ed] at fe
        have FE2 := Lib.hid fe
        have hr2 : r2.size = s.size - (dol s.data.toList 0 + n + dol s.data.toList (dol s.data.toList 0 + n)) := by rw [Lib.size_eq, Lib.size_eq, E2.out, List.length_drop]
        have hr3 : dol s.data.toList 0 + n + dol s.data.toList (dol s.data.toList 0 + n) ≤ s.size := by
          have h1 : 0 < r2.size := by omega
          omega
        have HR := Lib.hid (show (s.size : Int) - r2.size + m = ((dol s.data.toList 0 + n + dol s.data.toList (dol s.data.toList 0 + n) + m : Nat) : Int) by omega)
        have HW := Lib.hid hwl; have HWN := Lib.hid hwn; have HD := Lib.hid hdl; have HDN := Lib.hid hdn
        have hzw : (r1.extract 0 n).size ≤ 140737488355328 := by simp; omega
        have hzd : (r2.extract 0 m).size ≤ 140737488355328 := by simp; omega
        clear ew ed hwl hwn hdl hdn fe hr2 FE hn0 hm0 H48
        have cd := fun W (q : Below w.heap.size w W) => atoi_any (r2.extract 0 m) W (HL.out.kept q) hzd HD.out HDN.out
        have CD := Lib.hid cd
        clear cd
        rcases colOut_of _ HW.out HWN.out with ⟨hc, hc0, hc7⟩ | ⟨hc, hc7⟩
        all_goals
          obtain ⟨cv, hcv⟩ : ∃ cv, cv = colN (r1.extract 0 n).data.toList := ⟨_, rfl⟩
          rw [← hcv] at hc7
          try rw [← hcv] at hc
          have cc := column_any (r1.extract 0 n) ((w.alloc (.cells #[.int .i64 0, .int .i64 0, .bool false, .bool false] 55)).alloc (.cells #[.int .i64 0, .int .i64 0, .bool pr, .bool pc] 55)) hzw HW.out
          rw [hc] at cc
          refine cc.mono ?_
          clear cc hc
          try (rw [← hcv] at hc0)
          rintro e w3 ⟨he, b3⟩
          simp only at he
          obtain rfl := he
          have B3 := Lib.hid b3
          have HCV := Lib.hid hcv
          clear b3 hcv
          go_wp2_with fail
          refine (CD.out w3 ((ext_alloc (ext_alloc (Below.refl _ w) (.cells #[.int .i64 0, .int .i64 0, .bool false, .bool false] 55)) (.cells #[.int .i64 0, .int .i64 0, .bool pr, .bool pc] 55)).trans (B3.out.mono (by simp; omega)))).mono ?_
          rintro e w4 ⟨he, b4⟩
          have bb := B3.out.trans (b4.mono B3.out.size)
          obtain ⟨rv, hrv⟩ : ∃ rv, rv = digV 0 (r2.extract 0 m).data.toList := ⟨_, rfl⟩
          rw [← hrv] at he
          have HRV := Lib.hid hrv
          clear b4 hrv
          have kb := kept_block2 bb
          obtain ⟨z0, k0, k1⟩ := kb
          obtain ⟨f0, f1⟩ := kept_free2 bb
          have BB := Lib.hid ((ext_alloc (ext_alloc (Below.refl _ w) (.cells #[.int .i64 0, .int .i64 0, .bool false, .bool false] 55)) (.cells #[.int .i64 0, .int .i64 0, .bool pr, .bool pc] 55)).trans (bb.mono (by simp; omega)))
          clear bb
        · rcases he with rfl | ⟨x, tp, p, rfl, h65⟩
          · by_cases h65 : 65536 < rv
            · go_wp2
              exact bodyPost_ret (v := .tuple #[.agg #[.int .i64 0, .int .i64 0, .bool false, .bool false], .int .i64 (s.size - r2.size + m), .int .i64 10]) (by simp [results, Tryz.results39, go_sem, k0]) rfl ⟨by rw [HR.out]; simp only [RefVal, refAns, FE2.out]; rw [if_neg (by rintro ⟨_, q⟩; rw [rowN, ← HRV.out, if_pos h65] at q; omega)]; rfl, (((BB.out.setCell (Nat.le_refl _) _).setCell (Nat.le_refl _) _).setCell (Nat.le_refl _) _).setCell (Nat.le_refl _) _⟩
            · go_wp2
              exact bodyPost_ret (v := .tuple #[.agg #[.int .i64 ((rv : Int) - 1), .int .i64 cv, .bool pr, .bool pc], .int .i64 (s.size - r2.size + m), .int .i64 0]) (by simp [results, Tryz.results39, go_sem, k0]) rfl ⟨by rw [HR.out]; simp only [RefVal, refAns, FE2.out]; rw [if_pos (⟨by rw [← HCV.out]; exact hc7, by simp only [rowN]; rw [← HRV.out, if_neg h65]; omega⟩)]; simp only [rowN, ← HRV.out, ← HCV.out]; rw [if_neg (by omega), HPC.out, HPR.out], (((((BB.out.setCell (Nat.le_succ _) _).setCell (Nat.le_succ _) _).setCell (Nat.le_refl _) _).setCell (Nat.le_refl _) _).setCell (Nat.le_refl _) _).setCell (Nat.le_refl _) _⟩
          · go_wp2
            exact bodyPost_ret (v := .tuple #[.agg #[.int .i64 0, .int .i64 0, .bool false, .bool false], .int .i64 (s.size - r2.size + m), .int .i64 10]) (by simp [results, Tryz.results39, go_sem, k0]) rfl ⟨by rw [HR.out]; simp only [RefVal, refAns, FE2.out]; rw [if_neg (by rintro ⟨_, q⟩; rw [rowN, ← HRV.out, if_pos h65] at q; omega)]; rfl, (((BB.out.setCell (Nat.le_refl _) _).setCell (Nat.le_refl _) _).setCell (Nat.le_refl _) _).setCell (Nat.le_refl _) _⟩
        · rcases he with rfl | ⟨x, tp, p, rfl, h65⟩
          all_goals
            go_wp2
            exact bodyPost_ret (v := .tuple #[.agg #[.int .i64 0, .int .i64 0, .bool false, .bool false], .int .i64 (s.size - r2.size + m), .int .i64 10]) (by simp [results, Tryz.results39, go_sem, k0]) rfl ⟨by rw [HR.out]; simp only [RefVal, refAns, FE2.out]; rw [if_neg (by rintro ⟨q, _⟩; rw [← HCV.out] at q; omega)]; rfl, (((BB.out.setCell (Nat.le_refl _) _).setCell (Nat.le_refl _) _).setCell (Nat.le_refl _) _).setCell (Nat.le_refl _) _⟩
end Go.Proofs.YtikahfnlflhbfaaGreatDoor
