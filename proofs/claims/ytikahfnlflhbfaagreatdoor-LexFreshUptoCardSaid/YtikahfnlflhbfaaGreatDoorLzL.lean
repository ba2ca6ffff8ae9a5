/- The document's own answer for words: all of a formula's words. -/
import Derived.Test.YtikahfnlflhbfaaGreatDoorLzK
import Derived.Test.YtikahfnlflhbfaaGreatDoorLxM
namespace Go.Proofs.YtikahfnlflhbfaaGreatDoor
open Go.RowKit Go.Lib

def RfRel (s : ByteArray) (w : World) (v i : Value) (wr : World) : Prop :=
  ∃ (k : Nat) (acc : List WordL), i = .int .i64 k ∧ k ≤ s.size ∧ acc.length ≤ k ∧ Hid (WdRow w.heap.size wr acc v) ∧ Hid (Below w.heap.size w wr) ∧ Hid (cutAt s.data.toList k acc = cutAt s.data.toList 0 [])
set_option maxRecDepth 100000 in
set_option maxHeartbeats 4000000 in
theorem rf8Cut_any (s : ByteArray) (w : World) (hmax : s.size ≤ 9223372036854775807) : Calls Tryz.prog 7 #[.string s] w (CutPost w (cutL s.data.toList)) := by
  obtain ⟨i0, hi, hz0, hz1, hz2⟩ := info_parts infoWd
  have hlen : s.data.toList.length = s.size := (Lib.size_eq s).symm
  have HLN := Lib.hid hlen
  by_cases h65 : 65535 < s.size
  · have hg : cutL s.data.toList = ⟨[], 0, 2⟩ := by unfold cutL; rw [if_pos (by rw [hlen]; exact h65)]
    have HG := Lib.hid hg
    clear hg hlen
    rw [HG.out]
    go_enter Tryz.func7, Tryz.ntmps7
    go_wp2
    go_ret3
    exact ⟨_, rfl, Below.refl _ _, WdRow.nil _ _⟩
  · have hg : cutL s.data.toList = cutAt s.data.toList 0 [] := by unfold cutL; rw [if_neg (by rw [hlen]; exact h65)]
    obtain ⟨A, hA⟩ : ∃ A, cutAt s.data.toList 0 [] = A := ⟨_, rfl⟩
    rw [hg, hA]
    have HA := Lib.hid hA
    clear hg hlen hA
    go_enter Tryz.func7, Tryz.ntmps7
    go_wp2_with fail
    go_loopw [5, 6] (fun v i wr => RfRel s w v i wr) (fun _ i _ => s.size - (intOf i).toNat)
    case atStart => exact ⟨0, [], rfl, Nat.zero_le _, Nat.zero_le _, Lib.hid (WdRow.nil _ _), Lib.hid (Below.refl _ _), Lib.hid rfl⟩
    case round =>
      obtain ⟨k, acc, rfl, hk, hac, HR, HB, HC⟩ := hrel
      by_cases hlt : k < s.size
      · have hkl : k < s.data.toList.length := by rw [HLN.out]; exact hlt
        have HKL := Lib.hid hkl
        obtain ⟨n, hn⟩ : ∃ n, blankL (s.data.toList.drop k) = n := ⟨_, rfl⟩
        have hnl := blankL_le (s.data.toList.drop k)
        rw [List.length_drop, HLN.out, hn] at hnl
        have CB : Hid (Calls Tryz.prog 11 #[.string s, .int .i64 k] wr fun e w' => e = .returned (.int .i64 n) ∧ Below wr.heap.size wr w') := Lib.hid (by rw [← hn]; exact rf8Blank_any s k wr hlt (by omega))
        have HN := Lib.hid hn
        clear hkl hn
        by_cases h0 : 0 < n
        · have HS := Lib.hid ((cutAt_blank (acc := acc) HKL.out (by rw [HN.out]; exact h0)).symm.trans HC.out)
          go_wp2_with fail
          refine (CB.out).mono ?_
          rintro e w1 ⟨rfl, b1⟩
          have HR1 := Lib.hid (HR.out.kept fun j hj => b1.block j (HR.out.lt j hj).2)
          have HB1 := Lib.hid (HB.out.trans (b1.mono HB.out.size))
          clear b1
          go_wp2_with fail
          go_roundw
          case rel => exact ⟨k + n, acc, by go_num, by omega, by omega, HR1, HB1, Lib.hid (by have := HS.out; rw [HN.out] at this; exact this)⟩
          case measure => simp [intOf]; omega
        · have hn0 : n = 0 := by omega
          subst hn0
          go_wp2_with fail
          refine (CB.out).mono ?_
          rintro e w1 ⟨rfl, b1⟩
          have HR1 := Lib.hid (HR.out.kept fun j hj => b1.block j (HR.out.lt j hj).2)
          have HB1 := Lib.hid (HB.out.trans (b1.mono HB.out.size))
          clear b1
          go_wp2_with fail
          refine (rf8One_any s k w1 hlt (by omega)).mono ?_
          rintro e w2 ⟨rfl, b2⟩
          have HR2 := Lib.hid (HR1.out.kept fun j hj => b2.block j (HR1.out.lt j hj).2)
          have HB2 := Lib.hid (HB1.out.trans (b2.mono HB1.out.size))
          clear b2 HR1 HB1 HR HB
          obtain ⟨G, hG⟩ : ∃ G, oneL (s.data.toList.drop k) = G := ⟨_, rfl⟩
          have HO := Lib.hid hG
          rw [hG]
          clear hG
          obtain ⟨gk, gt, gn, ge⟩ := G
          unfold GotV
          simp only
          by_cases he : ge = 0
          · subst he
            have hon := oneL_n (r := s.data.toList.drop k) (by rw [HO.out])
            rw [HO.out, List.length_drop, HLN.out] at hon
            simp only at hon
            rw [if_pos rfl]
            have HS := Lib.hid ((cutAt_word (acc := acc) HKL.out HN.out (by rw [HO.out])).symm.trans HC.out)
            rw [HO.out] at HS
            simp only at HS
            go_upto_region 13 with (fail)
            obtain ⟨w3, hw3⟩ : ∃ w3, w3 = w2.alloc (.cells #[.int .i64 gk, .string (strB gt), .int .i64 k, .int .i64 ((k : Int) + (gn : Int)), .int .i64 0] 38) := ⟨_, rfl⟩
            rw [← hw3]
            have b3 : Below w2.heap.size w2 w3 := by rw [hw3]; exact ext_alloc (Below.refl _ _) _
            have c3 : ∀ o, w3.cell? ⟨w2.heap.size, o, none⟩ = (#[.int .i64 gk, .string (strB gt), .int .i64 k, .int .i64 ((k : Int) + (gn : Int)), .int .i64 0] : Array Value)[o]? := by rw [hw3]; exact nwA (T := 38) w2
            have z3 : w2.heap.size < w3.heap.size := by rw [hw3]; simp
            have HR3 := Lib.hid (HR2.out.kept fun j hj => b3.block j (HR2.out.lt j hj).2)
            have HB3 := Lib.hid (HB2.out.trans (b3.mono HB2.out.size))
            have HLT := Lib.hid HR2.out.lt
            clear b3 hw3 HR2
            have hac2 : acc.length ≤ 65535 := by omega
            have hb2 : w.heap.size ≤ w2.heap.size := HB2.out.size
            go_wp2_with (at_builtin; refine wpList_append_lies _ rfl _ _ 28 rfl w.heap.size 34 i0 _ 3 32 Tryz.underlying28 hi hz0 hz1 hz2 rfl (by decide) _ acc.length (wdCells acc) rfl (World.ownsRow.alloc HR3.out _) ⟨w3.heap.size, 0, none⟩ 1 1 (WordL.vals ⟨gk, gt, k⟩) rfl rfl (World.news_of_block (heap_alloc_new w3 _)) (by simp [Value.oneCell', WordL.vals]) (by decide) (by unfold maxLen; omega) (by omega) (by simp; omega) _ rfl ?_)
            intro g cap w4 hown hgrow hat hlt1
            have k4 : w4.cell? ⟨w2.heap.size, 3, none⟩ = some (.int .i64 ((k : Int) + (gn : Int))) := by
              have hb := (hgrow.block w2.heap.size (by simp; omega) (fun e => by have := (HLT.out _ e.symm).2; omega)).trans (Below.heap_alloc _ _ _ z3)
              have := c3 3
              simp only [World.cell?, hb] at this ⊢
              exact this
            have HB4 := Lib.hid ((HB3.out.alloc (by omega) _).grown hgrow (by simp; omega) (fun j hj => (HLT.out j hj).1))
            have HR4 : Hid (WdRow w.heap.size w4 (acc ++ [⟨gk, gt, k⟩]) (.slice (some ⟨g, 0, none⟩) (acc.length + 1) cap)) := Lib.hid (by
              unfold WdRow
              rw [wdCells_app, List.length_append]
              simpa [wdCells] using hown)
            clear hown hgrow hat hb2
            go_wp2_with fail
            go_roundw
            case rel => exact ⟨k + gn, acc ++ [⟨gk, gt, k⟩], by go_num, by omega, by simp; omega, HR4, HB4, HS⟩
            case measure => simp [intOf]; omega
          · rw [if_neg he]
            have HS := Lib.hid ((cutAt_err (acc := acc) HKL.out HN.out (by rw [HO.out]; exact he)).symm.trans HC.out)
            rw [HO.out] at HS
            simp only at HS
            go_wp2_with fail
            go_quiet (fail)
            generalize hD : World.drewN (w2.alloc _) _ = wd
            have BD : Below w.heap.size w wd := by
              rw [← hD]
              exact (ext_alloc HB2.out _).trans ((below_draws8 _ _).mono (ext_alloc HB2.out _).size)
            have HBD := Lib.hid BD
            clear hD BD
            go_wp2_with fail
            go_ret3
            exact ⟨_, by rw [← HA.out, ← HS.out]; rfl, HBD.out, by rw [← HA.out, ← HS.out]; exact WdRow.nil _ _⟩
      · have HS : Hid (A = ⟨acc, 0, 0⟩) := Lib.hid (by rw [← HA.out, ← HC.out, cutAt_end (by rw [HLN.out]; omega)])
        go_wp2_with fail
        go_ret3
        exact ⟨_, by rw [HS.out]; rfl, HB.out, by rw [HS.out]; exact HR.out⟩
end Go.Proofs.YtikahfnlflhbfaaGreatDoor
