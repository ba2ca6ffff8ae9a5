/- The document's own answer for words: a text in capitals. -/
import Derived.Test.YtikahfnlflhbfaaGreatDoorLzC
import Derived.Laws.IdiomStrings
namespace Go.Proofs.YtikahfnlflhbfaaGreatDoor
open Go.RowKit Go.Lib

theorem up_low8 {c : UInt8} (h1 : 97 ≤ c.toNat) (h2 : c.toNat ≤ 122) : ((upperB c).toNat : Int) = (c.toNat : Int) - 97 + 65 := by
  have hl : letB c = true := by simp only [letB, Bool.or_eq_true, Bool.and_eq_true, decide_eq_true_eq]; omega
  have h := (letN_of hl).2.2
  rw [h, letN, if_neg (by omega), if_pos ⟨h1, h2⟩]
def CapRel (s : ByteArray) (B : Nat) (w : World) (iv : Value) (wr : World) : Prop :=
  ∃ k : Nat, iv = .int .i64 k ∧ k ≤ s.size ∧ Hid (∀ (j : Nat) (hj : j < s.size), wr.cell? ⟨B, j, none⟩ = some (.int .u8 ((if j < k then upperB s[j] else s[j]).toNat : Int))) ∧ Hid (∀ j, j < s.size → wr.frozen? ⟨B, j, none⟩ = false) ∧ Hid (Below B w wr) ∧ B < wr.heap.size
theorem cap_set {s : ByteArray} {B k : Nat} {w wr : World} (hk : k < s.size) (hC : ∀ (j : Nat) (hj : j < s.size), wr.cell? ⟨B, j, none⟩ = some (.int .u8 ((if j < k then upperB s[j] else s[j]).toNat : Int))) (hF : ∀ j, j < s.size → wr.frozen? ⟨B, j, none⟩ = false) (hb : Below B w wr) (v : Int) (hv : v = ((upperB s[k]).toNat : Int)) :
    (∀ (j : Nat) (hj : j < s.size), (wr.setCell ⟨B, k, none⟩ (.int .u8 v)).cell? ⟨B, j, none⟩ = some (.int .u8 ((if j < k + 1 then upperB s[j] else s[j]).toNat : Int))) ∧ (∀ j, j < s.size → (wr.setCell ⟨B, k, none⟩ (.int .u8 v)).frozen? ⟨B, j, none⟩ = false) ∧ Below B w (wr.setCell ⟨B, k, none⟩ (.int .u8 v)) := by
  refine ⟨fun j hj => ?_, fun j hj => by rw [World.frozen?_setCell]; exact hF j hj, hb.setCell (p := ⟨B, k, none⟩) (Nat.le_refl _) _⟩
  by_cases e : j = k
  · subst e
    rw [World.cell?_setCell_same _ _ _ (hC j hj), if_pos (by omega), hv]
  · rw [World.cell?_setCell_other _ _ _ _ (by intro h; simp only [Addr.mk.injEq] at h; omega), hC j hj]
    by_cases h : j < k
    · rw [if_pos h, if_pos (by omega)]
    · rw [if_neg h, if_neg (by omega)]
theorem cap_same {s : ByteArray} {B k : Nat} {wr : World} (hk : k < s.size) (hu : upperB s[k] = s[k]) (hC : ∀ (j : Nat) (hj : j < s.size), wr.cell? ⟨B, j, none⟩ = some (.int .u8 ((if j < k then upperB s[j] else s[j]).toNat : Int))) :
    ∀ (j : Nat) (hj : j < s.size), wr.cell? ⟨B, j, none⟩ = some (.int .u8 ((if j < k + 1 then upperB s[j] else s[j]).toNat : Int)) := by
  intro j hj
  rw [hC j hj]
  by_cases e : j = k
  · subst e
    rw [if_neg (by omega), if_pos (by omega), hu]
  · by_cases h : j < k
    · rw [if_pos h, if_pos (by omega)]
    · rw [if_neg h, if_neg (by omega)]
set_option maxRecDepth 100000 in
set_option maxHeartbeats 4000000 in
theorem rf8Caps_any (s : ByteArray) (w : World) (hs : s.size ≤ 65535) : Calls Tryz.prog 29 #[.string s] w fun e w' => e = .returned (.string (strB (capL8 s.data.toList))) ∧ Below w.heap.size w w' := by
  obtain ⟨B, hB⟩ : ∃ B, B = w.heap.size := ⟨_, rfl⟩
  obtain ⟨cap, hcap⟩ : ∃ cap, cap = grownCap w s.size 0 5 := ⟨_, rfl⟩
  have hcv := run_bytes_of_string (P := Tryz.prog) w 9 52 5 s Tryz.underlying9 Tryz.underlying52 Tryz.underlying5
  rw [← hB, ← hcap] at hcv
  obtain ⟨w1, hw1⟩ : ∃ w1, w1 = w.drew.alloc (.cells (bytesRow s cap) 5 ((bytesRow s cap).size, (bytesRow s cap).size + 1)) := ⟨_, rfl⟩
  have hblk : w1.heap[B]? = some (.cells (bytesRow s cap) 5 ((bytesRow s cap).size, (bytesRow s cap).size + 1)) := by
    rw [hw1, hB]
    have := heap_alloc_new w.drew (.cells (bytesRow s cap) 5 ((bytesRow s cap).size, (bytesRow s cap).size + 1))
    simpa using this
  have hbel : Below B w w1 := by rw [hw1, hB]; exact ((Below.refl _ w).drew).alloc (by simp) _
  have hsz : B < w1.heap.size := by rw [hw1, hB]; simp
  have hrow : s.size ≤ (bytesRow s cap).size := by unfold bytesRow; simp
  rw [← hw1] at hcv
  have H0 : Hid (∀ (j : Nat) (hj : j < s.size), w1.cell? ⟨B, j, none⟩ = some (.int .u8 ((if j < 0 then upperB s[j] else s[j]).toNat : Int))) := Lib.hid fun j hj => by
    rw [if_neg (by omega), blk_at8 hblk j]
    unfold bytesRow
    have hjl : j < s.data.size := hj
    rw [Array.getElem?_append_left (by simpa using hjl)]
    simp
    exact ⟨s[j], by rw [Array.getElem?_eq_getElem hjl]; rfl, rfl⟩
  have F0 : Hid (∀ j, j < s.size → w1.frozen? ⟨B, j, none⟩ = false) := Lib.hid fun j hj => by
    simp [World.frozen?, hblk]; omega
  have HB := Lib.hid hbel; have HBB := Lib.hid hB
  clear hB hcap hw1 hblk hbel hrow
  go_enter Tryz.func29, Tryz.ntmps29
  go_wp2_with fail
  go_loopw [4] (fun iv wr => CapRel s B w iv wr) (fun iv _ => s.size - (intOf iv).toNat)
  case atStart => exact ⟨0, rfl, Nat.zero_le _, H0, F0, HB, hsz⟩
  case round =>
    obtain ⟨k, rfl, hk, HC, HF, HBL, hszr⟩ := hrel
    by_cases hlt : k < s.size
    · have c0 := HC.out k hlt
      rw [if_neg (by omega)] at c0
      have f0 := HF.out k hlt
      have hcl := s[k].toNat_lt
      by_cases hc : 97 ≤ s[k].toNat ∧ s[k].toNat ≤ 122
      · obtain ⟨hc1, hc2⟩ := hc
        have R := cap_set hlt HC.out HF.out HBL.out _ (up_low8 hc1 hc2).symm
        have R1 := Lib.hid R.1; have R2 := Lib.hid R.2.1; have R3 := Lib.hid R.2.2
        clear R
        go_wp2
        go_roundw
        case rel => exact ⟨k + 1, by go_num, by omega, R1, R2, R3, by simp [World.setCell]; exact hszr⟩
        case measure => simp [intOf]; omega
      · have hu := Lib.hid (cap_same hlt (upper_no8 hc) HC.out)
        by_cases hc1 : 97 ≤ s[k].toNat
        · have hc2 : ¬ s[k].toNat ≤ 122 := fun h => hc ⟨hc1, h⟩
          clear hc
          go_wp2
          go_roundw
          case rel => exact ⟨k + 1, by go_num, by omega, hu, HF, HBL, hszr⟩
          case measure => simp [intOf]; omega
        · clear hc
          go_wp2
          go_roundw
          case rel => exact ⟨k + 1, by go_num, by omega, hu, HF, HBL, hszr⟩
          case measure => simp [intOf]; omega
    · have hks : k = s.size := by omega
      have hcl : (capL8 s.data.toList).length = s.size := by unfold capL8; rw [List.length_map, ← Lib.size_eq]
      have hback := run_convert_bytes_back (P := Tryz.prog) wr 52 9 5 ⟨B, 0, none⟩ cap (capL8 s.data.toList) Tryz.underlying52 Tryz.underlying5 Tryz.underlying9 (fun j hj => by
        have hj2 : j < s.size := by rw [← hcl]; exact hj
        have ha : (⟨B, 0, none⟩ : Addr).add j = ⟨B, j, none⟩ := by unfold Addr.add; split <;> simp_all
        rw [ha, HC.out j hj2, if_pos (by omega)]
        have e : (capL8 s.data.toList)[j]? = some (upperB s[j]) := by unfold capL8; rw [List.getElem?_map, get8 hj2]; rfl
        rw [List.getElem?_eq_getElem hj] at e
        rw [Option.some.inj e])
      rw [hcl] at hback
      have HR := Lib.hid (show (⟨(capL8 s.data.toList).toArray⟩ : ByteArray) = strB (capL8 s.data.toList) from rfl)
      clear hks hcl
      go_wp2
      go_ret
      exact ⟨rfl, by rw [← HBB.out]; exact HBL.out⟩
end Go.Proofs.YtikahfnlflhbfaaGreatDoor
