/- law8's spelled: a word as it is written. -/
import Derived.Test.YtikahfnlflhbfaaDoorLxBp
namespace Go.Proofs.YtikahfnlflhbfaaDoor
open Go.RowKit Go.Lib

theorem escL_snoc : ∀ (l : List UInt8) (c : UInt8), escL (l ++ [c]) = escL l ++ (if c = 34 then [34, 34] else [c])
  | [], c => by by_cases h : c = 34 <;> simp [escL, h]
  | d :: r, c => by
    have := escL_snoc r c
    by_cases h : d = 34 <;> simp [escL, h, this]
theorem escL_len : ∀ (l : List UInt8), (escL l).length ≤ 2 * l.length
  | [] => by simp [escL]
  | d :: r => by have := escL_len r; by_cases h : d = 34 <;> simp [escL, h] <;> omega
theorem take_snoc8 {s : ByteArray} {k : Nat} (h : k < s.size) : s.data.toList.take (k + 1) = s.data.toList.take k ++ [s[k]] := by
  rw [List.take_add_one, get8 h]; rfl
/-- A slice of bytes is handed back, in memory of its own. -/
def SpPost (l : List UInt8) (w : World) (e : Ending) (w' : World) : Prop :=
  ∃ ad cap, e = .returned (.slice (some ad) l.length cap) ∧ Below w.heap.size w w' ∧ ∀ j u, (bytes8 l)[j]? = some u → w'.cell? (ad.add j) = some u
theorem rel_byte2 {W : Nat} {xs : List Value} {n : Nat} {w wr w1 : World} {b v' : Value} {o : Obj} {u : Value} (hB : W ≤ wr.heap.size)
    (hown : wr.ownsRow W 5 1 b n xs) (hbel : Below W w wr) (hown' : w1.ownsRow W 5 1 v' (n + 1) (xs ++ [u])) (hgrow : (wr.alloc o).grownBy w1 b.ownBlock) :
    w1.ownsRow W 5 1 v' (n + 1) (xs ++ [u]) ∧ Below W w w1 ∧ W ≤ w1.heap.size ∧ ∀ k, k < W → w1.heap[k]? = wr.heap[k]? := by
  refine ⟨hown', (hbel.alloc hB o).grown hgrow (by simp; omega) (fun k hk => (World.ownsRow.lt hown k hk).1), by have := hgrow.size; simp at this; omega, fun k hk => ?_⟩
  exact (hgrow.block k (by simp; omega) (fun e => by have := (World.ownsRow.lt hown k e.symm).1; omega)).trans (Below.heap_alloc _ _ _ (by omega))
set_option maxHeartbeats 1000000 in
theorem spelled_plain (k at_ : Int) (T : ByteArray) (w : World) (h2 : (k != 2) = true) : Calls Tryd.prog 7 #[.agg #[.int .i64 k, .string T, .int .i64 at_]] w (SpPost T.data.toList w) := by
  have hcv := run_bytes_of_string (P := Tryd.prog) (w.alloc (.cells #[.int .i64 k, .string T, .int .i64 at_] 30)) 9 22 5 T Tryd.underlying9 Tryd.underlying22 Tryd.underlying5
  go_enter Tryd.func7, Tryd.ntmps7
  go_wp2
  go_ret
  refine ⟨⟨w.heap.size + 1, 0, none⟩, _, by rw [← Lib.size_eq]; rfl, ?_, fun j u hj => ?_⟩
  · exact ((ext_alloc (Below.refl _ _) _).drew).alloc (by simp) _
  · have hjl : j < T.data.toList.length := by
      have := (List.getElem?_eq_some_iff.1 hj).1
      simpa [bytes8] using this
    have hb := blk_at8 (heap_alloc_new (w.alloc (.cells #[.int .i64 k, .string T, .int .i64 at_] 30)).drew (.cells (bytesRow T (grownCap (w.alloc (.cells #[.int .i64 k, .string T, .int .i64 at_] 30)) T.size 0 5)) 5 ((bytesRow T (grownCap (w.alloc (.cells #[.int .i64 k, .string T, .int .i64 at_] 30)) T.size 0 5)).size, (bytesRow T (grownCap (w.alloc (.cells #[.int .i64 k, .string T, .int .i64 at_] 30)) T.size 0 5)).size + 1))) j
    have hz : (w.alloc (.cells #[.int .i64 k, .string T, .int .i64 at_] 30)).drew.heap.size = w.heap.size + 1 := by simp
    rw [hz] at hb
    have ha : (⟨w.heap.size + 1, 0, none⟩ : Addr).add j = ⟨w.heap.size + 1, j, none⟩ := by unfold Addr.add; split <;> simp_all
    rw [ha]
    refine hb.trans ?_
    rw [← hj]
    unfold bytesRow bytes8
    rw [Array.getElem?_append_left (by simpa using hjl)]
    simp
set_option maxRecDepth 100000 in
set_option maxHeartbeats 2000000 in
theorem spelled_quote (at_ : Int) (T : ByteArray) (w : World) (hs : T.size ≤ 100000) : Calls Tryd.prog 7 #[.agg #[.int .i64 2, .string T, .int .i64 at_]] w (SpPost (34 :: (escL T.data.toList ++ [34])) w) := by
  obtain ⟨i0, hi, hz0, hz1, hz2⟩ := info_parts u8_info8
  obtain ⟨W, hW⟩ : ∃ W, W = w.heap.size + 1 := ⟨_, rfl⟩
  have HW := Lib.hid hW
  have hlen : T.data.toList.length = T.size := (Lib.size_eq T).symm
  have HLN := Lib.hid hlen
  have bx : Hid (∀ o, (w.alloc (.cells #[.int .i64 2, .string T, .int .i64 at_] 30)).cell? ⟨w.heap.size, o, none⟩ = (#[.int .i64 2, .string T, .int .i64 at_] : Array Value)[o]?) := Lib.hid (blk_at8 (heap_alloc_new w _))
  have B0 : Below w.heap.size w (w.alloc (.cells #[.int .i64 2, .string T, .int .i64 at_] 30)) := ext_alloc (Below.refl _ _) _
  have hsz0 : W = (w.alloc (.cells #[.int .i64 2, .string T, .int .i64 at_] 30)).heap.size := by rw [hW]; simp
  obtain ⟨wa, hwa⟩ : ∃ wa, wa = w.alloc (.cells #[.int .i64 2, .string T, .int .i64 at_] 30) := ⟨_, rfl⟩
  have HWA := Lib.hid hwa
  have hw8 : w.heap.size < wa.heap.size := by rw [hwa]; simp
  rw [← hwa] at bx B0 hsz0
  have HB0 := Lib.hid B0; have HSZ := Lib.hid hsz0
  clear hW hlen hwa B0 hsz0
  go_enter Tryd.func7, Tryd.ntmps7
  go_wp2_with fail
  rw [← HWA.out]
  go_loopw [3, 4] (fun b i wr => ∃ k : Nat, i = .int .i64 k ∧ k ≤ T.size ∧ Hid (wr.ownsRow W 5 1 b (1 + (escL (T.data.toList.take k)).length) (bytes8 (34 :: escL (T.data.toList.take k)))) ∧ Hid (Below W wa wr) ∧ W ≤ wr.heap.size) (fun _ i _ => T.size - (intOf i).toNat)
  case atStart =>
    have hnew := heap_alloc_new wa (.cells #[.int .u8 34] 5)
    rw [← HSZ.out] at hnew
    exact ⟨0, rfl, Nat.zero_le _, Lib.hid ⟨by simp [bytes8, escL], .inr ⟨W, 1, #[.int .u8 34], by rw [HW.out]; simp [escL], Nat.le_refl _, hnew, by simp [escL], by decide, rfl, by simp [bytes8, escL]⟩⟩, Lib.hid ((Below.refl W wa).alloc (by rw [HSZ.out]; exact Nat.le_refl _) _), by rw [HSZ.out]; simp⟩
  case round =>
    obtain ⟨k, rfl, hk, hown, hbel, hb0⟩ := hrel
    have bxr : ∀ o, wr.cell? ⟨w.heap.size, o, none⟩ = (#[.int .i64 2, .string T, .int .i64 at_] : Array Value)[o]? := fun o => (hbel.out.cell (p := ⟨w.heap.size, o, none⟩) (by rw [HW.out]; simp)).trans (bx.out o)
    have d1 := bxr 1
    have hl := escL_len (T.data.toList.take k)
    have hl2 : (T.data.toList.take k).length ≤ k := List.length_take_le _ _
    have hwr : w.heap.size < wr.heap.size := by have := HW.out; omega
    have BXR := Lib.hid bxr
    clear bxr
    by_cases hlt : k < T.size
    · have HS := Lib.hid (take_snoc8 hlt)
      by_cases hc : T[k] = 34
      · have v1 : ((T[k].toNat : Int) == 34) = true := by rw [hc]; rfl
        have HC := Lib.hid hc
        clear hc
        go_wp2_with (at_builtin; refine wpList_append_own _ rfl _ _ 22 rfl W 5 i0 (.int .u8 0) 1 1 Tryd.underlying22 hi hz0 hz1 hz2 rfl (by decide) _ _ _ rfl (hown.out.alloc _) ⟨wr.heap.size, 0, none⟩ 1 1 [.int .u8 ((34 : UInt8).toNat : Int)] rfl rfl (fun j u hj => by match j, hj with | 0, hj => (simp at hj; subst hj; simp [Addr.add])) (fun u hu => by simp at hu; subst hu; rfl) (by unfold maxLen; omega) (by omega) (by simp; omega) ?_)
        intro v' w1 hown' hgrow _
        obtain ⟨r1, r2, r3, r4⟩ := rel_byte2 hb0 hown.out hbel.out hown' hgrow
        have R1 := Lib.hid r1; have R2 := Lib.hid r2
        have d1' := (World.cell?_of_block (w := wr) (w' := w1) (a := ⟨w.heap.size, 1, none⟩) (r4 w.heap.size (by have := HW.out; omega))).trans (BXR.out 1)
        have hw1 : w.heap.size < w1.heap.size := by have := HW.out; omega
        clear hown' hgrow r1 r2 r4 d1 hwr
        go_wp2_with (at_builtin; refine wpList_append_own _ rfl _ _ 22 rfl W 5 i0 (.int .u8 0) 1 1 Tryd.underlying22 hi hz0 hz1 hz2 rfl (by decide) _ _ _ rfl (R1.out.alloc _) ⟨w1.heap.size, 0, none⟩ 1 1 [.int .u8 (T[k].toNat : Int)] rfl rfl (fun j u hj => by match j, hj with | 0, hj => (simp at hj; subst hj; simp [Addr.add])) (fun u hu => by simp at hu; subst hu; rfl) (by unfold maxLen; omega) (by omega) (by simp; omega) ?_)
        intro v2 w2 hown2 hgrow2 _
        obtain ⟨q1, q2, q3, q4⟩ := rel_byte2 r3 R1.out R2.out (by rw [List.append_assoc]; exact hown2) hgrow2
        have Q1 : Hid (w2.ownsRow W 5 1 v2 (1 + (escL (T.data.toList.take (k + 1))).length) (bytes8 (34 :: escL (T.data.toList.take (k + 1))))) := Lib.hid (by
          rw [HS.out, escL_snoc, if_pos HC.out, List.length_append]
          have e : bytes8 (34 :: (escL (T.data.toList.take k) ++ [34, 34])) = bytes8 (34 :: escL (T.data.toList.take k)) ++ [.int .u8 ((34 : UInt8).toNat : Int)] ++ [.int .u8 (T[k].toNat : Int)] := by
            rw [HC.out]; simp [bytes8]
          rw [e]
          have e2 : 1 + ((escL (T.data.toList.take k)).length + ([34, 34] : List UInt8).length) = 1 + (escL (T.data.toList.take k)).length + 1 + 1 := by simp; omega
          rw [e2]
          exact q1)
        have Q2 := Lib.hid q2
        clear hown2 hgrow2 q1 q2 q4
        go_wp2
        go_roundw
        case rel => exact ⟨k + 1, by go_num, by omega, Q1, Q2, q3⟩
        case measure => simp [intOf]; omega
      · have v1 : ((T[k].toNat : Int) == 34) = false := (byte_ne hc).2
        have HC := Lib.hid hc
        clear hc
        go_wp2_with (at_builtin; refine wpList_append_own _ rfl _ _ 22 rfl W 5 i0 (.int .u8 0) 1 1 Tryd.underlying22 hi hz0 hz1 hz2 rfl (by decide) _ _ _ rfl (hown.out.alloc _) ⟨wr.heap.size, 0, none⟩ 1 1 [.int .u8 (T[k].toNat : Int)] rfl rfl (fun j u hj => by match j, hj with | 0, hj => (simp at hj; subst hj; simp [Addr.add])) (fun u hu => by simp at hu; subst hu; rfl) (by unfold maxLen; omega) (by omega) (by simp; omega) ?_)
        intro v2 w2 hown2 hgrow2 _
        obtain ⟨q1, q2, q3, q4⟩ := rel_byte2 hb0 hown.out hbel.out hown2 hgrow2
        have Q1 : Hid (w2.ownsRow W 5 1 v2 (1 + (escL (T.data.toList.take (k + 1))).length) (bytes8 (34 :: escL (T.data.toList.take (k + 1))))) := Lib.hid (by
          rw [HS.out, escL_snoc, if_neg HC.out, List.length_append]
          have e : bytes8 (34 :: (escL (T.data.toList.take k) ++ [T[k]])) = bytes8 (34 :: escL (T.data.toList.take k)) ++ [.int .u8 (T[k].toNat : Int)] := by
            simp [bytes8]
          rw [e]
          exact q1)
        have Q2 := Lib.hid q2
        clear hown2 hgrow2 q1 q2 q4
        go_wp2
        go_roundw
        case rel => exact ⟨k + 1, by go_num, by omega, Q1, Q2, q3⟩
        case measure => simp [intOf]; omega
    · have htk : T.data.toList.take k = T.data.toList := List.take_of_length_le (by rw [HLN.out]; omega)
      rw [htk] at hown hl
      have HTK := Lib.hid htk
      clear htk hl2
      rw [HLN.out] at hl
      go_wp2_with (at_builtin; refine wpList_append_own _ rfl _ _ 22 rfl W 5 i0 (.int .u8 0) 1 1 Tryd.underlying22 hi hz0 hz1 hz2 rfl (by decide) _ _ _ rfl (hown.out.alloc _) ⟨wr.heap.size, 0, none⟩ 1 1 [.int .u8 ((34 : UInt8).toNat : Int)] rfl rfl (fun j u hj => by match j, hj with | 0, hj => (simp at hj; subst hj; simp [Addr.add])) (fun u hu => by simp at hu; subst hu; rfl) (by unfold maxLen; omega) (by omega) (by simp; omega) ?_)
      intro v2 w2 hown2 hgrow2 _
      obtain ⟨q1, q2, q3, q4⟩ := rel_byte2 hb0 hown.out hbel.out hown2 hgrow2
      obtain ⟨g, cap, rfl, hg1, hg2⟩ := World.ownsRow.form q1 (by omega)
      have Q1 := Lib.hid q1; have Q2 := Lib.hid q2
      clear hown2 hgrow2 q1 q2 q4
      go_wp2
      go_ret
      refine ⟨⟨g, 0, none⟩, cap, ?_, HB0.out.trans (Q2.out.mono (by rw [HW.out]; omega)), fun j u hj => ?_⟩
      · congr 2
        simp; omega
      · refine World.ownsRow.cells Q1.out (g := g) rfl j u ?_
        rw [← hj]
        simp [bytes8]
end Go.Proofs.YtikahfnlflhbfaaDoor
