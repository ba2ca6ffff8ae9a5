/- The document's own answer for words: a text between quotes. -/
import Derived.Test.YtikahfnlflhbfaaGreatDoorLzF
import Derived.Test.YtikahfnlflhbfaaGreatDoorLxD
namespace Go.Proofs.YtikahfnlflhbfaaGreatDoor
open Go.RowKit Go.Lib

set_option maxRecDepth 100000 in
set_option maxHeartbeats 4000000 in
theorem rf8Text_any (s : ByteArray) (p : Nat) (w : World) (hp : p < s.size) (hs : s.size ≤ 65535) : Calls Tryz.prog 17 #[.string s, .int .i64 p] w (GotPost p (textL8 (s.data.toList.drop p)) w) := by
  obtain ⟨i0, hi, hz0, hz1, hz2⟩ := info_parts u8_info8
  obtain ⟨w1, hw1⟩ : ∃ w1, w1 = w.alloc (.cells #[.int .i64 0, .string ⟨#[]⟩, .int .i64 0, .int .i64 0, .int .i64 0] 38) := ⟨_, rfl⟩
  obtain ⟨W, hW⟩ : ∃ W, W = w1.heap.size := ⟨_, rfl⟩
  have HW := Lib.hid hW
  have HW1 := Lib.hid hw1
  have hwz : w.heap.size < W := by rw [hW, hw1]; simp
  have B0 : Hid (Below W w1 w1) := Lib.hid (by rw [hW]; exact Below.refl _ w1)
  have B1 : Hid (Below w.heap.size w w1) := Lib.hid (by rw [hw1]; exact ext_alloc (Below.refl _ _) _)
  have K1 : Hid (∀ o, w1.cell? ⟨w.heap.size, o, none⟩ = (#[.int .i64 0, .string ⟨#[]⟩, .int .i64 0, .int .i64 0, .int .i64 0] : Array Value)[o]?) := Lib.hid fun o => by rw [hw1]; exact nwA (A := #[.int .i64 0, .string ⟨#[]⟩, .int .i64 0, .int .i64 0, .int .i64 0]) (T := 38) w o
  have F1 : Hid (∀ o, w1.frozen? ⟨w.heap.size, o, none⟩ = false) := Lib.hid fun o => by rw [hw1]; exact World.frozen?_alloc_at _ _ _ _ rfl
  have hlen : s.data.toList.length = s.size := (Lib.size_eq s).symm
  have HLN := Lib.hid hlen
  have htl : (s.data.toList.drop p).tail = s.data.toList.drop (p + 1) := by rw [List.tail_drop]
  obtain ⟨G, hG⟩ : ∃ G, textL8 (s.data.toList.drop p) = G := ⟨_, rfl⟩
  rw [hG]
  unfold textL8 at hG
  rw [htl] at hG
  have HGG := Lib.hid hG
  clear hW hw1 hlen htl hG
  go_enter Tryz.func17, Tryz.ntmps17
  go_wp2
  go_loopw [5, 6] (fun b i wr => QRel s.data.toList p W w1 b i wr) (fun _ i _ => s.size + 1 - (intOf i).toNat)
  case atStart => exact ⟨p + 1, [], by go_num, by omega, by rw [HLN.out]; omega, by simp, Lib.hid (World.ownsRow_nil _ _ _ _), Lib.hid (by rw [← HW1.out]; exact B0.out), Lib.hid (by simp)⟩
  case round =>
    obtain ⟨k, t, rfl, hk0, hk1, htk, hown, hbel, HQ⟩ := hrel
    have hln := HLN.out
    rw [hln] at hk1
    clear hln
    have hb0 : W ≤ wr.heap.size := by have := hbel.out.size; rw [HW.out]; exact this
    have kr : ∀ o, wr.cell? ⟨w.heap.size, o, none⟩ = (#[.int .i64 0, .string ⟨#[]⟩, .int .i64 0, .int .i64 0, .int .i64 0] : Array Value)[o]? := fun o => (hbel.out.cell (p := ⟨w.heap.size, o, none⟩) (by simp; omega)).trans (K1.out o)
    have fr : ∀ o, wr.frozen? ⟨w.heap.size, o, none⟩ = false := fun o => (hbel.out.frozen (p := ⟨w.heap.size, o, none⟩) (by simp; omega)).trans (F1.out o)
    have BB := Lib.hid (B1.out.trans (hbel.out.mono (Nat.le_of_lt hwz)))
    have hwr : w.heap.size < wr.heap.size := by omega
    by_cases hlt : k < s.size
    · have HG := Lib.hid (get8 hlt)
      by_cases hc : s[k] = 34
      · obtain ⟨hc1, hc2⟩ := byte_eq hc
        have H34 : Hid (s.data.toList[k]? = some 34) := Lib.hid (by rw [HG.out, hc])
        clear hc
        by_cases hk2 : k + 1 < s.size
        · have HG1 := Lib.hid (get8 hk2)
          by_cases hd : s[k + 1] = 34
          · obtain ⟨hd1, hd2⟩ := byte_eq hd
            have HD : Hid (s.data.toList[k + 1]? = some 34) := Lib.hid (by rw [HG1.out, hd])
            clear hd
            have hne : decide (((k : Int) + 1) = (s.size : Int)) = false := by simp; omega
            go_wp2_with (first
              | (at_builtin; refine wpList_append_own _ rfl _ _ 52 rfl W 5 i0 (.int .u8 0) 1 1 Tryz.underlying52 hi hz0 hz1 hz2 rfl (by decide) _ _ _ rfl (hown.out.alloc _) ⟨wr.heap.size, 0, none⟩ 1 1 [.int .u8 ((34 : UInt8).toNat : Int)] rfl rfl (fun j u hj => by match j, hj with | 0, hj => (simp at hj; subst hj; simp [Addr.add])) (fun u hu => by simp at hu; subst hu; rfl) (by unfold maxLen; omega) (by omega) (by simp; omega) ?_; intro v' w1 hown' hgrow _))
            have R := rel_byte hb0 hown.out hbel.out hown' hgrow
            clear hown' hgrow
            go_wp2
            go_roundw
            case rel => exact ⟨k + 2, t ++ [34], by go_num, by omega, by rw [HLN.out]; omega, by simp; omega, Lib.hid R.1, Lib.hid R.2, Lib.hid (by
              rw [HQ.out, quoteL_two H34.out HD.out, Option.map_map]
              congr 1; funext x; simp; omega)⟩
            case measure => simp [intOf]; omega
          · obtain ⟨hd1, hd2⟩ := byte_ne hd
            have HD : Hid (s.data.toList[k + 1]? ≠ some 34) := Lib.hid (by rw [HG1.out]; intro q; injection q with q; exact hd q)
            clear hd
            have hq : quoteL (s.data.toList.drop (p + 1)) = some (t, k - p) := by
              rw [HQ.out, quoteL_end H34.out HD.out]; simp; omega
            have hgg := HGG.out
            rw [hq] at hgg
            have HG3 := Lib.hid hgg
            clear hq hgg
            have hback : ∀ v3, wr.ownsRow W 5 1 v3 t.length (bytes8 t) → (convert 52 9 v3).run Tryz.prog wr = .ok (.string (strB t)) wr := fun v3 h => owns_string8 h
            have hb3 := hback _ hown.out
            clear hback
            have hne : decide (((k : Int) + 1) = (s.size : Int)) = false := by simp; omega
            have HV : Hid (GotV p G = .agg #[.int .i64 2, .string (strB t), .int .i64 0, .int .i64 ((k : Int) + 1), .int .i64 0]) := Lib.hid (by rw [← HG3.out, GotV]; simp only [if_true]; rw [show ((p + (k - p + 1) : Nat) : Int) = (k : Int) + 1 by omega])
            go_wp2_with fail
            exact bodyPost_ret (v := .agg #[.int .i64 2, .string (strB t), .int .i64 0, .int .i64 ((k : Int) + 1), .int .i64 0]) (by simp [results, Tryz.results17, go_sem, kr] <;> omega) rfl ⟨by rw [HV.out], (by repeat (first | (with_reducible exact BB.out) | (with_reducible refine Below.setCell ?_ (by exact Nat.le_refl _) _)))⟩
        · have HD : Hid (s.data.toList[k + 1]? ≠ some 34) := Lib.hid (by rw [List.getElem?_eq_none (by rw [HLN.out]; omega)]; simp)
          have hq : quoteL (s.data.toList.drop (p + 1)) = some (t, k - p) := by
            rw [HQ.out, quoteL_end H34.out HD.out]; simp; omega
          have hgg := HGG.out
          rw [hq] at hgg
          have HG3 := Lib.hid hgg
          clear hq hgg
          have hback : ∀ v3, wr.ownsRow W 5 1 v3 t.length (bytes8 t) → (convert 52 9 v3).run Tryz.prog wr = .ok (.string (strB t)) wr := fun v3 h => owns_string8 h
          have hb3 := hback _ hown.out
          clear hback
          have hne : decide (((k : Int) + 1) = (s.size : Int)) = true := by simp; omega
          have HV : Hid (GotV p G = .agg #[.int .i64 2, .string (strB t), .int .i64 0, .int .i64 ((k : Int) + 1), .int .i64 0]) := Lib.hid (by rw [← HG3.out, GotV]; simp only [if_true]; rw [show ((p + (k - p + 1) : Nat) : Int) = (k : Int) + 1 by omega])
          go_wp2_with fail
          exact bodyPost_ret (v := .agg #[.int .i64 2, .string (strB t), .int .i64 0, .int .i64 ((k : Int) + 1), .int .i64 0]) (by simp [results, Tryz.results17, go_sem, kr] <;> omega) rfl ⟨by rw [HV.out], (by repeat (first | (with_reducible exact BB.out) | (with_reducible refine Below.setCell ?_ (by exact Nat.le_refl _) _)))⟩
      · obtain ⟨hc1, hc2⟩ := byte_ne hc
        have H34 := Lib.hid hc
        clear hc
        go_wp2_with (first
          | (at_builtin; refine wpList_append_own _ rfl _ _ 52 rfl W 5 i0 (.int .u8 0) 1 1 Tryz.underlying52 hi hz0 hz1 hz2 rfl (by decide) _ _ _ rfl (hown.out.alloc _) ⟨wr.heap.size, 0, none⟩ 1 1 [.int .u8 (s[k].toNat : Int)] rfl rfl (fun j u hj => by match j, hj with | 0, hj => (simp at hj; subst hj; simp [Addr.add])) (fun u hu => by simp at hu; subst hu; rfl) (by unfold maxLen; omega) (by omega) (by simp; omega) ?_; intro v' w1 hown' hgrow _))
        have R := rel_byte hb0 hown.out hbel.out hown' hgrow
        clear hown' hgrow
        go_wp2
        go_roundw
        case rel => exact ⟨k + 1, t ++ [s[k]], by go_num, by omega, by rw [HLN.out]; omega, by simp; omega, Lib.hid R.1, Lib.hid R.2, Lib.hid (by
          rw [HQ.out, quoteL_plain HG.out H34.out, Option.map_map]
          congr 1; funext x; simp; omega)⟩
        case measure => simp [intOf]; omega
    · have hq : quoteL (s.data.toList.drop (p + 1)) = none := by rw [HQ.out, quoteL_off (by rw [HLN.out]; omega)]; rfl
      have hgg := HGG.out
      rw [hq] at hgg
      have HG3 := Lib.hid hgg
      clear hq hgg
      go_wp2_with fail
      exact bodyPost_ret (v := .agg #[.int .i64 0, .string ⟨#[]⟩, .int .i64 0, .int .i64 0, .int .i64 21]) (by simp [results, Tryz.results17, go_sem, kr] <;> omega) rfl ⟨by rw [← HG3.out]; rfl, (by repeat (first | (with_reducible exact BB.out) | (with_reducible refine Below.setCell ?_ (by exact Nat.le_refl _) _)))⟩
end Go.Proofs.YtikahfnlflhbfaaGreatDoor
