/- The document's own answer for words: a number's walk. -/
import Derived.Test.YtikahfnlflhbfaaGreatDoorLzE
import Derived.Test.YtikahfnlflhbfaaGreatDoorLxG
import Derived.Test.YtikahfnlflhbfaaGreatDoorLzB
namespace Go.Proofs.YtikahfnlflhbfaaGreatDoor
open Go.RowKit Go.Lib

theorem rf8Run_is (s : ByteArray) (p q : Nat) (w : World) (hp : p ≤ s.size) (hs : s.size ≤ 65535) (h : Hid (q = p + wh inB (s.data.toList.drop p))) : Calls Tryz.prog 28 #[.string s, .int .i64 p] w fun e w' => e = .returned (.int .i64 q) ∧ w = w' := by rw [h.out]; exact rf8Run_any s p w hp hs
theorem strip_step {l : List UInt8} {k q : Nat} (hk : k + 1 < q) (hq : q ≤ l.length) (h : l[k]? = some 48) : stripZ ((l.drop k).take (q - k)) = stripZ ((l.drop (k + 1)).take (q - (k + 1))) := by
  obtain ⟨hl, e⟩ := List.getElem?_eq_some_iff.1 h
  rw [List.drop_eq_getElem_cons hl, e, show q - k = (q - (k + 1)) + 1 by omega, List.take_succ_cons]
  have hl2 : k + 1 < l.length := by omega
  rw [List.drop_eq_getElem_cons hl2, show q - (k + 1) = (q - (k + 1) - 1) + 1 by omega, List.take_succ_cons]
  simp only [stripZ, if_true]
theorem strip_stop {l : List UInt8} {k q : Nat} (hk : k < q) (hq : q ≤ l.length) (h : ¬ (k + 1 < q ∧ l[k]? = some 48)) : stripZ ((l.drop k).take (q - k)) = (l.drop k).take (q - k) := by
  have hl : k < l.length := by omega
  rw [List.drop_eq_getElem_cons hl, show q - k = (q - (k + 1)) + 1 by omega, List.take_succ_cons]
  cases hr : (l.drop (k + 1)).take (q - (k + 1)) with
  | nil => rfl
  | cons d r =>
    have h1 : k + 1 < q := by
      have := congrArg List.length hr
      rw [List.length_take, List.length_cons] at this
      omega
    have h2 : l[k] ≠ 48 := fun e => h ⟨h1, by rw [List.getElem?_eq_getElem hl, e]⟩
    simp only [stripZ, if_neg h2]
set_option maxRecDepth 100000 in
set_option maxHeartbeats 4000000 in
theorem rf8Number_any (s : ByteArray) (p : Nat) (w : World) (hp : p < s.size) (hs : s.size ≤ 65535) (hd : digB s[p] = true) : Calls Tryz.prog 16 #[.string s, .int .i64 p] w (GotPost p (numberL (s.data.toList.drop p)) w) := by
  have hlen : s.data.toList.length = s.size := (Lib.size_eq s).symm
  have hnl := wh_le inB (s.data.toList.drop p)
  have hn1 : 1 ≤ wh inB (s.data.toList.drop p) := by
    rw [List.drop_eq_getElem_cons (by rw [hlen]; exact hp)]
    exact wh_pos (inB_of (.inl hd))
  rw [List.length_drop, hlen] at hnl
  obtain ⟨q, hq⟩ : ∃ q, q = p + wh inB (s.data.toList.drop p) := ⟨_, rfl⟩
  have hq1 : p + 1 ≤ q := by omega
  have hq2 : q ≤ s.size := by omega
  have HQ := Lib.hid hq
  obtain ⟨G, hG⟩ : ∃ G, numberL (s.data.toList.drop p) = G := ⟨_, rfl⟩
  rw [hG]
  unfold numberL at hG
  simp only at hG
  have hwn : wh inB (s.data.toList.drop p) = q - p := by omega
  rw [hwn] at hG
  have HG := Lib.hid hG
  have HLEN := Lib.hid hlen
  clear hlen hnl hn1 hq hG hwn hd
  go_enter Tryz.func16, Tryz.ntmps16
  go_wp2_with fail
  refine (rf8Run_is s p q _ (by omega) hs HQ).mono ?_
  rintro e w1 ⟨rfl, hw1⟩
  have z1 : w.heap.size < w1.heap.size := by rw [← hw1]; simp
  have k1 : ∀ o, w1.cell? ⟨w.heap.size, o, none⟩ = (#[.int .i64 0, .string ⟨#[]⟩, .int .i64 0, .int .i64 0, .int .i64 0] : Array Value)[o]? := fun o => by rw [← hw1]; exact nwA (A := #[.int .i64 0, .string ⟨#[]⟩, .int .i64 0, .int .i64 0, .int .i64 0]) (T := 38) w o
  have f1 : ∀ o, w1.frozen? ⟨w.heap.size, o, none⟩ = false := fun o => by rw [← hw1]; exact World.frozen?_alloc_at _ _ _ _ rfl
  have BB := Lib.hid (show Below w.heap.size w w1 by rw [← hw1]; exact ext_alloc (Below.refl _ _) _)
  clear hw1
  go_wp2
  go_loop [6] (fun i => ∃ k : Nat, i = .int .i64 k ∧ p ≤ k ∧ k ≤ q ∧ Hid (∀ (j : Nat) (hj : j < s.size), p ≤ j → j < k → digB s[j] = true)) (fun i => s.size - (intOf i).toNat)
  case atStart => exact ⟨p, rfl, Nat.le_refl _, by omega, Lib.hid fun j hj h1 h2 => absurd h1 (by omega)⟩
  case round =>
    obtain ⟨k, rfl, hk1, hk2, HA⟩ := hrel
    by_cases hlt : k < q
    · obtain ⟨db, hdb⟩ : ∃ b, digB (s[k]'(by omega)) = b := ⟨_, rfl⟩
      have HDB := Lib.hid hdb
      clear hdb
      cases db
      · have hg := HG.out
        have hu : ((s.data.toList.drop p).take (q - p)).all digB = false := by
          rw [List.all_eq_false]
          refine ⟨s[k]'(by omega), List.mem_of_getElem? (i := k - p) ?_, by rw [HDB.out]; simp⟩
          rw [List.getElem?_take, if_pos (by omega), List.getElem?_drop, show p + (k - p) = k by omega]
          exact get8 (by omega)
        rw [hu, if_pos rfl] at hg
        have HG := Lib.hid hg.symm
        clear hg hu
        go_wp2_with (go_at_call 15; refine (rf8Digit_is _ _ HDB _).mono ?_; rintro e w' ⟨rfl, rfl⟩)
        exact bodyPost_ret (v := .agg #[.int .i64 0, .string ⟨#[]⟩, .int .i64 0, .int .i64 0, .int .i64 21]) (by simp [results, Tryz.results16, go_sem, k1]) rfl ⟨by rw [HG.out]; rfl, (by repeat (first | (with_reducible exact BB.out) | (with_reducible refine Below.setCell ?_ (by exact Nat.le_refl _) _)))⟩
      · go_wp2_with (go_at_call 15; refine (rf8Digit_is _ _ HDB _).mono ?_; rintro e w' ⟨rfl, rfl⟩)
        go_round
        case rel => exact ⟨k + 1, by go_num, by omega, by omega, Lib.hid fun j hj h1 h2 => by
            by_cases e : j = k
            · subst e; exact HDB.out
            · exact HA.out j hj h1 (by omega)⟩
        case measure => simp [intOf]; omega
    · obtain rfl : q = k := by omega
      have hu : ((s.data.toList.drop p).take (q - p)).all digB = true := by
        rw [List.all_eq_true]
        intro c hc
        obtain ⟨j, hj⟩ := List.mem_iff_getElem?.1 hc
        rw [List.getElem?_take] at hj
        split at hj
        · rw [List.getElem?_drop] at hj
          have h1 : p + j < s.size := by omega
          have h2 := get8 h1
          rw [h2] at hj
          rw [← Option.some.inj hj]
          exact HA.out (p + j) h1 (by omega) (by omega)
        · simp at hj
      have hg := HG.out
      rw [hu, if_neg (by simp)] at hg
      obtain ⟨U, hU⟩ : ∃ U, U = (s.data.toList.drop p).take (q - p) := ⟨_, rfl⟩
      rw [← hU] at hg hu
      have hU1 : U ≠ [] := fun e => by
        have := congrArg List.length hU
        rw [e, List.length_take, List.length_drop, HLEN.out, List.length_nil] at this
        omega
      obtain ⟨s1, s2, s3, s4, s5⟩ := strip_facts U hU1 hu
      obtain ⟨T, hT⟩ : ∃ T, T = stripZ U := ⟨_, rfl⟩
      have hST : Hid (stripZ ((s.data.toList.drop p).take (q - p)) = T) := Lib.hid (by rw [← hU, hT])
      rw [← hT] at s1 s2 s3 s4 s5 hg
      rw [← s4] at hg
      have HO := Lib.hid (over_iff s2 s1 s3)
      have HGT := Lib.hid hg
      clear HG hg hu hU hU1 s1 s2 s3 s4 s5 hT HA hk1 hk2 hlt
      go_wp2_with fail
      go_loop [1] (fun i => ∃ k : Nat, i = .int .i64 k ∧ p ≤ k ∧ k < q ∧ Hid (stripZ ((s.data.toList.drop k).take (q - k)) = T)) (fun i => s.size - (intOf i).toNat)
      case atStart => exact ⟨p, rfl, Nat.le_refl _, by omega, hST⟩
      case round =>
        obtain ⟨k, rfl, hk1, hk2, HA⟩ := hrel
        have hks : k < s.size := by omega
        obtain ⟨zb, hzb⟩ : ∃ b, decide (k + 1 < q ∧ s[k] = 48) = b := ⟨_, rfl⟩
        go_upto_region 7 with (fail)
        go_cut [32] from 23 to 33 (fun v W => v = .bool zb ∧ W = w1)
        case first =>
          by_cases h1 : k + 1 < q
          · obtain ⟨eb, heb⟩ : ∃ b, (s[k] == 48) = b := ⟨_, rfl⟩
            have a1 : ((s[k].toNat : Int) == 48) = eb := by rw [← heb]; exact byte_is (n := 48) (by decide)
            have HZ : Hid (zb = eb) := Lib.hid (by rw [← hzb, ← heb, Bool.eq_iff_iff]; simp [h1])
            clear heb hzb
            cases eb
            all_goals
              go_wp2_with fail
              go_meet
              case rel => exact ⟨by rw [HZ.out], rfl⟩
          · have HZ : Hid (zb = false) := Lib.hid (by rw [← hzb]; simp [h1])
            clear hzb
            go_wp2_with fail
            go_meet
            case rel => exact ⟨by rw [HZ.out], rfl⟩
        case rest =>
          obtain ⟨rfl, hwc⟩ := hcut
          obtain rfl := hwc.symm
          cases zb
          · have hno := of_decide_eq_false hzb
            have hV : s.extract k q = strB T := by
              apply ByteArray.ext; apply Array.ext'
              rw [ext_list]
              show _ = T
              rw [← HA.out, strip_stop hk2 (by rw [HLEN.out]; exact hq2)]
              rintro ⟨h1, h2⟩
              refine hno ⟨h1, ?_⟩
              rw [get8 hks] at h2
              exact Option.some.inj h2
            have hts : (strB T).size = q - k := by rw [← hV, ByteArray.size_extract]; omega
            have htl : T.length = q - k := by rw [← hts, strB_size]
            have HV := Lib.hid hV
            clear hno hzb hV
            obtain ⟨bl, hbl⟩ : ∃ b, Op.bytesLess T mostL = b := ⟨_, rfl⟩
            obtain ⟨eb, heb⟩ : ∃ b, (T == mostL) = b := ⟨_, rfl⟩
            have ho := HO.out
            rw [htl, hbl, heb] at ho
            have hg := HGT.out
            go_upto_region 10 with (fail)
            have hb2 : Op.bytesLess (s.extract k q).toList [57, 50, 50, 51, 51, 55, 50, 48, 51, 54, 56, 53, 52, 55, 55, 53, 56, 48, 55] = bl := by
              rw [HV.out, strB_is]; exact hbl
            have he2 : ((s.extract k q).toList == [57, 50, 50, 51, 51, 55, 50, 48, 51, 54, 56, 53, 52, 55, 55, 53, 56, 48, 55]) = eb := by
              rw [HV.out, strB_is]; exact heb
            have hsz : (s.extract k q).size = q - k := by rw [HV.out]; exact hts
            generalize s.extract k q = t at HV hb2 he2 hsz ⊢
            clear hbl heb hts htl
            have case_over : 9223372036854775807 < digV 0 T → Hid (GotV p G = GotV p (noneL 12)) := fun h => Lib.hid (by rw [← hg, if_pos h])
            have case_ok : ¬ 9223372036854775807 < digV 0 T → Hid (GotV p G = .agg #[.int .i64 1, .string t, .int .i64 0, .int .i64 q, .int .i64 0]) := fun h => Lib.hid (by
              rw [← hg, if_neg h, GotV, HV.out]
              simp only [if_true]
              rw [show p + (q - p) = q by omega])
            rw [ho] at case_over case_ok
            clear ho hg HGT HO
            by_cases h19 : 19 < t.size
            · have HG := case_over (.inl (by omega))
              clear case_over case_ok hb2 he2 hsz
              go_wp2_with fail
              exact bodyPost_ret (v := .agg #[.int .i64 0, .string ⟨#[]⟩, .int .i64 0, .int .i64 0, .int .i64 12]) (by simp [results, Tryz.results16, go_sem, k1]) rfl ⟨by rw [HG.out]; rfl, (by repeat (first | (with_reducible exact BB.out) | (with_reducible refine Below.setCell ?_ (by exact Nat.le_refl _) _)))⟩
            · by_cases e19 : t.size = 19
              · cases bl
                · cases eb
                  · have HG := case_over (.inr ⟨by omega, rfl, rfl⟩)
                    clear case_over case_ok hsz
                    go_wp2_with fail
                    exact bodyPost_ret (v := .agg #[.int .i64 0, .string ⟨#[]⟩, .int .i64 0, .int .i64 0, .int .i64 12]) (by simp [results, Tryz.results16, go_sem, k1]) rfl ⟨by rw [HG.out]; rfl, (by repeat (first | (with_reducible exact BB.out) | (with_reducible refine Below.setCell ?_ (by exact Nat.le_refl _) _)))⟩
                  · have HG := case_ok (by simp; omega)
                    clear case_over case_ok hsz
                    go_wp2_with fail
                    exact bodyPost_ret (v := .agg #[.int .i64 1, .string t, .int .i64 0, .int .i64 q, .int .i64 0]) (by simp [results, Tryz.results16, go_sem, k1]) rfl ⟨by rw [HG.out], (by repeat (first | (with_reducible exact BB.out) | (with_reducible refine Below.setCell ?_ (by exact Nat.le_refl _) _)))⟩
                · have HG := case_ok (by simp; omega)
                  clear case_over case_ok hsz
                  go_wp2_with fail
                  exact bodyPost_ret (v := .agg #[.int .i64 1, .string t, .int .i64 0, .int .i64 q, .int .i64 0]) (by simp [results, Tryz.results16, go_sem, k1]) rfl ⟨by rw [HG.out], (by repeat (first | (with_reducible exact BB.out) | (with_reducible refine Below.setCell ?_ (by exact Nat.le_refl _) _)))⟩
              · have HG := case_ok (by rintro (h | ⟨h, -⟩) <;> omega)
                clear case_over case_ok hb2 he2 hsz
                go_wp2_with fail
                exact bodyPost_ret (v := .agg #[.int .i64 1, .string t, .int .i64 0, .int .i64 q, .int .i64 0]) (by simp [results, Tryz.results16, go_sem, k1]) rfl ⟨by rw [HG.out], (by repeat (first | (with_reducible exact BB.out) | (with_reducible refine Below.setCell ?_ (by exact Nat.le_refl _) _)))⟩
          · have hyes := of_decide_eq_true hzb
            have HS : Hid (stripZ ((s.data.toList.drop (k + 1)).take (q - (k + 1))) = T) := Lib.hid (by rw [← HA.out]; exact (strip_step hyes.1 (by rw [HLEN.out]; exact hq2) (by rw [get8 hks, hyes.2])).symm)
            have h1 := hyes.1
            clear hyes hzb
            go_wp2_with fail
            go_round
            case rel => exact ⟨k + 1, by go_num, by omega, h1, HS⟩
            case measure => simp [intOf]; omega
end Go.Proofs.YtikahfnlflhbfaaGreatDoor
