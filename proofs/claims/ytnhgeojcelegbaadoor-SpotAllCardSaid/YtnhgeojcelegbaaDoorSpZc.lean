/- The document's own answer for references: a place's one text read. -/
import Derived.Test.YtnhgeojcelegbaaDoorSpZb
namespace Go.Proofs.YtnhgeojcelegbaaDoor
open Go.RowKit Go.Lib

theorem any_stop {p : UInt8 → Bool} {l : List UInt8} {k : Nat} {c : UInt8} (h : l[k]? = some c) (hc : p c = true) : l.any p = true :=
  List.any_eq_true.2 ⟨c, List.mem_of_getElem? h, hc⟩
set_option maxRecDepth 10000 in
set_option maxHeartbeats 2000000 in
theorem rfRead_any (s : ByteArray) (w : World) (hs : s.size ≤ 140737488355328) : Calls Tryd.prog 68 #[.string s] w (ReadPost s.data.toList w) := by
  unfold ReadPost
  go_enter Tryd.func68, Tryd.ntmps68
  go_wp2_with fail
  refine (rfForm_any s _ hs).mono ?_
  rintro e w2 ⟨he, b2⟩
  have z2 := (kept_block b2).1
  have k1 := (kept_block b2).2
  have f1 : ∀ o, w2.frozen? ⟨w.heap.size, o, none⟩ = false := fun o => by
    rw [b2.frozen (p := ⟨w.heap.size, o, none⟩) (by simp)]
    exact World.frozen?_alloc_at _ _ _ _ rfl
  have B1 := Lib.hid ((ext_alloc (Below.refl _ w) (.cells #[.int .i64 0, .int .i64 0] 39)).trans (b2.mono (by simp)))
  clear b2
  have kz : ∀ (a b : Value) (O : Obj) (o : Nat), (((w2.setCell ⟨w.heap.size, 0, none⟩ a).setCell ⟨w.heap.size, 1, none⟩ b).alloc O).cell? ⟨w.heap.size, o, none⟩ = ((w2.setCell ⟨w.heap.size, 0, none⟩ a).setCell ⟨w.heap.size, 1, none⟩ b).cell? ⟨w.heap.size, o, none⟩ := fun a b O o => World.cell?_alloc_past _ _ _ (by simpa using z2)
  have KZ := Lib.hid kz
  clear kz
  cases hf : form s.data.toList with
  | none =>
    simp only [FmVal, hf] at he
    subst he
    have HF := Lib.hid (show spotAns s.data.toList = (0, 0, 20) by simp only [spotAns, hf])
    clear hf
    go_wp2
    exact bodyPost_ret (v := .tuple #[.agg #[.int .i64 0, .int .i64 0], .int .i64 20]) (by simp [results, Tryd.results68, go_sem, k1, KZ.out]) rfl ⟨by rw [HF.out], (by repeat (first | (with_reducible exact B1.out) | (with_reducible refine Below.setCell ?_ (by exact Nat.le_refl _) _) | (with_reducible refine ext_alloc ?_ _)))⟩
  | some x =>
    obtain ⟨n, c, r, pc, pr⟩ := x
    obtain ⟨y1, y2, y3, y4, y5⟩ := form_facts hf
    simp only at y1 y2 y3 y4 y5
    simp only [FmVal, hf] at he
    subst he
    have hb0 : ((n : Int) == 0) = false := by rw [beq_eq_false_iff_ne]; omega
    have hp := placeB_iff y3 y4
    have SA := Lib.hid (show spotAns s.data.toList = if n ≠ s.data.toList.length ∨ pc = true ∨ pr = true ∨ s.data.toList.any lowB = true then (0, 0, 20) else if c < 702 ∧ r < 65536 then (r, c, 0) else (0, 0, 10) by simp only [spotAns, hf])
    have HP := Lib.hid hp
    rw [← Lib.size_eq] at y2
    clear hf hp
    by_cases hn : n = s.size
    rotate_left
    · have hb1 : ((n : Int) != (s.size : Int)) = true := by simp; omega
      have HN := Lib.hid hn
      clear hn
      have HF := Lib.hid (show spotAns s.data.toList = (0, 0, 20) by rw [SA.out, if_pos (.inl (by rw [← Lib.size_eq]; exact HN.out))])
      go_wp2
      exact bodyPost_ret (v := .tuple #[.agg #[.int .i64 0, .int .i64 0], .int .i64 20]) (by simp [results, Tryd.results68, go_sem, k1, KZ.out]) rfl ⟨by rw [HF.out], (by repeat (first | (with_reducible exact B1.out) | (with_reducible refine Below.setCell ?_ (by exact Nat.le_refl _) _) | (with_reducible refine ext_alloc ?_ _)))⟩
    have hb1 : ((n : Int) != (s.size : Int)) = false := by simp; omega
    have HN := Lib.hid hn
    clear hn
    cases pc
    rotate_left
    · have HF := Lib.hid (show spotAns s.data.toList = (0, 0, 20) by rw [SA.out, if_pos (.inr (.inl rfl))])
      go_wp2
      exact bodyPost_ret (v := .tuple #[.agg #[.int .i64 0, .int .i64 0], .int .i64 20]) (by simp [results, Tryd.results68, go_sem, k1, KZ.out]) rfl ⟨by rw [HF.out], (by repeat (first | (with_reducible exact B1.out) | (with_reducible refine Below.setCell ?_ (by exact Nat.le_refl _) _) | (with_reducible refine ext_alloc ?_ _)))⟩
    cases pr
    rotate_left
    · have HF := Lib.hid (show spotAns s.data.toList = (0, 0, 20) by rw [SA.out, if_pos (.inr (.inr (.inl rfl)))])
      go_wp2
      exact bodyPost_ret (v := .tuple #[.agg #[.int .i64 0, .int .i64 0], .int .i64 20]) (by simp [results, Tryd.results68, go_sem, k1, KZ.out]) rfl ⟨by rw [HF.out], (by repeat (first | (with_reducible exact B1.out) | (with_reducible refine Below.setCell ?_ (by exact Nat.le_refl _) _) | (with_reducible refine ext_alloc ?_ _)))⟩
    go_wp2
    go_loop [5] (fun i => ∃ k : Nat, i = .int .i64 k ∧ k ≤ s.size ∧ Hid ((s.data.toList.take k).any lowB = false)) (fun i => s.size - (intOf i).toNat)
    case atStart => exact ⟨0, rfl, Nat.zero_le _, Lib.hid rfl⟩
    case round =>
      obtain ⟨k, rfl, hk, H⟩ := hrel
      by_cases hlt : k < s.size
      · have hg : s.data.toList[k]? = some s[k] := by rw [List.getElem?_eq_getElem (by simpa using hlt)]; rfl
        by_cases hl : lowB s[k] = true
        · have HF := Lib.hid (show spotAns s.data.toList = (0, 0, 20) by rw [SA.out, if_pos (.inr (.inr (.inr (any_stop hg hl))))])
          obtain ⟨hl1, hl2⟩ : 97 ≤ s[k].toNat ∧ s[k].toNat ≤ 122 := by simpa [lowB] using hl
          clear hg hl
          go_wp2
          exact bodyPost_ret (v := .tuple #[.agg #[.int .i64 0, .int .i64 0], .int .i64 20]) (by simp [results, Tryd.results68, go_sem, k1, KZ.out]) rfl ⟨by rw [HF.out], (by repeat (first | (with_reducible exact B1.out) | (with_reducible refine Below.setCell ?_ (by exact Nat.le_refl _) _) | (with_reducible refine ext_alloc ?_ _)))⟩
        · have HK := Lib.hid (show (s.data.toList.take (k + 1)).any lowB = false by
            rw [List.take_add_one, hg]; simp only [List.any_append, H.out, Bool.false_or]
            simpa using hl)
          have hdd : s[k].toNat < 97 ∨ 122 < s[k].toNat := by simp only [lowB, Bool.and_eq_true, decide_eq_true_eq] at hl; omega
          clear hg hl
          rcases hdd with hdd | hdd
          all_goals
            go_wp2
            go_round
            case rel => exact ⟨k + 1, by go_num, by omega, HK⟩
            case measure => simp [intOf]; omega
      · have HA := Lib.hid (show s.data.toList.any lowB = false by
          have h := H.out
          rw [List.take_of_length_le (by rw [← Lib.size_eq]; omega)] at h
          exact h)
        have B2 := Lib.hid (ext_alloc B1.out (.cells #[.int .i64 n, .int .i64 c, .int .i64 r, .bool false, .bool false] 123))
        have B3 := Lib.hid (ext_alloc B2.out (.cells #[.int .i64 r, .int .i64 c] 39))
        have j1 := kpA (.cells #[.int .i64 r, .int .i64 c] 39) (show w.heap.size < (w2.alloc (.cells #[.int .i64 n, .int .i64 c, .int .i64 r, .bool false, .bool false] 123)).heap.size by simp; omega) (kpA (.cells #[.int .i64 n, .int .i64 c, .int .i64 r, .bool false, .bool false] 123) z2 k1)
        have g1 : ∀ o, ((w2.alloc (.cells #[.int .i64 n, .int .i64 c, .int .i64 r, .bool false, .bool false] 123)).alloc (.cells #[.int .i64 r, .int .i64 c] 39)).frozen? ⟨w.heap.size, o, none⟩ = false := fun o => (World.frozen?_alloc_past _ _ _ (by simp; omega)).trans ((World.frozen?_alloc_past _ _ _ z2).trans (f1 o))
        have n1 := nwA (A := #[.int .i64 r, .int .i64 c]) (T := 39) (w2.alloc (.cells #[.int .i64 n, .int .i64 c, .int .i64 r, .bool false, .bool false] 123))
        have J1 := Lib.hid j1; have G1 := Lib.hid g1; have N1 := Lib.hid n1
        clear j1 g1 n1
        by_cases q : c < 702 ∧ r < 65536
        all_goals
          have HQ := Lib.hid q
          go_wp2_with fail
          refine (rfMay_any r c _).mono ?_
          rintro e w3 ⟨he, b3⟩
          rw [HP.out] at he
          have k3 := kpC b3 (by simp; omega) J1.out
          have n3 := kpC b3 (by simp) N1.out
          have z3 : w.heap.size < w3.heap.size := Nat.lt_of_lt_of_le z2 (Nat.le_trans (by simp; omega) b3.size)
          have f3 : ∀ o, w3.frozen? ⟨w.heap.size, o, none⟩ = false := fun o => (b3.frozen (p := ⟨w.heap.size, o, none⟩) (by simp; omega)).trans (G1.out o)
          have B4 := Lib.hid (B3.out.trans (b3.mono B3.out.size))
          simp only [World.size_alloc] at n3
          clear b3
        · rw [decide_eq_true q] at he
          subst he
          have HF := Lib.hid (show spotAns s.data.toList = (r, c, 0) by rw [SA.out, if_neg (by
            rintro (h | h | h | h)
            · exact h (by rw [← Lib.size_eq]; exact HN.out)
            · cases h
            · cases h
            · rw [HA.out] at h; cases h), if_pos q])
          clear q
          go_wp2
          exact bodyPost_ret (v := .tuple #[.agg #[.int .i64 r, .int .i64 c], .int .i64 0]) (by simp [results, Tryd.results68, go_sem, k3]) rfl ⟨by rw [HF.out], (by repeat (first | (with_reducible exact B4.out) | (with_reducible refine Below.setCell ?_ (by exact Nat.le_refl _) _) | (with_reducible refine Below.drew ?_)))⟩
        · rw [decide_eq_false q] at he
          subst he
          have HF := Lib.hid (show spotAns s.data.toList = (0, 0, 10) by rw [SA.out, if_neg (by
            rintro (h | h | h | h)
            · exact h (by rw [← Lib.size_eq]; exact HN.out)
            · cases h
            · cases h
            · rw [HA.out] at h; cases h), if_neg q])
          clear q
          go_wp2
          exact bodyPost_ret (v := .tuple #[.agg #[.int .i64 0, .int .i64 0], .int .i64 10]) (by simp [results, Tryd.results68, go_sem, k3]) rfl ⟨by rw [HF.out], (by repeat (first | (with_reducible exact B4.out) | (with_reducible refine Below.setCell ?_ (by exact Nat.le_refl _) _) | (with_reducible refine Below.drew ?_)))⟩
end Go.Proofs.YtnhgeojcelegbaaDoor
