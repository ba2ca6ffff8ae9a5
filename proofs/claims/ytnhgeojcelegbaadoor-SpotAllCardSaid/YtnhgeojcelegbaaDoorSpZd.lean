/- The document's own answer for references: an area read. -/
import Derived.Test.YtnhgeojcelegbaaDoorSpZb
import Derived.Test.YtnhgeojcelegbaaDoorSpI
namespace Go.Proofs.YtnhgeojcelegbaaDoor
open Go.RowKit Go.Lib

set_option maxRecDepth 10000 in
set_option maxHeartbeats 4000000 in
theorem rfReadArea_any (s : ByteArray) (w : World) (hs : s.size ≤ 140737488355328) : Calls Tryd.prog 71 #[.string s] w (ArPost s.data.toList w) := by
  go_enter Tryd.func71, Tryd.ntmps71
  go_wp2_with fail
  refine (rfReadRef_any s _ hs).mono ?_
  rintro e w2 ⟨rfl, b2⟩
  obtain ⟨A, hA⟩ : ∃ A, A = refAns s.data.toList := ⟨_, rfl⟩
  have fa := refAns_facts s.data.toList
  rw [← hA] at fa ⊢
  obtain ⟨⟨row, col, pr, pc⟩, n, er⟩ := A
  simp only [RefVal] at fa ⊢
  obtain ⟨a1, a2, a3, a4, a5, a6, a7⟩ := fa
  rw [← Lib.size_eq] at a1
  have HA := Lib.hid hA
  have z2 := (kept_block b2).1
  have k2 := (kept_block b2).2
  have f2 : ∀ o, w2.frozen? ⟨w.heap.size, o, none⟩ = false := fun o => by
    rw [b2.frozen (p := ⟨w.heap.size, o, none⟩) (by simp)]
    exact World.frozen?_alloc_at _ _ _ _ rfl
  have B2 := Lib.hid ((ext_alloc (Below.refl _ w) (.cells #[.int .i64 0, .int .i64 0, .int .i64 0, .int .i64 0] 52)).trans (b2.mono (by simp)))
  have BB := B2
  clear b2 hA
  have z3 : w.heap.size < w2.heap.size + 1 := by omega
  have z4 : w.heap.size < w2.heap.size + 1 + 1 := by omega
  by_cases h20 : er = 20
  · subst h20
    obtain rfl : n = 0 := a6.2 rfl
    clear a6 a7
    go_wp2
    exact bodyPost_ret (v := .tuple #[.agg #[.int .i64 0, .int .i64 0, .int .i64 0, .int .i64 0], .int .i64 20]) (by simp [results, Tryd.results71, go_sem, k2, World.cell?_alloc_past, z2, z3]) rfl ⟨by rw [areaAns_eq, ← HA.out, if_pos (by simp)], (by repeat (first | (with_reducible exact BB.out) | (with_reducible refine Below.setCell ?_ (by first | exact Nat.le_refl _ | exact Nat.le_of_lt z3) _) | (with_reducible refine ext_alloc ?_ _) | (with_reducible refine Below.drew ?_)))⟩
  · have hn1 : 0 < n := Nat.pos_of_ne_zero fun e => h20 (a6.1 e)
    have hb0 : ((n : Int) == 0) = false := by rw [beq_eq_false_iff_ne]; omega
    clear a6
    by_cases hn : n = s.size
    · have hb1 : ((n : Int) != (s.size : Int)) = false := by simp; omega
      have hlt : ¬ ((n : Int) < (s.size : Int)) := by omega
      have HN := Lib.hid hn
      clear hn
      go_upto_region 12 with (fail)
      by_cases he1 : er = 0
      · subst he1
        go_wp2
        exact bodyPost_ret (v := .tuple #[.agg #[.int .i64 row, .int .i64 col, .int .i64 row, .int .i64 col], .int .i64 0]) (by simp [results, Tryd.results71, go_sem, k2, World.cell?_alloc_past, z2, z3, z4]) rfl ⟨by rw [areaAns_eq, ← HA.out, if_neg h20, if_pos (by rw [← Lib.size_eq]; exact HN.out), if_neg (by simp), areaOfR, if_neg (by simp)]; simp, (by repeat (first | (with_reducible exact BB.out) | (with_reducible refine Below.setCell ?_ (by first | exact Nat.le_refl _ | exact Nat.le_of_lt z3) _) | (with_reducible refine ext_alloc ?_ _) | (with_reducible refine Below.drew ?_)))⟩
      · go_wp2
        exact bodyPost_ret (v := .tuple #[.agg #[.int .i64 0, .int .i64 0, .int .i64 0, .int .i64 0], .int .i64 10]) (by simp [results, Tryd.results71, go_sem, k2, World.cell?_alloc_past, z2, z3]) rfl ⟨by rw [areaAns_eq, ← HA.out, if_neg h20, if_pos (by rw [← Lib.size_eq]; exact HN.out), if_pos (by simp only [ne_eq]; omega)], (by repeat (first | (with_reducible exact BB.out) | (with_reducible refine Below.setCell ?_ (by first | exact Nat.le_refl _ | exact Nat.le_of_lt z3) _) | (with_reducible refine ext_alloc ?_ _) | (with_reducible refine Below.drew ?_)))⟩
    · have hlt : n < s.size := by omega
      have hltI : (n : Int) < (s.size : Int) := by omega
      have hg : s.data.toList[n]? = some (s[n]'hlt) := by rw [List.getElem?_eq_getElem (by simpa using hlt)]; rfl
      have HN := Lib.hid hn
      by_cases h58 : (s[n]'hlt) = 58
      rotate_left
      · have hb58 : (((s[n]'hlt).toNat : Int) == 58) = false := by
          rw [beq_eq_false_iff_ne]
          intro e
          exact h58 (UInt8.toNat_inj.1 (by have : (58 : UInt8).toNat = 58 := rfl; omega))
        have hb1 : ((n : Int) != (s.size : Int)) = true := by simp; omega
        have H58 := Lib.hid (show s.data.toList[n]? ≠ some 58 from fun e => by rw [hg] at e; exact h58 (Option.some.inj e))
        clear hn hg h58
        go_wp2
        exact bodyPost_ret (v := .tuple #[.agg #[.int .i64 0, .int .i64 0, .int .i64 0, .int .i64 0], .int .i64 20]) (by simp [results, Tryd.results71, go_sem, k2, World.cell?_alloc_past, z2, z3]) rfl ⟨by rw [areaAns_eq, ← HA.out, if_neg h20, if_neg (by rw [← Lib.size_eq]; exact HN.out), if_pos H58.out], (by repeat (first | (with_reducible exact BB.out) | (with_reducible refine Below.setCell ?_ (by first | exact Nat.le_refl _ | exact Nat.le_of_lt z3) _) | (with_reducible refine ext_alloc ?_ _) | (with_reducible refine Below.drew ?_)))⟩
      · have hb58 : (((s[n]'hlt).toNat : Int) == 58) = true := by rw [h58]; rfl
        have H58 := Lib.hid (show s.data.toList[n]? = some 58 by rw [hg, h58])
        clear hn hg h58
        go_wp2_with fail
        refine (rfReadRef_any (s.extract (n + 1) s.size) _ (by rw [ByteArray.size_extract]; omega)).mono ?_
        rintro e w3 ⟨rfl, b3⟩
        have er1 : (s.extract (n + 1) s.size).data.toList = s.data.toList.drop (n + 1) := by
          rw [Lib.extract_data, List.take_of_length_le]
          rw [List.length_drop, ← Lib.size_eq]; exact Nat.le_refl _
        rw [er1]
        obtain ⟨A2, hA2⟩ : ∃ A2, A2 = refAns (s.data.toList.drop (n + 1)) := ⟨_, rfl⟩
        have fa2 := refAns_facts (s.data.toList.drop (n + 1))
        rw [← hA2] at fa2 ⊢
        obtain ⟨⟨row2, col2, pr2, pc2⟩, n2, er2⟩ := A2
        simp only [RefVal] at fa2 ⊢
        obtain ⟨b1, b2, b3_, b4, b5, b6, b7⟩ := fa2
        rw [List.length_drop, ← Lib.size_eq] at b1
        have HA2 := Lib.hid hA2
        clear hA2 er1
        obtain ⟨y1, k3, k4⟩ := kept_block2 b3
        obtain ⟨f3, f4⟩ := kept_free2 b3
        have k5 : ∀ o, w3.cell? ⟨w.heap.size, o, none⟩ = (#[.int .i64 0, .int .i64 0, .int .i64 0, .int .i64 0] : Array Value)[o]? := fun o => (b3.cell (p := ⟨w.heap.size, o, none⟩) (by simp; omega)).trans ((World.cell?_alloc_past _ _ _ (by simp; omega)).trans ((World.cell?_alloc_past _ _ _ z2).trans (k2 o)))
        have f5 : ∀ o, w3.frozen? ⟨w.heap.size, o, none⟩ = false := fun o => (b3.frozen (p := ⟨w.heap.size, o, none⟩) (by simp; omega)).trans ((World.frozen?_alloc_past _ _ _ (by simp; omega)).trans ((World.frozen?_alloc_past _ _ _ z2).trans (f2 o)))
        have B3 := Lib.hid ((ext_alloc (ext_alloc B2.out (.cells #[.int .i64 row, .int .i64 col, .bool pr, .bool pc] 28)) (.cells #[.int .i64 row, .int .i64 col, .bool pr, .bool pc] 28)).trans (b3.mono (by simp; omega)))
        have BB := B3
        have y2 : w.heap.size < w3.heap.size := by omega
        clear b3 k2 f2
        by_cases h21 : er2 = 20
        · subst h21
          obtain rfl : n2 = 0 := b6.2 rfl
          clear b6 b7
          go_wp2
          exact bodyPost_ret (v := .tuple #[.agg #[.int .i64 0, .int .i64 0, .int .i64 0, .int .i64 0], .int .i64 20]) (by simp [results, Tryd.results71, go_sem, k5]) rfl ⟨by rw [areaAns_eq, ← HA.out, if_neg h20, if_neg (by rw [← Lib.size_eq]; exact HN.out), if_neg (by rw [H58.out]; simp), ← HA2.out, if_pos (by simp)], (by repeat (first | (with_reducible exact BB.out) | (with_reducible refine Below.setCell ?_ (by first | exact Nat.le_refl _ | exact Nat.le_of_lt z3) _) | (with_reducible refine ext_alloc ?_ _) | (with_reducible refine Below.drew ?_)))⟩
        · have hn2 : 0 < n2 := Nat.pos_of_ne_zero fun e => h21 (b6.1 e)
          have hb2 : ((n2 : Int) == 0) = false := by rw [beq_eq_false_iff_ne]; omega
          have hb3 : ((n : Int) + 1 + (n2 : Int) == 0) = false := by rw [beq_eq_false_iff_ne]; omega
          clear b6
          by_cases hm : n + 1 + n2 = s.size
          · have hb4 : ((n : Int) + 1 + (n2 : Int) != (s.size : Int)) = false := by simp; omega
            have HM := Lib.hid hm
            clear hm
            go_upto_region 12 with (fail)
            by_cases he1 : er = 0
            · subst he1
              by_cases he2 : er2 = 0
              · subst he2
                have hp0 : 0 ≤ (max row row2 - min row row2 + 1) * (max col col2 - min col col2 + 1) := Int.mul_nonneg (by omega) (by omega)
                have hp1 : (max row row2 - min row row2 + 1) * (max col col2 - min col col2 + 1) ≤ 65536 * 702 := Int.mul_le_mul (by omega) (by omega) (by omega) (by omega)
                by_cases hp : (max row row2 - min row row2 + 1) * (max col col2 - min col col2 + 1) > 4096
                · go_wp2
                  exact bodyPost_ret (v := .tuple #[.agg #[.int .i64 0, .int .i64 0, .int .i64 0, .int .i64 0], .int .i64 11]) (by simp [results, Tryd.results71, go_sem, k5, World.cell?_alloc_past, y2]) rfl ⟨by rw [areaAns_eq, ← HA.out, if_neg h20, if_neg (by rw [← Lib.size_eq]; exact HN.out), if_neg (by rw [H58.out]; simp), ← HA2.out, if_neg (by rintro (h | h); exact h21 h; exact h (by simp only; rw [← Lib.size_eq]; have := HM.out; omega)), if_neg (by simp), areaOfR]; simp only; rw [if_pos hp], (by repeat (first | (with_reducible exact BB.out) | (with_reducible refine Below.setCell ?_ (by first | exact Nat.le_refl _ | exact Nat.le_of_lt z3) _) | (with_reducible refine ext_alloc ?_ _) | (with_reducible refine Below.drew ?_)))⟩
                · go_wp2
                  exact bodyPost_ret (v := .tuple #[.agg #[.int .i64 (min row row2), .int .i64 (min col col2), .int .i64 (max row row2), .int .i64 (max col col2)], .int .i64 0]) (by simp [results, Tryd.results71, go_sem, k5, World.cell?_alloc_past, y2]) rfl ⟨by rw [areaAns_eq, ← HA.out, if_neg h20, if_neg (by rw [← Lib.size_eq]; exact HN.out), if_neg (by rw [H58.out]; simp), ← HA2.out, if_neg (by rintro (h | h); exact h21 h; exact h (by simp only; rw [← Lib.size_eq]; have := HM.out; omega)), if_neg (by simp), areaOfR]; simp only; rw [if_neg (by omega)], (by repeat (first | (with_reducible exact BB.out) | (with_reducible refine Below.setCell ?_ (by first | exact Nat.le_refl _ | exact Nat.le_of_lt z3) _) | (with_reducible refine ext_alloc ?_ _) | (with_reducible refine Below.drew ?_)))⟩
              · go_wp2
                exact bodyPost_ret (v := .tuple #[.agg #[.int .i64 0, .int .i64 0, .int .i64 0, .int .i64 0], .int .i64 10]) (by simp [results, Tryd.results71, go_sem, k5]) rfl ⟨by rw [areaAns_eq, ← HA.out, if_neg h20, if_neg (by rw [← Lib.size_eq]; exact HN.out), if_neg (by rw [H58.out]; simp), ← HA2.out, if_neg (by rintro (h | h); exact h21 h; exact h (by simp only; rw [← Lib.size_eq]; have := HM.out; omega)), if_pos (by simp only [ne_eq]; omega)], (by repeat (first | (with_reducible exact BB.out) | (with_reducible refine Below.setCell ?_ (by first | exact Nat.le_refl _ | exact Nat.le_of_lt z3) _) | (with_reducible refine ext_alloc ?_ _) | (with_reducible refine Below.drew ?_)))⟩
            · go_wp2
              exact bodyPost_ret (v := .tuple #[.agg #[.int .i64 0, .int .i64 0, .int .i64 0, .int .i64 0], .int .i64 10]) (by simp [results, Tryd.results71, go_sem, k5]) rfl ⟨by rw [areaAns_eq, ← HA.out, if_neg h20, if_neg (by rw [← Lib.size_eq]; exact HN.out), if_neg (by rw [H58.out]; simp), ← HA2.out, if_neg (by rintro (h | h); exact h21 h; exact h (by simp only; rw [← Lib.size_eq]; have := HM.out; omega)), if_pos (by simp only [ne_eq]; omega)], (by repeat (first | (with_reducible exact BB.out) | (with_reducible refine Below.setCell ?_ (by first | exact Nat.le_refl _ | exact Nat.le_of_lt z3) _) | (with_reducible refine ext_alloc ?_ _) | (with_reducible refine Below.drew ?_)))⟩
          · have hb4 : ((n : Int) + 1 + (n2 : Int) != (s.size : Int)) = true := by simp; omega
            have HM := Lib.hid hm
            clear hm
            go_wp2
            exact bodyPost_ret (v := .tuple #[.agg #[.int .i64 0, .int .i64 0, .int .i64 0, .int .i64 0], .int .i64 20]) (by simp [results, Tryd.results71, go_sem, k5]) rfl ⟨by rw [areaAns_eq, ← HA.out, if_neg h20, if_neg (by rw [← Lib.size_eq]; exact HN.out), if_neg (by rw [H58.out]; simp), ← HA2.out, if_pos (.inr (by simp only; rw [← Lib.size_eq]; exact HM.out))], (by repeat (first | (with_reducible exact BB.out) | (with_reducible refine Below.setCell ?_ (by first | exact Nat.le_refl _ | exact Nat.le_of_lt z3) _) | (with_reducible refine ext_alloc ?_ _) | (with_reducible refine Below.drew ?_)))⟩
end Go.Proofs.YtnhgeojcelegbaaDoor
