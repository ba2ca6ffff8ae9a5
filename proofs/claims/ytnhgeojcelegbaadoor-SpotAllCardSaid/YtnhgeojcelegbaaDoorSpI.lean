/- References' texts: areas; the order. -/
import Derived.Test.YtnhgeojcelegbaaDoorSpG
namespace Go.Proofs.YtnhgeojcelegbaaDoor
open Go.RowKit Go.Lib

theorem first58 {l : List UInt8} {r : ByteArray} {k : Nat} (h : r.data.toList = l.drop k) (e : l[k]? = some 58) {hx : 0 < r.size} : (((r[0]'hx).toNat : Int) != 58) = false := by
  have h1 : r.data.toList[0]? = some (r[0]'hx) := by rw [List.getElem?_eq_getElem (by simpa using hx)]; rfl
  rw [h, List.getElem?_drop, Nat.add_zero, e] at h1
  rw [← Option.some.inj h1]; rfl
theorem first58' {l : List UInt8} {r : ByteArray} {k : Nat} (h : r.data.toList = l.drop k) (hx : 0 < r.size) (e : (((r[0]'hx).toNat : Int) != 58) = false) : l[k]? = some 58 := by
  have h1 : r.data.toList[0]? = some (r[0]'hx) := by rw [List.getElem?_eq_getElem (by simpa using hx)]; rfl
  rw [h, List.getElem?_drop, Nat.add_zero] at h1
  rw [h1]; congr 1
  apply UInt8.toNat_inj.1
  have e2 : ((r[0]'hx).toNat : Int) = 58 := by simpa using e
  show _ = 58
  omega
theorem areaAns_eq (l : List UInt8) : areaAns l = if (refAns l).e = 20 then (⟨0, 0, 0, 0⟩, 20)
  else if (refAns l).n = l.length then (if (refAns l).e ≠ 0 then (⟨0, 0, 0, 0⟩, 10) else areaOfR (refAns l).ref (refAns l).ref)
  else if l[(refAns l).n]? ≠ some 58 then (⟨0, 0, 0, 0⟩, 20)
  else if (refAns (l.drop ((refAns l).n + 1))).e = 20 ∨ (refAns l).n + 1 + (refAns (l.drop ((refAns l).n + 1))).n ≠ l.length then (⟨0, 0, 0, 0⟩, 20)
  else if (refAns l).e ≠ 0 ∨ (refAns (l.drop ((refAns l).n + 1))).e ≠ 0 then (⟨0, 0, 0, 0⟩, 10) else areaOfR (refAns l).ref (refAns (l.drop ((refAns l).n + 1))).ref := by
  have h1 := (refAns_facts l).2.2.2.2.2.1
  have h2 := (refAns_facts (l.drop ((refAns l).n + 1))).2.2.2.2.2.1
  unfold areaAns
  simp only [h1, h2]
def ArPost (l : List UInt8) (w : World) (e : Ending) (w' : World) : Prop := e = .returned (.tuple #[.agg #[.int .i64 (areaAns l).1.top, .int .i64 (areaAns l).1.left, .int .i64 (areaAns l).1.bottom, .int .i64 (areaAns l).1.right], .int .i64 (areaAns l).2]) ∧ Below w.heap.size w w'
set_option maxRecDepth 10000 in
set_option maxHeartbeats 4000000 in
theorem readArea_any (s : ByteArray) (w : World) (L : LaidW w) (hs : s.size ≤ 140737488355328) : Calls Tryd.prog 27 #[.string s] w (ArPost s.data.toList w) := by
  have HL := Lib.hid L
  clear L
  go_enter Tryd.func27, Tryd.ntmps27
  go_wp2_with fail
  refine (readRef_any s _ (HL.out.kept (ext_alloc (Below.refl _ w) _)) hs).mono ?_
  rintro e w2 ⟨rfl, b2⟩
  obtain ⟨A, hA⟩ : ∃ A, A = refAns s.data.toList := ⟨_, rfl⟩
  have fa := refAns_facts s.data.toList
  rw [← hA] at fa ⊢
  obtain ⟨⟨row, col, pr, pc⟩, n, er⟩ := A
  simp only [RefVal] at fa ⊢
  obtain ⟨a1, a2, a3, a4, a5, a6, a7⟩ := fa
  rw [← Lib.size_eq] at a1
  have HA := Lib.hid hA
  have HI := Lib.hid a6
  have z2 := (kept_block b2).1
  have k2 := (kept_block b2).2
  have f2 : ∀ o, w2.frozen? ⟨w.heap.size, o, none⟩ = false := fun o => by
    rw [b2.frozen (p := ⟨w.heap.size, o, none⟩) (by simp)]
    exact World.frozen?_alloc_at _ _ _ _ rfl
  have B2 := Lib.hid ((ext_alloc (Below.refl _ w) (.cells #[.int .i64 0, .int .i64 0, .int .i64 0, .int .i64 0] 52)).trans (b2.mono (by simp)))
  clear b2 hA a6
  have z3 : w.heap.size < w2.heap.size + 1 := by omega
  have z4 : w.heap.size < w2.heap.size + 1 + 1 := by omega
  by_cases h20 : er = 20
  · subst h20
    go_wp2
    have BB := B2
    exact bodyPost_ret (v := .tuple #[.agg #[.int .i64 0, .int .i64 0, .int .i64 0, .int .i64 0], .int .i64 20]) (by simp [results, Tryd.results27, go_sem, k2, World.cell?_alloc_past, z2]) rfl ⟨by rw [areaAns_eq, ← HA.out, if_pos (by simp)], (by repeat (first | (with_reducible exact BB.out) | (with_reducible refine Below.setCell ?_ (by first | exact Nat.le_refl _ | exact Nat.le_of_lt z3) _) | (with_reducible refine ext_alloc ?_ _)))⟩
  · clear a7
    go_upto_region 6 with (fail)
    have hrest : (s.extract n s.size).data.toList = s.data.toList.drop n := by
      rw [Lib.extract_data, List.take_of_length_le (by rw [List.length_drop, ← Lib.size_eq]; exact Nat.le_refl _)]
    have hrs : (s.extract n s.size).size = s.size - n := by simp
    generalize s.extract n s.size = rest at hrest hrs ⊢
    have HR := Lib.hid hrest
    by_cases hn : n = s.size
    · have hr0 : rest.toList = [] := by rw [ByteArray.toList_eq, hrest, List.drop_eq_nil_of_le (by rw [← Lib.size_eq]; omega)]
      have HN := Lib.hid hn
      clear hrs hn hrest
      have BB := B2
      go_upto_region 13 with (fail)
      by_cases he1 : er = 0
      · subst he1
        go_wp2
        exact bodyPost_ret (v := .tuple #[.agg #[.int .i64 row, .int .i64 col, .int .i64 row, .int .i64 col], .int .i64 0]) (by simp [results, Tryd.results27, go_sem, k2, World.cell?_alloc_past, z2, z3, z4]) rfl ⟨by rw [areaAns_eq, ← HA.out, if_neg h20, if_pos (by rw [← Lib.size_eq]; exact HN.out), if_neg (by simp), areaOfR, if_neg (by simp)]; simp, (by repeat (first | (with_reducible exact BB.out) | (with_reducible refine Below.setCell ?_ (by first | exact Nat.le_refl _ | exact Nat.le_of_lt z3) _) | (with_reducible refine ext_alloc ?_ _)))⟩
      · go_wp2
        exact bodyPost_ret (v := .tuple #[.agg #[.int .i64 0, .int .i64 0, .int .i64 0, .int .i64 0], .int .i64 10]) (by simp [results, Tryd.results27, go_sem, k2, World.cell?_alloc_past, z2, z3]) rfl ⟨by rw [areaAns_eq, ← HA.out, if_neg h20, if_pos (by rw [← Lib.size_eq]; exact HN.out), if_pos (by simp only [ne_eq]; omega)], (by repeat (first | (with_reducible exact BB.out) | (with_reducible refine Below.setCell ?_ (by first | exact Nat.le_refl _ | exact Nat.le_of_lt z3) _) | (with_reducible refine ext_alloc ?_ _)))⟩
    · have hr0 : 0 < rest.size := by omega
      have hr1 : rest.toList ≠ [] := fun e => by rw [ByteArray.toList_eq] at e; rw [Lib.size_eq, e] at hr0; simp at hr0
      have hr2 : rest.toList.isEmpty = false := by cases h : rest.toList with | nil => exact absurd h hr1 | cons _ _ => rfl
      have HRS := Lib.hid hrs
      have hrz : rest.size ≤ s.size := by omega
      clear hrs hrest
      go_wp2_with fail
      · have H58 := Lib.hid (show (((rest[0]'hr0).toNat : Int) != 58) = true by assumption)
        have BB := B2
        exact bodyPost_ret (v := .tuple #[.agg #[.int .i64 0, .int .i64 0, .int .i64 0, .int .i64 0], .int .i64 20]) (by simp [results, Tryd.results27, go_sem, k2, World.cell?_alloc_past, z2, z3]) rfl ⟨by rw [areaAns_eq, ← HA.out, if_neg h20, if_neg (by rw [← Lib.size_eq]; exact hn), if_pos (fun e => by have h := first58 (hx := hr0) HR.out e; rw [H58.out] at h; cases h)], (by repeat (first | (with_reducible exact BB.out) | (with_reducible refine Below.setCell ?_ (by first | exact Nat.le_refl _ | exact Nat.le_of_lt z3) _) | (with_reducible refine ext_alloc ?_ _)))⟩
      · have H58 := Lib.hid (show (((rest[0]'hr0).toNat : Int) != 58) = false by assumption)
        have LW := Lib.hid (HL.out.kept (ext_alloc (ext_alloc B2.out (.cells #[.int .i64 row, .int .i64 col, .bool pr, .bool pc] 28)) (.cells #[.int .i64 row, .int .i64 col, .bool pr, .bool pc] 28)))
        refine (readRef_any (rest.extract 1 rest.size) _ LW.out (by simp; omega)).mono ?_
        rintro e w3 ⟨rfl, b3⟩
        have er1 : (rest.extract 1 rest.size).data.toList = s.data.toList.drop (n + 1) := by
          rw [Lib.extract_data, HR.out, List.drop_drop, List.take_of_length_le]
          rw [List.length_drop]; have := HRS.out; rw [← Lib.size_eq]; omega
        rw [er1]
        obtain ⟨A2, hA2⟩ : ∃ A2, A2 = refAns (s.data.toList.drop (n + 1)) := ⟨_, rfl⟩
        have fa2 := refAns_facts (s.data.toList.drop (n + 1))
        rw [← hA2] at fa2 ⊢
        obtain ⟨⟨row2, col2, pr2, pc2⟩, n2, er2⟩ := A2
        simp only [RefVal] at fa2 ⊢
        obtain ⟨b1, b2, b3_, b4, b5, b6, b7⟩ := fa2
        have HA2 := Lib.hid hA2
        clear hA2 b6 er1 b1
        obtain ⟨y1, k3, k4⟩ := kept_block2 b3
        obtain ⟨f3, f4⟩ := kept_free2 b3
        have k5 : ∀ o, w3.cell? ⟨w.heap.size, o, none⟩ = (#[.int .i64 0, .int .i64 0, .int .i64 0, .int .i64 0] : Array Value)[o]? := fun o => (b3.cell (p := ⟨w.heap.size, o, none⟩) (by simp; omega)).trans ((World.cell?_alloc_past _ _ _ (by simp; omega)).trans ((World.cell?_alloc_past _ _ _ z2).trans (k2 o)))
        have f5 : ∀ o, w3.frozen? ⟨w.heap.size, o, none⟩ = false := fun o => (b3.frozen (p := ⟨w.heap.size, o, none⟩) (by simp; omega)).trans ((World.frozen?_alloc_past _ _ _ (by simp; omega)).trans ((World.frozen?_alloc_past _ _ _ z2).trans (f2 o)))
        have BB := Lib.hid ((ext_alloc (ext_alloc B2.out (.cells #[.int .i64 row, .int .i64 col, .bool pr, .bool pc] 28)) (.cells #[.int .i64 row, .int .i64 col, .bool pr, .bool pc] 28)).trans (b3.mono (by simp; omega)))
        have y2 : w.heap.size < w3.heap.size := by omega
        clear b3 k2 f2
        by_cases h21 : er2 = 20
        · subst h21
          go_wp2
          exact bodyPost_ret (v := .tuple #[.agg #[.int .i64 0, .int .i64 0, .int .i64 0, .int .i64 0], .int .i64 20]) (by simp [results, Tryd.results27, go_sem, k5]) rfl ⟨by rw [areaAns_eq, ← HA.out, if_neg h20, if_neg (by rw [← Lib.size_eq]; exact hn), if_neg (by rw [first58' HR.out hr0 H58.out]; simp), ← HA2.out, if_pos (by simp)], (by repeat (first | (with_reducible exact BB.out) | (with_reducible refine Below.setCell ?_ (by first | exact Nat.le_refl _ | exact Nat.le_of_lt z3) _) | (with_reducible refine ext_alloc ?_ _)))⟩
        · clear b7
          by_cases hm : (n2 : Int) = (rest.size : Int) - 1
          · go_upto_region 13 with (fail)
            by_cases he1 : er = 0
            · subst he1
              by_cases he2 : er2 = 0
              · subst he2
                have hp0 : 0 ≤ (max row row2 - min row row2 + 1) * (max col col2 - min col col2 + 1) := Int.mul_nonneg (by omega) (by omega)
                have hp1 : (max row row2 - min row row2 + 1) * (max col col2 - min col col2 + 1) ≤ 65536 * 702 := Int.mul_le_mul (by omega) (by omega) (by omega) (by omega)
                by_cases hp : (max row row2 - min row row2 + 1) * (max col col2 - min col col2 + 1) > 4096
                · go_wp2
                  exact bodyPost_ret (v := .tuple #[.agg #[.int .i64 0, .int .i64 0, .int .i64 0, .int .i64 0], .int .i64 11]) (by simp [results, Tryd.results27, go_sem, k5, World.cell?_alloc_past, y2]) rfl ⟨by rw [areaAns_eq, ← HA.out, if_neg h20, if_neg (by rw [← Lib.size_eq]; exact hn), if_neg (by rw [first58' HR.out hr0 H58.out]; simp), ← HA2.out, if_neg (by rintro (h | h); exact h21 h; exact h (by simp only; rw [← Lib.size_eq]; have := HRS.out; omega)), if_neg (by simp), areaOfR]; simp only; rw [if_pos hp], (by repeat (first | (with_reducible exact BB.out) | (with_reducible refine Below.setCell ?_ (by first | exact Nat.le_refl _ | exact Nat.le_of_lt z3) _) | (with_reducible refine ext_alloc ?_ _)))⟩
                · go_wp2
                  exact bodyPost_ret (v := .tuple #[.agg #[.int .i64 (min row row2), .int .i64 (min col col2), .int .i64 (max row row2), .int .i64 (max col col2)], .int .i64 0]) (by simp [results, Tryd.results27, go_sem, k5, World.cell?_alloc_past, y2]) rfl ⟨by rw [areaAns_eq, ← HA.out, if_neg h20, if_neg (by rw [← Lib.size_eq]; exact hn), if_neg (by rw [first58' HR.out hr0 H58.out]; simp), ← HA2.out, if_neg (by rintro (h | h); exact h21 h; exact h (by simp only; rw [← Lib.size_eq]; have := HRS.out; omega)), if_neg (by simp), areaOfR]; simp only; rw [if_neg (by omega)], (by repeat (first | (with_reducible exact BB.out) | (with_reducible refine Below.setCell ?_ (by first | exact Nat.le_refl _ | exact Nat.le_of_lt z3) _) | (with_reducible refine ext_alloc ?_ _)))⟩
              · go_wp2
                exact bodyPost_ret (v := .tuple #[.agg #[.int .i64 0, .int .i64 0, .int .i64 0, .int .i64 0], .int .i64 10]) (by simp [results, Tryd.results27, go_sem, k5]) rfl ⟨by rw [areaAns_eq, ← HA.out, if_neg h20, if_neg (by rw [← Lib.size_eq]; exact hn), if_neg (by rw [first58' HR.out hr0 H58.out]; simp), ← HA2.out, if_neg (by rintro (h | h); exact h21 h; exact h (by simp only; rw [← Lib.size_eq]; have := HRS.out; omega)), if_pos (by simp only [ne_eq]; omega)], (by repeat (first | (with_reducible exact BB.out) | (with_reducible refine Below.setCell ?_ (by first | exact Nat.le_refl _ | exact Nat.le_of_lt z3) _) | (with_reducible refine ext_alloc ?_ _)))⟩
            · go_wp2
              exact bodyPost_ret (v := .tuple #[.agg #[.int .i64 0, .int .i64 0, .int .i64 0, .int .i64 0], .int .i64 10]) (by simp [results, Tryd.results27, go_sem, k5]) rfl ⟨by rw [areaAns_eq, ← HA.out, if_neg h20, if_neg (by rw [← Lib.size_eq]; exact hn), if_neg (by rw [first58' HR.out hr0 H58.out]; simp), ← HA2.out, if_neg (by rintro (h | h); exact h21 h; exact h (by simp only; rw [← Lib.size_eq]; have := HRS.out; omega)), if_pos (by simp only [ne_eq]; omega)], (by repeat (first | (with_reducible exact BB.out) | (with_reducible refine Below.setCell ?_ (by first | exact Nat.le_refl _ | exact Nat.le_of_lt z3) _) | (with_reducible refine ext_alloc ?_ _)))⟩
          · have hm2 : ((n2 : Int) != (rest.size : Int) - 1) = true := by simpa using hm
            go_wp2
            exact bodyPost_ret (v := .tuple #[.agg #[.int .i64 0, .int .i64 0, .int .i64 0, .int .i64 0], .int .i64 20]) (by simp [results, Tryd.results27, go_sem, k5]) rfl ⟨by rw [areaAns_eq, ← HA.out, if_neg h20, if_neg (by rw [← Lib.size_eq]; exact hn), if_neg (by rw [first58' HR.out hr0 H58.out]; simp), ← HA2.out, if_pos (.inr (by simp only; rw [← Lib.size_eq]; have := HRS.out; omega))], (by repeat (first | (with_reducible exact BB.out) | (with_reducible refine Below.setCell ?_ (by first | exact Nat.le_refl _ | exact Nat.le_of_lt z3) _) | (with_reducible refine ext_alloc ?_ _)))⟩
end Go.Proofs.YtnhgeojcelegbaaDoor
