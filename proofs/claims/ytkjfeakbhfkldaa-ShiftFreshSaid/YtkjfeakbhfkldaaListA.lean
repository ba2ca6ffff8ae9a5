/- The catalogue of functions: what Info, Find and their references hand back. No condition but that numbers fit an int. -/
import Derived.Test.YtkjfeakbhfkldaaRowsT
namespace Go.Proofs.Ytkjfeakbhfkldaa
open Go.RowKit

def rowAt (i : Nat) : FnRow := rowsT.getD i ⟨[], 0, 0, 0⟩
theorem rowsT_len : rowsT.length = 76 := by decide
theorem rows_at {i : Nat} (h : i < 76) : rowsT[i]? = some (rowAt i) := by
  rw [rowAt, List.getD_eq_getElem?_getD, List.getElem?_eq_getElem (by rw [rowsT_len]; exact h)]; rfl
theorem flat_at (r : FnRow) (j : Nat) (hj : j < 4) : ∀ (l : List FnRow) (i : Nat), l[i]? = some r → (l.flatMap FnRow.cells)[i * 4 + j]? = r.cells[j]?
  | [], i, h => by simp at h
  | x :: l, 0, h => by
    simp only [List.getElem?_cons_zero, Option.some.injEq] at h
    subst h
    rw [List.flatMap_cons, Nat.zero_mul, Nat.zero_add, List.getElem?_append_left (by simpa [FnRow.cells] using hj)]
  | x :: l, i + 1, h => by
    rw [List.flatMap_cons, List.getElem?_append_right (by simp [FnRow.cells]; omega)]
    rw [← flat_at r j hj l i (by simpa using h)]
    congr 1
    simp [FnRow.cells]; omega
theorem rows_cell (w : World) {i : Nat} (h : i < 76) {j : Nat} (hj : j < 4) {v : Value} (hv : (rowAt i).cells[j]? = some v) : (w.alloc rowsObj).cell? ⟨w.heap.size, i * 4 + j, none⟩ = some v := by
  unfold rowsObj
  rw [World.cell?_alloc_at _ _ _ _ rfl, List.getElem?_toArray]
  exact (flat_at _ _ hj _ _ (rows_at h)).trans hv

/-- What Info answers. -/
def infoRow (n : Int) : FnRow := if 1 ≤ n ∧ n ≤ 76 then rowAt (n.toNat - 1) else ⟨[], 0, 0, 0⟩
def infoErr (n : Int) : Int := if 1 ≤ n ∧ n ≤ 76 then 0 else 1
def infoV (n : Int) : Value := .tuple #[.agg (infoRow n).cells.toArray, .int .i64 (infoErr n)]
def InfoPost (n : Int) (w : World) (e : Ending) (w' : World) : Prop := e = .returned (infoV n) ∧ Below w.heap.size w w'
theorem infoV_no {n : Int} (h : ¬ (1 ≤ n ∧ n ≤ 76)) : infoV n = .tuple #[.agg #[.string ⟨#[]⟩, .int .i64 0, .int .i64 0, .int .i64 0], .int .i64 1] := by
  simp [infoV, infoRow, infoErr, h, FnRow.cells]
theorem infoV_yes {k : Nat} (h : k < 76) : infoV (k + 1) = .tuple #[.agg #[.string ⟨(rowAt k).name.toArray⟩, .int .i64 (rowAt k).cls, .int .i64 (rowAt k).min, .int .i64 (rowAt k).max], .int .i64 0] := by
  have h2 : 1 ≤ (k : Int) + 1 ∧ (k : Int) + 1 ≤ 76 := by omega
  simp [infoV, infoRow, infoErr, h2, FnRow.cells]

/-- The cells of a row, wherever the list of rows lies. -/
theorem rows_cells {k : Nat} (h : k < 76) : (∀ (w : World) (b : Nat), w.heap.size = b → (w.alloc rowsObj).cell? ⟨b, k * 4, none⟩ = some (.string ⟨(rowAt k).name.toArray⟩)) ∧
    (∀ (w : World) (b : Nat), w.heap.size = b → (w.alloc rowsObj).cell? ⟨b, k * 4 + 1, none⟩ = some (.int .i64 (rowAt k).cls)) ∧
    (∀ (w : World) (b : Nat), w.heap.size = b → (w.alloc rowsObj).cell? ⟨b, k * 4 + 2, none⟩ = some (.int .i64 (rowAt k).min)) ∧
    (∀ (w : World) (b : Nat), w.heap.size = b → (w.alloc rowsObj).cell? ⟨b, k * 4 + 3, none⟩ = some (.int .i64 (rowAt k).max)) :=
  ⟨fun w b e => by subst e; exact rows_cell w h (j := 0) (by decide) rfl, fun w b e => by subst e; exact rows_cell w h (j := 1) (by decide) rfl,
   fun w b e => by subst e; exact rows_cell w h (j := 2) (by decide) rfl, fun w b e => by subst e; exact rows_cell w h (j := 3) (by decide) rfl⟩

set_option maxRecDepth 100000 in
set_option maxHeartbeats 1000000 in
theorem info_no (n : Int) (w : World) (h : ¬ (1 ≤ n ∧ n ≤ 76)) :
    Calls Try.prog 81 #[.int .i64 n] w (InfoPost n w) := by
  have hv := infoV_no h
  have H := Lib.hid hv; clear hv
  have hh : n < 1 ∨ (¬ n < 1 ∧ 76 < n) := by omega
  rcases hh with h1 | ⟨h1, h2⟩
  all_goals
    go_enter Try.func81, Try.ntmps81
    go_wp2_with (go_at_call 91; refine (rows_any _).mono ?_; rintro e w' ⟨rfl, rfl⟩)
    refine bodyPost_ret (v := infoV n) (by rw [H.out]; simp [results, Try.results81, go_sem]) rfl ⟨rfl, ?_⟩
    first | exact (Below.refl _ _).alloc (Nat.le_refl _) _ | exact (((Below.refl _ _).alloc (Nat.le_refl _) _).alloc (by simp) _)
set_option maxRecDepth 100000 in
set_option maxHeartbeats 1000000 in
theorem info_yes (n : Int) (w : World) (h0 : 1 ≤ n) (h1 : n ≤ 76) :
    Calls Try.prog 81 #[.int .i64 n] w (InfoPost n w) := by
  obtain ⟨k, rfl⟩ : ∃ k : Nat, n = k + 1 := ⟨n.toNat - 1, by omega⟩
  have hv := infoV_yes (k := k) (by omega)
  have H := Lib.hid hv; clear hv
  obtain ⟨c0, c1, c2, c3⟩ := rows_cells (k := k) (by omega)
  go_enter Try.func81, Try.ntmps81
  go_wp2_with (go_at_call 91; refine (rows_any _).mono ?_; rintro e w' ⟨rfl, rfl⟩)
  refine bodyPost_ret (v := infoV (k + 1)) (by rw [H.out]; simp [results, Try.results81, go_sem]) rfl ⟨rfl, ?_⟩
  exact (((Below.refl _ _).alloc (Nat.le_refl _) _).alloc (by simp) _)
theorem info_any (n : Int) (w : World) : Calls Try.prog 81 #[.int .i64 n] w (InfoPost n w) := by
  by_cases h : 1 ≤ n ∧ n ≤ 76
  · exact info_yes n w h.1 h.2
  · exact info_no n w h

set_option maxRecDepth 100000 in
set_option maxHeartbeats 1000000 in
theorem refInfo_no (n : Int) (w : World) (h : ¬ (1 ≤ n ∧ n ≤ 76)) :
    Calls Try.prog 95 #[.int .i64 n] w (InfoPost n w) := by
  have hv := infoV_no h
  have H := Lib.hid hv; clear hv
  have hh : n < 1 ∨ (¬ n < 1 ∧ 76 < n) := by omega
  rcases hh with h1 | ⟨h1, h2⟩
  all_goals
    go_enter Try.func95, Try.ntmps95
    go_wp2_with (go_at_call 102; refine (refRows_any _).mono ?_; rintro e w' ⟨rfl, rfl⟩)
    refine bodyPost_ret (v := infoV n) (by rw [H.out]; simp [results, Try.results95, go_sem]) rfl ⟨rfl, ?_⟩
    first | exact (Below.refl _ _).alloc (Nat.le_refl _) _ | exact (((Below.refl _ _).alloc (Nat.le_refl _) _).alloc (by simp) _)
set_option maxRecDepth 100000 in
set_option maxHeartbeats 1000000 in
theorem refInfo_yes (n : Int) (w : World) (h0 : 1 ≤ n) (h1 : n ≤ 76) :
    Calls Try.prog 95 #[.int .i64 n] w (InfoPost n w) := by
  obtain ⟨k, rfl⟩ : ∃ k : Nat, n = k + 1 := ⟨n.toNat - 1, by omega⟩
  have hv := infoV_yes (k := k) (by omega)
  have H := Lib.hid hv; clear hv
  obtain ⟨c0, c1, c2, c3⟩ := rows_cells (k := k) (by omega)
  go_enter Try.func95, Try.ntmps95
  go_wp2_with (go_at_call 102; refine (refRows_any _).mono ?_; rintro e w' ⟨rfl, rfl⟩)
  refine bodyPost_ret (v := infoV (k + 1)) (by rw [H.out]; simp [results, Try.results95, go_sem]) rfl ⟨rfl, ?_⟩
  exact (((Below.refl _ _).alloc (Nat.le_refl _) _).alloc (by simp) _)
theorem refInfo_any (n : Int) (w : World) : Calls Try.prog 95 #[.int .i64 n] w (InfoPost n w) := by
  by_cases h : 1 ≤ n ∧ n ≤ 76
  · exact refInfo_yes n w h.1 h.2
  · exact refInfo_no n w h
end Go.Proofs.Ytkjfeakbhfkldaa
