/- The catalogue of functions: the map of names, Find and the reference's Find. No condition but that a text has a length that Go's int holds. -/
import Derived.Test.YtpmgjmdionmdjaaListA
import Derived.Maps.Own
import Derived.Maps.OwnOps
import Derived.Maps.OwnSet
import Derived.Maps.Views
namespace Go.Proofs.Ytpmgjmdionmdjaa
open Go.RowKit Go.WideMaps Go.Maps

theorem rows_cells_at {k : Nat} (h : k < 76) {w : World} {b : Nat} (hb : w.heap[b]? = some rowsObj) : w.cell? ⟨b, k * 4, none⟩ = some (.string ⟨(rowAt k).name.toArray⟩) ∧
    w.cell? ⟨b, k * 4 + 1, none⟩ = some (.int .i64 (rowAt k).cls) ∧ w.cell? ⟨b, k * 4 + 2, none⟩ = some (.int .i64 (rowAt k).min) ∧ w.cell? ⟨b, k * 4 + 3, none⟩ = some (.int .i64 (rowAt k).max) := by
  have hz : (({ w with heap := #[] } : World).alloc rowsObj).heap[(0 : Nat)]? = some rowsObj := rfl
  obtain ⟨c0, c1, c2, c3⟩ := rows_cells h
  have e : ∀ o, w.cell? ⟨b, o, none⟩ = (({ w with heap := #[] } : World).alloc rowsObj).cell? ⟨0, o, none⟩ := fun o => by simp only [World.cell?, hb, hz]
  exact ⟨(e _).trans (c0 _ 0 rfl), (e _).trans (c1 _ 0 rfl), (e _).trans (c2 _ 0 rfl), (e _).trans (c3 _ 0 rfl)⟩

/-- The last row ahead of k that has a name. -/
def lastOf (l : List UInt8) : Nat → Option Nat
  | 0 => none
  | k + 1 => if (rowAt k).name = l then some k else lastOf l k
theorem lastOf_none {l : List UInt8} : ∀ k, (∀ j, j < k → (rowAt j).name ≠ l) → lastOf l k = none
  | 0, _ => rfl
  | k + 1, h => by rw [lastOf, if_neg (h k (by omega)), lastOf_none k fun j hj => h j (by omega)]
theorem names_two : ∀ i, i < 76 → ∀ j, j < 76 → (rowAt i).name = (rowAt j).name → i = j := by decide +kernel
theorem names_fine : ∀ i, i < 76 → (rowAt i).name ≠ [] ∧ (∀ c ∈ (rowAt i).name, 65 ≤ c ∧ c ≤ 90) ∧ (rowAt i).name.length ≤ 10 := by decide +kernel
theorem lastOf_some {l : List UInt8} {i : Nat} (hi : i < 76) (h : (rowAt i).name = l) : ∀ k, i < k → k ≤ 76 → lastOf l k = some i
  | 0, h0, _ => by omega
  | k + 1, h0, h1 => by
    rw [lastOf]
    by_cases e : (rowAt k).name = l
    · rw [if_pos e, names_two k (by omega) i hi (e.trans h.symm)]
    · rw [if_neg e]
      refine lastOf_some hi h k ?_ (by omega)
      rcases Nat.lt_or_ge i k with h2 | h2
      · exact h2
      · obtain rfl : i = k := by omega
        exact absurd h e
theorem lastOf_inv {l : List UInt8} {i : Nat} : ∀ k, lastOf l k = some i → i < k ∧ (rowAt i).name = l
  | 0, h => by simp [lastOf] at h
  | k + 1, h => by
    rw [lastOf] at h
    split at h
    · rename_i e
      simp only [Option.some.injEq] at h
      subst h
      exact ⟨by omega, e⟩
    · obtain ⟨a, b⟩ := lastOf_inv k h
      exact ⟨by omega, b⟩

/-- The map of names behind k rounds. -/
def namesD {H : Type} : Nat → DataW H
  | 0 => .map []
  | k + 1 => (namesD k).put (.string (rowAt k).name) (.lit (.int .i64 (k + 1)))
theorem namesD_map {H : Type} : ∀ k, IsMap (namesD (H := H) k)
  | 0 => isMap_empty
  | k + 1 => (namesD_map k).put _ _
theorem key_string (l : List UInt8) : WideAt.IsKeyLit (.string l) := trivial
theorem namesD_at {H : Type} (l : List UInt8) (z : DataW H) : ∀ k, (namesD k).atKey (.string l) z = (match lastOf l k with | some i => .lit (.int .i64 (i + 1)) | none => z)
  | 0 => by simp [namesD, lastOf, DataW.atKey]
  | k + 1 => by
    rw [namesD, lastOf]
    by_cases e : (rowAt k).name = l
    · subst e
      rw [if_pos rfl, atKey_put_same (namesD_map k) (key_string _)]
    · rw [if_neg e, atKey_put_other (by simpa using fun h => e h.symm), namesD_at l z k]
theorem namesD_has {H : Type} (l : List UInt8) : ∀ k, Maps.has (namesD (H := H) k) (.string l) = (lastOf l k).isSome
  | 0 => by simp [namesD, lastOf, Maps.has]
  | k + 1 => by
    rw [namesD, lastOf]
    by_cases e : (rowAt k).name = l
    · subst e
      rw [if_pos rfl, has_put_same (namesD_map k) (key_string _)]; rfl
    · rw [if_neg e, has_put_other (by simpa using fun h => e h.symm), namesD_has l k]

theorem strLaw : Keyed Try.prog 9 := string_keyed Try.underlying9
theorem zeroInt (w : World) : (zeroValue 3).run Try.prog w = .ok (.int .i64 0) w := by kernel_rfl

theorem keyRow (k : Nat) (h : k < 76) : keyOf Try.prog 9 (.string ⟨(rowAt k).name.toArray⟩) = some (.string (rowAt k).name) := by
  have h3 := (names_fine k h).2.2
  exact keyOf_string_mk Try.underlying9 (by simp [ByteArray.size, maxLen]; omega)

def NamesPost {H : Type} (w : World) (e : Ending) (w' : World) : Prop :=
  e = .returned (.map (some w.heap.size)) ∧ w'.ownsMap Try.prog 9 (plainElem (H := H) Try.prog 3) w.heap.size 76 (namesD 76) ∧ Below w.heap.size w w'

set_option maxRecDepth 100000 in
set_option maxHeartbeats 1000000 in
theorem names_any {H : Type} (w : World) : Calls Try.prog 11 #[] w (NamesPost (H := H) w) := by
  have hmm := @run_makeMap Try.prog
  go_enter Try.func11, Try.ntmps11
  go_wp2_with (go_at_call 13; refine (rows_any _).mono ?_; rintro e w' ⟨rfl, rfl⟩)
  go_loopw [7] (fun i wr => ∃ k : Nat, k ≤ 76 ∧ i = .int .i64 k ∧ wr.ownsMap Try.prog 9 (plainElem (H := H) Try.prog 3) w.heap.size k (namesD k) ∧ Below w.heap.size w wr ∧ wr.heap[w.heap.size + 1]? = some rowsObj)
    (fun i _ => 76 - (intOf i).toNat)
  case atStart =>
    refine ⟨0, Nat.zero_le _, rfl, (World.ownsMap_made _ _ _ _).alloc _, ((Below.refl _ _).alloc (Nat.le_refl _) _).alloc (by simp) _, ?_⟩
    exact heap_alloc2_new _ _ _
  case round =>
    obtain ⟨k, hk, rfl, hown, hnx, hrow⟩ := hrel
    by_cases hlt : k < 76
    · obtain ⟨c0, c1, c2, c3⟩ := rows_cells_at hlt hrow
      have hkey := keyRow k hlt
      have HR := Lib.hid hrow; clear hrow
      go_wp2_with (first
        | (at_mapUpdate; refine wpList_mapUpdate_own _ rfl _ _ _ 34 rfl 9 3 strLaw Try.underlying34 _ w.heap.size k _ rfl (hown.alloc _) (by unfold maxLen; omega) _ _ _ rfl rfl hkey _ [] (plainElem_int Try.underlying3 (WalkArith.wf_i64 (by omega))) ?_))
      intro w1 hown1 hgrow1
      have R1 : w1.ownsMap Try.prog 9 (plainElem (H := H) Try.prog 3) w.heap.size (k + 1) (namesD (k + 1)) := hown1
      have R2 := (hnx.alloc hnx.size _).grown hgrow1 (by have := hnx.size; simp; omega) (fun j hj => by cases hj; exact Nat.le_refl _)
      have R3 : w1.heap[w.heap.size + 1]? = some rowsObj := by
        have hs := lt_of_block HR.out
        rw [hgrow1.block _ (by simp; omega) (by simp)]
        rw [Below.heap_alloc _ _ _ hs]; exact HR.out
      have HR3 := Lib.hid R3
      clear hown1 hgrow1 hown R3 c0 c1 c2 c3 HR
      go_wp2
      go_roundw
      case rel => exact ⟨k + 1, by omega, by go_num, R1, R2, HR3.out⟩
      case measure => simp [intOf]; omega
    · have : k = 76 := by omega
      subst this
      clear hrow
      go_wp2
      go_ret
      exact ⟨rfl, hown, hnx⟩

/-- What Find answers. -/
def findN (l : List UInt8) : Int := match lastOf l 76 with | some i => i + 1 | none => 0
def findB (l : List UInt8) : Bool := (lastOf l 76).isSome
def findV (l : List UInt8) : Value := .tuple #[.int .i64 (findN l), .bool (findB l)]
def FindPost (l : List UInt8) (w : World) (e : Ending) (w' : World) : Prop := e = .returned (findV l) ∧ Below w.heap.size w w'

set_option maxRecDepth 100000 in
set_option maxHeartbeats 1000000 in
theorem find_any (s : ByteArray) (w : World) (hs : s.size ≤ maxLen) : Calls Try.prog 7 #[.string s] w (FindPost s.data.toList w) := by
  go_enter Try.func7, Try.ntmps7
  go_wp2_with (first
    | (go_at_call 11; refine (names_any (H := Unit) _).mono ?_; rintro e w1 ⟨rfl, hown, hb⟩)
    | (at_lookup; refine wpList_lookup_own_ok_int _ rfl _ _ 34 rfl 9 3 .i64 strLaw Try.underlying34 Try.underlying3 (zeroInt _) w.heap.size 76 _ rfl hown _ _ rfl (keyOf_string_mk Try.underlying9 hs) ?_; intro c hat hwc))
  have e : findV s.data.toList = .tuple #[.int .i64 c, .bool (Maps.has (namesD (H := Unit) 76) (.string s.data.toList))] := by
    rw [namesD_at] at hat
    rw [namesD_has]
    unfold findV findN findB
    cases h : lastOf s.data.toList 76 with
    | none => rw [h] at hat; simp at hat; simp [hat]
    | some i => rw [h] at hat; simp at hat; simp [hat]
  exact bodyPost_ret (v := findV s.data.toList) (by rw [e]; simp [results, Try.results7, go_sem]) rfl ⟨rfl, hb⟩

theorem findV_some {l : List UInt8} {i : Nat} (hi : i < 76) (h : (rowAt i).name = l) : findV l = .tuple #[.int .i64 (i + 1), .bool true] := by
  simp [findV, findN, findB, lastOf_some hi h 76 hi (Nat.le_refl _)]
theorem findV_none {l : List UInt8} (h : ∀ i, i < 76 → (rowAt i).name ≠ l) : findV l = .tuple #[.int .i64 0, .bool false] := by
  simp [findV, findN, findB, lastOf_none 76 h]

set_option maxRecDepth 100000 in
set_option maxHeartbeats 1000000 in
theorem refFind_any (s : ByteArray) (w : World) : Calls Try.prog 8 #[.string s] w (FindPost s.data.toList w) := by
  go_enter Try.func8, Try.ntmps8
  go_wp2_with (go_at_call 12; refine (refRows_any _).mono ?_; rintro e w' ⟨rfl, rfl⟩)
  have hrow : (w.alloc rowsObj).heap[w.heap.size]? = some rowsObj := heap_alloc_new _ _
  have HR := Lib.hid hrow; clear hrow
  go_loop [5] (fun i => ∃ k : Nat, k ≤ 76 ∧ i = .int .i64 k ∧ ∀ j, j < k → (rowAt j).name ≠ s.data.toList)
    (fun i => 76 - (intOf i).toNat)
  case atStart => exact ⟨0, Nat.zero_le _, rfl, fun j h => absurd h (by omega)⟩
  case round =>
    obtain ⟨k, hk, rfl, hno⟩ := hrel
    have HN := Lib.hid hno; clear hno
    by_cases hlt : k < 76
    · obtain ⟨c0, c1, c2, c3⟩ := rows_cells_at hlt HR.out
      clear c1 c2 c3
      go_wp2
      · have hn : ((rowAt k).name == s.toList) = true := by assumption
        have hn2 : (rowAt k).name = s.data.toList := by simpa [ByteArray.toList_eq] using hn
        have e := findV_some hlt hn2
        exact bodyPost_ret (v := findV s.data.toList) (by rw [e]; simp [results, Try.results8, go_sem]) rfl ⟨rfl, (Below.refl _ _).alloc (Nat.le_refl _) _⟩
      · have hn : ((rowAt k).name == s.toList) = false := by assumption
        have hn2 : (rowAt k).name ≠ s.data.toList := by simpa [ByteArray.toList_eq] using hn
        refine ⟨⟨k + 1, by omega, by go_num, fun j hj => ?_⟩, by simp [intOf]; omega⟩
        rcases Nat.lt_or_ge j k with h | h
        · exact HN.out j h
        · obtain rfl : j = k := by omega
          exact hn2
    · have : k = 76 := by omega
      subst this
      go_wp2
      have e := findV_none HN.out
      exact bodyPost_ret (v := findV s.data.toList) (by rw [e]; simp [results, Try.results8, go_sem]) rfl ⟨rfl, (Below.refl _ _).alloc (Nat.le_refl _) _⟩
end Go.Proofs.Ytpmgjmdionmdjaa
