/- PrintKids: a node's text has its kids' texts in it, in order. No program in sight. -/
import Derived.Test.YtnhgeojcelegbaaDoorPrR
import Derived.Test.YtnhgeojcelegbaaDoorPrA
namespace Go.Proofs.YtnhgeojcelegbaaDoor
open Go.RowKit Go.Lib

/-- The texts of a list lie in a text, one behind the other. -/
def Occ : List (List UInt8) → List UInt8 → Prop
  | [], _ => True
  | k :: ks, r => ∃ x r', r = x ++ (k ++ r') ∧ Occ ks r'
theorem Occ.ahead (y : List UInt8) : ∀ {ks : List (List UInt8)} {r : List UInt8}, Occ ks r → Occ ks (y ++ r)
  | [], _, _ => trivial
  | k :: ks, r, ⟨x, r', e, h⟩ => ⟨y ++ x, r', by rw [e]; simp, h⟩
/-- Found at once: what follows has the others. -/
theorem Occ.hit {k : List UInt8} {ks : List (List UInt8)} {r : List UInt8} (h : Occ (k :: ks) r) (e : r.take k.length = k) : Occ ks (r.drop k.length) := by
  obtain ⟨x, r', hr, ho⟩ := h
  have h1 : r = k ++ r.drop k.length := by conv => lhs; rw [← List.take_append_drop k.length r, e]
  have h2 : r.drop k.length = (x ++ k).drop k.length ++ r' := by
    rw [hr, ← List.append_assoc, List.drop_append_of_le_length (by simp)]
  rw [h2]
  exact ho.ahead _
/-- Not found here: it lies further on. -/
theorem Occ.miss {k : List UInt8} {ks : List (List UInt8)} {r : List UInt8} (h : Occ (k :: ks) r) (e : r.take k.length ≠ k) : Occ (k :: ks) (r.drop 1) := by
  obtain ⟨x, r', hr, ho⟩ := h
  cases x with
  | nil => exact absurd (by rw [hr]; simp) e
  | cons c x => exact ⟨x, r', by rw [hr]; simp, ho⟩
theorem Occ.len {k : List UInt8} {ks : List (List UInt8)} {r : List UInt8} (h : Occ (k :: ks) r) : k.length ≤ r.length := by
  obtain ⟨x, r', hr, -⟩ := h
  rw [hr]; simp; omega
theorem from_occ (k : Hd × List UInt8) (n : Int) : ∃ x y, fromL k n = x ++ (k.2 ++ y) := by
  unfold fromL
  split
  · exact ⟨[], [], by simp⟩
  · exact ⟨[40], [41], by simp⟩
theorem args_occ : ∀ (l : List (Hd × List UInt8)) (i : Nat) (y : List UInt8), Occ (l.map (·.2)) (argsL l i ++ y)
  | [], _, _ => trivial
  | k :: r, i, y => ⟨if 0 < i then [44] else [], argsL r (i + 1) ++ y, by simp only [argsL]; simp, args_occ r (i + 1) y⟩
/-- The kids' texts of a tree. -/
def kidsL (ks : Trees) : List (List UInt8) := (txs ks).map (·.2)
theorem text_occ {h : Hd} {ks : Trees} (f : fitsV h ks.len = true) : Occ (kidsL ks) (textL h ks) := by
  obtain ⟨g1, g2, g3, g4, g5, g6⟩ := good_of f
  by_cases k7 : h.kind = 7
  · have hl : (txs ks).length = 1 := by rw [txs_len]; exact (g4 k7).2.2
    obtain ⟨a, ha⟩ := List.length_eq_one_iff.1 hl
    obtain ⟨x, y, e⟩ := from_occ a 7
    obtain ⟨x', y', e'⟩ := from_occ a 6
    have hk : kidAt [a] 0 = a := rfl
    unfold kidsL textL nodeL
    rw [ha]
    simp only [k7, List.map_cons, List.map_nil, hk]
    by_cases o3 : h.op = 3
    · refine ⟨x, y ++ [37], ?_, trivial⟩
      simp [o3, e]
    · refine ⟨(if h.op = 1 then [45] else [43]) ++ x', y', ?_, trivial⟩
      simp [o3, e']
  · by_cases k8 : h.kind = 8
    · have hl : (txs ks).length = 2 := by rw [txs_len]; exact (g5 k8).2.2
      obtain ⟨a, b, ha⟩ : ∃ a b, txs ks = [a, b] := by
        match h : txs ks, hl with
        | [a, b], _ => exact ⟨a, b, rfl⟩
      obtain ⟨x, y, e⟩ := from_occ a (levN h.op)
      obtain ⟨x', y', e'⟩ := from_occ b (levN h.op + 1)
      have hk : kidAt [a, b] 0 = a := rfl
      have hk1 : kidAt [a, b] 1 = b := rfl
      unfold kidsL textL nodeL
      rw [ha]
      simp only [k8, List.map_cons, List.map_nil, hk, hk1]
      refine ⟨x, y ++ (signL h.op ++ (x' ++ (b.2 ++ y'))), ?_, y ++ (signL h.op ++ x'), y', ?_, trivial⟩
      · simp [e, e']
      · simp
    · by_cases k9 : h.kind = 9
      · unfold kidsL textL nodeL
        simp only [k9]
        have h1 := (args_occ (txs ks) 0 [41]).ahead ((infoRow h.fn).name ++ [40])
        simpa using h1
      · have hl : ks.len = 0 := by
          unfold fitsV fitsB at f
          simp only [Bool.and_eq_true, Bool.or_eq_true, decide_eq_true_eq] at f
          have f7 := f.1.2
          rw [if_neg k9] at f7
          simp only [Bool.and_eq_true, decide_eq_true_eq, k7, k8, if_false] at f7
          exact f7.2
        cases ks with
        | nil => exact trivial
        | cons a b c => simp [Trees.len] at hl
theorem kids_cons (h : Hd) (k r : Trees) : kidsL (.cons h k r) = textL h k :: kidsL r := rfl
/-- A kid of a tree that may be may be. -/
theorem kid_may {h : Hd} {k r : Trees} (f : allFits (.cons h k r) = true) (hn : Trees.nodes (.cons h k r) ≤ 511) (hd : Trees.deep (.cons h k r) ≤ 63) (hb : Trees.bytes (.cons h k r) ≤ 16384) : mayE h k = 0 := by
  simp only [allFits, Bool.and_eq_true] at f
  simp only [Trees.nodes] at hn
  simp only [Trees.deep] at hd
  simp only [Trees.bytes] at hb
  have hf : Fine h k := ⟨by omega, by omega, by omega⟩
  have ht : treeFits h k = true := by simp only [treeFits, Bool.and_eq_true]; exact f.1
  unfold mayE
  rw [if_pos hf, if_pos ht]
end Go.Proofs.YtnhgeojcelegbaaDoor
