/- References' texts as lists of bytes, and what the document tells of them. No program in sight. -/
import Derived.Test.YtikahfnlflhbfaaGreatDoorTreeM
import Derived.Lib.AtoiAll
import Derived.Lib.ItoaNum
import Derived.Lib.Case
import Derived.Lib.Strings
import Derived.Lib.Bytealg
namespace Go.Proofs.YtikahfnlflhbfaaGreatDoor
open Go.RowKit Go.Lib

def letB (c : UInt8) : Bool := (decide (65 ≤ c.toNat) && decide (c.toNat ≤ 90)) || (decide (97 ≤ c.toNat) && decide (c.toNat ≤ 122))
def digB (c : UInt8) : Bool := decide (48 ≤ c.toNat) && decide (c.toNat ≤ 57)
def letN (c : UInt8) : Int := if 65 ≤ c.toNat ∧ c.toNat ≤ 90 then (c.toNat : Int) - 65 else if 97 ≤ c.toNat ∧ c.toNat ≤ 122 then (c.toNat : Int) - 97 else -1
theorem letN_of {c : UInt8} (h : letB c = true) : 0 ≤ letN c ∧ letN c ≤ 25 ∧ (upperB c).toNat = letN c + 65 := by
  simp only [letB, Bool.or_eq_true, Bool.and_eq_true, decide_eq_true_eq] at h
  unfold letN upperB isLowerB
  rcases h with ⟨h1, h2⟩ | ⟨h1, h2⟩
  · rw [if_pos ⟨h1, h2⟩]
    have e : (decide (97 ≤ c) && decide (c ≤ 122)) = false := by
      rw [Bool.and_eq_false_iff]; left; simp only [decide_eq_false_iff_not, UInt8.le_iff_toNat_le]; simp; omega
    simp only [e, Bool.false_eq_true, if_false]
    omega
  · rw [if_neg (by omega), if_pos ⟨h1, h2⟩]
    have e : (decide (97 ≤ c) && decide (c ≤ 122)) = true := by
      simp only [Bool.and_eq_true, decide_eq_true_eq, UInt8.le_iff_toNat_le]; simp; omega
    simp only [e, if_true]
    rw [UInt8.toNat_sub_of_le _ _ (by rw [UInt8.le_iff_toNat_le]; simp; omega)]
    simp; omega
theorem letN_not {c : UInt8} (h : letB c = false) : letN c = -1 := by
  simp only [letB, Bool.or_eq_false_iff, Bool.and_eq_false_iff, decide_eq_false_iff_not] at h
  unfold letN
  rw [if_neg (by omega), if_neg (by omega)]
/-- How many at the beginning are of a kind. -/
def wh (p : UInt8 → Bool) (l : List UInt8) : Nat := (l.takeWhile p).length
theorem wh_le (p : UInt8 → Bool) (l : List UInt8) : wh p l ≤ l.length := (List.takeWhile_sublist p).length_le
theorem wh_stop (p : UInt8 → Bool) : ∀ (l : List UInt8) (k : Nat), (l.take k).all p = true → (∀ c, l[k]? = some c → p c = false) → k ≤ l.length → wh p l = k
  | [], k, _, _, h => by simp at h; subst h; rfl
  | c :: r, 0, _, h, _ => by have := h c rfl; simp [wh, this]
  | c :: r, k + 1, ha, h, hl => by
    simp only [List.take_succ_cons, List.all_cons, Bool.and_eq_true] at ha
    have := wh_stop p r k ha.2 (fun d hd => h d (by simpa using hd)) (by simpa using hl)
    simp only [wh] at this ⊢
    rw [List.takeWhile_cons_of_pos ha.1, List.length_cons, this]
theorem wh_all (p : UInt8 → Bool) (l : List UInt8) : (l.take (wh p l)).all p = true := by
  induction l with
  | nil => rfl
  | cons c r ih =>
    by_cases h : p c = true
    · simp only [wh] at ih ⊢
      rw [List.takeWhile_cons_of_pos h, List.length_cons, List.take_succ_cons, List.all_cons, h, ih]; rfl
    · simp only [wh] at ih ⊢
      rw [List.takeWhile_cons_of_neg h]; rfl
theorem wh_next (p : UInt8 → Bool) : ∀ (l : List UInt8) (c : UInt8), l[wh p l]? = some c → p c = false
  | [], c, h => by simp at h
  | d :: r, c, h => by
    by_cases q : p d = true
    · simp only [wh] at h
      rw [List.takeWhile_cons_of_pos q, List.length_cons, List.getElem?_cons_succ] at h
      exact wh_next p r c h
    · simp only [wh] at h
      rw [List.takeWhile_cons_of_neg q] at h
      simp at h
      subst h
      simpa using q
/-- Does a sign $ stand at a place? -/
def dol (l : List UInt8) (i : Nat) : Nat := if l[i]? = some 36 then 1 else 0
def colN : List UInt8 → Int
  | [a] => letN a
  | [a, b] => 26 + 26 * letN a + letN b
  | _ => 702
def digV (acc : Nat) : List UInt8 → Nat
  | [] => acc
  | c :: r => digV (acc * 10 + (c.toNat - 48)) r
def rowN (d : List UInt8) : Int := if 65536 < digV 0 d then 65536 else (digV 0 d : Int) - 1
structure Fm where
  n : Nat
  col : Int
  row : Int
  pc : Bool
  pr : Bool
/-- The reference that a text begins with. -/
def form (l : List UInt8) : Option Fm :=
  let a := dol l 0
  let w := wh letB (l.drop a)
  let b := dol l (a + w)
  let m := wh digB (l.drop (a + w + b))
  if w = 0 ∨ m = 0 ∨ l[a + w + b]? = some 48 then none
  else some ⟨a + w + b + m, colN ((l.drop a).take w), rowN ((l.drop (a + w + b)).take m), decide (a = 1), decide (b = 1)⟩
structure RefA where
  ref : RefT
  n : Nat
  e : Int
/-- P2.5. -/
def refAns (l : List UInt8) : RefA := match form l with
  | none => ⟨.zero, 0, 20⟩
  | some f => if f.col < 702 ∧ f.row < 65536 then ⟨⟨f.row, f.col, f.pr, f.pc⟩, f.n, 0⟩ else ⟨.zero, f.n, 10⟩
def lowB (c : UInt8) : Bool := decide (97 ≤ c.toNat) && decide (c.toNat ≤ 122)
/-- P2.3. -/
def spotAns (l : List UInt8) : Int × Int × Int := match form l with
  | none => (0, 0, 20)
  | some f => if f.n ≠ l.length ∨ f.pc = true ∨ f.pr = true ∨ l.any lowB = true then (0, 0, 20) else if f.col < 702 ∧ f.row < 65536 then (f.row, f.col, 0) else (0, 0, 10)
/-- P2.2, P2.4. -/
def lettersL (c : Int) : List UInt8 := if c < 26 then [UInt8.ofNat (65 + c.toNat)] else [UInt8.ofNat (65 + ((c - 26) / 26).toNat), UInt8.ofNat (65 + ((c - 26) % 26).toNat)]
def pinL (b : Bool) : List UInt8 := if b then [36] else []
def refTextL (r : RefT) : List UInt8 := if placeB r then pinL r.pc ++ lettersL r.col ++ pinL r.pr ++ decDigits (r.row + 1).toNat else []
def refTextE (r : RefT) : Int := if placeB r then 0 else 10
structure ArA where
  top : Int
  left : Int
  bottom : Int
  right : Int
deriving DecidableEq
/-- P2.6. -/
def areaOfR (a b : RefT) : ArA × Int := if (max a.row b.row - min a.row b.row + 1) * (max a.col b.col - min a.col b.col + 1) > 4096 then (⟨0, 0, 0, 0⟩, 11) else (⟨min a.row b.row, min a.col b.col, max a.row b.row, max a.col b.col⟩, 0)
def areaAns (l : List UInt8) : ArA × Int :=
  let x := refAns l
  if x.n = 0 then (⟨0, 0, 0, 0⟩, 20)
  else if x.n = l.length then (if x.e ≠ 0 then (⟨0, 0, 0, 0⟩, 10) else areaOfR x.ref x.ref)
  else if l[x.n]? ≠ some 58 then (⟨0, 0, 0, 0⟩, 20)
  else
    let y := refAns (l.drop (x.n + 1))
    if y.n = 0 ∨ x.n + 1 + y.n ≠ l.length then (⟨0, 0, 0, 0⟩, 20)
    else if x.e ≠ 0 ∨ y.e ≠ 0 then (⟨0, 0, 0, 0⟩, 10) else areaOfR x.ref y.ref
def cmpS (ar ac br bc : Int) : Int := if ar < br then -1 else if br < ar then 1 else if ac < bc then -1 else if bc < ac then 1 else 0
end Go.Proofs.YtikahfnlflhbfaaGreatDoor
