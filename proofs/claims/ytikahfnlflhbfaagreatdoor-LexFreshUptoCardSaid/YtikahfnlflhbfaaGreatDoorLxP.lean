/- A formula's words as lists of bytes, and what the document tells of them. No program in sight. -/
import Derived.Test.YtikahfnlflhbfaaGreatDoorSpP
import Derived.Lib.MapLaws
namespace Go.Proofs.YtikahfnlflhbfaaGreatDoor
open Go.RowKit Go.Lib

/-- A byte of a run. -/
def inB (c : UInt8) : Bool := letB c || digB c || c == 36 || c == 95
/-- How many bytes the blank at the beginning has. -/
def blankL : List UInt8 → Nat
  | [] => 0
  | c :: r => if c = 9 ∨ c = 10 ∨ c = 13 ∨ c = 32 then 1 else if c = 194 ∧ r.head? = some 160 then 2 else if c = 227 ∧ r.head? = some 128 ∧ r.tail.head? = some 128 then 3 else 0
/-- Leading zeros left away, but for the last digit. -/
def stripZ : List UInt8 → List UInt8
  | c :: d :: r => if c = 48 then stripZ (d :: r) else c :: d :: r
  | l => l
structure GotL where
  kind : Int
  text : List UInt8
  n : Nat
  err : Int
deriving DecidableEq
def noneL (e : Int) : GotL := ⟨0, [], 0, e⟩
def numberL (r : List UInt8) : GotL :=
  let w := r.take (wh inB r)
  if w.all digB = false then noneL 21 else if 9223372036854775807 < digV 0 w then noneL 12 else ⟨1, stripZ w, wh inB r, 0⟩
/-- What stands up to the closing quote, and how many bytes that takes. -/
def quoteL : List UInt8 → Option (List UInt8 × Nat)
  | [] => none
  | c :: r => if c = 34 then (match r with
      | [] => some ([], 1)
      | d :: r' => if d = 34 then (quoteL r').map fun x => (34 :: x.1, x.2 + 2) else some ([], 1))
    else (quoteL r).map fun x => (c :: x.1, x.2 + 1)
def textL8 (r : List UInt8) : GotL := match quoteL r.tail with
  | none => noneL 21
  | some x => ⟨2, x.1, x.2 + 1, 0⟩
def capL8 (l : List UInt8) : List UInt8 := l.map upperB
def trueL : List UInt8 := [84, 82, 85, 69]
def falseL : List UInt8 := [70, 65, 76, 83, 69]
def alnB (c : UInt8) : Bool := letB c || digB c
def nameB (w : List UInt8) : Bool := w.all alnB && (match w with | [] => false | c :: _ => letB c)
def namedL (r : List UInt8) : GotL :=
  let n := wh inB r
  let w := r.take n
  let called : Bool := (r.drop n).head? == some 40
  if called = false ∧ (capL8 w = trueL ∨ capL8 w = falseL) then ⟨5, capL8 w, n, 0⟩
  else if called = true ∧ nameB w = true then ⟨4, capL8 w, n, 0⟩
  else if (refAns w).n = n then ⟨3, w, n, 0⟩ else noneL 21
def errTab : List (List UInt8) := [[35, 78, 65, 77, 69, 63], [35, 78, 85, 77, 33], [35, 82, 69, 70, 33], [35, 86, 65, 76, 85, 69, 33], [35, 68, 73, 86, 47, 48, 33], [35, 78, 47, 65]]
def opTab : List (List UInt8) := [[40], [41], [44], [58], [94], [42], [47], [43], [45], [38], [61], [60], [62], [37], [60, 62], [60, 61], [62, 61]]
/-- The longest of some texts that stands at the beginning. -/
def listedL (r : List UInt8) (kind : Int) : List (List UInt8) → GotL → GotL
  | [], g => g
  | t :: ts, g => listedL r kind ts (if r.take t.length = t ∧ g.text.length < t.length then ⟨kind, t, t.length, 0⟩ else g)
def oneL (r : List UInt8) : GotL := match r with
  | [] => noneL 21
  | c :: _ => if digB c = true then numberL r else if c = 34 then textL8 r else if letB c = true ∨ c = 36 ∨ c = 95 then namedL r
    else if c = 35 then listedL r 6 errTab (noneL 21) else listedL r 7 opTab (noneL 21)
structure WordL where
  kind : Int
  text : List UInt8
  at_ : Int
deriving DecidableEq
structure CutA where
  words : List WordL
  to : Int
  err : Int
deriving DecidableEq
def cutR : Nat → Nat → List UInt8 → List WordL → CutA
  | 0, _, _, acc => ⟨acc, 0, 0⟩
  | f + 1, p, r, acc =>
    if r = [] then ⟨acc, 0, 0⟩
    else if 0 < blankL r then cutR f (p + blankL r) (r.drop (blankL r)) acc
    else if (oneL r).err ≠ 0 then ⟨[], p, (oneL r).err⟩
    else cutR f (p + (oneL r).n) (r.drop (oneL r).n) (acc ++ [⟨(oneL r).kind, (oneL r).text, p⟩])
def cutAt (l : List UInt8) (p : Nat) (acc : List WordL) : CutA := cutR (l.length - p + 1) p (l.drop p) acc
/-- P8.1. -/
def cutL (l : List UInt8) : CutA := if 65535 < l.length then ⟨[], 0, 2⟩ else cutAt l 0 []

theorem blankL_le (r : List UInt8) : blankL r ≤ r.length := by
  unfold blankL
  split
  · exact Nat.zero_le _
  · rename_i c r
    repeat' split
    · simp
    · rename_i h
      cases r with
      | nil => simp at h
      | cons _ _ => simp
    · rename_i h
      match r with
      | [] => simp at h
      | [_] => simp at h
      | _ :: _ :: _ => simp
    · simp
theorem quoteL_le : ∀ (k : Nat) (r : List UInt8) (x : List UInt8 × Nat), r.length ≤ k → quoteL r = some x → 1 ≤ x.2 ∧ x.2 ≤ r.length
  | 0, [], x, _, h => by simp [quoteL] at h
  | 0, _ :: _, _, hk, _ => by simp at hk
  | k + 1, [], x, _, h => by simp [quoteL] at h
  | k + 1, c :: r, x, hk, h => by
    unfold quoteL at h
    split at h
    · split at h
      · simp at h; subst h; simp
      · rename_i d r'
        split at h
        · simp only [Option.map_eq_some_iff] at h
          obtain ⟨y, hy, rfl⟩ := h
          have := quoteL_le k r' y (by simp at hk; omega) hy
          simp; omega
        · simp at h; subst h; simp
    · simp only [Option.map_eq_some_iff] at h
      obtain ⟨y, hy, rfl⟩ := h
      have := quoteL_le k r y (by simpa using hk) hy
      simp; omega
theorem listedL_le (r : List UInt8) (kind : Int) : ∀ (ts : List (List UInt8)) (g : GotL), (∀ t ∈ ts, t ≠ []) → (g.err = 0 → 1 ≤ g.n ∧ g.n ≤ r.length) → (listedL r kind ts g).err = 0 → 1 ≤ (listedL r kind ts g).n ∧ (listedL r kind ts g).n ≤ r.length
  | [], g, _, h, e => h e
  | t :: ts, g, ht, h, e => by
    unfold listedL at e ⊢
    refine listedL_le r kind ts _ (fun x hx => ht x (List.mem_cons_of_mem _ hx)) ?_ e
    split
    · rename_i hc
      intro _
      have h1 : t ≠ [] := ht t (List.mem_cons_self)
      have h2 := List.length_pos_iff.2 h1
      have h3 := congrArg List.length hc.1
      rw [List.length_take] at h3
      exact ⟨h2, by show t.length ≤ _; omega⟩
    · exact h
theorem inB_of {c : UInt8} (h : digB c = true ∨ letB c = true ∨ c = 36 ∨ c = 95) : inB c = true := by
  unfold inB
  rcases h with h | h | h | h <;> simp [h]
theorem wh_pos {p : UInt8 → Bool} {c : UInt8} {r : List UInt8} (h : p c = true) : 1 ≤ wh p (c :: r) := by
  unfold wh; rw [List.takeWhile_cons_of_pos h]; simp
theorem oneL_n {r : List UInt8} (h : (oneL r).err = 0) : 1 ≤ (oneL r).n ∧ (oneL r).n ≤ r.length := by
  unfold oneL at h ⊢
  split
  · simp [noneL] at h
  · rename_i c r
    simp only at h
    by_cases h1 : digB c = true
    · have hw := wh_pos (r := r) (inB_of (Or.inl h1))
      have hl := wh_le inB (c :: r)
      rw [if_pos h1] at h ⊢
      unfold numberL at h ⊢
      simp only at h ⊢
      split at h
      · simp [noneL] at h
      · split at h
        · simp [noneL] at h
        · rename_i a b
          rw [if_neg a, if_neg b]
          exact ⟨hw, hl⟩
    · rw [if_neg h1] at h ⊢
      by_cases h2 : c = 34
      · rw [if_pos h2] at h ⊢
        unfold textL8 at h ⊢
        split at h
        · simp [noneL] at h
        · rename_i x hx
          have := quoteL_le _ _ _ (Nat.le_refl _) hx
          simp at this ⊢; omega
      · rw [if_neg h2] at h ⊢
        by_cases h3 : letB c = true ∨ c = 36 ∨ c = 95
        · have hw := wh_pos (r := r) (inB_of (Or.inr h3))
          have hl := wh_le inB (c :: r)
          rw [if_pos h3] at h ⊢
          unfold namedL at h ⊢
          simp only at h ⊢
          split
          · exact ⟨hw, hl⟩
          · split
            · exact ⟨hw, hl⟩
            · split
              · exact ⟨hw, hl⟩
              · rename_i a b d
                rw [if_neg a, if_neg b, if_neg d] at h
                simp [noneL] at h
        · rw [if_neg h3] at h ⊢
          split
          · rename_i h4
            rw [if_pos h4] at h
            exact listedL_le _ _ _ _ (by decide) (fun e => by simp [noneL] at e) h
          · rename_i h4
            rw [if_neg h4] at h
            exact listedL_le _ _ _ _ (by decide) (fun e => by simp [noneL] at e) h
theorem cutR_fuel : ∀ (f : Nat) (p : Nat) (r : List UInt8) (acc : List WordL), r.length < f → cutR f p r acc = cutR (r.length + 1) p r acc
  | 0, _, _, _, h => by omega
  | f + 1, p, r, acc, h => by
    by_cases h0 : r = []
    · subst h0; simp [cutR]
    · have hl := List.length_pos_iff.2 h0
      have hg : ∀ (k : Nat) (q : Nat) (acc' : List WordL), 1 ≤ k → cutR f q (r.drop k) acc' = cutR r.length q (r.drop k) acc' := by
        intro k q acc' hk
        have e : (r.drop k).length < r.length := by rw [List.length_drop]; omega
        rw [cutR_fuel f q _ acc' (by omega)]
        obtain ⟨m, hm⟩ : ∃ m, r.length = m + 1 := ⟨r.length - 1, by omega⟩
        by_cases hf : f = r.length
        · rw [← cutR_fuel f q _ acc' (by omega), hf]
        · rw [cutR_fuel r.length q _ acc' e]
      simp only [cutR, if_neg h0]
      by_cases hb : 0 < blankL r
      · rw [if_pos hb, if_pos hb, hg _ _ _ hb]
      · rw [if_neg hb, if_neg hb]
        by_cases he : (oneL r).err ≠ 0
        · rw [if_pos he, if_pos he]
        · rw [if_neg he, if_neg he, hg _ _ _ (oneL_n (by simpa using he)).1]
  termination_by f => f
theorem cutAt_end {l : List UInt8} {p : Nat} {acc : List WordL} (h : l.length ≤ p) : cutAt l p acc = ⟨acc, 0, 0⟩ := by
  unfold cutAt
  rw [List.drop_eq_nil_of_le h]
  simp [cutR]
theorem cutAt_go {l : List UInt8} {p k : Nat} {acc : List WordL} (h : p < l.length) (hk : 1 ≤ k) : cutR (l.length - p) (p + k) ((l.drop p).drop k) acc = cutAt l (p + k) acc := by
  unfold cutAt
  rw [List.drop_drop, cutR_fuel _ _ _ _ (by rw [List.length_drop]; omega), cutR_fuel (l.length - (p + k) + 1) _ _ _ (by rw [List.length_drop]; omega)]
theorem cutAt_blank {l : List UInt8} {p : Nat} {acc : List WordL} (h : p < l.length) (hb : 0 < blankL (l.drop p)) : cutAt l p acc = cutAt l (p + blankL (l.drop p)) acc := by
  rw [← cutAt_go h hb]
  conv => lhs; unfold cutAt
  simp only [cutR]
  rw [if_neg (by intro e; have := congrArg List.length e; simp at this; omega), if_pos hb]
theorem cutAt_err {l : List UInt8} {p : Nat} {acc : List WordL} (h : p < l.length) (hb : blankL (l.drop p) = 0) (he : (oneL (l.drop p)).err ≠ 0) : cutAt l p acc = ⟨[], p, (oneL (l.drop p)).err⟩ := by
  unfold cutAt
  simp only [cutR]
  rw [if_neg (by intro e; have := congrArg List.length e; simp at this; omega), if_neg (by omega), if_pos he]
theorem cutAt_word {l : List UInt8} {p : Nat} {acc : List WordL} (h : p < l.length) (hb : blankL (l.drop p) = 0) (he : (oneL (l.drop p)).err = 0) :
    cutAt l p acc = cutAt l (p + (oneL (l.drop p)).n) (acc ++ [⟨(oneL (l.drop p)).kind, (oneL (l.drop p)).text, p⟩]) := by
  rw [← cutAt_go h (oneL_n he).1]
  conv => lhs; unfold cutAt
  simp only [cutR]
  rw [if_neg (by intro e; have := congrArg List.length e; simp at this; omega), if_neg (by omega), if_neg (by simpa using he)]
end Go.Proofs.YtikahfnlflhbfaaGreatDoor
