/- A formula's text, read: what the readers of words, texts and errors find. No program in sight. -/
import Derived.Test.YtnhgeojcelegbaaDoorPrT
import Derived.Test.YtnhgeojcelegbaaDoorSpR
namespace Go.Proofs.YtnhgeojcelegbaaDoor
open Go.RowKit Go.Lib

/-- The bytes of words: digits, letters, the dollar sign, the colon, the point. -/
def isWd (c : UInt8) : Bool := digB c || letB c || c == 36 || c == 58 || c == 46
/-- What may stand behind a whole expression. -/
def okR : List UInt8 → Bool
  | [] => true
  | c :: _ => [41, 44, 37, 94, 42, 47, 43, 45, 38, 61, 60, 62].contains c
def clB (c : UInt8) : Int := if c = 37 then 7 else if c = 94 then 5 else if c = 42 ∨ c = 47 then 4 else if c = 43 ∨ c = 45 then 3 else if c = 38 then 2 else if c = 61 ∨ c = 60 ∨ c = 62 then 1 else -1
/-- At what level a rest goes on with an expression. -/
def clR : List UInt8 → Int
  | [] => -1
  | c :: _ => clB c
def opOf : List UInt8 → Option (Int × List UInt8)
  | [] => none
  | c :: s =>
    if c = 94 then some (1, s) else if c = 42 then some (2, s) else if c = 47 then some (3, s) else if c = 43 then some (4, s) else if c = 45 then some (5, s) else if c = 38 then some (6, s) else if c = 61 then some (7, s)
    else if c = 60 then (if s.head? = some 62 then some (8, s.tail) else if s.head? = some 61 then some (10, s.tail) else some (9, s))
    else if c = 62 then (if s.head? = some 61 then some (12, s.tail) else some (11, s))
    else none
def strP : List UInt8 → Option (List UInt8 × List UInt8)
  | [] => none
  | [c] => if c = 34 then some ([], []) else none
  | c :: d :: s => if c = 34 then (if d = 34 then (strP s).map fun p => (34 :: p.1, p.2) else some ([], d :: s)) else (strP (d :: s)).map fun p => (c :: p.1, p.2)
def errP (s : List UInt8) : Option (Int × List UInt8) :=
  if (errL 1).isPrefixOf s then some (1, s.drop 6)
  else if (errL 2).isPrefixOf s then some (2, s.drop 5)
  else if (errL 3).isPrefixOf s then some (3, s.drop 5)
  else if (errL 4).isPrefixOf s then some (4, s.drop 7)
  else if (errL 5).isPrefixOf s then some (5, s.drop 7)
  else if (errL 6).isPrefixOf s then some (6, s.drop 4)
  else none
def iH (n : Int) : Hd := ⟨1, 0, n, [], .zero, .zero, 0⟩
def tH (l : List UInt8) : Hd := ⟨2, 0, 0, l, .zero, .zero, 0⟩
def oH (n : Int) : Hd := ⟨3, 0, n, [], .zero, .zero, 0⟩
def eH (n : Int) : Hd := ⟨4, 0, n, [], .zero, .zero, 0⟩
def rH (r : RefT) : Hd := ⟨5, 0, 0, [], r, .zero, 0⟩
def gH (r t : RefT) : Hd := ⟨6, 0, 0, [], r, t, 0⟩
def uH (n : Int) : Hd := ⟨7, n, 0, [], .zero, .zero, 0⟩
def bH (n : Int) : Hd := ⟨8, n, 0, [], .zero, .zero, 0⟩
def cH (n : Int) : Hd := ⟨9, 0, 0, [], .zero, .zero, n⟩
def wordT (w : List UInt8) : Hd :=
  if w = [84, 82, 85, 69] then oH 1
  else if w = [70, 65, 76, 83, 69] then oH 0
  else if w.head?.map digB = some true then iH (digV 0 w)
  else if (refAns w).n = w.length then rH (refAns w).ref
  else gH (refAns w).ref (refAns (w.drop ((refAns w).n + 1))).ref
def fnOf (w : List UInt8) : Int := (((rowsT.map FnRow.name).idxOf w : Nat) : Int) + 1

/-- A node that fits is one of nine sorts. -/
theorem fits_shape {h : Hd} {n : Nat} (f : fitsV h n = true) :
    (h = iH h.num ∧ 0 ≤ h.num ∧ n = 0) ∨ (h = tH h.text ∧ n = 0) ∨ ((h = oH 0 ∨ h = oH 1) ∧ n = 0) ∨ (h = eH h.num ∧ 1 ≤ h.num ∧ h.num ≤ 6 ∧ n = 0) ∨ (h = rH h.ref ∧ placeB h.ref = true ∧ n = 0) ∨
    (h = gH h.ref h.to ∧ placeB h.ref = true ∧ placeB h.to = true ∧ n = 0) ∨ (h = uH h.op ∧ 1 ≤ h.op ∧ h.op ≤ 3 ∧ n = 1) ∨ (h = bH h.op ∧ 1 ≤ h.op ∧ h.op ≤ 12 ∧ n = 2) ∨ (h = cH h.fn ∧ 1 ≤ h.fn ∧ h.fn ≤ 76) := by
  obtain ⟨kind, op, num, text, ref, tt, fn⟩ := h
  unfold fitsV fitsB at f
  generalize (infoRow _).min = lo at f
  generalize (infoRow _).max = hi at f
  simp only [Bool.and_eq_true] at f
  obtain ⟨⟨⟨⟨⟨⟨⟨f1, f2⟩, f3⟩, f4⟩, f5⟩, f6⟩, f7⟩, f8, f9⟩ := f
  simp only [decide_eq_true_eq] at f8 f9
  have hk : kind = 1 ∨ kind = 2 ∨ kind = 3 ∨ kind = 4 ∨ kind = 5 ∨ kind = 6 ∨ kind = 7 ∨ kind = 8 ∨ kind = 9 := by omega
  simp only [iH, tH, oH, eH, rH, gH, uH, bH, cH, Hd.mk.injEq]
  rcases hk with rfl | rfl | rfl | rfl | rfl | rfl | rfl | rfl | rfl <;> simp at f1 f2 f3 f4 f5 f6 f7 <;> simp_all
theorem errP_app {n : Int} (h1 : 1 ≤ n) (h6 : n ≤ 6) (r : List UInt8) : errP (errL n ++ r) = some (n, r) := by
  have hn : n = 1 ∨ n = 2 ∨ n = 3 ∨ n = 4 ∨ n = 5 ∨ n = 6 := by omega
  rcases hn with rfl | rfl | rfl | rfl | rfl | rfl <;> simp [errP, errL, List.isPrefixOf]
theorem strP_app : ∀ (l r : List UInt8), r.head? ≠ some 34 → strP ((l.flatMap fun c => if c = 34 then [34, 34] else [c]) ++ 34 :: r) = some (l, r)
  | [], [], _ => rfl
  | [], d :: r, h => by
    have hd : d ≠ 34 := by simpa using h
    simp [strP, hd]
  | c :: l, r, h => by
    have ih := strP_app l r h
    by_cases hc : c = 34
    · subst hc
      rw [List.flatMap_cons, if_pos rfl, List.append_assoc, List.cons_append, List.cons_append, List.nil_append]
      rw [strP, if_pos rfl, if_pos rfl, ih]; rfl
    · rw [List.flatMap_cons, if_neg hc, List.append_assoc, List.cons_append, List.nil_append]
      obtain ⟨d, s, hs⟩ : ∃ d s, (l.flatMap fun c => if c = 34 then [34, 34] else [c]) ++ 34 :: r = d :: s := by
        cases h2 : l.flatMap fun c => if c = 34 then [(34 : UInt8), 34] else [c] with
        | nil => exact ⟨_, _, rfl⟩
        | cons x y => exact ⟨_, _, rfl⟩
      rw [hs] at ih ⊢
      rw [strP, if_neg hc, ih]; rfl
theorem opOf_app {op : Int} (h1 : 1 ≤ op) (h2 : op ≤ 12) {c : UInt8} {s : List UInt8} (hc : c ≠ 61 ∧ c ≠ 62) : opOf (signL op ++ c :: s) = some (op, c :: s) := by
  have hn : op = 1 ∨ op = 2 ∨ op = 3 ∨ op = 4 ∨ op = 5 ∨ op = 6 ∨ op = 7 ∨ op = 8 ∨ op = 9 ∨ op = 10 ∨ op = 11 ∨ op = 12 := by omega
  rcases hn with rfl | rfl | rfl | rfl | rfl | rfl | rfl | rfl | rfl | rfl | rfl | rfl <;> simp [opOf, signL, hc.1, hc.2]
/-- The first byte of a sign. -/
theorem sign_facts {op : Int} (h1 : 1 ≤ op) (h2 : op ≤ 12) : ∃ c s, signL op = c :: s ∧ clB c = levN op ∧ (∀ x, okR (c :: x) = true) ∧ 1 ≤ levN op ∧ levN op ≤ 5 ∧ c ≠ 37 := by
  have hn : op = 1 ∨ op = 2 ∨ op = 3 ∨ op = 4 ∨ op = 5 ∨ op = 6 ∨ op = 7 ∨ op = 8 ∨ op = 9 ∨ op = 10 ∨ op = 11 ∨ op = 12 := by omega
  rcases hn with rfl | rfl | rfl | rfl | rfl | rfl | rfl | rfl | rfl | rfl | rfl | rfl <;> exact ⟨_, _, rfl, by decide, fun x => rfl, by decide, by decide, by decide⟩
/-- A rest that goes on is an operation of that level. -/
theorem opOf_level : ∀ {r : List UInt8} {op : Int} {s : List UInt8}, opOf r = some (op, s) → levN op = clR r
  | [], op, s, h => by simp [opOf] at h
  | c :: r, op, s, h => by
    rw [opOf] at h
    (repeat' split at h) <;> first | (cases h; done) | (injection h with h; injection h with h1 h2; subst h1; subst c; rfl)
theorem okR_head {r : List UInt8} (h : okR r = true) : (∀ c, r.head? = some c → isWd c = false ∧ c ≠ 40 ∧ c ≠ 34) := by
  intro c hc
  cases r with
  | nil => cases hc
  | cons d r =>
    simp only [List.head?_cons, Option.some.injEq] at hc
    subst hc
    simp only [okR, List.contains_iff_mem] at h
    have : ∀ c ∈ [41, 44, 37, 94, 42, 47, 43, 45, 38, 61, 60, 62], isWd c = false ∧ c ≠ (40 : UInt8) ∧ c ≠ 34 := by decide
    exact this d h
theorem cl41 (r : List UInt8) : clR (41 :: r) = -1 := rfl
theorem cl44 (r : List UInt8) : clR (44 :: r) = -1 := rfl
theorem cl37 (r : List UInt8) : clR (37 :: r) = 7 := rfl
theorem clR_ne (r : List UInt8) : clR r ≠ 6 ∧ clR r ≤ 7 := by
  cases r with
  | nil => decide
  | cons c s => simp only [clR, clB]; (repeat' split) <;> decide

theorem span_word {w r : List UInt8} (hw : w.all isWd = true) (hr : ∀ c, r.head? = some c → isWd c = false) : (w ++ r).takeWhile isWd = w ∧ (w ++ r).dropWhile isWd = r := by
  induction w with
  | nil =>
    cases r with
    | nil => exact ⟨rfl, rfl⟩
    | cons c r => have := hr c rfl; simp [this]
  | cons c w ih =>
    simp only [List.all_cons, Bool.and_eq_true] at hw
    have := ih hw.2
    simp [hw.1, this.1, this.2]
theorem all_wd {p : UInt8 → Bool} (hp : ∀ c, p c = true → isWd c = true) {l : List UInt8} (h : l.all p = true) : l.all isWd = true := List.all_eq_true.2 fun c hc => hp c (List.all_eq_true.1 h c hc)
theorem dig_wd (c : UInt8) (h : digB c = true) : isWd c = true := by simp [isWd, h]
theorem let_wd (c : UInt8) (h : letB c = true) : isWd c = true := by simp [isWd, h]
theorem pin_wd (b : Bool) : (pinL b).all isWd = true := by cases b <;> decide
theorem ref_wd {r : RefT} (h : placeB r = true) : (refTextL r).all isWd = true := by
  have hp : 0 ≤ r.row ∧ r.row < 65536 ∧ 0 ≤ r.col ∧ r.col < 702 := by simp [placeB] at h; omega
  rw [(refText_parts h).1]
  simp only [List.all_append, Bool.and_eq_true]
  exact ⟨pin_wd _, all_wd let_wd (all_cap (lettersL_facts hp.2.2.1 hp.2.2.2).1).1, pin_wd _, all_wd dig_wd (decDigits_facts _).1, rfl⟩
theorem refAns_app' {r : RefT} (h : placeB r = true) (rest : List UInt8) (hr : ∀ c, rest.head? = some c → digB c = false) : refAns (refTextL r ++ rest) = ⟨r, (refTextL r).length, 0⟩ := by
  have hp : 0 ≤ r.row ∧ r.row < 65536 ∧ 0 ≤ r.col ∧ r.col < 702 := by simp [placeB] at h; omega
  obtain ⟨e, P⟩ := refText_parts h
  have P2 : Parts (refTextL r ++ rest) ⟨(refTextL r).length, r.col, r.row, r.pc, r.pr⟩ (lettersL r.col) (decDigits (r.row + 1).toNat) rest :=
    ⟨by rw [e]; simp only [List.append_nil, List.append_assoc], P.w, P.d, P.w0, P.d0, P.z, hr, P.col, P.row, P.n⟩
  unfold refAns
  rw [parts_form P2]
  simp only
  rw [if_pos ⟨hp.2.2.2, hp.2.1⟩]
/-- A reference's text begins with no digit. -/
theorem ref_first {r : RefT} (h : placeB r = true) : ∃ c s, refTextL r = c :: s ∧ digB c = false := by
  have hp : 0 ≤ r.row ∧ r.row < 65536 ∧ 0 ≤ r.col ∧ r.col < 702 := by simp [placeB] at h; omega
  obtain ⟨l1, l2, l3⟩ := lettersL_facts hp.2.2.1 hp.2.2.2
  have e := (refText_parts h).1
  cases hb : r.pc with
  | true => rw [hb] at e; exact ⟨36, _, e, by decide⟩
  | false =>
    obtain ⟨c, s, hs⟩ := List.exists_cons_of_ne_nil l3
    rw [hb, hs] at e
    rw [hs] at l1
    simp only [List.all_cons, Bool.and_eq_true] at l1
    exact ⟨c, _, e, (letB_lt (capB_let l1.1).1).2.2.1⟩
theorem word_int {n : Int} (h : 0 ≤ n) : (itoa n).all isWd = true ∧ itoa n ≠ [] ∧ wordT (itoa n) = iH n := by
  rw [show itoa n = decDigits n.toNat from if_neg (by omega)]
  obtain ⟨d1, d2, d3, -⟩ := decDigits_facts n.toNat
  refine ⟨all_wd dig_wd d1, d3, ?_⟩
  obtain ⟨c, s, hs⟩ := List.exists_cons_of_ne_nil d3
  have hc : digB c = true := by rw [hs] at d1; simp only [List.all_cons, Bool.and_eq_true] at d1; exact d1.1
  unfold wordT
  rw [if_neg (fun e => by rw [hs] at e; injection e with e; subst e; revert hc; decide), if_neg (fun e => by rw [hs] at e; injection e with e; subst e; revert hc; decide), if_pos (by rw [hs]; simp [hc]), d2]
  congr 1
  omega
theorem word_ref {r : RefT} (h : placeB r = true) : wordT (refTextL r) = rH r := by
  have e := refAns_text h
  obtain ⟨c, s, hs, hc⟩ := ref_first h
  unfold wordT
  rw [if_neg (fun q => by rw [q] at e; have := congrArg RefA.e e; change (refAns [84, 82, 85, 69]).e = 0 at this; revert this; decide), if_neg (fun q => by rw [q] at e; have := congrArg RefA.e e; change (refAns [70, 65, 76, 83, 69]).e = 0 at this; revert this; decide), if_neg (by rw [hs]; simp [hc]), e, if_pos rfl]
theorem word_range {r t : RefT} (h : placeB r = true) (h' : placeB t = true) : wordT (refTextL r ++ [58] ++ refTextL t) = gH r t := by
  have e : refAns (refTextL r ++ [58] ++ refTextL t) = ⟨r, (refTextL r).length, 0⟩ := by
    rw [List.append_assoc]; exact refAns_app' h _ (fun c hc => by simp at hc; subst hc; decide)
  obtain ⟨c, s, hs, hc⟩ := ref_first h
  unfold wordT
  rw [if_neg (fun q => by rw [q] at e; have := congrArg RefA.e e; change (refAns [84, 82, 85, 69]).e = 0 at this; revert this; decide), if_neg (fun q => by rw [q] at e; have := congrArg RefA.e e; change (refAns [70, 65, 76, 83, 69]).e = 0 at this; revert this; decide), if_neg (by rw [hs]; simp [hc]), e]
  simp only
  rw [if_neg (by simp), List.drop_append_of_le_length (by simp)]
  have e3 : (refTextL r ++ [58]).drop ((refTextL r).length + 1) = [] := List.drop_eq_nil_of_le (by simp)
  rw [e3, List.nil_append, refAns_text h']
theorem word_bool (n : Int) : (boolL n).all isWd = true ∧ boolL n ≠ [] ∧ wordT (boolL n) = oH (if n = 1 then 1 else 0) := by
  unfold boolL
  split <;> exact ⟨by decide, by decide, by decide⟩
theorem name_facts {n : Int} (h1 : 1 ≤ n) (h2 : n ≤ 76) : (infoRow n).name.all isWd = true ∧ (infoRow n).name ≠ [] ∧ fnOf (infoRow n).name = n := by
  obtain ⟨k, rfl⟩ : ∃ k : Nat, n = k + 1 := ⟨n.toNat - 1, by omega⟩
  have hk : k < 76 := by omega
  have key : ∀ k : Fin 76, (rowAt k.val).name.all isWd = true ∧ (rowAt k.val).name ≠ [] ∧ (rowsT.map FnRow.name).idxOf (rowAt k.val).name = k.val := by decide +kernel
  obtain ⟨a, b, c⟩ := key ⟨k, hk⟩
  have e : infoRow ((k : Int) + 1) = rowAt k := by
    rw [infoRow, if_pos (by omega)]; rfl
  rw [e]
  exact ⟨a, b, by rw [fnOf, c]⟩
end Go.Proofs.YtnhgeojcelegbaaDoor
