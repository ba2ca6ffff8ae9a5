/- The document's own answer for words: a number. -/
import Derived.Test.YtikahfnlflhbfaaGreatDoorLzD
import Derived.Laws.Cover1
import Derived.IntWalk
namespace Go.Proofs.YtikahfnlflhbfaaGreatDoor
open Go.RowKit Go.Lib

theorem low_step {a d P D : Nat} (hd : d ≤ 9) (h1 : (a * 10 + d) * P ≤ D) (h2 : D < (a * 10 + d + 1) * P) : a * (P * 10) ≤ D ∧ D < (a + 1) * (P * 10) := by
  have e1 : a * (P * 10) = (a * 10) * P := by rw [Nat.mul_comm P 10, Nat.mul_assoc]
  have e2 : (a + 1) * (P * 10) = ((a + 1) * 10) * P := by rw [Nat.mul_comm P 10, Nat.mul_assoc]
  rw [e1, e2]
  exact ⟨Nat.le_trans (Nat.mul_le_mul_right _ (by omega)) h1, Nat.lt_of_lt_of_le h2 (Nat.mul_le_mul_right _ (by omega))⟩
theorem digV_low (l : List UInt8) : ∀ (a : Nat), l.all digB = true → a * 10 ^ l.length ≤ digV a l ∧ digV a l < (a + 1) * 10 ^ l.length := by
  induction l with
  | nil =>
    intro a _
    rw [List.length_nil, Nat.pow_zero, Nat.mul_one, Nat.mul_one]
    exact ⟨Nat.le_refl _, Nat.lt_succ_self _⟩
  | cons c r ih =>
    intro a h
    simp only [List.all_cons, Bool.and_eq_true] at h
    have hd : c.toNat - 48 ≤ 9 := by
      have : 48 ≤ c.toNat ∧ c.toNat ≤ 57 := by simpa [digB] using h.1
      omega
    obtain ⟨i1, i2⟩ := ih (a * 10 + (c.toNat - 48)) h.2
    rw [List.length_cons, Nat.pow_succ]
    exact low_step hd i1 i2
theorem digV_lt {x y : List UInt8} {a b : Nat} (hx : x.all digB = true) (hy : y.all digB = true) (hl : x.length = y.length) (h : a < b) : digV a x < digV b y := by
  have h1 := (digV_low x a hx).2
  have h2 := (digV_low y b hy).1
  rw [hl] at h1
  exact Nat.lt_of_lt_of_le h1 (Nat.le_trans (Nat.mul_le_mul_right _ h) h2)
theorem digV_cons (a : Nat) (c : UInt8) (x : List UInt8) : digV a (c :: x) = digV (a * 10 + (c.toNat - 48)) x := by exact Eq.refl _
theorem less_cons (c d : UInt8) (x y : List UInt8) : Op.bytesLess (c :: x) (d :: y) = (decide (c < d) || (c == d && Op.bytesLess x y)) := rfl
theorem less_step (c d : UInt8) (x y : List UInt8) (a : Nat) (hx : (c :: x).all digB = true) (hy : (d :: y).all digB = true) (hl2 : x.length = y.length) (ih : Op.bytesLess x y = decide (digV (a * 10 + (c.toNat - 48)) x < digV (a * 10 + (c.toNat - 48)) y)) : Op.bytesLess (c :: x) (d :: y) = decide (digV a (c :: x) < digV a (d :: y)) := by
  simp only [List.all_cons, Bool.and_eq_true] at hx hy
  have hc : 48 ≤ c.toNat ∧ c.toNat ≤ 57 := by simpa [digB] using hx.1
  have hd : 48 ≤ d.toNat ∧ d.toNat ≤ 57 := by simpa [digB] using hy.1
  rw [less_cons, digV_cons, digV_cons]
  rcases Nat.lt_trichotomy c.toNat d.toNat with h | h | h
  · have e1 : c < d := UInt8.lt_iff_toNat_lt.2 h
    have hab : a * 10 + (c.toNat - 48) < a * 10 + (d.toNat - 48) := by omega
    rw [decide_eq_true e1, Bool.true_or, decide_eq_true (digV_lt hx.2 hy.2 hl2 hab)]
  · obtain rfl : c = d := UInt8.toNat_inj.1 h
    rw [ih, decide_eq_false (UInt8.lt_irrefl c), beq_self_eq_true, Bool.false_or, Bool.true_and]
  · have e1 : ¬ c < d := fun q => Nat.lt_asymm h (UInt8.lt_iff_toNat_lt.1 q)
    have e4 : (c == d) = false := beq_false_of_ne (fun e => Nat.lt_irrefl _ (e ▸ h))
    have hab : a * 10 + (d.toNat - 48) < a * 10 + (c.toNat - 48) := by omega
    have e2 := digV_lt hy.2 hx.2 hl2.symm hab
    rw [decide_eq_false e1, e4, Bool.false_and, Bool.false_or, decide_eq_false (Nat.lt_asymm e2)]
theorem less_digits (x : List UInt8) : ∀ (y : List UInt8) (a : Nat), x.all digB = true → y.all digB = true → x.length = y.length → Op.bytesLess x y = decide (digV a x < digV a y) := by
  induction x with
  | nil =>
    intro y a _ _ h
    cases y with
    | nil => exact (decide_eq_false (Nat.lt_irrefl _)).symm
    | cons _ _ => exact absurd h (by simp)
  | cons c x ih =>
    intro y a hx hy hl
    cases y with
    | nil => exact absurd hl (by simp)
    | cons d y =>
      have hl2 : x.length = y.length := Nat.succ.inj hl
      refine less_step c d x y a hx hy hl2 ?_
      simp only [List.all_cons, Bool.and_eq_true] at hx hy
      exact ih y _ hx.2 hy.2 hl2
def mostL : List UInt8 := [57, 50, 50, 51, 51, 55, 50, 48, 51, 54, 56, 53, 52, 55, 55, 53, 56, 48, 55]
theorem most_val : digV 0 mostL = 9223372036854775807 := by decide +kernel
theorem digV_inj (x : List UInt8) : ∀ (y : List UInt8) (a : Nat), x.all digB = true → y.all digB = true → x.length = y.length → digV a x = digV a y → x = y := by
  induction x with
  | nil => intro y a _ _ hl _; cases y with | nil => rfl | cons _ _ => simp at hl
  | cons c x ih =>
    intro y a hx hy hl he
    cases y with
    | nil => simp at hl
    | cons d y =>
      simp only [List.all_cons, Bool.and_eq_true] at hx hy
      have hc : 48 ≤ c.toNat ∧ c.toNat ≤ 57 := by simpa [digB] using hx.1
      have hd : 48 ≤ d.toNat ∧ d.toNat ≤ 57 := by simpa [digB] using hy.1
      have hl2 : x.length = y.length := by simpa using hl
      rw [digV_cons, digV_cons] at he
      have hcd : c = d := by
        apply UInt8.toNat_inj.1
        rcases Nat.lt_trichotomy c.toNat d.toNat with h | h | h
        · exact absurd he (Nat.ne_of_lt (digV_lt (a := a * 10 + (c.toNat - 48)) (b := a * 10 + (d.toNat - 48)) hx.2 hy.2 hl2 (by omega)))
        · exact h
        · exact absurd he (Nat.ne_of_gt (digV_lt (a := a * 10 + (d.toNat - 48)) (b := a * 10 + (c.toNat - 48)) hy.2 hx.2 hl2.symm (by omega)))
      subst hcd
      rw [ih y _ hx.2 hy.2 hl2 he]
theorem over_arith {D M n : Nat} (P18 : n < 19 → D < 1000000000000000000) (P19 : 19 < n → 10000000000000000000 ≤ D) {b e : Bool} (h19 : n = 19 → (b = decide (D < M)) ∧ (e = true ↔ D = M)) (hM : M = 9223372036854775807) :
    (9223372036854775807 < D) = (19 < n ∨ (n = 19 ∧ (b = false ∧ e = false))) := by
  subst hM
  rcases Nat.lt_trichotomy n 19 with h | h | h
  · have := P18 h
    exact propext ⟨fun q => by omega, fun q => by rcases q with q | q <;> omega⟩
  · obtain ⟨h1, h2⟩ := h19 h
    refine propext ⟨fun q => Or.inr ⟨h, by rw [h1]; simp; omega, ?_⟩, fun q => ?_⟩
    · cases e with
      | false => rfl
      | true => have := h2.1 rfl; omega
    · rcases q with q | ⟨_, q1, q2⟩
      · omega
      · rw [h1] at q1
        have q3 := of_decide_eq_false q1
        have q4 : D ≠ 9223372036854775807 := fun q => by rw [h2.2 q] at q2; cases q2
        omega
  · have := P19 h
    exact propext ⟨fun _ => Or.inl h, fun _ => by omega⟩
/-- The test of the document: longer, or as long and greater. -/
theorem over_iff {l : List UInt8} (ha : l.all digB = true) (h0 : l ≠ []) (hz : l = [48] ∨ l[0]? ≠ some 48) :
    (9223372036854775807 < digV 0 l) = (19 < l.length ∨ (l.length = 19 ∧ (Op.bytesLess l mostL = false ∧ (l == mostL) = false))) := by
  have hlow := digV_low l 0 ha
  rw [Nat.zero_mul, Nat.zero_add, Nat.one_mul] at hlow
  refine over_arith (M := digV 0 mostL) (fun h => ?_) (fun h => ?_) (fun h => ?_) most_val
  · have := Nat.lt_of_lt_of_le hlow.2 (Nat.pow_le_pow_right (n := 10) (i := l.length) (j := 18) (by decide) (Nat.le_of_lt_succ h))
    exact this
  · have h1 : l ≠ [48] := fun e => by rw [e] at h; simp at h
    have hz2 : l[0]? ≠ some 48 := hz.resolve_left h1
    cases l with
    | nil => exact absurd rfl h0
    | cons c r =>
      simp only [List.all_cons, Bool.and_eq_true] at ha
      have hc : 48 ≤ c.toNat ∧ c.toNat ≤ 57 := by simpa [digB] using ha.1
      have hc0 : c.toNat ≠ 48 := fun e => hz2 (by have : c = 48 := UInt8.toNat_inj.1 e; simp [this])
      have hr := (digV_low r (0 * 10 + (c.toNat - 48)) ha.2).1
      have h19 : 10 ^ 19 ≤ 10 ^ r.length := Nat.pow_le_pow_right (by decide) (by simp at h; omega)
      have h3 : 10 ^ 19 ≤ digV 0 (c :: r) := by
        rw [digV_cons]
        exact Nat.le_trans (Nat.le_trans h19 (Nat.le_mul_of_pos_left _ (by omega))) hr
      simpa using h3
  · have hm : mostL.all digB = true := by decide
    have hl : l.length = mostL.length := by rw [h]; rfl
    refine ⟨less_digits l mostL 0 ha hm hl, fun e => ?_, fun e => ?_⟩
    · rw [eq_of_beq e]
    · rw [digV_inj l mostL 0 ha hm hl e]; simp
/-- What is handed back of a word: its kind and text, where it ends, or the error. -/
def GotV (p : Nat) (g : GotL) : Value := .agg #[.int .i64 g.kind, .string (strB g.text), .int .i64 0, .int .i64 (if g.err = 0 then ((p + g.n : Nat) : Int) else 0), .int .i64 g.err]
def GotPost (p : Nat) (g : GotL) (w : World) (e : Ending) (w' : World) : Prop := e = .returned (GotV p g) ∧ Below w.heap.size w w'
end Go.Proofs.YtikahfnlflhbfaaGreatDoor
