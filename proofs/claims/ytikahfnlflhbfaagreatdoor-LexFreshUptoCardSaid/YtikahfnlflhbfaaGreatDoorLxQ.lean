/- A word's bytes, what follows them, and what the document tells of both: read off, and put together again. No program in sight. -/
import Derived.Test.YtikahfnlflhbfaaGreatDoorLxP
import Derived.Test.YtikahfnlflhbfaaGreatDoorSpR
namespace Go.Proofs.YtikahfnlflhbfaaGreatDoor
open Go.RowKit Go.Lib

/-- A text between quotes, as it is written. -/
def escL : List UInt8 → List UInt8
  | [] => []
  | c :: r => if c = 34 then 34 :: 34 :: escL r else c :: escL r
def offHead (p : UInt8 → Bool) (v : List UInt8) : Prop := ∀ c, v.head? = some c → p c = false
/-- The bytes u are a word of kind k and text t where v follows. -/
def WordOK (k : Int) (t u v : List UInt8) : Prop :=
  (k = 1 ∧ u ≠ [] ∧ u.all digB = true ∧ offHead inB v ∧ t = stripZ u ∧ digV 0 u ≤ 9223372036854775807)
  ∨ (k = 2 ∧ u = 34 :: (escL t ++ [34]) ∧ v.head? ≠ some 34)
  ∨ (k = 3 ∧ u.all inB = true ∧ offHead digB u ∧ u ≠ [] ∧ offHead inB v ∧ t = u ∧ (refAns u).n = u.length ∧ (v.head? ≠ some 40 → capL8 u ≠ trueL ∧ capL8 u ≠ falseL) ∧ (v.head? = some 40 → nameB u = false))
  ∨ (k = 4 ∧ nameB u = true ∧ v.head? = some 40 ∧ t = capL8 u)
  ∨ (k = 5 ∧ (capL8 u = trueL ∨ capL8 u = falseL) ∧ v.head? ≠ some 40 ∧ offHead inB v ∧ t = capL8 u)
  ∨ (k = 6 ∧ u ∈ errTab ∧ t = u)
  ∨ (k = 7 ∧ u ∈ opTab ∧ t = u ∧ (u = [60] → v.head? ≠ some 62 ∧ v.head? ≠ some 61) ∧ (u = [62] → v.head? ≠ some 61))

theorem listed_spec (r : List UInt8) (k : Int) : ∀ (ts : List (List UInt8)) (g : GotL),
    (listedL r k ts g = g ∨ ∃ t ∈ ts, r.take t.length = t ∧ listedL r k ts g = ⟨k, t, t.length, 0⟩) ∧ g.text.length ≤ (listedL r k ts g).text.length ∧ ∀ t ∈ ts, r.take t.length = t → t.length ≤ (listedL r k ts g).text.length
  | [], g => ⟨Or.inl rfl, Nat.le_refl _, fun t ht => by cases ht⟩
  | t :: ts, g => by
    unfold listedL
    by_cases h : r.take t.length = t ∧ g.text.length < t.length
    · rw [if_pos h]
      obtain ⟨a, b, c⟩ := listed_spec r k ts ⟨k, t, t.length, 0⟩
      refine ⟨Or.inr ?_, by simp only at b; omega, fun x hx hm => ?_⟩
      · rcases a with a | ⟨x, hx, hm, e⟩
        · exact ⟨t, List.mem_cons_self, h.1, a⟩
        · exact ⟨x, List.mem_cons_of_mem _ hx, hm, e⟩
      · rcases List.mem_cons.1 hx with rfl | hx
        · exact b
        · exact c x hx hm
    · rw [if_neg h]
      obtain ⟨a, b, c⟩ := listed_spec r k ts g
      refine ⟨?_, b, fun x hx hm => ?_⟩
      · rcases a with a | ⟨x, hx, hm, e⟩
        · exact Or.inl a
        · exact Or.inr ⟨x, List.mem_cons_of_mem _ hx, hm, e⟩
      · rcases List.mem_cons.1 hx with rfl | hx
        · have : ¬ g.text.length < x.length := fun q => h ⟨hm, q⟩
          omega
        · exact c x hx hm
theorem take_pre {r t u : List UInt8} (ht : r.take t.length = t) (hu : r.take u.length = u) (h : u.length ≤ t.length) : u = t.take u.length := by
  rw [← ht, List.take_take, Nat.min_eq_left h, hu]
theorem err_pre : ∀ u ∈ errTab, ∀ t ∈ errTab, u = t.take u.length → u = t := by decide
theorem op_pre : ∀ u ∈ opTab, ∀ t ∈ opTab, u = t.take u.length → u = t ∨ (u = [60] ∧ t = [60, 62]) ∨ (u = [60] ∧ t = [60, 61]) ∨ (u = [62] ∧ t = [62, 61]) := by decide
theorem errs_of {u v : List UInt8} (hu : u ∈ errTab) : listedL (u ++ v) 6 errTab (noneL 21) = ⟨6, u, u.length, 0⟩ := by
  obtain ⟨a, -, c⟩ := listed_spec (u ++ v) 6 errTab (noneL 21)
  have hm : (u ++ v).take u.length = u := List.take_left
  have h1 := c u hu hm
  have h0 : u ≠ [] := (by decide : ∀ t ∈ errTab, t ≠ []) u hu
  have h2 := List.length_pos_iff.2 h0
  rcases a with a | ⟨t, ht, hmt, e⟩
  · rw [a] at h1
    have h1' : u.length ≤ 0 := h1
    omega
  · rw [e] at h1
    rw [e, ← err_pre u hu t ht (take_pre hmt hm h1)]
theorem ops_of {u v : List UInt8} (hu : u ∈ opTab) (h60 : u = [60] → v.head? ≠ some 62 ∧ v.head? ≠ some 61) (h62 : u = [62] → v.head? ≠ some 61) : listedL (u ++ v) 7 opTab (noneL 21) = ⟨7, u, u.length, 0⟩ := by
  obtain ⟨a, -, c⟩ := listed_spec (u ++ v) 7 opTab (noneL 21)
  have hm : (u ++ v).take u.length = u := List.take_left
  have h1 := c u hu hm
  have h0 : u ≠ [] := (by decide : ∀ t ∈ opTab, t ≠ []) u hu
  have h2 := List.length_pos_iff.2 h0
  rcases a with a | ⟨t, ht, hmt, e⟩
  · rw [a] at h1
    have h1' : u.length ≤ 0 := h1
    omega
  · rw [e] at h1
    rcases op_pre u hu t ht (take_pre hmt hm h1) with q | ⟨rfl, rfl⟩ | ⟨rfl, rfl⟩ | ⟨rfl, rfl⟩
    · rw [e, ← q]
    · cases v with
      | nil => simp at hmt
      | cons x v => simp at hmt; exact absurd (by simp [hmt]) (h60 rfl).1
    · cases v with
      | nil => simp at hmt
      | cons x v => simp at hmt; exact absurd (by simp [hmt]) (h60 rfl).2
    · cases v with
      | nil => simp at hmt
      | cons x v => simp at hmt; exact absurd (by simp [hmt]) (h62 rfl)
theorem take_len {r : List UInt8} {n : Nat} (h : n ≤ r.length) : (r.take n).length = n := by rw [List.length_take]; omega
theorem listed_inv {r : List UInt8} {k k' : Int} {t : List UInt8} {n : Nat} {ts : List (List UInt8)} (h : listedL r k ts (noneL 21) = ⟨k', t, n, 0⟩) :
    t ∈ ts ∧ r.take n = t ∧ n = t.length ∧ k' = k ∧ ∀ x ∈ ts, r.take x.length = x → x.length ≤ t.length := by
  obtain ⟨a, -, c⟩ := listed_spec r k ts (noneL 21)
  rcases a with a | ⟨x, hx, hm, e⟩
  · rw [a] at h; simp [noneL] at h
  · rw [e] at h
    simp only [GotL.mk.injEq] at h
    obtain ⟨rfl, rfl, rfl, -⟩ := h
    exact ⟨hx, hm, rfl, rfl, fun y hy hm' => by have := c y hy hm'; rw [e] at this; exact this⟩
theorem wh_off (p : UInt8 → Bool) (r : List UInt8) : offHead p (r.drop (wh p r)) := by
  intro c hc
  have : r[wh p r]? = some c := by rw [← hc, List.head?_drop]
  exact wh_next p r c this
theorem quote_inv : ∀ (k : Nat) (r : List UInt8) (x : List UInt8 × Nat), r.length ≤ k → quoteL r = some x → r.take x.2 = escL x.1 ++ [34] ∧ (r.drop x.2).head? ≠ some 34
  | 0, [], x, _, h => by simp [quoteL] at h
  | 0, _ :: _, _, hk, _ => by simp at hk
  | k + 1, [], x, _, h => by simp [quoteL] at h
  | k + 1, c :: r, x, hk, h => by
    unfold quoteL at h
    split at h
    · rename_i hc
      subst hc
      split at h
      · simp at h; subst h; simp [escL]
      · rename_i d r'
        split at h
        · rename_i hd
          subst hd
          simp only [Option.map_eq_some_iff] at h
          obtain ⟨y, hy, rfl⟩ := h
          have := quote_inv k r' y (by simp at hk; omega) hy
          simp only [List.take_succ_cons, List.drop_succ_cons, escL, if_true]
          rw [this.1]
          exact ⟨by simp, this.2⟩
        · rename_i hd
          simp at h; subst h; simp [escL, hd]
    · rename_i hc
      simp only [Option.map_eq_some_iff] at h
      obtain ⟨y, hy, rfl⟩ := h
      have := quote_inv k r y (by simpa using hk) hy
      simp only [List.take_succ_cons, List.drop_succ_cons, escL, if_neg hc]
      rw [this.1]
      exact ⟨by simp, this.2⟩
theorem quote_mk : ∀ (t v : List UInt8), v.head? ≠ some 34 → quoteL (escL t ++ 34 :: v) = some (t, (escL t).length + 1)
  | [], v, h => by
    simp only [escL, List.nil_append]
    unfold quoteL
    rw [if_pos rfl]
    cases v with
    | nil => rfl
    | cons d v =>
      have : d ≠ 34 := by simpa using h
      simp [this]
  | c :: t, v, h => by
    by_cases hc : c = 34
    · subst hc
      simp only [escL, if_true, List.cons_append]
      unfold quoteL
      rw [if_pos rfl]
      simp only [if_true]
      rw [quote_mk t v h]
      simp
    · simp only [escL, if_neg hc, List.cons_append]
      unfold quoteL
      rw [if_neg hc, quote_mk t v h]
      simp
theorem nameB_all {u : List UInt8} (h : nameB u = true) : u ≠ [] ∧ u.all inB = true ∧ offHead digB u ∧ u.all alnB = true := by
  unfold nameB at h
  simp only [Bool.and_eq_true] at h
  obtain ⟨h1, h2⟩ := h
  cases u with
  | nil => simp at h2
  | cons c u =>
    refine ⟨by simp, ?_, ?_, h1⟩
    · rw [List.all_eq_true] at h1 ⊢
      intro x hx
      have := h1 x hx
      unfold alnB at this; unfold inB
      simp only [Bool.or_eq_true] at this ⊢
      rcases this with h | h <;> simp [h]
    · intro x hx
      simp at hx; subst hx
      exact (letB_lt (by simpa using h2)).2.2.1
theorem upper_let8 {c : UInt8} (h : letB c = true) : letB (upperB c) = true := by
  obtain ⟨h1, h2, h3⟩ := letN_of h
  simp only [letB, Bool.or_eq_true, Bool.and_eq_true, decide_eq_true_eq]
  omega
theorem upper_not8 {c : UInt8} (h : letB c = false) : upperB c = c := by
  unfold upperB isLowerB
  simp only [letB, Bool.or_eq_false_iff, Bool.and_eq_false_iff, decide_eq_false_iff_not] at h
  have e : (decide (97 ≤ c) && decide (c ≤ 122)) = false := by
    rw [Bool.and_eq_false_iff]; simp only [decide_eq_false_iff_not, UInt8.le_iff_toNat_le]; simp; omega
  simp only [e, Bool.false_eq_true, if_false]
theorem upper_no8 {c : UInt8} (h : ¬ (97 ≤ c.toNat ∧ c.toNat ≤ 122)) : upperB c = c := by
  unfold upperB isLowerB
  have e : (decide (97 ≤ c) && decide (c ≤ 122)) = false := by
    rw [Bool.and_eq_false_iff]; simp only [decide_eq_false_iff_not, UInt8.le_iff_toNat_le]; simp; omega
  simp only [e, Bool.false_eq_true, if_false]
theorem upper_up8 (c : UInt8) : upperB (upperB c) = upperB c := by
  by_cases h : letB c = true
  · obtain ⟨h1, h2, h3⟩ := letN_of h
    exact upper_no8 (by omega)
  · have e := upper_not8 (c := c) (by simpa using h)
    rw [e, e]
theorem cap_cap8 (u : List UInt8) : capL8 (capL8 u) = capL8 u := by
  unfold capL8
  rw [List.map_map]
  exact List.map_congr_left fun c _ => upper_up8 c
theorem upper_in8 {c : UInt8} (h : alnB c = true) : alnB (upperB c) = true := by
  unfold alnB at h ⊢
  by_cases hl : letB c = true
  · rw [upper_let8 hl]; rfl
  · rw [upper_not8 (by simpa using hl)]; exact h
theorem name_cap8 {u : List UInt8} (h : nameB u = true) : nameB (capL8 u) = true := by
  unfold nameB at h ⊢
  cases u with
  | nil => simp at h
  | cons c u =>
    simp only [Bool.and_eq_true, List.all_eq_true] at h ⊢
    refine ⟨?_, ?_⟩
    · intro x hx
      unfold capL8 at hx
      obtain ⟨y, hy, rfl⟩ := List.mem_map.1 hx
      exact upper_in8 (h.1 y hy)
    · exact upper_let8 h.2
theorem let_of_up {c : UInt8} (h : capB (upperB c) = true) : letB c = true := by
  by_cases hl : letB c = true
  · exact hl
  · rw [upper_not8 (by simpa using hl)] at h
    exact (capB_let h).1
theorem truth_name {u : List UInt8} (h : capL8 u = trueL ∨ capL8 u = falseL) : nameB u = true := by
  have ha : ∀ c ∈ u, letB c = true := by
    intro c hc
    have hm : upperB c ∈ capL8 u := List.mem_map_of_mem hc
    have : capB (upperB c) = true := by
      rcases h with h | h <;> rw [h] at hm
      · exact (by decide : ∀ x ∈ trueL, capB x = true) _ hm
      · exact (by decide : ∀ x ∈ falseL, capB x = true) _ hm
    exact let_of_up this
  unfold nameB
  cases u with
  | nil => rcases h with h | h <;> simp [capL8, trueL, falseL] at h
  | cons c u =>
    simp only [Bool.and_eq_true, List.all_eq_true]
    exact ⟨fun x hx => by unfold alnB; rw [ha x hx]; rfl, ha c List.mem_cons_self⟩
theorem wh_word {u v : List UInt8} (h : u.all inB = true) (hv : offHead inB v) : wh inB (u ++ v) = u.length := wh_app inB u v h hv
theorem oneL_named {c : UInt8} {r : List UInt8} (h : inB c = true) (hd : digB c = false) : oneL (c :: r) = namedL (c :: r) := by
  unfold oneL
  have h34 : c ≠ 34 := by rintro rfl; exact absurd h (by decide)
  have h3 : letB c = true ∨ c = 36 ∨ c = 95 := by
    unfold inB at h
    simp only [Bool.or_eq_true, beq_iff_eq] at h
    rcases h with ((h | h) | h) | h
    · exact Or.inl h
    · rw [hd] at h; cases h
    · exact Or.inr (Or.inl h)
    · exact Or.inr (Or.inr h)
  simp only [hd, Bool.false_eq_true, if_false, if_neg h34, if_pos h3]
theorem named_app {u v : List UInt8} (h0 : u ≠ []) (h : u.all inB = true) (hd : offHead digB u) (hv : offHead inB v) :
    oneL (u ++ v) = (if v.head? ≠ some 40 ∧ (capL8 u = trueL ∨ capL8 u = falseL) then ⟨5, capL8 u, u.length, 0⟩ else if v.head? = some 40 ∧ nameB u = true then ⟨4, capL8 u, u.length, 0⟩ else if (refAns u).n = u.length then ⟨3, u, u.length, 0⟩ else noneL 21) := by
  have e : oneL (u ++ v) = namedL (u ++ v) := by
    cases u with
    | nil => exact absurd rfl h0
    | cons c u => exact oneL_named (by simp at h; exact h.1) (hd c rfl)
  rw [e]
  unfold namedL
  simp only [wh_word h hv, List.take_left, List.drop_left, beq_eq_false_iff_ne, beq_iff_eq]
theorem one_mk {k : Int} {t u v : List UInt8} (h : WordOK k t u v) : oneL (u ++ v) = ⟨k, t, u.length, 0⟩ := by
  rcases h with ⟨rfl, h0, ha, hv, rfl, hm⟩ | ⟨rfl, rfl, hv⟩ | ⟨rfl, ha, hd, h0, hv, ht, hr, h5, h4⟩ | ⟨rfl, hn, hv, rfl⟩ | ⟨rfl, hc, hv, hi, rfl⟩ | ⟨rfl, hu, ht⟩ | ⟨rfl, hu, ht, h60, h62⟩
  · have hi : u.all inB = true := by
      rw [List.all_eq_true] at ha ⊢
      exact fun c hc => inB_of (Or.inl (ha c hc))
    have e : oneL (u ++ v) = numberL (u ++ v) := by
      cases u with
      | nil => exact absurd rfl h0
      | cons c u =>
        simp only [List.all_cons, Bool.and_eq_true] at ha
        unfold oneL
        simp only [List.cons_append, ha.1, if_true]
    rw [e]
    unfold numberL
    rw [wh_word hi hv, List.take_left]
    simp only
    rw [if_neg (by simp [ha]), if_neg (by omega)]
  · have e : oneL (34 :: (escL t ++ [34]) ++ v) = textL8 (34 :: (escL t ++ [34]) ++ v) := by
      unfold oneL
      simp only [List.cons_append]
      rw [if_neg (by decide), if_pos trivial]
    rw [e]
    unfold textL8
    simp only [List.cons_append, List.tail_cons, List.append_assoc, List.nil_append]
    rw [quote_mk t v hv]
    simp
  · rw [named_app h0 ha hd hv, if_neg (fun q => by rcases q.2 with e | e; exact (h5 q.1).1 e; exact (h5 q.1).2 e), if_neg (fun q => by rw [h4 q.1] at q; simp at q), if_pos hr, ht]
  · obtain ⟨h0, ha, hd, -⟩ := nameB_all hn
    rw [named_app h0 ha hd (fun c hc => by rw [hv] at hc; simp at hc; subst hc; decide), if_neg (fun q => q.1 hv), if_pos ⟨hv, hn⟩]
  · have hn := truth_name hc
    obtain ⟨h0, ha, hd, -⟩ := nameB_all hn
    rw [named_app h0 ha hd hi, if_pos ⟨hv, hc⟩]
  · have e : oneL (u ++ v) = listedL (u ++ v) 6 errTab (noneL 21) := by
      obtain ⟨x, rfl⟩ : ∃ x, u = 35 :: x := by
        have := (by decide : ∀ t ∈ errTab, t.head? = some 35) u hu
        cases u with
        | nil => simp at this
        | cons c x => simp at this; exact ⟨x, by rw [this]⟩
      unfold oneL
      simp only [List.cons_append]
      rw [if_neg (by decide), if_neg (by decide), if_neg (by decide), if_pos trivial]
    rw [e, errs_of hu, ht]
  · have e : oneL (u ++ v) = listedL (u ++ v) 7 opTab (noneL 21) := by
      have := (by decide : ∀ t ∈ opTab, ∀ c, t.head? = some c → digB c = false ∧ c ≠ 34 ∧ ¬ (letB c = true ∨ c = 36 ∨ c = 95) ∧ c ≠ 35) u hu
      cases u with
      | nil => exact absurd hu (by decide)
      | cons c x =>
        obtain ⟨a, b, d, e⟩ := this c rfl
        unfold oneL
        simp only [List.cons_append]
        rw [if_neg (by simp [a]), if_neg b, if_neg d, if_neg e]
    rw [e, ops_of hu h60 h62, ht]
theorem one_inv {r : List UInt8} {k : Int} {t : List UInt8} {n : Nat} (h : oneL r = ⟨k, t, n, 0⟩) : WordOK k t (r.take n) (r.drop n) ∧ n ≤ r.length := by
  have hn : n ≤ r.length := by
    have := (oneL_n (r := r) (by rw [h])).2
    rw [h] at this; exact this
  refine ⟨?_, hn⟩
  cases r with
  | nil => simp [oneL, noneL] at h
  | cons c r =>
    by_cases hd : digB c = true
    · unfold oneL at h
      simp only [hd, if_true] at h
      unfold numberL at h
      simp only at h
      split at h
      · simp [noneL] at h
      · split at h
        · simp [noneL] at h
        · rename_i a b
          simp only [GotL.mk.injEq] at h
          obtain ⟨rfl, rfl, rfl, -⟩ := h
          refine Or.inl ⟨rfl, ?_, by simpa using a, wh_off _ _, rfl, by omega⟩
          intro e
          have := congrArg List.length e
          rw [take_len (wh_le _ _)] at this
          have := wh_pos (r := r) (inB_of (Or.inl hd))
          simp at *; omega
    · by_cases h34 : c = 34
      · subst h34
        have e : oneL (34 :: r) = textL8 (34 :: r) := by
          unfold oneL
          simp only
          rw [if_neg (by decide), if_pos trivial]
        rw [e] at h
        unfold textL8 at h
        simp only [List.tail_cons] at h
        split at h
        · simp [noneL] at h
        · rename_i x hx
          simp only [GotL.mk.injEq] at h
          obtain ⟨rfl, rfl, rfl, -⟩ := h
          have q := quote_inv _ _ _ (Nat.le_refl _) hx
          refine Or.inr (Or.inl ⟨rfl, ?_, ?_⟩)
          · rw [List.take_succ_cons, q.1]
          · rw [List.drop_succ_cons]; exact q.2
      · by_cases h3 : letB c = true ∨ c = 36 ∨ c = 95
        · have hi := inB_of (Or.inr h3)
          have hdf : digB c = false := by simpa using hd
          have hsplit : c :: r = (c :: r).take (wh inB (c :: r)) ++ (c :: r).drop (wh inB (c :: r)) := (List.take_append_drop _ _).symm
          have hw := wh_pos (r := r) hi
          have hoff := wh_off inB (c :: r)
          have hall := wh_all inB (c :: r)
          have hlen := take_len (wh_le inB (c :: r))
          have h0 : (c :: r).take (wh inB (c :: r)) ≠ [] := by
            intro e; rw [e] at hlen; simp at hlen; omega
          have hdg : offHead digB ((c :: r).take (wh inB (c :: r))) := by
            intro x hx
            rw [List.head?_take, if_neg (by omega)] at hx
            simp at hx; subst hx; exact hdf
          rw [hsplit, named_app h0 hall hdg hoff] at h
          revert h
          generalize hu : (c :: r).take (wh inB (c :: r)) = u at *
          generalize hv : (c :: r).drop (wh inB (c :: r)) = v at *
          intro h
          have key : ∀ m, m = u.length → (c :: r).take m = u ∧ (c :: r).drop m = v := by
            rintro m rfl; rw [hlen]; exact ⟨hu, hv⟩
          split at h
          · rename_i q
            simp only [GotL.mk.injEq] at h
            obtain ⟨rfl, rfl, rfl, -⟩ := h
            rw [(key _ rfl).1, (key _ rfl).2]
            exact Or.inr (Or.inr (Or.inr (Or.inr (Or.inl ⟨rfl, q.2, q.1, hoff, rfl⟩))))
          · rename_i nq
            split at h
            · rename_i q
              simp only [GotL.mk.injEq] at h
              obtain ⟨rfl, rfl, rfl, -⟩ := h
              rw [(key _ rfl).1, (key _ rfl).2]
              exact Or.inr (Or.inr (Or.inr (Or.inl ⟨rfl, q.2, q.1, rfl⟩)))
            · rename_i nq4
              split at h
              · rename_i q
                simp only [GotL.mk.injEq] at h
                obtain ⟨rfl, rfl, rfl, -⟩ := h
                rw [(key _ rfl).1, (key _ rfl).2]
                refine Or.inr (Or.inr (Or.inl ⟨rfl, hall, hdg, h0, hoff, rfl, q, fun e => ⟨fun e' => nq ⟨e, Or.inl e'⟩, fun e' => nq ⟨e, Or.inr e'⟩⟩, fun e => ?_⟩))
                cases hb : nameB u with
                | false => rfl
                | true => exact absurd ⟨e, hb⟩ nq4
              · simp [noneL] at h
        · have hdf : digB c = false := by simpa using hd
          unfold oneL at h
          simp only [hdf, Bool.false_eq_true, if_false, if_neg h34, if_neg h3] at h
          split at h
          · obtain ⟨a, b, e, rfl, -⟩ := listed_inv h
            rw [b]
            exact Or.inr (Or.inr (Or.inr (Or.inr (Or.inr (Or.inl ⟨rfl, a, rfl⟩)))))
          · obtain ⟨a, b, e, rfl, m⟩ := listed_inv h
            rw [b]
            have two : ∀ (x y : UInt8), [x, y] ∈ opTab → t = [x] → ((c :: r).drop n).head? ≠ some y := by
              intro x y hxy ht hy
              subst ht
              simp only [List.length_cons, List.length_nil] at e
              subst e
              have hc : c = x := by simpa using b
              have hr : r.head? = some y := by simpa using hy
              have := m _ hxy (by
                cases r with
                | nil => simp at hr
                | cons z r => simp at hr; simp [hc, hr])
              simp at this
            exact Or.inr (Or.inr (Or.inr (Or.inr (Or.inr (Or.inr ⟨rfl, a, rfl, fun ht => ⟨two 60 62 (by decide) ht, two 60 61 (by decide) ht⟩, fun ht => two 62 61 (by decide) ht⟩)))))
end Go.Proofs.YtikahfnlflhbfaaGreatDoor
