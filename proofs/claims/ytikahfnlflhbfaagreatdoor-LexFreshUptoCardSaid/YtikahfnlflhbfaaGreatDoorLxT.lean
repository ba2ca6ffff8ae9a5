/- A text's words, one behind the other, with blanks between; what stands ahead of a fault is words. No program in sight. -/
import Derived.Test.YtikahfnlflhbfaaGreatDoorLxQ
namespace Go.Proofs.YtikahfnlflhbfaaGreatDoor
open Go.RowKit Go.Lib

/-- A byte of a blank. -/
def blankB (c : UInt8) : Bool := c == 9 || c == 10 || c == 13 || c == 32 || c == 194 || c == 160 || c == 227 || c == 128
theorem blankL_bytes {r : List UInt8} : ∀ (k : Nat) (c : UInt8), k < blankL r → r[k]? = some c → blankB c = true := by
  intro k c hk hc
  unfold blankL at hk
  split at hk
  · omega
  · rename_i d r
    repeat' split at hk
    · rename_i h
      obtain rfl : k = 0 := by omega
      simp at hc; subst hc
      rcases h with rfl | rfl | rfl | rfl <;> decide
    · rename_i h
      have : k = 0 ∨ k = 1 := by omega
      rcases this with rfl | rfl
      · simp at hc; subst hc; rw [h.1]; decide
      · rw [List.getElem?_cons_succ, ← List.head?_eq_getElem?, h.2] at hc
        injection hc with hc; subst hc; decide
    · rename_i h
      have : k = 0 ∨ k = 1 ∨ k = 2 := by omega
      rcases this with rfl | rfl | rfl
      · simp at hc; subst hc; rw [h.1]; decide
      · rw [List.getElem?_cons_succ, ← List.head?_eq_getElem?, h.2.1] at hc
        injection hc with hc; subst hc; decide
      · have h2 := h.2.2
        rw [List.head?_tail] at h2
        rw [List.getElem?_cons_succ] at hc
        rw [h2] at hc
        injection hc with hc; subst hc; decide
    · omega
theorem blankL_cons (c : UInt8) (r : List UInt8) : blankL (c :: r) = if c = 9 ∨ c = 10 ∨ c = 13 ∨ c = 32 then 1 else if c = 194 ∧ r.head? = some 160 then 2 else if c = 227 ∧ r.head? = some 128 ∧ r.tail.head? = some 128 then 3 else 0 := rfl
theorem blankL_zero {c : UInt8} {r : List UInt8} (h : blankB c = false) : blankL (c :: r) = 0 := by
  unfold blankB at h
  simp only [Bool.or_eq_false_iff, beq_eq_false_iff_ne] at h
  rw [blankL_cons, if_neg (by simp [h]), if_neg (by simp [h]), if_neg (by simp [h])]
theorem in_not_blank {c : UInt8} (h : inB c = true) : blankB c = false := by
  have h1 : c.toNat < 128 ∧ 33 < c.toNat := by
    unfold inB letB digB at h
    simp only [Bool.or_eq_true, Bool.and_eq_true, decide_eq_true_eq, beq_iff_eq] at h
    rcases h with ((h | h) | h) | h
    · omega
    · omega
    · subst h; decide
    · subst h; decide
  have ne : ∀ d : UInt8, (d.toNat < 34 ∨ 127 < d.toNat) → (c == d) = false := fun d hd => by
    rw [beq_eq_false_iff_ne]; rintro rfl; omega
  unfold blankB
  rw [ne 9 (by decide), ne 10 (by decide), ne 13 (by decide), ne 32 (by decide), ne 194 (by decide), ne 160 (by decide), ne 227 (by decide), ne 128 (by decide)]
  rfl
theorem word_first {k : Int} {t u v : List UInt8} (h : WordOK k t u v) : ∃ c x, u = c :: x ∧ blankB c = false := by
  have of_in : u ≠ [] → u.all inB = true → ∃ c x, u = c :: x ∧ blankB c = false := by
    intro h0 ha
    cases u with
    | nil => exact absurd rfl h0
    | cons c x => simp at ha; exact ⟨c, x, rfl, in_not_blank ha.1⟩
  have of_tab : ∀ tab : List (List UInt8), (∀ y ∈ tab, y ≠ [] ∧ ∀ c, y.head? = some c → blankB c = false) → u ∈ tab → ∃ c x, u = c :: x ∧ blankB c = false := by
    intro tab ht hu
    obtain ⟨a, b⟩ := ht u hu
    cases u with
    | nil => exact absurd rfl a
    | cons c x => exact ⟨c, x, rfl, b c rfl⟩
  rcases h with ⟨rfl, h0, ha, -⟩ | ⟨rfl, rfl, hv⟩ | ⟨rfl, ha, hd, h0, -⟩ | ⟨rfl, hn, hv, rfl⟩ | ⟨rfl, hc, hv, hi, rfl⟩ | ⟨rfl, hu, ht⟩ | ⟨rfl, hu, ht, -⟩
  · exact of_in h0 (by rw [List.all_eq_true] at ha ⊢; exact fun c hc => inB_of (Or.inl (ha c hc)))
  · exact ⟨34, _, rfl, by decide⟩
  · exact of_in h0 ha
  · exact of_in (nameB_all hn).1 (nameB_all hn).2.1
  · exact of_in (nameB_all (truth_name hc)).1 (nameB_all (truth_name hc)).2.1
  · exact of_tab errTab (by decide) hu
  · exact of_tab opTab (by decide) hu
theorem one_blank {r : List UInt8} {k : Int} {t : List UInt8} {n : Nat} (h : oneL r = ⟨k, t, n, 0⟩) : blankL r = 0 := by
  obtain ⟨c, x, e, hb⟩ := word_first (one_inv h).1
  rw [← List.take_append_drop n r, e]
  exact blankL_zero hb
theorem word_mono {k : Int} {t u v v' : List UInt8} (h : WordOK k t u v) (h1 : ∀ c, v'.head? = some c → v.head? = some c) (h2 : v'.head? = none → v.head? ≠ some 40) : WordOK k t u v' := by
  have off : ∀ p, offHead p v → offHead p v' := fun p hp c hc => hp c (h1 c hc)
  have ne : ∀ x, v.head? ≠ some x → v'.head? ≠ some x := fun x hx e => hx (h1 x e)
  have n40 : v'.head? ≠ some 40 → v.head? ≠ some 40 := by
    intro hn e
    cases hv : v'.head? with
    | none => exact h2 hv e
    | some c => have := h1 c hv; rw [e] at this; injection this with this; subst this; exact hn hv
  rcases h with ⟨rfl, h0, ha, hv, q⟩ | ⟨rfl, hu, hv⟩ | ⟨rfl, ha, hd, h0, hv, ht, hr, h5, h4⟩ | ⟨rfl, hn, hv, ht⟩ | ⟨rfl, hc, hv, hi, ht⟩ | ⟨rfl, hu, ht⟩ | ⟨rfl, hu, ht, h60, h62⟩
  · exact Or.inl ⟨rfl, h0, ha, off _ hv, q⟩
  · exact Or.inr (Or.inl ⟨rfl, hu, ne _ hv⟩)
  · exact Or.inr (Or.inr (Or.inl ⟨rfl, ha, hd, h0, off _ hv, ht, hr, fun e => h5 (n40 e), fun e => h4 (h1 _ e)⟩))
  · refine Or.inr (Or.inr (Or.inr (Or.inl ⟨rfl, hn, ?_, ht⟩)))
    cases hx : v'.head? with
    | none => exact absurd hv (h2 hx)
    | some c => rw [← h1 c hx]; exact hv
  · exact Or.inr (Or.inr (Or.inr (Or.inr (Or.inl ⟨rfl, hc, ne _ hv, off _ hi, ht⟩))))
  · exact Or.inr (Or.inr (Or.inr (Or.inr (Or.inr (Or.inl ⟨rfl, hu, ht⟩)))))
  · exact Or.inr (Or.inr (Or.inr (Or.inr (Or.inr (Or.inr ⟨rfl, hu, ht, fun e => ⟨ne _ (h60 e).1, ne _ (h60 e).2⟩, fun e => ne _ (h62 e)⟩)))))
theorem one_take {r : List UInt8} {k : Int} {t : List UInt8} {n m : Nat} (h : oneL r = ⟨k, t, n, 0⟩) (hm : n ≤ m) (h40 : n = m → r[n]? ≠ some 40) : oneL (r.take m) = ⟨k, t, n, 0⟩ := by
  obtain ⟨hW, hn⟩ := one_inv h
  have e : r.take m = r.take n ++ (r.drop n).take (m - n) := by
    conv => lhs; rw [← List.take_append_drop n r]
    rw [List.take_append, take_len hn, List.take_of_length_le (by rw [take_len hn]; exact hm)]
  have hv : ((r.drop n).take (m - n)).head? = if m - n = 0 then none else (r.drop n).head? := List.head?_take
  have hW2 : WordOK k t (r.take n) ((r.drop n).take (m - n)) := by
    refine word_mono hW (fun c hc => ?_) (fun hc => ?_)
    · rw [hv] at hc
      split at hc
      · cases hc
      · exact hc
    · rw [hv] at hc
      split at hc
      · rw [List.head?_drop]; exact h40 (by omega)
      · rw [hc]; simp
  rw [e, one_mk hW2, take_len hn]
theorem blank_take {r : List UInt8} {m : Nat} (h0 : 0 < blankL r) (hm : blankL r ≤ m) : blankL (r.take m) = blankL r := by
  cases r with
  | nil => simp [blankL] at h0
  | cons c r =>
    obtain ⟨m, rfl⟩ : ∃ m', m = m' + 1 := ⟨m - 1, by omega⟩
    rw [List.take_succ_cons]
    rw [blankL_cons] at h0 hm
    rw [blankL_cons, blankL_cons]
    by_cases a : c = 9 ∨ c = 10 ∨ c = 13 ∨ c = 32
    · rw [if_pos a, if_pos a]
    · rw [if_neg a] at h0 hm
      rw [if_neg a, if_neg a]
      by_cases b : c = 194 ∧ r.head? = some 160
      · rw [if_pos b] at hm
        rw [if_pos b, if_pos ⟨b.1, by rw [List.head?_take, if_neg (by omega)]; exact b.2⟩]
      · rw [if_neg b] at h0 hm
        rw [if_neg b]
        by_cases d : c = 227 ∧ r.head? = some 128 ∧ r.tail.head? = some 128
        · rw [if_pos d] at hm
          rw [if_pos d, if_neg (by rw [d.1]; simp), if_pos ⟨d.1, by rw [List.head?_take, if_neg (by omega)]; exact d.2.1, by cases r with | nil => simp at d | cons x r => (obtain ⟨m, rfl⟩ : ∃ m', m = m' + 2 := ⟨m - 2, by omega⟩); cases r with | nil => simp at d | cons y r => simpa using d.2.2⟩]
        · rw [if_neg d] at h0; omega
theorem oneL_err (r : List UInt8) : (oneL r).err = 0 ∨ (oneL r).err = 12 ∨ (oneL r).err = 21 := by
  have lst : ∀ k ts, (listedL r k ts (noneL 21)).err = 0 ∨ (listedL r k ts (noneL 21)).err = 12 ∨ (listedL r k ts (noneL 21)).err = 21 := by
    intro k ts
    rcases (listed_spec r k ts (noneL 21)).1 with e | ⟨t, -, -, e⟩ <;> rw [e] <;> simp [noneL]
  unfold oneL
  split
  · simp [noneL]
  · split
    · unfold numberL; simp only; repeat' split
      all_goals simp [noneL]
    · split
      · unfold textL8; split <;> simp [noneL]
      · split
        · unfold namedL; simp only; repeat' split
          all_goals simp [noneL]
        · split
          · exact lst _ _
          · exact lst _ _
theorem one_eta {r : List UInt8} (h : (oneL r).err = 0) : oneL r = ⟨(oneL r).kind, (oneL r).text, (oneL r).n, 0⟩ := by rw [← h]

/-- Words in order, from a place on, with nothing but blanks between. -/
def Chain (l : List UInt8) : Nat → List WordL → Prop
  | e, [] => e ≤ l.length ∧ ∀ k c, e ≤ k → l[k]? = some c → blankB c = true
  | e, w :: ws => ∃ a n : Nat, w.at_ = a ∧ e ≤ a ∧ (∀ k c, e ≤ k → k < a → l[k]? = some c → blankB c = true) ∧ oneL (l.drop a) = ⟨w.kind, w.text, n, 0⟩ ∧ a + n ≤ l.length ∧ 1 ≤ n ∧ Chain l (a + n) ws
theorem chain_blank {l : List UInt8} {p b : Nat} (hb : ∀ k c, p ≤ k → k < p + b → l[k]? = some c → blankB c = true) : ∀ {ws : List WordL}, Chain l (p + b) ws → Chain l p ws
  | [], h => ⟨by have := h.1; omega, fun k c hk hc => by
      by_cases q : k < p + b
      · exact hb k c hk q hc
      · exact h.2 k c (by omega) hc⟩
  | w :: ws, ⟨a, n, h1, h2, h3, h4⟩ => ⟨a, n, h1, by omega, fun k c hk hka hc => by
      by_cases q : k < p + b
      · exact hb k c hk q hc
      · exact h3 k c (by omega) hka hc, h4⟩
theorem cut_chain (l : List UInt8) : ∀ (m p : Nat) (acc ws : List WordL) (to : Int), l.length - p ≤ m → p ≤ l.length → cutAt l p acc = ⟨ws, to, 0⟩ → to = 0 ∧ ∃ r, ws = acc ++ r ∧ Chain l p r
  | m, p, acc, ws, to, hm, hp, h => by
    by_cases hlt : p < l.length
    · by_cases hb : 0 < blankL (l.drop p)
      · have hbl := blankL_le (l.drop p)
        rw [List.length_drop] at hbl
        rw [cutAt_blank hlt hb] at h
        obtain ⟨m, rfl⟩ : ∃ m', m = m' + 1 := ⟨m - 1, by omega⟩
        obtain ⟨h0, r, h1, h2⟩ := cut_chain l m (p + blankL (l.drop p)) acc ws to (by omega) (by omega) h
        refine ⟨h0, r, h1, chain_blank (fun k c hk hk2 hc => ?_) h2⟩
        exact blankL_bytes (r := l.drop p) (k - p) c (by omega) (by rw [List.getElem?_drop, show p + (k - p) = k by omega]; exact hc)
      · have hb0 : blankL (l.drop p) = 0 := by omega
        by_cases he : (oneL (l.drop p)).err = 0
        · have hn := oneL_n he
          rw [List.length_drop] at hn
          rw [cutAt_word hlt hb0 he] at h
          obtain ⟨m, rfl⟩ : ∃ m', m = m' + 1 := ⟨m - 1, by omega⟩
          obtain ⟨h0, r, h1, h2⟩ := cut_chain l m (p + (oneL (l.drop p)).n) _ ws to (by omega) (by omega) h
          exact ⟨h0, _ :: r, by rw [h1, List.append_assoc]; rfl, p, (oneL (l.drop p)).n, rfl, Nat.le_refl _, fun k c a b => by omega, one_eta he, by omega, by omega, h2⟩
        · rw [cutAt_err hlt hb0 he] at h
          simp only [CutA.mk.injEq] at h
          exact absurd h.2.2 he
    · have : p = l.length := by omega
      rw [cutAt_end (by omega)] at h
      simp only [CutA.mk.injEq] at h
      obtain ⟨rfl, rfl, -⟩ := h
      exact ⟨rfl, [], by simp, by simp [this], fun k c hk hc => by have := (List.getElem?_eq_some_iff.1 hc).1; omega⟩
theorem one_open (r : List UInt8) : (oneL (40 :: r)).err = 0 := by
  have h : WordOK 7 [40] [40] r := Or.inr (Or.inr (Or.inr (Or.inr (Or.inr (Or.inr ⟨rfl, by decide, rfl, fun e => by simp at e, fun e => by simp at e⟩)))))
  have := one_mk h
  rw [List.singleton_append] at this
  rw [this]
theorem cut_fault (l : List UInt8) : ∀ (m p : Nat) (acc ws : List WordL) (to e : Int), l.length - p ≤ m → p ≤ l.length → cutAt l p acc = ⟨ws, to, e⟩ → e ≠ 0 →
    ws = [] ∧ (e = 12 ∨ e = 21) ∧ ∃ q : Nat, to = q ∧ p ≤ q ∧ q < l.length ∧ l[q]? ≠ some 40 ∧ ∃ ws', cutAt (l.take q) p acc = ⟨ws', 0, 0⟩
  | m, p, acc, ws, to, e, hm, hp, h, he0 => by
    by_cases hlt : p < l.length
    · have hdt : ∀ q, (l.take q).drop p = (l.drop p).take (q - p) := fun q => List.drop_take
      by_cases hb : 0 < blankL (l.drop p)
      · have hbl := blankL_le (l.drop p)
        rw [List.length_drop] at hbl
        rw [cutAt_blank hlt hb] at h
        obtain ⟨m, rfl⟩ : ∃ m', m = m' + 1 := ⟨m - 1, by omega⟩
        obtain ⟨h0, h1, q, h2, h3, h4, h6, ws', h5⟩ := cut_fault l m (p + blankL (l.drop p)) acc ws to e (by omega) (by omega) h he0
        refine ⟨h0, h1, q, h2, by omega, h4, h6, ws', ?_⟩
        have hbt : blankL ((l.take q).drop p) = blankL (l.drop p) := by rw [hdt]; exact blank_take hb (by omega)
        rw [cutAt_blank (by rw [List.length_take]; omega) (by rw [hbt]; exact hb), hbt]
        exact h5
      · have hb0 : blankL (l.drop p) = 0 := by omega
        by_cases he : (oneL (l.drop p)).err = 0
        · have hn := oneL_n he
          rw [List.length_drop] at hn
          rw [cutAt_word hlt hb0 he] at h
          obtain ⟨m, rfl⟩ : ∃ m', m = m' + 1 := ⟨m - 1, by omega⟩
          obtain ⟨h0, h1, q, h2, h3, h4, h6, ws', h5⟩ := cut_fault l m (p + (oneL (l.drop p)).n) _ ws to e (by omega) (by omega) h he0
          refine ⟨h0, h1, q, h2, by omega, h4, h6, ws', ?_⟩
          have ht : oneL ((l.take q).drop p) = ⟨(oneL (l.drop p)).kind, (oneL (l.drop p)).text, (oneL (l.drop p)).n, 0⟩ := by
            rw [hdt]
            refine one_take (one_eta he) (by omega) (fun hq => ?_)
            rw [List.getElem?_drop, show p + (oneL (l.drop p)).n = q by omega]
            exact h6
          rw [cutAt_word (by rw [List.length_take]; omega) (one_blank ht) (by rw [ht]), ht]
          exact h5
        · rw [cutAt_err hlt hb0 he] at h
          simp only [CutA.mk.injEq] at h
          obtain ⟨rfl, rfl, rfl⟩ := h
          refine ⟨rfl, by rcases oneL_err (l.drop p) with q | q | q; exact absurd q he; exact Or.inl q; exact Or.inr q, p, rfl, Nat.le_refl _, hlt, fun h40 => ?_, acc, ?_⟩
          · obtain ⟨hk, e40⟩ := List.getElem?_eq_some_iff.1 h40
            rw [List.drop_eq_getElem_cons hk, e40] at he
            exact he (one_open _)
          · rw [cutAt_end (by rw [List.length_take]; omega)]
    · rw [cutAt_end (by omega)] at h
      simp only [CutA.mk.injEq] at h
      exact absurd h.2.2.symm he0
/-- What a word's kind tells of its bytes. -/
theorem word_facts {l : List UInt8} {a : Nat} {k : Int} {t : List UInt8} {n : Nat} (h : oneL (l.drop a) = ⟨k, t, n, 0⟩) :
    1 ≤ k ∧ k ≤ 7 ∧ (k = 3 ∨ k = 6 ∨ k = 7 → t = (l.drop a).take n ∧ t.length = n) ∧ (k = 4 ∨ k = 5 → t.length = n) ∧ (k = 4 → l[a + n]? = some 40) ∧
    (k = 1 → ∃ c, l[a + (n - 1)]? = some c ∧ blankB c = false) ∧ (k = 2 → l[a + (n - 1)]? = some 34 ∧ 2 ≤ n) := by
  obtain ⟨hW, hn⟩ := one_inv h
  have hl := take_len hn
  have hv : ∀ c, ((l.drop a).drop n).head? = some c → l[a + n]? = some c := fun c hc => by rw [List.drop_drop, List.head?_drop] at hc; exact hc
  have hg : ∀ j, j < n → l[a + j]? = ((l.drop a).take n)[j]? := fun j hj => by rw [List.getElem?_take, if_pos hj, List.getElem?_drop]
  have hn1 := (oneL_n (r := l.drop a) (by rw [h])).1
  rw [h] at hn1
  simp only at hn1
  generalize hu : (l.drop a).take n = u at *
  generalize (l.drop a).drop n = v at *
  clear hu
  have cap : ∀ x : List UInt8, (capL8 x).length = x.length := fun x => List.length_map _
  rcases hW with ⟨rfl, h0, ha, hv1, ht, -⟩ | ⟨rfl, rfl, hv1⟩ | ⟨rfl, ha, hd, h0, -, ht, -⟩ | ⟨rfl, hn4, hv1, rfl⟩ | ⟨rfl, hc, hv1, hi, rfl⟩ | ⟨rfl, hu, ht⟩ | ⟨rfl, hu, ht, -⟩
  · refine ⟨by omega, by omega, by simp, by simp, by simp, fun _ => ?_, by simp⟩
    have hlt : n - 1 < u.length := by omega
    rw [hg _ (by omega), List.getElem?_eq_getElem hlt]
    refine ⟨_, rfl, in_not_blank (inB_of (Or.inl ?_))⟩
    exact List.all_eq_true.1 ha _ (List.getElem_mem hlt)
  · refine ⟨by omega, by omega, by simp, by simp, by simp, by simp, fun _ => ⟨?_, by simp at hl; omega⟩⟩
    simp only [List.length_cons, List.length_append, List.length_nil] at hl
    rw [hg _ (by omega), show n - 1 = (escL t).length + 1 by omega, List.getElem?_cons_succ, List.getElem?_append_right (Nat.le_refl _)]
    simp
  · exact ⟨by omega, by omega, fun _ => ⟨ht, by rw [ht]; exact hl⟩, by simp, by simp, by simp, by simp⟩
  · exact ⟨by omega, by omega, by simp, fun _ => by rw [cap]; exact hl, fun _ => hv 40 hv1, by simp, by simp⟩
  · exact ⟨by omega, by omega, by simp, fun _ => by rw [cap]; exact hl, by simp, by simp, by simp⟩
  · exact ⟨by omega, by omega, fun _ => ⟨ht, by rw [ht]; exact hl⟩, by simp, by simp, by simp, by simp⟩
  · exact ⟨by omega, by omega, fun _ => ⟨ht, by rw [ht]; exact hl⟩, by simp, by simp, by simp, by simp⟩
end Go.Proofs.YtikahfnlflhbfaaGreatDoor
