/- Words written with blanks between are the same words. No program in sight. -/
import Derived.Test.YtikahfnlflhbfaaDoorLxG
import Derived.Test.YtikahfnlflhbfaaDoorLxPl
namespace Go.Proofs.YtikahfnlflhbfaaDoor
open Go.RowKit Go.Lib

/-- The first byte of a blank. -/
def gapB (c : UInt8) : Bool := c == 9 || c == 10 || c == 13 || c == 32 || c == 194 || c == 227
/-- What may follow a word of a kind (0: nothing went ahead). -/
def Fol (k : Int) (v : List UInt8) : Prop := k = 0 ∨ (k = 4 ∧ v.head? = some 40) ∨ (k ≠ 4 ∧ ∀ c, v.head? = some c → gapB c = true)
/-- A word, as it is written. -/
def spellL (k : Int) (t : List UInt8) : List UInt8 := if k = 2 then 34 :: (escL t ++ [34]) else t
def gapTab : List (List UInt8) := [[32], [9], [10], [13], [194, 160], [227, 128, 128], [32, 32], [32, 194, 160, 9]]
theorem gap_in {c : UInt8} (h : gapB c = true) : inB c = false ∧ c ≠ 34 ∧ c ≠ 40 ∧ c ≠ 62 ∧ c ≠ 61 := by
  have h1 : c = 9 ∨ c = 10 ∨ c = 13 ∨ c = 32 ∨ c = 194 ∨ c = 227 := by
    unfold gapB at h
    simp only [Bool.or_eq_true, beq_iff_eq] at h
    rcases h with ((((h | h) | h) | h) | h) | h <;> simp [h]
  rcases h1 with rfl | rfl | rfl | rfl | rfl | rfl <;> decide
theorem strip_strip : ∀ (l : List UInt8), stripZ (stripZ l) = stripZ l
  | [] => rfl
  | [c] => rfl
  | c :: d :: r => by
    by_cases hc : c = 48
    · have e : stripZ (c :: d :: r) = stripZ (d :: r) := by simp only [stripZ, if_pos hc]
      rw [e, strip_strip (d :: r)]
    · have e : stripZ (c :: d :: r) = c :: d :: r := by simp only [stripZ, if_neg hc]
      rw [e, e]
theorem respell {k : Int} {t u v v' : List UInt8} (h : WordOK k t u v) (hf : Fol k v') : WordOK k t (spellL k t) v' := by
  have hk0 : k ≠ 0 := by rcases h with ⟨rfl, -⟩ | ⟨rfl, -⟩ | ⟨rfl, -⟩ | ⟨rfl, -⟩ | ⟨rfl, -⟩ | ⟨rfl, -⟩ | ⟨rfl, -⟩ <;> decide
  have hg : k ≠ 4 → ∀ c, v'.head? = some c → gapB c = true := fun h4 => by
    rcases hf with h | ⟨h, -⟩ | ⟨-, h⟩
    · exact absurd h hk0
    · exact absurd h h4
    · exact h
  have off : k ≠ 4 → offHead inB v' := fun h4 c hc => (gap_in (hg h4 c hc)).1
  have ne : k ≠ 4 → ∀ x, (x = 34 ∨ x = 40 ∨ x = 62 ∨ x = 61) → v'.head? ≠ some x := fun h4 x hx e => by
    have := (gap_in (hg h4 x e)).2
    rcases hx with rfl | rfl | rfl | rfl
    · exact this.1 rfl
    · exact this.2.1 rfl
    · exact this.2.2.1 rfl
    · exact this.2.2.2 rfl
  rcases h with ⟨rfl, h0, ha, hv, rfl, hm⟩ | ⟨rfl, hu, hv⟩ | ⟨rfl, ha, hd, h0, hv, ht, hr, h5, h4⟩ | ⟨rfl, hn, hv, rfl⟩ | ⟨rfl, hc, hv, hi, rfl⟩ | ⟨rfl, hu, ht⟩ | ⟨rfl, hu, ht, h60, h62⟩
  · obtain ⟨s1, s2, s3, s4, s5⟩ := strip_facts u h0 ha
    have e : spellL 1 (stripZ u) = stripZ u := rfl
    rw [e]
    exact Or.inl ⟨rfl, s1, s2, off (by decide), (strip_strip u).symm, by rw [s4]; exact hm⟩
  · exact Or.inr (Or.inl ⟨rfl, rfl, ne (by decide) 34 (by simp)⟩)
  · have e : spellL 3 t = u := ht
    rw [e]
    refine Or.inr (Or.inr (Or.inl ⟨rfl, ha, hd, h0, off (by decide), ht, hr, fun _ => ?_, fun e => absurd e (ne (by decide) 40 (by simp))⟩))
    by_cases h40 : v.head? = some 40
    · have hnb := h4 h40
      exact ⟨fun e => (by rw [truth_name (Or.inl e)] at hnb; cases hnb), fun e => (by rw [truth_name (Or.inr e)] at hnb; cases hnb)⟩
    · exact h5 h40
  · have h40 : v'.head? = some 40 := by
      rcases hf with h | ⟨-, h⟩ | ⟨h, -⟩
      · exact absurd h hk0
      · exact h
      · exact absurd rfl h
    have e : spellL 4 (capL8 u) = capL8 u := rfl
    rw [e]
    exact Or.inr (Or.inr (Or.inr (Or.inl ⟨rfl, name_cap8 hn, h40, (cap_cap8 u).symm⟩)))
  · have e : spellL 5 (capL8 u) = capL8 u := rfl
    rw [e]
    exact Or.inr (Or.inr (Or.inr (Or.inr (Or.inl ⟨rfl, by rw [cap_cap8]; exact hc, ne (by decide) 40 (by simp), off (by decide), (cap_cap8 u).symm⟩))))
  · have e : spellL 6 t = u := ht
    rw [e]
    exact Or.inr (Or.inr (Or.inr (Or.inr (Or.inr (Or.inl ⟨rfl, hu, ht⟩)))))
  · have e : spellL 7 t = u := ht
    rw [e]
    exact Or.inr (Or.inr (Or.inr (Or.inr (Or.inr (Or.inr ⟨rfl, hu, ht, fun _ => ⟨ne (by decide) 62 (by simp), ne (by decide) 61 (by simp)⟩, fun _ => ne (by decide) 61 (by simp)⟩)))))
theorem skip_unit {pre u rest : List UInt8} {acc : List WordL} (h0 : 0 < u.length) (h : blankL (u ++ rest) = u.length) : cutAt (pre ++ (u ++ rest)) pre.length acc = cutAt (pre ++ (u ++ rest)) (pre.length + u.length) acc := by
  have hd : (pre ++ (u ++ rest)).drop pre.length = u ++ rest := List.drop_left
  rw [cutAt_blank (by simp; omega) (by rw [hd, h]; exact h0), hd, h]
theorem skip_gap {pre g rest : List UInt8} {acc : List WordL} (hg : g ∈ gapTab) : cutAt (pre ++ (g ++ rest)) pre.length acc = cutAt (pre ++ (g ++ rest)) (pre.length + g.length) acc := by
  have one : ∀ (u : List UInt8), u ∈ ([[32], [9], [10], [13], [194, 160], [227, 128, 128]] : List (List UInt8)) → ∀ rest, 0 < u.length ∧ blankL (u ++ rest) = u.length := by
    intro u hu rest
    simp only [List.mem_cons, List.not_mem_nil, or_false] at hu
    rcases hu with rfl | rfl | rfl | rfl | rfl | rfl <;> exact ⟨by decide, rfl⟩
  have two : ∀ (u1 u2 : List UInt8), u1 ∈ ([[32], [9], [10], [13], [194, 160], [227, 128, 128]] : List (List UInt8)) → ∀ (pre rest : List UInt8),
      (cutAt ((pre ++ u1) ++ (u2 ++ rest)) (pre ++ u1).length acc = cutAt ((pre ++ u1) ++ (u2 ++ rest)) ((pre ++ u1).length + u2.length) acc) →
      cutAt (pre ++ ((u1 ++ u2) ++ rest)) pre.length acc = cutAt (pre ++ ((u1 ++ u2) ++ rest)) (pre.length + (u1 ++ u2).length) acc := by
    intro u1 u2 h1 pre rest h
    obtain ⟨a, b⟩ := one u1 h1 (u2 ++ rest)
    have e : pre ++ ((u1 ++ u2) ++ rest) = pre ++ (u1 ++ (u2 ++ rest)) := by simp only [List.append_assoc]
    have e2 : (pre ++ u1) ++ (u2 ++ rest) = pre ++ (u1 ++ (u2 ++ rest)) := by simp only [List.append_assoc]
    rw [e2] at h
    rw [e, skip_unit a b]
    rw [List.length_append] at h
    rw [h, List.length_append, Nat.add_assoc]
  simp only [gapTab, List.mem_cons, List.not_mem_nil, or_false] at hg
  rcases hg with rfl | rfl | rfl | rfl | rfl | rfl | rfl | rfl
  · obtain ⟨a, b⟩ := one [32] (by simp) rest; exact skip_unit a b
  · obtain ⟨a, b⟩ := one [9] (by simp) rest; exact skip_unit a b
  · obtain ⟨a, b⟩ := one [10] (by simp) rest; exact skip_unit a b
  · obtain ⟨a, b⟩ := one [13] (by simp) rest; exact skip_unit a b
  · obtain ⟨a, b⟩ := one [194, 160] (by simp) rest; exact skip_unit a b
  · obtain ⟨a, b⟩ := one [227, 128, 128] (by simp) rest; exact skip_unit a b
  · exact two [32] [32] (by simp) pre rest (by obtain ⟨a, b⟩ := one [32] (by simp) rest; exact skip_unit a b)
  · exact two [32] [194, 160, 9] (by simp) pre rest (two [194, 160] [9] (by simp) (pre ++ [32]) rest (by obtain ⟨a, b⟩ := one [9] (by simp) rest; exact skip_unit a b))
/-- So far: whatever may follow is cut behind it, with these words laid down. -/
def StB (b : List UInt8) (acc : List WordL) (last : Int) : Prop := ∀ v, Fol last v → cutAt (b ++ v) 0 [] = cutAt (b ++ v) b.length acc
theorem StB.start : StB [] [] 0 := fun _ _ => rfl
theorem StB.step {b g : List UInt8} {acc : List WordL} {last k : Int} {t u v0 : List UInt8} (h : StB b acc last) (hw : WordOK k t u v0) (hg : g ∈ gapTab ∨ (g = [] ∧ (last = 0 ∨ (last = 4 ∧ (spellL k t).head? = some 40)))) (hgl : g ∈ gapTab → last ≠ 4) :
    StB (b ++ g ++ spellL k t) (acc ++ [⟨k, t, ((b ++ g).length : Nat)⟩]) k := by
  intro v hv
  have hW := respell hw hv
  have h1 := one_mk hW
  obtain ⟨c, x, hsx, hcb⟩ := word_first hW
  have hfol : Fol last (g ++ (spellL k t ++ v)) := by
    rcases hg with hg | ⟨rfl, hz | ⟨h4, h40⟩⟩
    · refine Or.inr (Or.inr ⟨hgl hg, fun c hc => ?_⟩)
      have := (by decide : ∀ y ∈ gapTab, ∃ d, y.head? = some d ∧ gapB d = true) g hg
      obtain ⟨d, hd, hb⟩ := this
      cases g with
      | nil => cases hd
      | cons z g => simp at hd hc; subst hd; subst hc; exact hb
    · exact Or.inl hz
    · refine Or.inr (Or.inl ⟨h4, ?_⟩)
      rw [List.nil_append, hsx] at *
      simpa using h40
  have e0 : b ++ g ++ spellL k t ++ v = b ++ (g ++ (spellL k t ++ v)) := by simp only [List.append_assoc]
  have e1 : b ++ (g ++ (spellL k t ++ v)) = (b ++ g) ++ (spellL k t ++ v) := by simp only [List.append_assoc]
  rw [e0, h _ hfol]
  have hskip : cutAt (b ++ (g ++ (spellL k t ++ v))) b.length acc = cutAt (b ++ (g ++ (spellL k t ++ v))) (b ++ g).length acc := by
    rcases hg with hg | ⟨rfl, -⟩
    · rw [skip_gap hg, List.length_append]
    · simp
  rw [hskip, e1]
  have hd : ((b ++ g) ++ (spellL k t ++ v)).drop (b ++ g).length = spellL k t ++ v := List.drop_left
  have hlen : (b ++ g).length < ((b ++ g) ++ (spellL k t ++ v)).length := by rw [hsx]; simp
  rw [cutAt_word hlen (by rw [hd, hsx]; exact blankL_zero hcb) (by rw [hd, h1]), hd, h1]
  simp only
  rw [show (b ++ g).length + (spellL k t).length = (b ++ g ++ spellL k t).length by simp only [List.length_append]]
theorem StB.done {b : List UInt8} {acc : List WordL} {last : Int} (h : StB b acc last) (h4 : last ≠ 4) (hb : b.length ≤ 65535) : cutL b = ⟨acc, 0, 0⟩ := by
  have := h [] (Or.inr (Or.inr ⟨h4, fun c hc => by cases hc⟩))
  rw [List.append_nil] at this
  unfold cutL
  rw [if_neg (by omega), this, cutAt_end (Nat.le_refl _)]
/-- Behind a function's name stands its bracket. -/
theorem chain_four {l : List UInt8} {e : Nat} {w : WordL} {ws : List WordL} (h : Chain l e (w :: ws)) (h4 : w.kind = 4) : ∃ y r, ws = y :: r ∧ y.kind = 7 ∧ y.text = [40] := by
  obtain ⟨a, n, h1, h2, h3, hw, h5, h6, h7⟩ := h
  have h40 := (word_facts hw).2.2.2.2.1 h4
  obtain ⟨y, r, rfl, hy⟩ := chain_next h7 h40 (by decide)
  refine ⟨y, r, rfl, ?_⟩
  obtain ⟨a', n', g1, g2, g3, g4, -⟩ := h7
  have ha : a' = a + n := by rw [g1] at hy; omega
  subst ha
  obtain ⟨hk, e40⟩ := List.getElem?_eq_some_iff.1 h40
  rw [List.drop_eq_getElem_cons hk, e40] at g4
  have hW : WordOK 7 [40] [40] (l.drop (a + n + 1)) := Or.inr (Or.inr (Or.inr (Or.inr (Or.inr (Or.inr ⟨rfl, by decide, rfl, fun e => by simp at e, fun e => by simp at e⟩)))))
  have := one_mk hW
  rw [List.singleton_append, g4] at this
  simp only [GotL.mk.injEq] at this
  exact ⟨this.1, this.2.1⟩
theorem chain_word {l : List UInt8} {e : Nat} {w : WordL} {ws : List WordL} (h : Chain l e (w :: ws)) : (∃ u v, WordOK w.kind w.text u v) ∧ ∃ e', Chain l e' ws := by
  obtain ⟨a, n, h1, h2, h3, hw, h5, h6, h7⟩ := h
  exact ⟨⟨_, _, (one_inv hw).1⟩, _, h7⟩
end Go.Proofs.YtikahfnlflhbfaaDoor
