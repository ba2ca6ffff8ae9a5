/- A formula's words: runes read off a text, and the blanks among them. No program in sight. -/
import Derived.Test.YtikahfnlflhbfaaGreatDoorLxQ
import Derived.Lib.DecodeN
import Derived.Lib.MapLaws
namespace Go.Proofs.YtikahfnlflhbfaaGreatDoor
open Go.RowKit Go.Lib

theorem get_at8 (s : ByteArray) (i : Nat) (h : i < s.size) : s.data.toList[i]? = some (s.get! i) := by
  rw [List.getElem?_eq_getElem (by simpa using h)]
  congr 1
  show s.data.toList[i] = s.data.get!Internal i
  simp [h]
theorem u8_eq {c : UInt8} {n : Nat} (hn : n < 256) : c = UInt8.ofNat n ↔ c.toNat = n := by
  rw [← UInt8.toNat_inj]
  have : (UInt8.ofNat n).toNat = n := by simp; omega
  rw [this]
/-- A byte beyond the first of a rune is no ASCII. -/
theorem decode_tail (s : ByteArray) (i k : Nat) (h1 : 1 ≤ k) (h2 : k < (Utf8.decode s i).2) : ∃ c, s.data.toList[i + k]? = some c ∧ 128 ≤ c.toNat := by
  rw [decode_at] at h2
  have key : ∀ j, j < s.size - i → (s.get! (i + j)).toNat / 64 = 2 → ∃ c, s.data.toList[i + j]? = some c ∧ 128 ≤ c.toNat := fun j hj h => ⟨_, get_at8 s (i + j) (by omega), by omega⟩
  rcases decodeN_shape (s.size - i) (s.get! i).toNat (s.get! (i + 1)).toNat (s.get! (i + 2)).toNat (s.get! (i + 3)).toNat with ⟨c, e⟩ | ⟨c1, c2, c3, cv, e⟩ | ⟨c1, c2, c3, c4, cv, cs, e⟩ | ⟨c1, c2, c3, c4, c5, cv, cw, e⟩ | e
  · rw [e] at h2; simp at h2; omega
  · rw [e] at h2; simp at h2
    obtain rfl : k = 1 := by omega
    exact key 1 c2 c3
  · rw [e] at h2; simp at h2
    have : k = 1 ∨ k = 2 := by omega
    rcases this with rfl | rfl
    · exact key 1 (by omega) c3
    · exact key 2 c2 c4
  · rw [e] at h2; simp at h2
    have : k = 1 ∨ k = 2 ∨ k = 3 := by omega
    rcases this with rfl | rfl | rfl
    · exact key 1 (by omega) c3
    · exact key 2 (by omega) c4
    · exact key 3 c2 c5
  · rw [e] at h2; simp at h2; omega
theorem decode_pos (s : ByteArray) (i : Nat) : 1 ≤ (Utf8.decode s i).2 := by
  rw [decode_at]
  rcases decodeN_shape (s.size - i) (s.get! i).toNat (s.get! (i + 1)).toNat (s.get! (i + 2)).toNat (s.get! (i + 3)).toNat with ⟨c, e⟩ | ⟨c1, c2, c3, cv, e⟩ | ⟨c1, c2, c3, c4, cv, cs, e⟩ | ⟨c1, c2, c3, c4, c5, cv, cw, e⟩ | e <;> rw [e] <;> simp
theorem decode_end (s : ByteArray) (i : Nat) (h : i < s.size) : i + (Utf8.decode s i).2 ≤ s.size := by
  rw [decode_at]
  rcases decodeN_shape (s.size - i) (s.get! i).toNat (s.get! (i + 1)).toNat (s.get! (i + 2)).toNat (s.get! (i + 3)).toNat with ⟨c, e⟩ | ⟨c1, c2, c3, cv, e⟩ | ⟨c1, c2, c3, c4, cv, cs, e⟩ | ⟨c1, c2, c3, c4, c5, cv, cw, e⟩ | e <;> rw [e] <;> simp only <;> omega
/-- The runes that are blanks. -/
def blankN (r : Nat) : Bool := r == 9 || r == 10 || r == 13 || r == 32 || r == 160 || r == 12288
theorem drop_heads (s : ByteArray) (i : Nat) (h : i < s.size) : ∃ r, s.data.toList.drop i = s.get! i :: r ∧ r.head? = s.data.toList[i + 1]? ∧ r.tail.head? = s.data.toList[i + 2]? := by
  have hl : i < s.data.toList.length := by rw [← Lib.size_eq]; exact h
  refine ⟨s.data.toList.drop (i + 1), ?_, by rw [List.head?_drop], by rw [List.tail_drop, List.head?_drop]⟩
  have e := get_at8 s i h
  rw [List.getElem?_eq_getElem hl] at e
  rw [List.drop_eq_getElem_cons hl, Option.some.inj e]
theorem blank_decode (s : ByteArray) (i : Nat) (h : i < s.size) :
    (blankN (Utf8.decode s i).1 = true → blankL (s.data.toList.drop i) = (Utf8.decode s i).2) ∧ (blankN (Utf8.decode s i).1 = false → blankL (s.data.toList.drop i) = 0) := by
  obtain ⟨r, hr, h1, h2⟩ := drop_heads s i h
  have g1 : ∀ n, n < 256 → (r.head? = some (UInt8.ofNat n) ↔ (1 < s.size - i ∧ (s.get! (i + 1)).toNat = n)) := by
    intro n hn
    rw [h1]
    by_cases q : i + 1 < s.size
    · rw [get_at8 s (i + 1) q, Option.some_inj, u8_eq hn]
      exact ⟨fun e => ⟨by omega, e⟩, fun e => e.2⟩
    · rw [List.getElem?_eq_none (by rw [← Lib.size_eq]; omega)]
      exact ⟨fun e => by simp at e, fun e => by omega⟩
  have g2 : ∀ n, n < 256 → (r.tail.head? = some (UInt8.ofNat n) ↔ (2 < s.size - i ∧ (s.get! (i + 2)).toNat = n)) := by
    intro n hn
    rw [h2]
    by_cases q : i + 2 < s.size
    · rw [get_at8 s (i + 2) q, Option.some_inj, u8_eq hn]
      exact ⟨fun e => ⟨by omega, e⟩, fun e => e.2⟩
    · rw [List.getElem?_eq_none (by rw [← Lib.size_eq]; omega)]
      exact ⟨fun e => by simp at e, fun e => by omega⟩
  rw [hr, decode_at]
  have k0 : (s.get! i).toNat < 256 := (s.get! i).toNat_lt
  have k1 : (s.get! (i + 1)).toNat < 256 := (s.get! (i + 1)).toNat_lt
  have k2 : (s.get! (i + 2)).toNat < 256 := (s.get! (i + 2)).toNat_lt
  have k3 : (s.get! (i + 3)).toNat < 256 := (s.get! (i + 3)).toNat_lt
  have e0 : blankL (s.get! i :: r) = if (s.get! i).toNat = 9 ∨ (s.get! i).toNat = 10 ∨ (s.get! i).toNat = 13 ∨ (s.get! i).toNat = 32 then 1
      else if (s.get! i).toNat = 194 ∧ (1 < s.size - i ∧ (s.get! (i + 1)).toNat = 160) then 2
      else if (s.get! i).toNat = 227 ∧ (1 < s.size - i ∧ (s.get! (i + 1)).toNat = 128) ∧ (2 < s.size - i ∧ (s.get! (i + 2)).toNat = 128) then 3 else 0 := by
    unfold blankL
    have a := u8_eq (c := s.get! i) (n := 9) (by omega); have b := u8_eq (c := s.get! i) (n := 10) (by omega); have c := u8_eq (c := s.get! i) (n := 13) (by omega); have d := u8_eq (c := s.get! i) (n := 32) (by omega)
    have e := u8_eq (c := s.get! i) (n := 194) (by omega); have f := u8_eq (c := s.get! i) (n := 227) (by omega)
    have p := g1 160 (by omega); have q := g1 128 (by omega); have z := g2 128 (by omega)
    simp only [← a, ← b, ← c, ← d, ← e, ← f, ← p, ← q, ← z]
    rfl
  rw [e0]
  generalize (s.get! i).toNat = b0 at *
  generalize (s.get! (i + 1)).toNat = b1 at *
  generalize (s.get! (i + 2)).toNat = b2 at *
  generalize (s.get! (i + 3)).toNat = b3 at *
  have hn : 0 < s.size - i := by omega
  generalize s.size - i = n at *
  clear e0 g1 g2 h1 h2 hr h
  have hbl : ∀ x : Nat, blankN x = true ↔ x = 9 ∨ x = 10 ∨ x = 13 ∨ x = 32 ∨ x = 160 ∨ x = 12288 := by
    intro x; unfold blankN; simp only [Bool.or_eq_true, beq_iff_eq]; omega
  have hbf : ∀ x : Nat, blankN x = false ↔ ¬ (x = 9 ∨ x = 10 ∨ x = 13 ∨ x = 32 ∨ x = 160 ∨ x = 12288) := by
    intro x; rw [← hbl, Bool.not_eq_true]
  unfold decodeN
  rw [hbl, hbf]
  refine ⟨fun hh => ?_, fun hh => ?_⟩
  · repeat' split at hh
    all_goals (simp only at hh)
    all_goals (repeat' split)
    all_goals (first | omega | (simp only; omega))
  · repeat' split at hh
    all_goals (simp only at hh)
    all_goals (repeat' split)
    all_goals (first | rfl | (exfalso; omega))
end Go.Proofs.YtikahfnlflhbfaaGreatDoor
