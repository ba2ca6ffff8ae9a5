/- LexAll: a slice of texts as an argument. -/
import Derived.Test.YtikahfnlflhbfaaGreatDoorLzP
import Derived.Test.YtikahfnlflhbfaaGreatDoorLaw
import Derived.SliceStrings
namespace Go.Proofs.YtikahfnlflhbfaaGreatDoor
open Go.ChangeShapes Go.WideShapes Go.ChangeAt Go.RowKit

theorem cellsStr : Tryz.prog.cellsOf 9 = 1 := by kernel_rfl
theorem addr_add8 (b o n : Nat) : (⟨b, o, none⟩ : Addr).add n = ⟨b, o + n, none⟩ := by unfold Addr.add; split <;> simp_all
theorem cells_get8 {w : World} {base : Nat} {a : Addr} {n : Nat} {cs : List Value} (h : w.cells? base a n = some cs) : cs.length = n ∧ ∀ i, i < n → w.cell? (a.add i) = cs[i]? := by
  unfold World.cells? at h
  split at h
  · exact ⟨by simpa using mapM_some_length h, fun i hi => mapM_some_get h i i (by simp [hi])⟩
  · cases h
theorem cell_lt9 {w : World} {a : Addr} {v : Value} (h : w.cell? a = some v) : a.block < w.heap.size ∧ a.spot = none := by
  unfold World.cell? at h
  split at h
  · rename_i hb
    refine ⟨(Array.getElem?_eq_some_iff.1 hb).1, ?_⟩
    cases hs : a.spot with
    | none => rfl
    | some _ => simp [hs] at h
  · cases h
section
variable {H : Type} {enc : TypeId × Value → H} {W : World} {base : Nat} {sp : Nat → Bool} {held : Bool}
theorem texts_of_trod {a : Option Addr} {len cap : Nat} {d : DataW H} {p : List MemPlace} (h : DataW.Trod enc Tryz.prog W base sp held 22 (.slice a len cap) d p) : TxtsIn W a len := by
  obtain ⟨fuel, hf⟩ := h
  rcases DataW.trod_slice Tryz.underlying22 hf with ⟨e, -⟩ | ⟨x, l, c, elems, rest, mm, rfl, e, g, -, hlc, hcm, hlen, hel, -, -⟩
  · simp [Value.cells] at e
    obtain ⟨rfl, rfl, rfl⟩ := e
    exact ⟨by omega, fun i hi => absurd hi (Nat.not_lt_zero _)⟩
  · simp [Value.cells] at e
    obtain ⟨rfl, rfl, rfl⟩ := e
    simp only [Prod.mk.injEq] at g
    obtain ⟨rfl, -⟩ := g
    have hmx : maxLen = 9223372036854775807 := rfl
    have hmax : len ≤ 9223372036854775807 := by omega
    have each : ∀ i, i < len → ∃ t : ByteArray, W.cell? (x.add i) = some (.string t) ∧ t.size ≤ 9223372036854775807 := by
      intro i hi
      obtain ⟨z, hx⟩ : ∃ z, elems[i]? = some z := ⟨elems[i]'(by omega), List.getElem?_eq_getElem _⟩
      have hb := hel i hi
      rw [hx, cellsStr, Option.bind_eq_some_iff] at hb
      obtain ⟨cs', hcs, ht⟩ := hb
      obtain ⟨s', rfl, -, hsz⟩ := DataW.trod_string Tryz.underlying9 ht
      obtain ⟨-, hc⟩ := cells_get8 hcs
      have hc0 := hc 0 (by omega)
      have ha : (x.add (i * 1)).add 0 = x.add i := by
        rw [Nat.mul_one]
        simp [Addr.add]
      rw [ha] at hc0
      exact ⟨s', by rw [hc0]; rfl, by rw [← hmx]; exact hsz⟩
    refine ⟨hmax, fun i hi => ?_⟩
    obtain ⟨b, off, rfl, hb⟩ : ∃ b off, x = ⟨b, off, none⟩ ∧ b < W.heap.size := by
      obtain ⟨c, hc, -⟩ := each 0 (by omega)
      have := cell_lt9 hc
      obtain ⟨b, off, spot⟩ := x
      simp only [Addr.add, if_true] at this
      obtain ⟨h1, rfl⟩ := this
      exact ⟨b, off, rfl, h1⟩
    obtain ⟨c, hc, hs⟩ := each i hi
    rw [addr_add8] at hc
    exact ⟨b, off, c, rfl, hb, hc, hs⟩
end
end Go.Proofs.YtikahfnlflhbfaaGreatDoor
