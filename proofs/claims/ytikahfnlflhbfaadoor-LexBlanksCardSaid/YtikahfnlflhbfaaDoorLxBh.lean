/- LexBlanks: a slice of bytes as an argument. -/
import Derived.Test.YtikahfnlflhbfaaDoorLxBx
import Derived.Test.YtikahfnlflhbfaaDoorLaw
namespace Go.Proofs.YtikahfnlflhbfaaDoor
open Go.ChangeShapes Go.WideShapes Go.ChangeAt Go.RowKit

theorem cellsU8 : Tryd.prog.cellsOf 5 = 1 := by kernel_rfl
theorem addr_add8 (b o n : Nat) : (⟨b, o, none⟩ : Addr).add n = ⟨b, o + n, none⟩ := by unfold Addr.add; split <;> simp_all
theorem cells_get8 {w : World} {base : Nat} {a : Addr} {n : Nat} {cs : List Value} (h : w.cells? base a n = some cs) : cs.length = n ∧ ∀ i, i < n → w.cell? (a.add i) = cs[i]? := by
  unfold World.cells? at h
  split at h
  · exact ⟨by simpa using mapM_some_length h, fun i hi => mapM_some_get h i i (by simp [hi])⟩
  · cases h
theorem cell_lt9 {w : World} {a : Addr} {v : Value} (h : w.cell? a = some v) : a.block < w.heap.size ∧ a.spot = none := by
  unfold World.cell? at h
  split at h
  · rename_i hb
    refine ⟨(Array.getElem?_eq_some_iff.1 hb).1, ?_⟩
    cases hs : a.spot with
    | none => rfl
    | some _ => simp [hs] at h
  · cases h
section
variable {H : Type} {enc : TypeId × Value → H} {W : World} {base : Nat} {sp : Nat → Bool} {held : Bool}
theorem how_of_trod {a : Option Addr} {len cap : Nat} {d : DataW H} {p : List MemPlace} (h : DataW.Trod enc Tryd.prog W base sp held 22 (.slice a len cap) d p) : HowAt W a len := by
  obtain ⟨fuel, hf⟩ := h
  rcases DataW.trod_slice Tryd.underlying22 hf with ⟨e, -⟩ | ⟨x, l, c, elems, rest, mm, rfl, e, g, -, hlc, hcm, hlen, hel, -, -⟩
  · simp [Value.cells] at e
    obtain ⟨rfl, rfl, rfl⟩ := e
    exact ⟨by omega, fun i hi => absurd hi (Nat.not_lt_zero _)⟩
  · simp [Value.cells] at e
    obtain ⟨rfl, rfl, rfl⟩ := e
    simp only [Prod.mk.injEq] at g
    obtain ⟨rfl, -⟩ := g
    have hmax : len ≤ 9223372036854775807 := by have : maxLen = 9223372036854775807 := rfl; omega
    have each : ∀ i, i < len → ∃ c : UInt8, W.cell? (x.add i) = some (.int .u8 (c.toNat : Int)) := by
      intro i hi
      obtain ⟨z, hx⟩ : ∃ z, elems[i]? = some z := ⟨elems[i]'(by omega), List.getElem?_eq_getElem _⟩
      have hb := hel i hi
      rw [hx, cellsU8, Option.bind_eq_some_iff] at hb
      obtain ⟨cs', hcs, ht⟩ := hb
      obtain ⟨n, rfl, -, hwf⟩ := DataW.trod_int Tryd.underlying5 ht
      obtain ⟨-, hc⟩ := cells_get8 hcs
      have hc0 := hc 0 (by omega)
      have h1 : IntKind.u8.min = 0 := rfl
      have h2 : IntKind.u8.max = 255 := rfl
      simp only [Lit.wf, Bool.and_eq_true, decide_eq_true_eq] at hwf
      refine ⟨UInt8.ofNat n.toNat, ?_⟩
      have ha : (x.add (i * 1)).add 0 = x.add i := by
        rw [Nat.mul_one]
        simp [Addr.add]
      rw [ha] at hc0
      rw [hc0]
      have : ((UInt8.ofNat n.toNat).toNat : Int) = n := by
        have : (UInt8.ofNat n.toNat).toNat = n.toNat := by simp; omega
        omega
      rw [this]; rfl
    refine ⟨hmax, fun i hi => ?_⟩
    obtain ⟨b, off, rfl, hb⟩ : ∃ b off, x = ⟨b, off, none⟩ ∧ b < W.heap.size := by
      obtain ⟨c, hc⟩ := each 0 (by omega)
      have := cell_lt9 hc
      obtain ⟨b, off, spot⟩ := x
      simp only [Addr.add, if_true] at this
      obtain ⟨h1, rfl⟩ := this
      exact ⟨b, off, rfl, h1⟩
    obtain ⟨c, hc⟩ := each i hi
    rw [addr_add8] at hc
    exact ⟨b, off, c, rfl, hb, hc⟩
end
end Go.Proofs.YtikahfnlflhbfaaDoor
