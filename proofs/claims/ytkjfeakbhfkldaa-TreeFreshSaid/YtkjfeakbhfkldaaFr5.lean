/- A list of trees as an argument. -/
import Derived.Test.YtkjfeakbhfkldaaTreeArg
namespace Go.Proofs.Ytkjfeakbhfkldaa
open Go.ChangeShapes Go.WideShapes Go.ChangeAt Go.RowKit
section
variable {H : Type} {enc : TypeId × Value → H} {W : World} {base : Nat} {sp : Nat → Bool} {held : Bool}
set_option maxRecDepth 100000 in
theorem trees_of_trod {a : Option Addr} {len cap : Nat} {d : DataW H} {p : List MemPlace} (h : DataW.Trod enc Try.prog W base sp held 27 (.slice a len cap) d p) (hw : ∀ n ∈ d.weights Try.prog 27, n ≤ reachBytes) :
    ∃ ts : Trees, len = ts.len ∧ len ≤ 9223372036854775807 ∧ RowIn W W.heap.size ts a 0 := by
  obtain ⟨fuel, hf⟩ := h
  rcases DataW.trod_slice Try.underlying27 hf with ⟨e, -⟩ | ⟨x, l, c, elems, rest, mm, rfl, e, g, -, hlc, hcm, hlen, hel, -, -⟩
  · simp [Value.cells] at e
    obtain ⟨rfl, rfl, rfl⟩ := e
    exact ⟨.nil, rfl, by omega, trivial⟩
  · simp [Value.cells] at e
    obtain ⟨rfl, rfl, rfl⟩ := e
    simp only [Prod.mk.injEq] at g
    obtain ⟨rfl, -⟩ := g
    have hmax : len ≤ 9223372036854775807 := by have : maxLen = 9223372036854775807 := rfl; omega
    rcases Nat.eq_zero_or_pos len with z | z
    · subst z
      exact ⟨.nil, rfl, hmax, trivial⟩
    have each : ∀ i, i < len → ∃ h ks ka kl kc, TreeV W W.heap.size h ks ka kl ∧ ∀ j v, (h.vals (.slice ka kl kc))[j]? = some v → W.cell? ((x.add (i * 14)).add j) = some v := by
      intro i hi
      obtain ⟨y, hx⟩ : ∃ y, elems[i]? = some y := ⟨elems[i]'(by omega), List.getElem?_eq_getElem _⟩
      have hb := hel i hi
      rw [hx, cellsExpr, Option.bind_eq_some_iff] at hb
      obtain ⟨cs', hcs, ht⟩ := hb
      obtain ⟨h', ks, ka, kl, kc, rfl, tv⟩ := tree_of_trod mm ht (fun n hn => hw n (by
        simp only [DataW.weights, Try.underlying27, List.mem_cons, List.mem_append]
        exact .inr (.inl (weights_all_mem (List.mem_map_of_mem (List.mem_of_getElem? hx)) n hn))))
      obtain ⟨hl', hc⟩ := cells_get hcs
      exact ⟨h', ks, ka, kl, kc, tv, fun j v hj => (hc j (by have := (List.getElem?_eq_some_iff.1 hj).1; simpa [Hd.vals] using this)).trans hj⟩
    obtain ⟨b, off, rfl, hb⟩ : ∃ b off, x = ⟨b, off, none⟩ ∧ b < W.heap.size := by
      obtain ⟨h', ks, ka, kl, kc, tv, hc⟩ := each 0 z
      have := cell_lt (hc 0 _ rfl)
      obtain ⟨b, off, spot⟩ := x
      simp only [Nat.zero_mul, Addr.add, if_true] at this
      obtain ⟨h1, rfl⟩ := this
      exact ⟨b, off, rfl, h1⟩
    obtain ⟨ts, hlt, hrow⟩ := rowIn_of (w := W) (B := W.heap.size) (b := b) (off := off) len 0 fun i _ hi => by
      obtain ⟨h', ks, ka, kl, kc, tv, hc⟩ := each i (by omega)
      exact ⟨hb, h', ks, ka, kl, kc, ⟨hb, fun j v hj => by have := hc j v hj; rw [addr_add, addr_add] at this; exact this⟩, tv⟩
    exact ⟨ts, hlt.symm, hmax, hrow⟩
end
end Go.Proofs.Ytkjfeakbhfkldaa
