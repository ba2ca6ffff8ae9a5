/- Arguments that are numbers: what a value that was handed in can be. -/
import Derived.Test.YtkjfeakbhfkldaaTreeArg
import Derived.OpenShut
namespace Go.Proofs.Ytkjfeakbhfkldaa
open Go.ChangeShapes Go.WideShapes Go.ChangeAt
set_option maxRecDepth 100000 in
theorem arg_uint8 {H : Type} {enc : TypeId × Value → H} {W : World} {base b1 : Nat} {sp : Nat → Bool} {held : Bool} {r : Reach} {v : Value} {d : DataW H} {p : List MemPlace} (hv : Value.okWide Try.prog W r base 5 v) (h : DataW.Trod enc Try.prog W b1 sp held 5 v d p) : ∃ n : Int, v = .int .u8 n ∧ 0 ≤ n ∧ n ≤ 255 := by
  obtain ⟨fuel, hf⟩ := h
  obtain ⟨n, e, -, hw⟩ := DataW.trod_int Try.underlying5 hf
  obtain ⟨m, rfl⟩ := okWide_int Try.underlying5 hv
  simp [Value.cells] at e
  subst e
  exact ⟨_, rfl, bounds_u8 hw⟩
set_option maxRecDepth 100000 in
theorem arg_uint16 {H : Type} {enc : TypeId × Value → H} {W : World} {base b1 : Nat} {sp : Nat → Bool} {held : Bool} {r : Reach} {v : Value} {d : DataW H} {p : List MemPlace} (hv : Value.okWide Try.prog W r base 53 v) (h : DataW.Trod enc Try.prog W b1 sp held 53 v d p) : ∃ n : Int, v = .int .u16 n ∧ 0 ≤ n ∧ n ≤ 65535 := by
  obtain ⟨fuel, hf⟩ := h
  obtain ⟨n, e, -, hw⟩ := DataW.trod_int Try.underlying53 hf
  obtain ⟨m, rfl⟩ := okWide_int Try.underlying53 hv
  simp [Value.cells] at e
  subst e
  exact ⟨_, rfl, bounds_u16 hw⟩
set_option maxRecDepth 100000 in
theorem arg_int {H : Type} {enc : TypeId × Value → H} {W : World} {base b1 : Nat} {sp : Nat → Bool} {held : Bool} {r : Reach} {v : Value} {d : DataW H} {p : List MemPlace} (hv : Value.okWide Try.prog W r base 3 v) (h : DataW.Trod enc Try.prog W b1 sp held 3 v d p) : ∃ n : Int, v = .int .i64 n ∧ -9223372036854775808 ≤ n ∧ n ≤ 9223372036854775807 := by
  obtain ⟨fuel, hf⟩ := h
  obtain ⟨n, e, -, hw⟩ := DataW.trod_int Try.underlying3 hf
  obtain ⟨m, rfl⟩ := okWide_int Try.underlying3 hv
  simp [Value.cells] at e
  subst e
  exact ⟨_, rfl, bounds_i64 hw⟩
set_option maxRecDepth 100000 in
theorem arg_int64 {H : Type} {enc : TypeId × Value → H} {W : World} {base b1 : Nat} {sp : Nat → Bool} {held : Bool} {r : Reach} {v : Value} {d : DataW H} {p : List MemPlace} (hv : Value.okWide Try.prog W r base 2 v) (h : DataW.Trod enc Try.prog W b1 sp held 2 v d p) : ∃ n : Int, v = .int .i64 n ∧ -9223372036854775808 ≤ n ∧ n ≤ 9223372036854775807 := by
  obtain ⟨fuel, hf⟩ := h
  obtain ⟨n, e, -, hw⟩ := DataW.trod_int Try.underlying2 hf
  obtain ⟨m, rfl⟩ := okWide_int Try.underlying2 hv
  simp [Value.cells] at e
  subst e
  exact ⟨_, rfl, bounds_i64 hw⟩
end Go.Proofs.Ytkjfeakbhfkldaa
