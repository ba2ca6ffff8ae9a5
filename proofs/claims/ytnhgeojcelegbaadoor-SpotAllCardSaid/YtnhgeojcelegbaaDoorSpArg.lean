/- Places and references as arguments. -/
import Derived.Test.YtnhgeojcelegbaaDoorSpP
import Derived.Test.YtnhgeojcelegbaaDoorLaw
import Derived.Lib.SmallJoins
namespace Go.Proofs.YtnhgeojcelegbaaDoor
open Go.ChangeShapes Go.WideShapes Go.ChangeAt Go.RowKit
section
variable {H : Type} {enc : TypeId × Value → H} {W : World} {base b1 : Nat} {sp : Nat → Bool} {held : Bool} {r : Reach} {v : Value} {d : DataW H} {p : List MemPlace}
set_option maxRecDepth 100000 in
theorem spotArg (hv : Value.okWide Tryd.prog W r base 39 v) (h : DataW.Trod enc Tryd.prog W b1 sp held 39 v d p) : ∃ a b : Int, v = .agg #[.int .i64 a, .int .i64 b] := by
  obtain ⟨v0, v1, y0, y1, n, rfl, -, -, h0, h1⟩ := Joins.open_agg2 Tryd.underlying39 (by kernel_rfl) (by kernel_rfl) hv h
  obtain ⟨a, e0, -, w0⟩ := DataW.trod_int Tryd.underlying3 h0
  obtain ⟨b, e1, -, w1⟩ := DataW.trod_int Tryd.underlying3 h1
  simp only [List.cons.injEq, and_true] at e0 e1
  subst e0 e1
  exact ⟨a, b, rfl⟩
set_option maxRecDepth 100000 in
theorem refArg2 (hv : Value.okWide Tryd.prog W r base 28 v) (h : DataW.Trod enc Tryd.prog W b1 sp held 28 v d p) : ∃ q : RefT, v = .agg #[.int .i64 q.row, .int .i64 q.col, .bool q.pr, .bool q.pc] := by
  obtain ⟨v0, v1, v2, v3, y0, y1, y2, y3, n, rfl, -, -, h0, h1, h2, h3⟩ := Joins.open_agg4 Tryd.underlying28 (by kernel_rfl) (by kernel_rfl) hv h
  obtain ⟨a, e0, -, -⟩ := DataW.trod_int Tryd.underlying3 h0
  obtain ⟨b, e1, -, -⟩ := DataW.trod_int Tryd.underlying3 h1
  obtain ⟨c, e2, -⟩ := DataW.trod_bool Tryd.underlying4 h2
  obtain ⟨e, e3, -⟩ := DataW.trod_bool Tryd.underlying4 h3
  simp only [List.cons.injEq, and_true] at e0 e1 e2 e3
  subst e0 e1 e2 e3
  exact ⟨⟨a, b, c, e⟩, rfl⟩
end
end Go.Proofs.YtnhgeojcelegbaaDoor
