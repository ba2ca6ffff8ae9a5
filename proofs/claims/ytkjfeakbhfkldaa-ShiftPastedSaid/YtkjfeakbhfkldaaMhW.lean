/- Shifting: ShiftPasted. -/
import Derived.Test.YtkjfeakbhfkldaaMhV
import Derived.Test.YtkjfeakbhfkldaaTreeArg2
import Derived.Test.YtkjfeakbhfkldaaLaw
namespace Go.Proofs.Ytkjfeakbhfkldaa
open Go.RowKit

/-- A tree that may be, pasted. -/
theorem paste_ex (h : Hd) (ks : Trees) (x y : Int) (hm : mayE h ks = 0) (hx : I64 x) (hy : I64 y) (W : World) (B : Nat) (a : Option Addr) (l c : Nat) (hB : B ≤ W.heap.size) (tv : TreeV W B h ks a l) :
    Calls Try.prog 37 #[.agg #[.int .i64 h.kind, .int .i64 h.op, .int .i64 h.num, .string ⟨h.text.toArray⟩, .int .i64 h.ref.row, .int .i64 h.ref.col, .bool h.ref.pr, .bool h.ref.pc, .int .i64 h.to.row, .int .i64 h.to.col, .bool h.to.pr, .bool h.to.pc, .int .i64 h.fn, .slice a l c], .int .i64 x, .int .i64 y] W fun e w' => Below W.heap.size W w' ∧ ∃ (g : Hd) (gk : Trees) (ga : Option Addr) (gl gc : Nat), g = mvH ⟨1, x, y, 0, 0⟩ h ∧ gk = mvK ⟨1, x, y, 0, 0⟩ ks ∧ e = .returned (.tuple #[.agg #[.int .i64 g.kind, .int .i64 g.op, .int .i64 g.num, .string ⟨g.text.toArray⟩, .int .i64 g.ref.row, .int .i64 g.ref.col, .bool g.ref.pr, .bool g.ref.pc, .int .i64 g.to.row, .int .i64 g.to.col, .bool g.to.pr, .bool g.to.pc, .int .i64 g.fn, .slice ga gl gc], .int .i64 0]) ∧ TreeV w' w'.heap.size g gk ga gl :=
  (shPaste_any h ks x y W B a l c hB tv hx hy).mono fun e w' q => by
    have := (q.tree tv.ok).good (h' := mvH ⟨1, x, y, 0, 0⟩ h) (ks' := mvK ⟨1, x, y, 0, 0⟩ ks) (by rw [shErr, if_neg (by simp [hm]), if_neg (by simp)]) rfl rfl
    obtain ⟨b, xa, xl, xc, he, t⟩ := this
    exact ⟨b, _, _, xa, xl, xc, rfl, rfl, he, t⟩

set_option maxRecDepth 100000 in
set_option maxHeartbeats 4000000 in
theorem pasted_not (nd : Hd) (ks : Trees) (a b c d : Int) (w : World) (B : Nat) (ka : Option Addr) (kl kc : Nat) (hB : B ≤ w.heap.size) (tv : TreeV w B nd ks ka kl) (so : (smallB nd ks && decide (mayE nd ks = 0)) = false) : Calls Try.prog 10 #[.agg #[.int .i64 nd.kind, .int .i64 nd.op, .int .i64 nd.num, .string ⟨nd.text.toArray⟩, .int .i64 nd.ref.row, .int .i64 nd.ref.col, .bool nd.ref.pr, .bool nd.ref.pc, .int .i64 nd.to.row, .int .i64 nd.to.col, .bool nd.to.pr, .bool nd.to.pc, .int .i64 nd.fn, .slice ka kl kc], .int .i64 a, .int .i64 b, .int .i64 c, .int .i64 d] w (TruePost w) := by
  have q0 := ext_alloc (Below.refl w.heap.size w) (.cells #[.int .i64 nd.kind, .int .i64 nd.op, .int .i64 nd.num, .string ⟨nd.text.toArray⟩, .int .i64 nd.ref.row, .int .i64 nd.ref.col, .bool nd.ref.pr, .bool nd.ref.pc, .int .i64 nd.to.row, .int .i64 nd.to.col, .bool nd.to.pr, .bool nd.to.pc, .int .i64 nd.fn, .slice ka kl kc] 29)
  have BB := Lib.hid q0
  have H0 := Lib.hid (heap_alloc_new w (.cells #[.int .i64 nd.kind, .int .i64 nd.op, .int .i64 nd.num, .string ⟨nd.text.toArray⟩, .int .i64 nd.ref.row, .int .i64 nd.ref.col, .bool nd.ref.pr, .bool nd.ref.pc, .int .i64 nd.to.row, .int .i64 nd.to.col, .bool nd.to.pr, .bool nd.to.pc, .int .i64 nd.fn, .slice ka kl kc] 29))
  have T0 := Lib.hid ((tv.kept (q0.mono hB) (Nat.le_refl _)).mono (Nat.le_trans hB q0.size))
  clear q0 tv
  go_enter Try.func10, Try.ntmps10
  go_wp2_with fail
  refine (lawBegun_any _).mono ?_
  rintro e w1 ⟨rfl, b1⟩
  have BB := Lib.hid (BB.out.trans (b1.mono BB.out.size))
  have T0 := Lib.hid ((T0.out.kept b1 (Nat.le_refl _)).mono b1.size)
  have h0 := (b1.block _ (lt_of_block H0.out)).trans H0.out
  have c0 := cells_of_block h0
  have H0 := Lib.hid h0
  clear b1 h0
  go_wp2_with fail
  refine (sound_any nd ks w1 w1.heap.size ka kl kc (Nat.le_refl _) T0.out).mono ?_
  rintro e w2 ⟨rfl, b2⟩
  have BB := Lib.hid (BB.out.trans (b2.mono BB.out.size))
  have T0 := Lib.hid ((T0.out.kept b2 (Nat.le_refl _)).mono b2.size)
  have h0 := (b2.block _ (lt_of_block H0.out)).trans H0.out
  have H0 := Lib.hid h0
  clear b2 c0
  have c0 := cells_of_block h0
  clear h0
  generalize w.heap.size = N0 at H0 c0 ⊢
  rw [so]
  go_wp2
  go_ret
  exact ⟨rfl, BB.out⟩
end Go.Proofs.Ytkjfeakbhfkldaa
