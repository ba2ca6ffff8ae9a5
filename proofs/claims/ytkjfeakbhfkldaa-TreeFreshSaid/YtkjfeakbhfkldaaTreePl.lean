/- Trees: a call of the script is as the document says. -/
import Derived.Test.YtkjfeakbhfkldaaTreeZ
import Derived.Test.YtkjfeakbhfkldaaTreeX
import Derived.Test.YtkjfeakbhfkldaaTreeAr
import Derived.Deep.RegionHeld3
namespace Go.Proofs.Ytkjfeakbhfkldaa
open Go.RowKit

/-- The call's block stands, both trees can be read. -/
structure PlR (w : World) (B : Nat) (O : Obj) (nt nu : Hd) (kt ku : Trees) (ta ua : Option Addr) (tl ul : Nat) (w' : World) : Prop where
  hB : B ≤ w.heap.size
  blk : w'.heap[w.heap.size]? = some O
  bel : Below w.heap.size w w'
  t : TreeV w' B nt kt ta tl
  u : TreeV w' B nu ku ua ul
theorem PlR.lt {w : World} {B : Nat} {O : Obj} {nt nu : Hd} {kt ku : Trees} {ta ua : Option Addr} {tl ul : Nat} {w' : World} (p : PlR w B O nt nu kt ku ta ua tl ul w') : w.heap.size < w'.heap.size := lt_of_block p.blk
theorem PlR.le {w : World} {B : Nat} {O : Obj} {nt nu : Hd} {kt ku : Trees} {ta ua : Option Addr} {tl ul : Nat} {w' : World} (p : PlR w B O nt nu kt ku ta ua tl ul w') : B ≤ w'.heap.size := Nat.le_trans p.hB (Nat.le_of_lt p.lt)
theorem PlR.step {w : World} {B : Nat} {cs : Array Value} {T : TypeId} {nt nu : Hd} {kt ku : Trees} {ta ua : Option Addr} {tl ul : Nat} {w1 w2 : World} (p : PlR w B (.cells cs T) nt nu kt ku ta ua tl ul w1) (b : Below w1.heap.size w1 w2) :
    (∀ o, w2.cell? ⟨w.heap.size, o, none⟩ = cs[o]?) ∧ PlR w B (.cells cs T) nt nu kt ku ta ua tl ul w2 := by
  have hb : w2.heap[w.heap.size]? = some (.cells cs T) := (b.block _ p.lt).trans p.blk
  exact ⟨cells_of_block hb, p.hB, hb, p.bel.trans (b.mono (Nat.le_of_lt p.lt)), p.t.kept (b.mono p.le) (Nat.le_refl _), p.u.kept (b.mono p.le) (Nat.le_refl _)⟩

theorem drew_below {w : World} {H : Nat} (h : H = w.heap.size) : Below H w w.drew := h ▸ (Below.refl _ w).drew

/-- An answer of Copy can be read. -/
theorem Fresh.readable {w : World} {b0 : Nat} {h : Hd} {ks : Trees} {ka : Option Addr} {kl kc : Nat} {F : List Nat} (f : Fresh w b0 ks (.slice ka kl kc) F) (ok : h.ok) : TreeV w w.heap.size h ks ka kl := by
  obtain ⟨ka', kc', e, tv⟩ := f.own.tree (Nat.le_refl _) f.lt ok
  simp only [Value.slice.injEq] at e
  obtain ⟨rfl, rfl, rfl⟩ := e
  exact tv
theorem zero_readable (w : World) : TreeV w w.heap.size ⟨0, 0, 0, [], ⟨0, 0, false, false⟩, ⟨0, 0, false, false⟩, 0⟩ .nil none 0 :=
  ⟨rfl, by omega, ⟨by simp, by simp [I64], by simp [I64], by simp [I64], by simp [I64], by simp [I64], by simp [I64], by simp [I64], by simp [I64]⟩, trivial⟩


set_option maxRecDepth 100000 in
set_option maxHeartbeats 4000000 in
theorem plays_1 (nt nu : Hd) (kt ku : Trees) (w : World) (B : Nat) (ta ua : Option Addr) (tl tc ul uc : Nat) (hB : B ≤ w.heap.size) (tv : TreeV w B nt kt ta tl) (uv : TreeV w B nu ku ua ul) :
    Calls Try.prog 16 #[.agg #[.int .i64 1, .int .i64 nt.kind, .int .i64 nt.op, .int .i64 nt.num, .string ⟨nt.text.toArray⟩, .int .i64 nt.ref.row, .int .i64 nt.ref.col, .bool nt.ref.pr, .bool nt.ref.pc, .int .i64 nt.to.row, .int .i64 nt.to.col, .bool nt.to.pr, .bool nt.to.pc, .int .i64 nt.fn, .slice ta tl tc, .int .i64 nu.kind, .int .i64 nu.op, .int .i64 nu.num, .string ⟨nu.text.toArray⟩, .int .i64 nu.ref.row, .int .i64 nu.ref.col, .bool nu.ref.pr, .bool nu.ref.pc, .int .i64 nu.to.row, .int .i64 nu.to.col, .bool nu.to.pr, .bool nu.to.pc, .int .i64 nu.fn, .slice ua ul uc]] w (TruePost w) := by
  have b0 := ext_alloc (Below.refl _ w) (.cells #[.int .i64 1, .int .i64 nt.kind, .int .i64 nt.op, .int .i64 nt.num, .string ⟨nt.text.toArray⟩, .int .i64 nt.ref.row, .int .i64 nt.ref.col, .bool nt.ref.pr, .bool nt.ref.pc, .int .i64 nt.to.row, .int .i64 nt.to.col, .bool nt.to.pr, .bool nt.to.pc, .int .i64 nt.fn, .slice ta tl tc, .int .i64 nu.kind, .int .i64 nu.op, .int .i64 nu.num, .string ⟨nu.text.toArray⟩, .int .i64 nu.ref.row, .int .i64 nu.ref.col, .bool nu.ref.pr, .bool nu.ref.pc, .int .i64 nu.to.row, .int .i64 nu.to.col, .bool nu.to.pr, .bool nu.to.pc, .int .i64 nu.fn, .slice ua ul uc] 31)
  have p0 : PlR w B (.cells #[.int .i64 1, .int .i64 nt.kind, .int .i64 nt.op, .int .i64 nt.num, .string ⟨nt.text.toArray⟩, .int .i64 nt.ref.row, .int .i64 nt.ref.col, .bool nt.ref.pr, .bool nt.ref.pc, .int .i64 nt.to.row, .int .i64 nt.to.col, .bool nt.to.pr, .bool nt.to.pc, .int .i64 nt.fn, .slice ta tl tc, .int .i64 nu.kind, .int .i64 nu.op, .int .i64 nu.num, .string ⟨nu.text.toArray⟩, .int .i64 nu.ref.row, .int .i64 nu.ref.col, .bool nu.ref.pr, .bool nu.ref.pc, .int .i64 nu.to.row, .int .i64 nu.to.col, .bool nu.to.pr, .bool nu.to.pc, .int .i64 nu.fn, .slice ua ul uc] 31) nt nu kt ku ta ua tl ul (w.alloc (.cells #[.int .i64 1, .int .i64 nt.kind, .int .i64 nt.op, .int .i64 nt.num, .string ⟨nt.text.toArray⟩, .int .i64 nt.ref.row, .int .i64 nt.ref.col, .bool nt.ref.pr, .bool nt.ref.pc, .int .i64 nt.to.row, .int .i64 nt.to.col, .bool nt.to.pr, .bool nt.to.pc, .int .i64 nt.fn, .slice ta tl tc, .int .i64 nu.kind, .int .i64 nu.op, .int .i64 nu.num, .string ⟨nu.text.toArray⟩, .int .i64 nu.ref.row, .int .i64 nu.ref.col, .bool nu.ref.pr, .bool nu.ref.pc, .int .i64 nu.to.row, .int .i64 nu.to.col, .bool nu.to.pr, .bool nu.to.pc, .int .i64 nu.fn, .slice ua ul uc] 31)) :=
    ⟨hB, heap_alloc_new _ _, b0, tv.kept (b0.mono hB) (Nat.le_refl _), uv.kept (b0.mono hB) (Nat.le_refl _)⟩
  have q0 := p0.step (Below.refl _ _)
  have Q0 := Lib.hid q0
  have okt := Lib.hid tv.ok
  clear b0 p0 tv uv q0
  go_enter Try.func16, Try.ntmps16
  go_wp2_with fail
  have cM : ∀ W1, ((∀ o, W1.cell? ⟨w.heap.size, o, none⟩ = (#[.int .i64 1, .int .i64 nt.kind, .int .i64 nt.op, .int .i64 nt.num, .string ⟨nt.text.toArray⟩, .int .i64 nt.ref.row, .int .i64 nt.ref.col, .bool nt.ref.pr, .bool nt.ref.pc, .int .i64 nt.to.row, .int .i64 nt.to.col, .bool nt.to.pr, .bool nt.to.pc, .int .i64 nt.fn, .slice ta tl tc, .int .i64 nu.kind, .int .i64 nu.op, .int .i64 nu.num, .string ⟨nu.text.toArray⟩, .int .i64 nu.ref.row, .int .i64 nu.ref.col, .bool nu.ref.pr, .bool nu.ref.pc, .int .i64 nu.to.row, .int .i64 nu.to.col, .bool nu.to.pr, .bool nu.to.pc, .int .i64 nu.fn, .slice ua ul uc] : Array Value)[o]?) ∧ PlR w B (.cells #[.int .i64 1, .int .i64 nt.kind, .int .i64 nt.op, .int .i64 nt.num, .string ⟨nt.text.toArray⟩, .int .i64 nt.ref.row, .int .i64 nt.ref.col, .bool nt.ref.pr, .bool nt.ref.pc, .int .i64 nt.to.row, .int .i64 nt.to.col, .bool nt.to.pr, .bool nt.to.pc, .int .i64 nt.fn, .slice ta tl tc, .int .i64 nu.kind, .int .i64 nu.op, .int .i64 nu.num, .string ⟨nu.text.toArray⟩, .int .i64 nu.ref.row, .int .i64 nu.ref.col, .bool nu.ref.pr, .bool nu.ref.pc, .int .i64 nu.to.row, .int .i64 nu.to.col, .bool nu.to.pr, .bool nu.to.pc, .int .i64 nu.fn, .slice ua ul uc] 31) nt nu kt ku ta ua tl ul W1) → Calls Try.prog 23 #[.agg #[.int .i64 nt.kind, .int .i64 nt.op, .int .i64 nt.num, .string ⟨nt.text.toArray⟩, .int .i64 nt.ref.row, .int .i64 nt.ref.col, .bool nt.ref.pr, .bool nt.ref.pc, .int .i64 nt.to.row, .int .i64 nt.to.col, .bool nt.to.pr, .bool nt.to.pc, .int .i64 nt.fn, .slice ta tl tc]] W1 (fun e w' => e = .returned (.int .i64 (mayE nt kt)) ∧ ((∀ o, w'.cell? ⟨w.heap.size, o, none⟩ = (#[.int .i64 1, .int .i64 nt.kind, .int .i64 nt.op, .int .i64 nt.num, .string ⟨nt.text.toArray⟩, .int .i64 nt.ref.row, .int .i64 nt.ref.col, .bool nt.ref.pr, .bool nt.ref.pc, .int .i64 nt.to.row, .int .i64 nt.to.col, .bool nt.to.pr, .bool nt.to.pc, .int .i64 nt.fn, .slice ta tl tc, .int .i64 nu.kind, .int .i64 nu.op, .int .i64 nu.num, .string ⟨nu.text.toArray⟩, .int .i64 nu.ref.row, .int .i64 nu.ref.col, .bool nu.ref.pr, .bool nu.ref.pc, .int .i64 nu.to.row, .int .i64 nu.to.col, .bool nu.to.pr, .bool nu.to.pc, .int .i64 nu.fn, .slice ua ul uc] : Array Value)[o]?) ∧ PlR w B (.cells #[.int .i64 1, .int .i64 nt.kind, .int .i64 nt.op, .int .i64 nt.num, .string ⟨nt.text.toArray⟩, .int .i64 nt.ref.row, .int .i64 nt.ref.col, .bool nt.ref.pr, .bool nt.ref.pc, .int .i64 nt.to.row, .int .i64 nt.to.col, .bool nt.to.pr, .bool nt.to.pc, .int .i64 nt.fn, .slice ta tl tc, .int .i64 nu.kind, .int .i64 nu.op, .int .i64 nu.num, .string ⟨nu.text.toArray⟩, .int .i64 nu.ref.row, .int .i64 nu.ref.col, .bool nu.ref.pr, .bool nu.ref.pc, .int .i64 nu.to.row, .int .i64 nu.to.col, .bool nu.to.pr, .bool nu.to.pc, .int .i64 nu.fn, .slice ua ul uc] 31) nt nu kt ku ta ua tl ul w')) :=
    fun W1 hS => (may_any nt kt W1 B ta tl tc hS.2.le hS.2.t).mono fun e w' h => ⟨h.1, hS.2.step h.2⟩
  have cR : ∀ W1, ((∀ o, W1.cell? ⟨w.heap.size, o, none⟩ = (#[.int .i64 1, .int .i64 nt.kind, .int .i64 nt.op, .int .i64 nt.num, .string ⟨nt.text.toArray⟩, .int .i64 nt.ref.row, .int .i64 nt.ref.col, .bool nt.ref.pr, .bool nt.ref.pc, .int .i64 nt.to.row, .int .i64 nt.to.col, .bool nt.to.pr, .bool nt.to.pc, .int .i64 nt.fn, .slice ta tl tc, .int .i64 nu.kind, .int .i64 nu.op, .int .i64 nu.num, .string ⟨nu.text.toArray⟩, .int .i64 nu.ref.row, .int .i64 nu.ref.col, .bool nu.ref.pr, .bool nu.ref.pc, .int .i64 nu.to.row, .int .i64 nu.to.col, .bool nu.to.pr, .bool nu.to.pc, .int .i64 nu.fn, .slice ua ul uc] : Array Value)[o]?) ∧ PlR w B (.cells #[.int .i64 1, .int .i64 nt.kind, .int .i64 nt.op, .int .i64 nt.num, .string ⟨nt.text.toArray⟩, .int .i64 nt.ref.row, .int .i64 nt.ref.col, .bool nt.ref.pr, .bool nt.ref.pc, .int .i64 nt.to.row, .int .i64 nt.to.col, .bool nt.to.pr, .bool nt.to.pc, .int .i64 nt.fn, .slice ta tl tc, .int .i64 nu.kind, .int .i64 nu.op, .int .i64 nu.num, .string ⟨nu.text.toArray⟩, .int .i64 nu.ref.row, .int .i64 nu.ref.col, .bool nu.ref.pr, .bool nu.ref.pc, .int .i64 nu.to.row, .int .i64 nu.to.col, .bool nu.to.pr, .bool nu.to.pc, .int .i64 nu.fn, .slice ua ul uc] 31) nt nu kt ku ta ua tl ul W1) → Calls Try.prog 48 #[.agg #[.int .i64 nt.kind, .int .i64 nt.op, .int .i64 nt.num, .string ⟨nt.text.toArray⟩, .int .i64 nt.ref.row, .int .i64 nt.ref.col, .bool nt.ref.pr, .bool nt.ref.pc, .int .i64 nt.to.row, .int .i64 nt.to.col, .bool nt.to.pr, .bool nt.to.pc, .int .i64 nt.fn, .slice ta tl tc]] W1 (fun e w' => e = .returned (.int .i64 (mayE nt kt)) ∧ ((∀ o, w'.cell? ⟨w.heap.size, o, none⟩ = (#[.int .i64 1, .int .i64 nt.kind, .int .i64 nt.op, .int .i64 nt.num, .string ⟨nt.text.toArray⟩, .int .i64 nt.ref.row, .int .i64 nt.ref.col, .bool nt.ref.pr, .bool nt.ref.pc, .int .i64 nt.to.row, .int .i64 nt.to.col, .bool nt.to.pr, .bool nt.to.pc, .int .i64 nt.fn, .slice ta tl tc, .int .i64 nu.kind, .int .i64 nu.op, .int .i64 nu.num, .string ⟨nu.text.toArray⟩, .int .i64 nu.ref.row, .int .i64 nu.ref.col, .bool nu.ref.pr, .bool nu.ref.pc, .int .i64 nu.to.row, .int .i64 nu.to.col, .bool nu.to.pr, .bool nu.to.pc, .int .i64 nu.fn, .slice ua ul uc] : Array Value)[o]?) ∧ PlR w B (.cells #[.int .i64 1, .int .i64 nt.kind, .int .i64 nt.op, .int .i64 nt.num, .string ⟨nt.text.toArray⟩, .int .i64 nt.ref.row, .int .i64 nt.ref.col, .bool nt.ref.pr, .bool nt.ref.pc, .int .i64 nt.to.row, .int .i64 nt.to.col, .bool nt.to.pr, .bool nt.to.pc, .int .i64 nt.fn, .slice ta tl tc, .int .i64 nu.kind, .int .i64 nu.op, .int .i64 nu.num, .string ⟨nu.text.toArray⟩, .int .i64 nu.ref.row, .int .i64 nu.ref.col, .bool nu.ref.pr, .bool nu.ref.pc, .int .i64 nu.to.row, .int .i64 nu.to.col, .bool nu.to.pr, .bool nu.to.pc, .int .i64 nu.fn, .slice ua ul uc] 31) nt nu kt ku ta ua tl ul w')) :=
    fun W1 hS => (refMay_any nt kt W1 B ta tl tc hS.2.le hS.2.t).mono fun e w' h => ⟨h.1, hS.2.step h.2⟩
  have CM := Lib.hid cM; have CR := Lib.hid cR
  clear cM cR
  have hd := Q0.out.2.step (drew_below rfl)
  go_region_held3 (fun w' => (∀ o, w'.cell? ⟨w.heap.size, o, none⟩ = (#[.int .i64 1, .int .i64 nt.kind, .int .i64 nt.op, .int .i64 nt.num, .string ⟨nt.text.toArray⟩, .int .i64 nt.ref.row, .int .i64 nt.ref.col, .bool nt.ref.pr, .bool nt.ref.pc, .int .i64 nt.to.row, .int .i64 nt.to.col, .bool nt.to.pr, .bool nt.to.pc, .int .i64 nt.fn, .slice ta tl tc, .int .i64 nu.kind, .int .i64 nu.op, .int .i64 nu.num, .string ⟨nu.text.toArray⟩, .int .i64 nu.ref.row, .int .i64 nu.ref.col, .bool nu.ref.pr, .bool nu.ref.pc, .int .i64 nu.to.row, .int .i64 nu.to.col, .bool nu.to.pr, .bool nu.to.pc, .int .i64 nu.fn, .slice ua ul uc] : Array Value)[o]?) ∧ PlR w B (.cells #[.int .i64 1, .int .i64 nt.kind, .int .i64 nt.op, .int .i64 nt.num, .string ⟨nt.text.toArray⟩, .int .i64 nt.ref.row, .int .i64 nt.ref.col, .bool nt.ref.pr, .bool nt.ref.pc, .int .i64 nt.to.row, .int .i64 nt.to.col, .bool nt.to.pr, .bool nt.to.pc, .int .i64 nt.fn, .slice ta tl tc, .int .i64 nu.kind, .int .i64 nu.op, .int .i64 nu.num, .string ⟨nu.text.toArray⟩, .int .i64 nu.ref.row, .int .i64 nu.ref.col, .bool nu.ref.pr, .bool nu.ref.pc, .int .i64 nu.to.row, .int .i64 nu.to.col, .bool nu.to.pr, .bool nu.to.pc, .int .i64 nu.fn, .slice ua ul uc] 31) nt nu kt ku ta ua tl ul w') (first | assumption | exact hd) (first
    | (go_at_call 23
       refine (CM.out _ (by assumption)).mono ?_
       rintro e w' ⟨rfl, hS'⟩)
    | (go_at_call 48
       refine (CR.out _ (by assumption)).mono ?_
       rintro e w' ⟨rfl, hS'⟩))
  all_goals
    have HS := Lib.hid hS'.2.bel
    clear hS' hd
    go_wp2
    go_ret
    exact ⟨ret_bool (by simp), HS.out⟩


set_option maxRecDepth 100000 in
set_option maxHeartbeats 4000000 in
theorem plays_2 (nt nu : Hd) (kt ku : Trees) (w : World) (B : Nat) (ta ua : Option Addr) (tl tc ul uc : Nat) (hB : B ≤ w.heap.size) (tv : TreeV w B nt kt ta tl) (uv : TreeV w B nu ku ua ul) :
    Calls Try.prog 16 #[.agg #[.int .i64 2, .int .i64 nt.kind, .int .i64 nt.op, .int .i64 nt.num, .string ⟨nt.text.toArray⟩, .int .i64 nt.ref.row, .int .i64 nt.ref.col, .bool nt.ref.pr, .bool nt.ref.pc, .int .i64 nt.to.row, .int .i64 nt.to.col, .bool nt.to.pr, .bool nt.to.pc, .int .i64 nt.fn, .slice ta tl tc, .int .i64 nu.kind, .int .i64 nu.op, .int .i64 nu.num, .string ⟨nu.text.toArray⟩, .int .i64 nu.ref.row, .int .i64 nu.ref.col, .bool nu.ref.pr, .bool nu.ref.pc, .int .i64 nu.to.row, .int .i64 nu.to.col, .bool nu.to.pr, .bool nu.to.pc, .int .i64 nu.fn, .slice ua ul uc]] w (TruePost w) := by
  have b0 := ext_alloc (Below.refl _ w) (.cells #[.int .i64 2, .int .i64 nt.kind, .int .i64 nt.op, .int .i64 nt.num, .string ⟨nt.text.toArray⟩, .int .i64 nt.ref.row, .int .i64 nt.ref.col, .bool nt.ref.pr, .bool nt.ref.pc, .int .i64 nt.to.row, .int .i64 nt.to.col, .bool nt.to.pr, .bool nt.to.pc, .int .i64 nt.fn, .slice ta tl tc, .int .i64 nu.kind, .int .i64 nu.op, .int .i64 nu.num, .string ⟨nu.text.toArray⟩, .int .i64 nu.ref.row, .int .i64 nu.ref.col, .bool nu.ref.pr, .bool nu.ref.pc, .int .i64 nu.to.row, .int .i64 nu.to.col, .bool nu.to.pr, .bool nu.to.pc, .int .i64 nu.fn, .slice ua ul uc] 31)
  have p0 : PlR w B (.cells #[.int .i64 2, .int .i64 nt.kind, .int .i64 nt.op, .int .i64 nt.num, .string ⟨nt.text.toArray⟩, .int .i64 nt.ref.row, .int .i64 nt.ref.col, .bool nt.ref.pr, .bool nt.ref.pc, .int .i64 nt.to.row, .int .i64 nt.to.col, .bool nt.to.pr, .bool nt.to.pc, .int .i64 nt.fn, .slice ta tl tc, .int .i64 nu.kind, .int .i64 nu.op, .int .i64 nu.num, .string ⟨nu.text.toArray⟩, .int .i64 nu.ref.row, .int .i64 nu.ref.col, .bool nu.ref.pr, .bool nu.ref.pc, .int .i64 nu.to.row, .int .i64 nu.to.col, .bool nu.to.pr, .bool nu.to.pc, .int .i64 nu.fn, .slice ua ul uc] 31) nt nu kt ku ta ua tl ul (w.alloc (.cells #[.int .i64 2, .int .i64 nt.kind, .int .i64 nt.op, .int .i64 nt.num, .string ⟨nt.text.toArray⟩, .int .i64 nt.ref.row, .int .i64 nt.ref.col, .bool nt.ref.pr, .bool nt.ref.pc, .int .i64 nt.to.row, .int .i64 nt.to.col, .bool nt.to.pr, .bool nt.to.pc, .int .i64 nt.fn, .slice ta tl tc, .int .i64 nu.kind, .int .i64 nu.op, .int .i64 nu.num, .string ⟨nu.text.toArray⟩, .int .i64 nu.ref.row, .int .i64 nu.ref.col, .bool nu.ref.pr, .bool nu.ref.pc, .int .i64 nu.to.row, .int .i64 nu.to.col, .bool nu.to.pr, .bool nu.to.pc, .int .i64 nu.fn, .slice ua ul uc] 31)) :=
    ⟨hB, heap_alloc_new _ _, b0, tv.kept (b0.mono hB) (Nat.le_refl _), uv.kept (b0.mono hB) (Nat.le_refl _)⟩
  have q0 := p0.step (Below.refl _ _)
  have Q0 := Lib.hid q0
  have okt := Lib.hid tv.ok
  clear b0 p0 tv uv q0
  go_enter Try.func16, Try.ntmps16
  go_wp2_with fail
  refine (size_any nt kt _ B ta tl tc Q0.out.2.le Q0.out.2.t).mono ?_
  rintro e w2 ⟨rfl, b2⟩
  obtain ⟨c2, p2⟩ := Q0.out.2.step b2
  have P2 := Lib.hid p2
  clear b2 p2
  go_wp2_with fail
  refine (refSize_any nt kt _ B ta tl tc P2.out.le P2.out.t).mono ?_
  rintro e w3 ⟨rfl, b3⟩
  obtain ⟨-, p3⟩ := P2.out.step b3
  have P3 := Lib.hid p3
  clear b3 p3 c2
  go_wp2
  go_ret
  exact ⟨ret_bool (by simp), P3.out.bel⟩


set_option maxRecDepth 100000 in
set_option maxHeartbeats 4000000 in
theorem plays_3 (nt nu : Hd) (kt ku : Trees) (w : World) (B : Nat) (ta ua : Option Addr) (tl tc ul uc : Nat) (hB : B ≤ w.heap.size) (tv : TreeV w B nt kt ta tl) (uv : TreeV w B nu ku ua ul) :
    Calls Try.prog 16 #[.agg #[.int .i64 3, .int .i64 nt.kind, .int .i64 nt.op, .int .i64 nt.num, .string ⟨nt.text.toArray⟩, .int .i64 nt.ref.row, .int .i64 nt.ref.col, .bool nt.ref.pr, .bool nt.ref.pc, .int .i64 nt.to.row, .int .i64 nt.to.col, .bool nt.to.pr, .bool nt.to.pc, .int .i64 nt.fn, .slice ta tl tc, .int .i64 nu.kind, .int .i64 nu.op, .int .i64 nu.num, .string ⟨nu.text.toArray⟩, .int .i64 nu.ref.row, .int .i64 nu.ref.col, .bool nu.ref.pr, .bool nu.ref.pc, .int .i64 nu.to.row, .int .i64 nu.to.col, .bool nu.to.pr, .bool nu.to.pc, .int .i64 nu.fn, .slice ua ul uc]] w (TruePost w) := by
  have b0 := ext_alloc (Below.refl _ w) (.cells #[.int .i64 3, .int .i64 nt.kind, .int .i64 nt.op, .int .i64 nt.num, .string ⟨nt.text.toArray⟩, .int .i64 nt.ref.row, .int .i64 nt.ref.col, .bool nt.ref.pr, .bool nt.ref.pc, .int .i64 nt.to.row, .int .i64 nt.to.col, .bool nt.to.pr, .bool nt.to.pc, .int .i64 nt.fn, .slice ta tl tc, .int .i64 nu.kind, .int .i64 nu.op, .int .i64 nu.num, .string ⟨nu.text.toArray⟩, .int .i64 nu.ref.row, .int .i64 nu.ref.col, .bool nu.ref.pr, .bool nu.ref.pc, .int .i64 nu.to.row, .int .i64 nu.to.col, .bool nu.to.pr, .bool nu.to.pc, .int .i64 nu.fn, .slice ua ul uc] 31)
  have p0 : PlR w B (.cells #[.int .i64 3, .int .i64 nt.kind, .int .i64 nt.op, .int .i64 nt.num, .string ⟨nt.text.toArray⟩, .int .i64 nt.ref.row, .int .i64 nt.ref.col, .bool nt.ref.pr, .bool nt.ref.pc, .int .i64 nt.to.row, .int .i64 nt.to.col, .bool nt.to.pr, .bool nt.to.pc, .int .i64 nt.fn, .slice ta tl tc, .int .i64 nu.kind, .int .i64 nu.op, .int .i64 nu.num, .string ⟨nu.text.toArray⟩, .int .i64 nu.ref.row, .int .i64 nu.ref.col, .bool nu.ref.pr, .bool nu.ref.pc, .int .i64 nu.to.row, .int .i64 nu.to.col, .bool nu.to.pr, .bool nu.to.pc, .int .i64 nu.fn, .slice ua ul uc] 31) nt nu kt ku ta ua tl ul (w.alloc (.cells #[.int .i64 3, .int .i64 nt.kind, .int .i64 nt.op, .int .i64 nt.num, .string ⟨nt.text.toArray⟩, .int .i64 nt.ref.row, .int .i64 nt.ref.col, .bool nt.ref.pr, .bool nt.ref.pc, .int .i64 nt.to.row, .int .i64 nt.to.col, .bool nt.to.pr, .bool nt.to.pc, .int .i64 nt.fn, .slice ta tl tc, .int .i64 nu.kind, .int .i64 nu.op, .int .i64 nu.num, .string ⟨nu.text.toArray⟩, .int .i64 nu.ref.row, .int .i64 nu.ref.col, .bool nu.ref.pr, .bool nu.ref.pc, .int .i64 nu.to.row, .int .i64 nu.to.col, .bool nu.to.pr, .bool nu.to.pc, .int .i64 nu.fn, .slice ua ul uc] 31)) :=
    ⟨hB, heap_alloc_new _ _, b0, tv.kept (b0.mono hB) (Nat.le_refl _), uv.kept (b0.mono hB) (Nat.le_refl _)⟩
  have q0 := p0.step (Below.refl _ _)
  have Q0 := Lib.hid q0
  have okt := Lib.hid tv.ok
  clear b0 p0 tv uv q0
  go_enter Try.func16, Try.ntmps16
  go_wp2_with fail
  have cM : ∀ W1, ((∀ o, W1.cell? ⟨w.heap.size, o, none⟩ = (#[.int .i64 3, .int .i64 nt.kind, .int .i64 nt.op, .int .i64 nt.num, .string ⟨nt.text.toArray⟩, .int .i64 nt.ref.row, .int .i64 nt.ref.col, .bool nt.ref.pr, .bool nt.ref.pc, .int .i64 nt.to.row, .int .i64 nt.to.col, .bool nt.to.pr, .bool nt.to.pc, .int .i64 nt.fn, .slice ta tl tc, .int .i64 nu.kind, .int .i64 nu.op, .int .i64 nu.num, .string ⟨nu.text.toArray⟩, .int .i64 nu.ref.row, .int .i64 nu.ref.col, .bool nu.ref.pr, .bool nu.ref.pc, .int .i64 nu.to.row, .int .i64 nu.to.col, .bool nu.to.pr, .bool nu.to.pc, .int .i64 nu.fn, .slice ua ul uc] : Array Value)[o]?) ∧ PlR w B (.cells #[.int .i64 3, .int .i64 nt.kind, .int .i64 nt.op, .int .i64 nt.num, .string ⟨nt.text.toArray⟩, .int .i64 nt.ref.row, .int .i64 nt.ref.col, .bool nt.ref.pr, .bool nt.ref.pc, .int .i64 nt.to.row, .int .i64 nt.to.col, .bool nt.to.pr, .bool nt.to.pc, .int .i64 nt.fn, .slice ta tl tc, .int .i64 nu.kind, .int .i64 nu.op, .int .i64 nu.num, .string ⟨nu.text.toArray⟩, .int .i64 nu.ref.row, .int .i64 nu.ref.col, .bool nu.ref.pr, .bool nu.ref.pc, .int .i64 nu.to.row, .int .i64 nu.to.col, .bool nu.to.pr, .bool nu.to.pc, .int .i64 nu.fn, .slice ua ul uc] 31) nt nu kt ku ta ua tl ul W1) → Calls Try.prog 25 #[.agg #[.int .i64 nt.kind, .int .i64 nt.op, .int .i64 nt.num, .string ⟨nt.text.toArray⟩, .int .i64 nt.ref.row, .int .i64 nt.ref.col, .bool nt.ref.pr, .bool nt.ref.pc, .int .i64 nt.to.row, .int .i64 nt.to.col, .bool nt.to.pr, .bool nt.to.pc, .int .i64 nt.fn, .slice ta tl tc], .agg #[.int .i64 nu.kind, .int .i64 nu.op, .int .i64 nu.num, .string ⟨nu.text.toArray⟩, .int .i64 nu.ref.row, .int .i64 nu.ref.col, .bool nu.ref.pr, .bool nu.ref.pc, .int .i64 nu.to.row, .int .i64 nu.to.col, .bool nu.to.pr, .bool nu.to.pc, .int .i64 nu.fn, .slice ua ul uc]] W1 (fun e w' => e = .returned (.bool (sameV nt nu kt ku)) ∧ ((∀ o, w'.cell? ⟨w.heap.size, o, none⟩ = (#[.int .i64 3, .int .i64 nt.kind, .int .i64 nt.op, .int .i64 nt.num, .string ⟨nt.text.toArray⟩, .int .i64 nt.ref.row, .int .i64 nt.ref.col, .bool nt.ref.pr, .bool nt.ref.pc, .int .i64 nt.to.row, .int .i64 nt.to.col, .bool nt.to.pr, .bool nt.to.pc, .int .i64 nt.fn, .slice ta tl tc, .int .i64 nu.kind, .int .i64 nu.op, .int .i64 nu.num, .string ⟨nu.text.toArray⟩, .int .i64 nu.ref.row, .int .i64 nu.ref.col, .bool nu.ref.pr, .bool nu.ref.pc, .int .i64 nu.to.row, .int .i64 nu.to.col, .bool nu.to.pr, .bool nu.to.pc, .int .i64 nu.fn, .slice ua ul uc] : Array Value)[o]?) ∧ PlR w B (.cells #[.int .i64 3, .int .i64 nt.kind, .int .i64 nt.op, .int .i64 nt.num, .string ⟨nt.text.toArray⟩, .int .i64 nt.ref.row, .int .i64 nt.ref.col, .bool nt.ref.pr, .bool nt.ref.pc, .int .i64 nt.to.row, .int .i64 nt.to.col, .bool nt.to.pr, .bool nt.to.pc, .int .i64 nt.fn, .slice ta tl tc, .int .i64 nu.kind, .int .i64 nu.op, .int .i64 nu.num, .string ⟨nu.text.toArray⟩, .int .i64 nu.ref.row, .int .i64 nu.ref.col, .bool nu.ref.pr, .bool nu.ref.pc, .int .i64 nu.to.row, .int .i64 nu.to.col, .bool nu.to.pr, .bool nu.to.pc, .int .i64 nu.fn, .slice ua ul uc] 31) nt nu kt ku ta ua tl ul w')) :=
    fun W1 hS => (same_all nt nu kt ku W1 B B ta ua tl tc ul uc hS.2.le hS.2.le hS.2.t hS.2.u).mono fun e w' h => ⟨h.1, hS.2.step h.2⟩
  have cR : ∀ W1, ((∀ o, W1.cell? ⟨w.heap.size, o, none⟩ = (#[.int .i64 3, .int .i64 nt.kind, .int .i64 nt.op, .int .i64 nt.num, .string ⟨nt.text.toArray⟩, .int .i64 nt.ref.row, .int .i64 nt.ref.col, .bool nt.ref.pr, .bool nt.ref.pc, .int .i64 nt.to.row, .int .i64 nt.to.col, .bool nt.to.pr, .bool nt.to.pc, .int .i64 nt.fn, .slice ta tl tc, .int .i64 nu.kind, .int .i64 nu.op, .int .i64 nu.num, .string ⟨nu.text.toArray⟩, .int .i64 nu.ref.row, .int .i64 nu.ref.col, .bool nu.ref.pr, .bool nu.ref.pc, .int .i64 nu.to.row, .int .i64 nu.to.col, .bool nu.to.pr, .bool nu.to.pc, .int .i64 nu.fn, .slice ua ul uc] : Array Value)[o]?) ∧ PlR w B (.cells #[.int .i64 3, .int .i64 nt.kind, .int .i64 nt.op, .int .i64 nt.num, .string ⟨nt.text.toArray⟩, .int .i64 nt.ref.row, .int .i64 nt.ref.col, .bool nt.ref.pr, .bool nt.ref.pc, .int .i64 nt.to.row, .int .i64 nt.to.col, .bool nt.to.pr, .bool nt.to.pc, .int .i64 nt.fn, .slice ta tl tc, .int .i64 nu.kind, .int .i64 nu.op, .int .i64 nu.num, .string ⟨nu.text.toArray⟩, .int .i64 nu.ref.row, .int .i64 nu.ref.col, .bool nu.ref.pr, .bool nu.ref.pc, .int .i64 nu.to.row, .int .i64 nu.to.col, .bool nu.to.pr, .bool nu.to.pc, .int .i64 nu.fn, .slice ua ul uc] 31) nt nu kt ku ta ua tl ul W1) → Calls Try.prog 49 #[.agg #[.int .i64 nt.kind, .int .i64 nt.op, .int .i64 nt.num, .string ⟨nt.text.toArray⟩, .int .i64 nt.ref.row, .int .i64 nt.ref.col, .bool nt.ref.pr, .bool nt.ref.pc, .int .i64 nt.to.row, .int .i64 nt.to.col, .bool nt.to.pr, .bool nt.to.pc, .int .i64 nt.fn, .slice ta tl tc], .agg #[.int .i64 nu.kind, .int .i64 nu.op, .int .i64 nu.num, .string ⟨nu.text.toArray⟩, .int .i64 nu.ref.row, .int .i64 nu.ref.col, .bool nu.ref.pr, .bool nu.ref.pc, .int .i64 nu.to.row, .int .i64 nu.to.col, .bool nu.to.pr, .bool nu.to.pc, .int .i64 nu.fn, .slice ua ul uc]] W1 (fun e w' => e = .returned (.bool (sameV nt nu kt ku)) ∧ ((∀ o, w'.cell? ⟨w.heap.size, o, none⟩ = (#[.int .i64 3, .int .i64 nt.kind, .int .i64 nt.op, .int .i64 nt.num, .string ⟨nt.text.toArray⟩, .int .i64 nt.ref.row, .int .i64 nt.ref.col, .bool nt.ref.pr, .bool nt.ref.pc, .int .i64 nt.to.row, .int .i64 nt.to.col, .bool nt.to.pr, .bool nt.to.pc, .int .i64 nt.fn, .slice ta tl tc, .int .i64 nu.kind, .int .i64 nu.op, .int .i64 nu.num, .string ⟨nu.text.toArray⟩, .int .i64 nu.ref.row, .int .i64 nu.ref.col, .bool nu.ref.pr, .bool nu.ref.pc, .int .i64 nu.to.row, .int .i64 nu.to.col, .bool nu.to.pr, .bool nu.to.pc, .int .i64 nu.fn, .slice ua ul uc] : Array Value)[o]?) ∧ PlR w B (.cells #[.int .i64 3, .int .i64 nt.kind, .int .i64 nt.op, .int .i64 nt.num, .string ⟨nt.text.toArray⟩, .int .i64 nt.ref.row, .int .i64 nt.ref.col, .bool nt.ref.pr, .bool nt.ref.pc, .int .i64 nt.to.row, .int .i64 nt.to.col, .bool nt.to.pr, .bool nt.to.pc, .int .i64 nt.fn, .slice ta tl tc, .int .i64 nu.kind, .int .i64 nu.op, .int .i64 nu.num, .string ⟨nu.text.toArray⟩, .int .i64 nu.ref.row, .int .i64 nu.ref.col, .bool nu.ref.pr, .bool nu.ref.pc, .int .i64 nu.to.row, .int .i64 nu.to.col, .bool nu.to.pr, .bool nu.to.pc, .int .i64 nu.fn, .slice ua ul uc] 31) nt nu kt ku ta ua tl ul w')) :=
    fun W1 hS => (refSame_any nt nu kt ku W1 B B ta ua tl tc ul uc hS.2.le hS.2.le hS.2.t hS.2.u).mono fun e w' h => ⟨h.1, hS.2.step h.2⟩
  have CM := Lib.hid cM; have CR := Lib.hid cR
  clear cM cR
  have hd := Q0.out.2.step (drew_below rfl)
  go_region_held3 (fun w' => (∀ o, w'.cell? ⟨w.heap.size, o, none⟩ = (#[.int .i64 3, .int .i64 nt.kind, .int .i64 nt.op, .int .i64 nt.num, .string ⟨nt.text.toArray⟩, .int .i64 nt.ref.row, .int .i64 nt.ref.col, .bool nt.ref.pr, .bool nt.ref.pc, .int .i64 nt.to.row, .int .i64 nt.to.col, .bool nt.to.pr, .bool nt.to.pc, .int .i64 nt.fn, .slice ta tl tc, .int .i64 nu.kind, .int .i64 nu.op, .int .i64 nu.num, .string ⟨nu.text.toArray⟩, .int .i64 nu.ref.row, .int .i64 nu.ref.col, .bool nu.ref.pr, .bool nu.ref.pc, .int .i64 nu.to.row, .int .i64 nu.to.col, .bool nu.to.pr, .bool nu.to.pc, .int .i64 nu.fn, .slice ua ul uc] : Array Value)[o]?) ∧ PlR w B (.cells #[.int .i64 3, .int .i64 nt.kind, .int .i64 nt.op, .int .i64 nt.num, .string ⟨nt.text.toArray⟩, .int .i64 nt.ref.row, .int .i64 nt.ref.col, .bool nt.ref.pr, .bool nt.ref.pc, .int .i64 nt.to.row, .int .i64 nt.to.col, .bool nt.to.pr, .bool nt.to.pc, .int .i64 nt.fn, .slice ta tl tc, .int .i64 nu.kind, .int .i64 nu.op, .int .i64 nu.num, .string ⟨nu.text.toArray⟩, .int .i64 nu.ref.row, .int .i64 nu.ref.col, .bool nu.ref.pr, .bool nu.ref.pc, .int .i64 nu.to.row, .int .i64 nu.to.col, .bool nu.to.pr, .bool nu.to.pc, .int .i64 nu.fn, .slice ua ul uc] 31) nt nu kt ku ta ua tl ul w') (first | assumption | exact hd) (first
    | (go_at_call 25
       refine (CM.out _ (by assumption)).mono ?_
       rintro e w' ⟨rfl, hS'⟩)
    | (go_at_call 49
       refine (CR.out _ (by assumption)).mono ?_
       rintro e w' ⟨rfl, hS'⟩))
  all_goals
    have HS := Lib.hid hS'.2.bel
    clear hS' hd
    go_wp2
    go_ret
    exact ⟨ret_bool (by simp), HS.out⟩


set_option maxRecDepth 100000 in
set_option maxHeartbeats 4000000 in
theorem plays_4 (nt nu : Hd) (kt ku : Trees) (w : World) (B : Nat) (ta ua : Option Addr) (tl tc ul uc : Nat) (hB : B ≤ w.heap.size) (tv : TreeV w B nt kt ta tl) (uv : TreeV w B nu ku ua ul) :
    Calls Try.prog 16 #[.agg #[.int .i64 4, .int .i64 nt.kind, .int .i64 nt.op, .int .i64 nt.num, .string ⟨nt.text.toArray⟩, .int .i64 nt.ref.row, .int .i64 nt.ref.col, .bool nt.ref.pr, .bool nt.ref.pc, .int .i64 nt.to.row, .int .i64 nt.to.col, .bool nt.to.pr, .bool nt.to.pc, .int .i64 nt.fn, .slice ta tl tc, .int .i64 nu.kind, .int .i64 nu.op, .int .i64 nu.num, .string ⟨nu.text.toArray⟩, .int .i64 nu.ref.row, .int .i64 nu.ref.col, .bool nu.ref.pr, .bool nu.ref.pc, .int .i64 nu.to.row, .int .i64 nu.to.col, .bool nu.to.pr, .bool nu.to.pc, .int .i64 nu.fn, .slice ua ul uc]] w (TruePost w) := by
  have b0 := ext_alloc (Below.refl _ w) (.cells #[.int .i64 4, .int .i64 nt.kind, .int .i64 nt.op, .int .i64 nt.num, .string ⟨nt.text.toArray⟩, .int .i64 nt.ref.row, .int .i64 nt.ref.col, .bool nt.ref.pr, .bool nt.ref.pc, .int .i64 nt.to.row, .int .i64 nt.to.col, .bool nt.to.pr, .bool nt.to.pc, .int .i64 nt.fn, .slice ta tl tc, .int .i64 nu.kind, .int .i64 nu.op, .int .i64 nu.num, .string ⟨nu.text.toArray⟩, .int .i64 nu.ref.row, .int .i64 nu.ref.col, .bool nu.ref.pr, .bool nu.ref.pc, .int .i64 nu.to.row, .int .i64 nu.to.col, .bool nu.to.pr, .bool nu.to.pc, .int .i64 nu.fn, .slice ua ul uc] 31)
  have p0 : PlR w B (.cells #[.int .i64 4, .int .i64 nt.kind, .int .i64 nt.op, .int .i64 nt.num, .string ⟨nt.text.toArray⟩, .int .i64 nt.ref.row, .int .i64 nt.ref.col, .bool nt.ref.pr, .bool nt.ref.pc, .int .i64 nt.to.row, .int .i64 nt.to.col, .bool nt.to.pr, .bool nt.to.pc, .int .i64 nt.fn, .slice ta tl tc, .int .i64 nu.kind, .int .i64 nu.op, .int .i64 nu.num, .string ⟨nu.text.toArray⟩, .int .i64 nu.ref.row, .int .i64 nu.ref.col, .bool nu.ref.pr, .bool nu.ref.pc, .int .i64 nu.to.row, .int .i64 nu.to.col, .bool nu.to.pr, .bool nu.to.pc, .int .i64 nu.fn, .slice ua ul uc] 31) nt nu kt ku ta ua tl ul (w.alloc (.cells #[.int .i64 4, .int .i64 nt.kind, .int .i64 nt.op, .int .i64 nt.num, .string ⟨nt.text.toArray⟩, .int .i64 nt.ref.row, .int .i64 nt.ref.col, .bool nt.ref.pr, .bool nt.ref.pc, .int .i64 nt.to.row, .int .i64 nt.to.col, .bool nt.to.pr, .bool nt.to.pc, .int .i64 nt.fn, .slice ta tl tc, .int .i64 nu.kind, .int .i64 nu.op, .int .i64 nu.num, .string ⟨nu.text.toArray⟩, .int .i64 nu.ref.row, .int .i64 nu.ref.col, .bool nu.ref.pr, .bool nu.ref.pc, .int .i64 nu.to.row, .int .i64 nu.to.col, .bool nu.to.pr, .bool nu.to.pc, .int .i64 nu.fn, .slice ua ul uc] 31)) :=
    ⟨hB, heap_alloc_new _ _, b0, tv.kept (b0.mono hB) (Nat.le_refl _), uv.kept (b0.mono hB) (Nat.le_refl _)⟩
  have q0 := p0.step (Below.refl _ _)
  have Q0 := Lib.hid q0
  have okt := Lib.hid tv.ok
  clear b0 p0 tv uv q0
  go_enter Try.func16, Try.ntmps16
  go_wp2_with fail
  refine (copy_any nt kt _ B ta tl tc Q0.out.2.le Q0.out.2.t).mono ?_
  by_cases f : Fine nt kt
  · have FF := Lib.hid f; clear f
    rintro e w2 ⟨b2, ⟨-, xa, xl, xc, F2, rfl, f2⟩ | ⟨f', -⟩⟩
    case inr => exact absurd FF.out f'
    have b3 := b2.trans ((ext_alloc (Below.refl _ w2) (.cells #[.int .i64 nt.kind, .int .i64 nt.op, .int .i64 nt.num, .string ⟨nt.text.toArray⟩, .int .i64 nt.ref.row, .int .i64 nt.ref.col, .bool nt.ref.pr, .bool nt.ref.pc, .int .i64 nt.to.row, .int .i64 nt.to.col, .bool nt.to.pr, .bool nt.to.pc, .int .i64 nt.fn, .slice xa xl xc] 29)).mono b2.size)
    obtain ⟨c3, p3⟩ := Q0.out.2.step b3
    have X3 := (f2.readable okt.out).kept (ext_alloc (Below.refl _ w2) (.cells #[.int .i64 nt.kind, .int .i64 nt.op, .int .i64 nt.num, .string ⟨nt.text.toArray⟩, .int .i64 nt.ref.row, .int .i64 nt.ref.col, .bool nt.ref.pr, .bool nt.ref.pc, .int .i64 nt.to.row, .int .i64 nt.to.col, .bool nt.to.pr, .bool nt.to.pc, .int .i64 nt.fn, .slice xa xl xc] 29)) (Nat.le_refl _)
    have P3 := Lib.hid p3; have HX := Lib.hid X3
    clear b2 b3 p3 X3 f2
    go_wp2_with fail
    refine (refCopy_any nt kt _ B ta tl tc P3.out.le P3.out.t).mono ?_
    rintro e w4 ⟨b4, ⟨-, ya, yl, yc, F4, rfl, f4⟩ | ⟨f', -⟩⟩
    case inr => exact absurd FF.out f'
    obtain ⟨z4, c4⟩ := kept_block b4
    have Y4 := Lib.hid (f4.readable okt.out)
    have X4 := Lib.hid (HX.out.kept (b4.mono (by simp)) (Nat.le_refl _))
    have P4 := Lib.hid (P3.out.step b4).2.bel
    clear b4 f4 c3
    have b5 := ext_alloc (Below.refl _ w4) (.cells #[.int .i64 nt.kind, .int .i64 nt.op, .int .i64 nt.num, .string ⟨nt.text.toArray⟩, .int .i64 nt.ref.row, .int .i64 nt.ref.col, .bool nt.ref.pr, .bool nt.ref.pc, .int .i64 nt.to.row, .int .i64 nt.to.col, .bool nt.to.pr, .bool nt.to.pc, .int .i64 nt.fn, .slice ya yl yc] 29)
    have Y5 := Lib.hid (Y4.out.kept b5 (Nat.le_refl _))
    have X5 := Lib.hid (X4.out.kept (b5.mono (by omega)) (Nat.le_refl _))
    have P5 := Lib.hid (P4.out.trans (b5.mono (by have := P4.out.size; omega)))
    clear b5
    go_wp2_with fail
    refine (refEq_any nt kt nt kt _ w2.heap.size w4.heap.size xa ya xl xc yl yc (by simp; omega) (by simp) X5.out Y5.out).mono ?_
    rintro e w6 ⟨rfl, b6⟩
    have B6 := Lib.hid (P5.out.trans (b6.mono P5.out.size))
    clear b6
    go_wp2
    go_ret
    exact ⟨ret_bool (by simp [sameB]), B6.out⟩
  · have FF := Lib.hid f; clear f
    rintro e w2 ⟨b2, ⟨f', -⟩ | ⟨-, rfl⟩⟩
    case inl => exact absurd f' FF.out
    have b3 := b2.trans ((ext_alloc (Below.refl _ w2) (.cells #[.int .i64 0, .int .i64 0, .int .i64 0, .string ⟨#[]⟩, .int .i64 0, .int .i64 0, .bool false, .bool false, .int .i64 0, .int .i64 0, .bool false, .bool false, .int .i64 0, .slice none 0 0] 29)).mono b2.size)
    obtain ⟨c3, p3⟩ := Q0.out.2.step b3
    have P3 := Lib.hid p3
    clear b2 b3 p3
    go_wp2_with fail
    refine (refCopy_any nt kt _ B ta tl tc P3.out.le P3.out.t).mono ?_
    rintro e w4 ⟨b4, ⟨f', -⟩ | ⟨-, rfl⟩⟩
    case inl => exact absurd f' FF.out
    obtain ⟨z4, c4⟩ := kept_block b4
    have P4 := Lib.hid (P3.out.step b4).2.bel
    clear b4 c3
    have P5 := Lib.hid (P4.out.trans ((ext_alloc (Below.refl _ w4) (.cells #[.int .i64 0, .int .i64 0, .int .i64 0, .string ⟨#[]⟩, .int .i64 0, .int .i64 0, .bool false, .bool false, .int .i64 0, .int .i64 0, .bool false, .bool false, .int .i64 0, .slice none 0 0] 29)).mono (by have := P4.out.size; omega)))
    go_wp2_with fail
    refine (refEq_any ⟨0, 0, 0, [], ⟨0, 0, false, false⟩, ⟨0, 0, false, false⟩, 0⟩ .nil ⟨0, 0, 0, [], ⟨0, 0, false, false⟩, ⟨0, 0, false, false⟩, 0⟩ .nil _ _ _ none none 0 0 0 0 (Nat.le_refl _) (Nat.le_refl _) (zero_readable _) (zero_readable _)).mono ?_
    rintro e w6 ⟨rfl, b6⟩
    have B6 := Lib.hid (P5.out.trans (b6.mono P5.out.size))
    clear b6
    go_wp2
    go_ret
    exact ⟨ret_bool (by simp [sameB]), B6.out⟩


set_option maxRecDepth 100000 in
set_option maxHeartbeats 4000000 in
theorem plays_5 (nt nu : Hd) (kt ku : Trees) (w : World) (B : Nat) (ta ua : Option Addr) (tl tc ul uc : Nat) (hB : B ≤ w.heap.size) (tv : TreeV w B nt kt ta tl) (uv : TreeV w B nu ku ua ul) :
    Calls Try.prog 16 #[.agg #[.int .i64 5, .int .i64 nt.kind, .int .i64 nt.op, .int .i64 nt.num, .string ⟨nt.text.toArray⟩, .int .i64 nt.ref.row, .int .i64 nt.ref.col, .bool nt.ref.pr, .bool nt.ref.pc, .int .i64 nt.to.row, .int .i64 nt.to.col, .bool nt.to.pr, .bool nt.to.pc, .int .i64 nt.fn, .slice ta tl tc, .int .i64 nu.kind, .int .i64 nu.op, .int .i64 nu.num, .string ⟨nu.text.toArray⟩, .int .i64 nu.ref.row, .int .i64 nu.ref.col, .bool nu.ref.pr, .bool nu.ref.pc, .int .i64 nu.to.row, .int .i64 nu.to.col, .bool nu.to.pr, .bool nu.to.pc, .int .i64 nu.fn, .slice ua ul uc]] w (TruePost w) := by
  have b0 := ext_alloc (Below.refl _ w) (.cells #[.int .i64 5, .int .i64 nt.kind, .int .i64 nt.op, .int .i64 nt.num, .string ⟨nt.text.toArray⟩, .int .i64 nt.ref.row, .int .i64 nt.ref.col, .bool nt.ref.pr, .bool nt.ref.pc, .int .i64 nt.to.row, .int .i64 nt.to.col, .bool nt.to.pr, .bool nt.to.pc, .int .i64 nt.fn, .slice ta tl tc, .int .i64 nu.kind, .int .i64 nu.op, .int .i64 nu.num, .string ⟨nu.text.toArray⟩, .int .i64 nu.ref.row, .int .i64 nu.ref.col, .bool nu.ref.pr, .bool nu.ref.pc, .int .i64 nu.to.row, .int .i64 nu.to.col, .bool nu.to.pr, .bool nu.to.pc, .int .i64 nu.fn, .slice ua ul uc] 31)
  have p0 : PlR w B (.cells #[.int .i64 5, .int .i64 nt.kind, .int .i64 nt.op, .int .i64 nt.num, .string ⟨nt.text.toArray⟩, .int .i64 nt.ref.row, .int .i64 nt.ref.col, .bool nt.ref.pr, .bool nt.ref.pc, .int .i64 nt.to.row, .int .i64 nt.to.col, .bool nt.to.pr, .bool nt.to.pc, .int .i64 nt.fn, .slice ta tl tc, .int .i64 nu.kind, .int .i64 nu.op, .int .i64 nu.num, .string ⟨nu.text.toArray⟩, .int .i64 nu.ref.row, .int .i64 nu.ref.col, .bool nu.ref.pr, .bool nu.ref.pc, .int .i64 nu.to.row, .int .i64 nu.to.col, .bool nu.to.pr, .bool nu.to.pc, .int .i64 nu.fn, .slice ua ul uc] 31) nt nu kt ku ta ua tl ul (w.alloc (.cells #[.int .i64 5, .int .i64 nt.kind, .int .i64 nt.op, .int .i64 nt.num, .string ⟨nt.text.toArray⟩, .int .i64 nt.ref.row, .int .i64 nt.ref.col, .bool nt.ref.pr, .bool nt.ref.pc, .int .i64 nt.to.row, .int .i64 nt.to.col, .bool nt.to.pr, .bool nt.to.pc, .int .i64 nt.fn, .slice ta tl tc, .int .i64 nu.kind, .int .i64 nu.op, .int .i64 nu.num, .string ⟨nu.text.toArray⟩, .int .i64 nu.ref.row, .int .i64 nu.ref.col, .bool nu.ref.pr, .bool nu.ref.pc, .int .i64 nu.to.row, .int .i64 nu.to.col, .bool nu.to.pr, .bool nu.to.pc, .int .i64 nu.fn, .slice ua ul uc] 31)) :=
    ⟨hB, heap_alloc_new _ _, b0, tv.kept (b0.mono hB) (Nat.le_refl _), uv.kept (b0.mono hB) (Nat.le_refl _)⟩
  have q0 := p0.step (Below.refl _ _)
  have Q0 := Lib.hid q0
  have okt := Lib.hid tv.ok
  clear b0 p0 tv uv q0
  go_enter Try.func16, Try.ntmps16
  go_wp2_with fail
  refine (reads_any nt kt _ B ta tl tc Q0.out.2.le Q0.out.2.t).mono ?_
  rintro e w2 ⟨v2, rfl, b2, r2⟩
  obtain ⟨c2, p2⟩ := Q0.out.2.step b2
  have P2 := Lib.hid p2
  obtain ⟨xa, xc, rfl, x2, -⟩ := r2.at_
  have X2 := Lib.hid x2
  clear b2 p2 r2 x2
  go_wp2_with fail
  refine (refAllReads_any nt kt _ B ta tl tc P2.out.le P2.out.t).mono ?_
  rintro e w3 ⟨v3, rfl, b3, r3⟩
  obtain ⟨-, p3⟩ := P2.out.step b3
  obtain ⟨ya, yc, rfl, y3, -⟩ := r3.at_
  have P3 := Lib.hid p3
  have X3 := Lib.hid (X2.out.kept b3 (Nat.le_refl _))
  have Y3 := Lib.hid y3
  have z3 := b3.size
  clear b3 p3 r3 y3 c2
  go_wp2_with fail
  refine (areas_any (ReadsAns nt kt) (ReadsAns nt kt) _ _ _ xa ya xc yc X3.out Y3.out z3 (Nat.le_refl _)).mono ?_
  rintro e w4 ⟨rfl, b4⟩
  have B4 := Lib.hid (P3.out.bel.trans (b4.mono P3.out.bel.size))
  clear b4
  go_wp2
  go_ret
  exact ⟨ret_bool (by simp), B4.out⟩


set_option maxRecDepth 100000 in
set_option maxHeartbeats 4000000 in
theorem plays_other (k : Int) (nt nu : Hd) (kt ku : Trees) (w : World) (B : Nat) (ta ua : Option Addr) (tl tc ul uc : Nat) (hB : B ≤ w.heap.size) (tv : TreeV w B nt kt ta tl) (uv : TreeV w B nu ku ua ul) (k1 : k ≠ 1) (k2 : k ≠ 2) (k3 : k ≠ 3) (k4 : k ≠ 4) (k5 : k ≠ 5) :
    Calls Try.prog 16 #[.agg #[.int .i64 k, .int .i64 nt.kind, .int .i64 nt.op, .int .i64 nt.num, .string ⟨nt.text.toArray⟩, .int .i64 nt.ref.row, .int .i64 nt.ref.col, .bool nt.ref.pr, .bool nt.ref.pc, .int .i64 nt.to.row, .int .i64 nt.to.col, .bool nt.to.pr, .bool nt.to.pc, .int .i64 nt.fn, .slice ta tl tc, .int .i64 nu.kind, .int .i64 nu.op, .int .i64 nu.num, .string ⟨nu.text.toArray⟩, .int .i64 nu.ref.row, .int .i64 nu.ref.col, .bool nu.ref.pr, .bool nu.ref.pc, .int .i64 nu.to.row, .int .i64 nu.to.col, .bool nu.to.pr, .bool nu.to.pc, .int .i64 nu.fn, .slice ua ul uc]] w (TruePost w) := by
  have b0 := ext_alloc (Below.refl _ w) (.cells #[.int .i64 k, .int .i64 nt.kind, .int .i64 nt.op, .int .i64 nt.num, .string ⟨nt.text.toArray⟩, .int .i64 nt.ref.row, .int .i64 nt.ref.col, .bool nt.ref.pr, .bool nt.ref.pc, .int .i64 nt.to.row, .int .i64 nt.to.col, .bool nt.to.pr, .bool nt.to.pc, .int .i64 nt.fn, .slice ta tl tc, .int .i64 nu.kind, .int .i64 nu.op, .int .i64 nu.num, .string ⟨nu.text.toArray⟩, .int .i64 nu.ref.row, .int .i64 nu.ref.col, .bool nu.ref.pr, .bool nu.ref.pc, .int .i64 nu.to.row, .int .i64 nu.to.col, .bool nu.to.pr, .bool nu.to.pc, .int .i64 nu.fn, .slice ua ul uc] 31)
  have p0 : PlR w B (.cells #[.int .i64 k, .int .i64 nt.kind, .int .i64 nt.op, .int .i64 nt.num, .string ⟨nt.text.toArray⟩, .int .i64 nt.ref.row, .int .i64 nt.ref.col, .bool nt.ref.pr, .bool nt.ref.pc, .int .i64 nt.to.row, .int .i64 nt.to.col, .bool nt.to.pr, .bool nt.to.pc, .int .i64 nt.fn, .slice ta tl tc, .int .i64 nu.kind, .int .i64 nu.op, .int .i64 nu.num, .string ⟨nu.text.toArray⟩, .int .i64 nu.ref.row, .int .i64 nu.ref.col, .bool nu.ref.pr, .bool nu.ref.pc, .int .i64 nu.to.row, .int .i64 nu.to.col, .bool nu.to.pr, .bool nu.to.pc, .int .i64 nu.fn, .slice ua ul uc] 31) nt nu kt ku ta ua tl ul (w.alloc (.cells #[.int .i64 k, .int .i64 nt.kind, .int .i64 nt.op, .int .i64 nt.num, .string ⟨nt.text.toArray⟩, .int .i64 nt.ref.row, .int .i64 nt.ref.col, .bool nt.ref.pr, .bool nt.ref.pc, .int .i64 nt.to.row, .int .i64 nt.to.col, .bool nt.to.pr, .bool nt.to.pc, .int .i64 nt.fn, .slice ta tl tc, .int .i64 nu.kind, .int .i64 nu.op, .int .i64 nu.num, .string ⟨nu.text.toArray⟩, .int .i64 nu.ref.row, .int .i64 nu.ref.col, .bool nu.ref.pr, .bool nu.ref.pc, .int .i64 nu.to.row, .int .i64 nu.to.col, .bool nu.to.pr, .bool nu.to.pc, .int .i64 nu.fn, .slice ua ul uc] 31)) :=
    ⟨hB, heap_alloc_new _ _, b0, tv.kept (b0.mono hB) (Nat.le_refl _), uv.kept (b0.mono hB) (Nat.le_refl _)⟩
  have q0 := p0.step (Below.refl _ _)
  have Q0 := Lib.hid q0
  have okt := Lib.hid tv.ok
  clear b0 p0 tv uv q0
  go_enter Try.func16, Try.ntmps16
  have e1 : (k == 1) = false := by simp [k1]
  have e2 : (k == 2) = false := by simp [k2]
  have e3 : (k == 3) = false := by simp [k3]
  have e4 : (k == 4) = false := by simp [k4]
  have e5 : (k == 5) = false := by simp [k5]
  clear k1 k2 k3 k4 k5
  go_wp2
  go_ret
  exact ⟨rfl, Q0.out.2.bel⟩


theorem plays_any (k : Int) (nt nu : Hd) (kt ku : Trees) (w : World) (B : Nat) (ta ua : Option Addr) (tl tc ul uc : Nat) (hB : B ≤ w.heap.size) (tv : TreeV w B nt kt ta tl) (uv : TreeV w B nu ku ua ul) :
    Calls Try.prog 16 #[.agg #[.int .i64 k, .int .i64 nt.kind, .int .i64 nt.op, .int .i64 nt.num, .string ⟨nt.text.toArray⟩, .int .i64 nt.ref.row, .int .i64 nt.ref.col, .bool nt.ref.pr, .bool nt.ref.pc, .int .i64 nt.to.row, .int .i64 nt.to.col, .bool nt.to.pr, .bool nt.to.pc, .int .i64 nt.fn, .slice ta tl tc, .int .i64 nu.kind, .int .i64 nu.op, .int .i64 nu.num, .string ⟨nu.text.toArray⟩, .int .i64 nu.ref.row, .int .i64 nu.ref.col, .bool nu.ref.pr, .bool nu.ref.pc, .int .i64 nu.to.row, .int .i64 nu.to.col, .bool nu.to.pr, .bool nu.to.pc, .int .i64 nu.fn, .slice ua ul uc]] w (TruePost w) := by
  by_cases k1 : k = 1
  · subst k1; exact plays_1 nt nu kt ku w B ta ua tl tc ul uc hB tv uv
  by_cases k2 : k = 2
  · subst k2; exact plays_2 nt nu kt ku w B ta ua tl tc ul uc hB tv uv
  by_cases k3 : k = 3
  · subst k3; exact plays_3 nt nu kt ku w B ta ua tl tc ul uc hB tv uv
  by_cases k4 : k = 4
  · subst k4; exact plays_4 nt nu kt ku w B ta ua tl tc ul uc hB tv uv
  by_cases k5 : k = 5
  · subst k5; exact plays_5 nt nu kt ku w B ta ua tl tc ul uc hB tv uv
  exact plays_other k nt nu kt ku w B ta ua tl tc ul uc hB tv uv k1 k2 k3 k4 k5
end Go.Proofs.Ytkjfeakbhfkldaa
