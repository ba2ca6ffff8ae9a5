/- Are the marks behind the lists as they were (law10's marks and Kept)? -/
import Derived.Test.YtkjfeakbhfkldaaMhTa
import Derived.Test.YtkjfeakbhfkldaaMhL
namespace Go.Proofs.Ytkjfeakbhfkldaa
open Go.RowKit

theorem MRow.head {w : World} {ok : Nat → Prop} {h : Hd} {ks rest : Trees} {a : Option Addr} {i : Nat} (r : MRow w ok (.cons h ks rest) a i) :
    ∃ b off ka kl kc, a = some ⟨b, off, none⟩ ∧ ok b ∧ NodeAt w b (off + i * 14) h (.slice ka kl kc) ∧ MTree w ok h ks ka kl kc := by
  obtain ⟨⟨b, off, ka, kl, kc, e, lt, n, l, m, o, mk, k⟩, _⟩ := r
  exact ⟨b, off, ka, kl, kc, e, lt, n, l, m, o, mk, k⟩
def RMa (h : Hd) (ks : Trees) : Prop := ∀ (w : World) (ok : Nat → Prop) (ka : Option Addr) (kl kc : Nat), (∀ b, ok b → b < w.heap.size) → MTree w ok h ks ka kl kc →
  Calls Try.prog 68 #[.agg #[.int .i64 h.kind, .int .i64 h.op, .int .i64 h.num, .string ⟨h.text.toArray⟩, .int .i64 h.ref.row, .int .i64 h.ref.col, .bool h.ref.pr, .bool h.ref.pc, .int .i64 h.to.row, .int .i64 h.to.col, .bool h.to.pr, .bool h.to.pc, .int .i64 h.fn, .slice ka kl kc]] w fun e w' => e = .returned (.bool true) ∧ Below w.heap.size w w'
def MaRel (nd : Hd) (_ks : Trees) (kl kc : Nat) (ok : Nat → Prop) (ka : Option Addr) (w wr : World) (i : Value) : Prop :=
  ∃ (j : Nat) (rest : Trees), i = .int .i64 j ∧ Hid (j + rest.len = kl) ∧ MRow wr ok rest ka j ∧ AllT RMa rest ∧ Below (w.alloc (.cells #[.int .i64 nd.kind, .int .i64 nd.op, .int .i64 nd.num, .string ⟨nd.text.toArray⟩, .int .i64 nd.ref.row, .int .i64 nd.ref.col, .bool nd.ref.pr, .bool nd.ref.pc, .int .i64 nd.to.row, .int .i64 nd.to.col, .bool nd.to.pr, .bool nd.to.pc, .int .i64 nd.fn, .slice ka kl kc] 29)).heap.size (w.alloc (.cells #[.int .i64 nd.kind, .int .i64 nd.op, .int .i64 nd.num, .string ⟨nd.text.toArray⟩, .int .i64 nd.ref.row, .int .i64 nd.ref.col, .bool nd.ref.pr, .bool nd.ref.pc, .int .i64 nd.to.row, .int .i64 nd.to.col, .bool nd.to.pr, .bool nd.to.pc, .int .i64 nd.fn, .slice ka kl kc] 29)) wr

set_option maxRecDepth 100000 in
set_option maxHeartbeats 4000000 in
theorem marks_step (nd : Hd) (ks : Trees) (ih : AllT RMa ks) : RMa nd ks := by
  intro w ok ka kl kc hok tv
  have hm := tv.max
  have b0 := ext_alloc (Below.refl _ w) (.cells #[.int .i64 nd.kind, .int .i64 nd.op, .int .i64 nd.num, .string ⟨nd.text.toArray⟩, .int .i64 nd.ref.row, .int .i64 nd.ref.col, .bool nd.ref.pr, .bool nd.ref.pc, .int .i64 nd.to.row, .int .i64 nd.to.col, .bool nd.to.pr, .bool nd.to.pc, .int .i64 nd.fn, .slice ka kl kc] 29)
  have B0 := Lib.hid b0
  have ht := tv.kept (ok' := ok) (w' := w.alloc (.cells #[.int .i64 nd.kind, .int .i64 nd.op, .int .i64 nd.num, .string ⟨nd.text.toArray⟩, .int .i64 nd.ref.row, .int .i64 nd.ref.col, .bool nd.ref.pr, .bool nd.ref.pc, .int .i64 nd.to.row, .int .i64 nd.to.col, .bool nd.to.pr, .bool nd.to.pc, .int .i64 nd.fn, .slice ka kl kc] 29)) fun b hb => ⟨hb, Below.heap_alloc _ _ _ (hok b hb)⟩
  have HT := Lib.hid ht
  have HI := Lib.hid ih
  have HL := Lib.hid tv.len
  have OK := Lib.hid hok
  have mk := ht.mark
  have qS : ∀ (W : World) (a : Option Addr) (n c : Nat), (binOp .neq 27 (.slice a n c) (.slice none 0 0)).run Try.prog W = .ok (.bool (!a.isNone)) W := fun W a n c => run_neq_slice_nil_any W _ _ a n c 0 0 Try.underlying27
  clear ih tv b0 ht hok
  have fin : ∀ (wr : World) (j : Nat), True := fun _ _ => trivial
  clear fin
  rcases mk with rfl | ⟨g, cur, rfl, og, m1, m2, m3, m4, m5⟩
  · go_enter Try.func68, Try.ntmps68
    go_wp2_with fail
    go_loopw [4] (fun i wr => MaRel nd ks kl kc ok none w wr i) (fun i _ => kl - (intOf i).toNat)
    case atStart => exact ⟨0, ks, rfl, Lib.hid (by have := HL.out; omega), HT.out.row, HI.out, Below.refl _ _⟩
    case round =>
      obtain ⟨j, rest, rfl, HJ, hrow, hall, hbel⟩ := hrel
      obtain ⟨hz, cb⟩ := kept_block hbel
      have BW := Lib.hid (B0.out.trans (hbel.mono B0.out.size))
      have HB := Lib.hid hbel
      have hlen := HJ.out
      by_cases hlt : j < kl
      · obtain ⟨h', k', r', rfl⟩ := trees_cons (rest := rest) (by omega)
        obtain ⟨b1, off, ka', kl', kc', ea, hb1, N1, tv1⟩ := hrow.head
        exact absurd ea (by simp)
      · go_wp2
        go_ret
        exact ⟨rfl, BW.out⟩
  · have mc : (w.alloc (.cells #[.int .i64 nd.kind, .int .i64 nd.op, .int .i64 nd.num, .string ⟨nd.text.toArray⟩, .int .i64 nd.ref.row, .int .i64 nd.ref.col, .bool nd.ref.pr, .bool nd.ref.pc, .int .i64 nd.to.row, .int .i64 nd.to.col, .bool nd.to.pr, .bool nd.to.pc, .int .i64 nd.fn, .slice (some ⟨g, 0, none⟩) kl kc] 29)).cell? ⟨g, kl * 14, none⟩ = some (.int .i64 (-7)) := by rw [cells_of_block m3]; exact m5
    have mb : decide (kc ≤ kl) = false := by simp; omega
    have mb' : decide ((kc : Int) ≤ (kl : Int)) = false := by simp; omega
    clear m3 m4 m5 og
    go_enter Try.func68, Try.ntmps68
    go_wp2_with fail
    clear mc mb mb'
    go_loopw [4] (fun i wr => MaRel nd ks kl kc ok (some ⟨g, 0, none⟩) w wr i) (fun i _ => kl - (intOf i).toNat)
    case atStart => exact ⟨0, ks, rfl, Lib.hid (by have := HL.out; omega), HT.out.row, HI.out, Below.refl _ _⟩
    case round =>
      obtain ⟨j, rest, rfl, HJ, hrow, hall, hbel⟩ := hrel
      obtain ⟨hz, cb⟩ := kept_block hbel
      have BW := Lib.hid (B0.out.trans (hbel.mono B0.out.size))
      have HB := Lib.hid hbel
      have hlen := HJ.out
      by_cases hlt : j < kl
      · obtain ⟨h', k', r', rfl⟩ := trees_cons (rest := rest) (by omega)
        obtain ⟨b1, off, ka', kl', kc', ea, hb1, N1, tv1⟩ := hrow.head
        injection ea with ea
        injection ea with e1 e2 e3
        subst e1 e2
        obtain ⟨hl1, d0, d1, d2, d3, d4, d5, d6, d7, d8, d9, d10, d11, d12, d13, y5, y6, y7, y9, y10, y11⟩ := N1.facts
        simp only [Nat.zero_add] at d0 d1 d2 d3 d4 d5 d6 d7 d8 d9 d10 d11 d12 d13
        have hsz : ∀ b, ok b → b < wr.heap.size := fun b hb => by have := OK.out b hb; have := hbel.size; simp at this; omega
        have CC := Lib.hid (hall.1 wr ok ka' kl' kc' hsz tv1)
        have HA := Lib.hid hall.2; have HR := Lib.hid hrow.2; have SZ := Lib.hid hsz
        have hji : (j : Int) < (kl : Int) := by omega
        clear y5 y6 y7 y9 y10 y11 hlen hall hrow N1 tv1 hbel hsz
        go_wp2_with fail
        refine CC.out.mono ?_
        rintro e w2 ⟨rfl, b2⟩
        have HR2 := Lib.hid (HR.out.kept (ok' := ok) (w' := w2) fun b hb => ⟨hb, b2.block b (SZ.out b hb)⟩)
        have B2 := Lib.hid (HB.out.trans (b2.mono HB.out.size))
        have HJ2 := Lib.hid (show (j + 1) + r'.len = kl by have := HJ.out; simp only [Trees.len] at this; omega)
        clear b2 cb d0 d1 d2 d3 d4 d5 d6 d7 d8 d9 d10 d11 d12 d13
        go_wp2

        exact ⟨⟨j + 1, r', by go_num, HJ2, HR2.out, HA.out, B2.out⟩, by simp [intOf]; have := HJ2.out; omega⟩
      · go_wp2
        go_ret
        exact ⟨rfl, BW.out⟩
theorem marks_any (h : Hd) (ks : Trees) : RMa h ks := marks_step h ks (allT marks_step ks)
set_option maxRecDepth 100000 in
set_option maxHeartbeats 4000000 in
theorem kept_any (h : Hd) (ks : Trees) (w : World) (ok : Nat → Prop) (B : Nat) (a a' : Option Addr) (l c l' c' : Nat) (hok : ∀ b, ok b → b < w.heap.size) (hB : B ≤ w.heap.size) (mt : MTree w ok h ks a l c) (tv : TreeV w B h ks a' l') :
    Calls Try.prog 35 #[.agg #[.int .i64 h.kind, .int .i64 h.op, .int .i64 h.num, .string ⟨h.text.toArray⟩, .int .i64 h.ref.row, .int .i64 h.ref.col, .bool h.ref.pr, .bool h.ref.pc, .int .i64 h.to.row, .int .i64 h.to.col, .bool h.to.pr, .bool h.to.pc, .int .i64 h.fn, .slice a l c], .agg #[.int .i64 h.kind, .int .i64 h.op, .int .i64 h.num, .string ⟨h.text.toArray⟩, .int .i64 h.ref.row, .int .i64 h.ref.col, .bool h.ref.pr, .bool h.ref.pc, .int .i64 h.to.row, .int .i64 h.to.col, .bool h.to.pr, .bool h.to.pc, .int .i64 h.fn, .slice a' l' c']] w fun e w' => e = .returned (.bool true) ∧ Below w.heap.size w w' := by
  have b0 := ext_alloc (ext_alloc (Below.refl _ w) (.cells #[.int .i64 h.kind, .int .i64 h.op, .int .i64 h.num, .string ⟨h.text.toArray⟩, .int .i64 h.ref.row, .int .i64 h.ref.col, .bool h.ref.pr, .bool h.ref.pc, .int .i64 h.to.row, .int .i64 h.to.col, .bool h.to.pr, .bool h.to.pc, .int .i64 h.fn, .slice a l c] 29)) (.cells #[.int .i64 h.kind, .int .i64 h.op, .int .i64 h.num, .string ⟨h.text.toArray⟩, .int .i64 h.ref.row, .int .i64 h.ref.col, .bool h.ref.pr, .bool h.ref.pc, .int .i64 h.to.row, .int .i64 h.to.col, .bool h.to.pr, .bool h.to.pc, .int .i64 h.fn, .slice a' l' c'] 29)
  have M0 := Lib.hid (mt.kept (ok' := ok) fun b hb => ⟨hb, b0.block b (hok b hb)⟩)
  have T0 := Lib.hid (tv.kept (b0.mono hB) (Nat.le_refl _))
  have B0 := Lib.hid b0
  have OK := Lib.hid hok
  clear mt tv b0 hok
  go_enter Try.func35, Try.ntmps35
  go_wp2_with fail
  refine (lawEq_any h ks h ks _ w.heap.size B a a' l c l' c' (by simp; omega) (by simp; omega) (M0.out.plain.to OK.out) T0.out).mono ?_
  rintro e w2 ⟨he, b2⟩
  obtain rfl := he.trans (show _ = Ending.returned (.bool true) by simp [sameB])
  obtain ⟨zb, cb, cb'⟩ := kept_block2 b2
  have M2 := Lib.hid (M0.out.kept (ok' := ok) fun b hb => ⟨hb, b2.block b (by have := OK.out b hb; simp; omega)⟩)
  have B2 := Lib.hid (B0.out.trans (b2.mono B0.out.size))
  have hok2 : ∀ b, ok b → b < w2.heap.size := fun b hb => by have := OK.out b hb; have := B2.out.size; omega
  clear b2
  go_wp2_with fail
  refine (marks_any h ks w2 ok a l c hok2 M2.out).mono ?_
  rintro e w3 ⟨rfl, b3⟩
  go_wp2
  go_ret
  exact ⟨rfl, B2.out.trans (b3.mono B2.out.size)⟩
end Go.Proofs.Ytkjfeakbhfkldaa
