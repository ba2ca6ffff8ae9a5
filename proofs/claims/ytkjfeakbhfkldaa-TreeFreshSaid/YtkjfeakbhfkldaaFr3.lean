/- Are the marks behind the lists as they were, and is the tree (law9's marked and Kept)? Then it is written over. -/
import Derived.Test.YtkjfeakbhfkldaaFr2
import Derived.Test.YtkjfeakbhfkldaaTreeG
namespace Go.Proofs.Ytkjfeakbhfkldaa
open Go.RowKit

theorem LRow.head {w : World} {ok : Nat → Prop} {h : Hd} {ks rest : Trees} {a : Option Addr} {i : Nat} (r : LRow w ok (.cons h ks rest) a i) :
    ∃ b off ka kl kc, a = some ⟨b, off, none⟩ ∧ ok b ∧ NodeAt w b (off + i * 14) h (.slice ka kl kc) ∧ LTree w ok h ks ka kl kc := by
  obtain ⟨⟨b, off, ka, kl, kc, e, lt, n, l, m, o, mk, k⟩, _⟩ := r
  exact ⟨b, off, ka, kl, kc, e, lt, n, l, m, o, mk, k⟩
def RMl (h : Hd) (ks : Trees) : Prop := ∀ (w : World) (ok : Nat → Prop) (ka : Option Addr) (kl kc : Nat), (∀ b, ok b → b < w.heap.size) → LTree w ok h ks ka kl kc →
  Calls Try.prog 60 #[.agg #[.int .i64 h.kind, .int .i64 h.op, .int .i64 h.num, .string ⟨h.text.toArray⟩, .int .i64 h.ref.row, .int .i64 h.ref.col, .bool h.ref.pr, .bool h.ref.pc, .int .i64 h.to.row, .int .i64 h.to.col, .bool h.to.pr, .bool h.to.pc, .int .i64 h.fn, .slice ka kl kc]] w fun e w' => e = .returned (.bool true) ∧ Below w.heap.size w w'
def MlRel (nd : Hd) (g kl kc : Nat) (ok : Nat → Prop) (w wr : World) (i : Value) : Prop :=
  ∃ (j : Nat) (rest : Trees), i = .int .i64 j ∧ Hid (j + rest.len = kl) ∧ LRow wr ok rest (some ⟨g, 0, none⟩) j ∧ AllT RMl rest ∧ wr.heap[w.heap.size]? = some (.cells #[.int .i64 nd.kind, .int .i64 nd.op, .int .i64 nd.num, .string ⟨nd.text.toArray⟩, .int .i64 nd.ref.row, .int .i64 nd.ref.col, .bool nd.ref.pr, .bool nd.ref.pc, .int .i64 nd.to.row, .int .i64 nd.to.col, .bool nd.to.pr, .bool nd.to.pc, .int .i64 nd.fn, .slice (some ⟨g, 0, none⟩) kl kc] 29 (0, 0)) ∧ Hid (Below w.heap.size w wr)

set_option maxRecDepth 100000 in
set_option maxHeartbeats 4000000 in
theorem marked_step (nd : Hd) (ks : Trees) (ih : AllT RMl ks) : RMl nd ks := by
  intro w ok ka kl kc hok tv
  have hm := tv.max
  have b0 : ∀ O, Below w.heap.size w (w.alloc O) := fun O => ext_alloc (Below.refl _ w) O
  obtain ⟨g, cur, rfl, og, m1, m2, m3, m4, m5⟩ := tv.mark
  have hgw := hok g og
  have hcap : kl + 1 ≤ kc := m1
  have hck : (kl : Int) + 1 ≤ (kc : Int) := by omega
  have hk0 : (0 : Int) ≤ (kl : Int) + 1 := by omega
  have hki : (kl : Int) < (kl : Int) + 1 := by omega
  have RG := Lib.hid (show (w.alloc (.cells #[.int .i64 nd.kind, .int .i64 nd.op, .int .i64 nd.num, .string ⟨nd.text.toArray⟩, .int .i64 nd.ref.row, .int .i64 nd.ref.col, .bool nd.ref.pr, .bool nd.ref.pc, .int .i64 nd.to.row, .int .i64 nd.to.col, .bool nd.to.pr, .bool nd.to.pc, .int .i64 nd.fn, .slice (some ⟨g, 0, none⟩) kl kc] 29)).rangeAt g (kl * 14) [.int .i64 (-7), .int .i64 0, .int .i64 kl, .string ⟨#[]⟩, .int .i64 0, .int .i64 0, .bool false, .bool false, .int .i64 0, .int .i64 0, .bool false, .bool false, .int .i64 0, .slice none 0 0] from fun i x hx => by
    rw [cells_of_block ((Below.heap_alloc w (.cells #[.int .i64 nd.kind, .int .i64 nd.op, .int .i64 nd.num, .string ⟨nd.text.toArray⟩, .int .i64 nd.ref.row, .int .i64 nd.ref.col, .bool nd.ref.pr, .bool nd.ref.pc, .int .i64 nd.to.row, .int .i64 nd.to.col, .bool nd.to.pr, .bool nd.to.pc, .int .i64 nd.fn, .slice (some ⟨g, 0, none⟩) kl kc] 29) g hgw).trans m3)]; exact m5 i x hx)
  have HT := Lib.hid tv; have HI := Lib.hid ih; have OK := Lib.hid hok
  have H0 := Lib.hid (heap_alloc_new w (.cells #[.int .i64 nd.kind, .int .i64 nd.op, .int .i64 nd.num, .string ⟨nd.text.toArray⟩, .int .i64 nd.ref.row, .int .i64 nd.ref.col, .bool nd.ref.pr, .bool nd.ref.pc, .int .i64 nd.to.row, .int .i64 nd.to.col, .bool nd.to.pr, .bool nd.to.pc, .int .i64 nd.fn, .slice (some ⟨g, 0, none⟩) kl kc] 29))
  have B0 := Lib.hid (b0 (.cells #[.int .i64 nd.kind, .int .i64 nd.op, .int .i64 nd.num, .string ⟨nd.text.toArray⟩, .int .i64 nd.ref.row, .int .i64 nd.ref.col, .bool nd.ref.pr, .bool nd.ref.pc, .int .i64 nd.to.row, .int .i64 nd.to.col, .bool nd.to.pr, .bool nd.to.pc, .int .i64 nd.fn, .slice (some ⟨g, 0, none⟩) kl kc] 29))
  have hkm : (kl : Int) + 1 ≤ 9223372036854775807 := by omega
  clear tv ih hok b0 m3 m4 m5
  go_enter Try.func60, Try.ntmps60
  go_wp2_with (first
  | (refine wpList_load_rng (N := g) (off := kl * 14) (vs := [.int .i64 (-7), .int .i64 0, .int .i64 kl, .string ⟨#[]⟩, .int .i64 0, .int .i64 0, .bool false, .bool false, .int .i64 0, .int .i64 0, .bool false, .bool false, .int .i64 0, .slice none 0 0]) rfl rfl rfl RG.out rfl ?_)
  | (refine wpList_store_mem (N := w.heap.size + 1) (off := 0) (vs := [.int .i64 (-7), .int .i64 0, .int .i64 kl, .string ⟨#[]⟩, .int .i64 0, .int .i64 0, .bool false, .bool false, .int .i64 0, .int .i64 0, .bool false, .bool false, .int .i64 0, .slice none 0 0]) infoExprS rfl rfl rfl rfl (by have := heap_alloc_new (w.alloc (.cells #[.int .i64 nd.kind, .int .i64 nd.op, .int .i64 nd.num, .string ⟨nd.text.toArray⟩, .int .i64 nd.ref.row, .int .i64 nd.ref.col, .bool nd.ref.pr, .bool nd.ref.pc, .int .i64 nd.to.row, .int .i64 nd.to.col, .bool nd.to.pr, .bool nd.to.pc, .int .i64 nd.fn, .slice (some ⟨g, 0, none⟩) kl kc] 29)) (.cells #[.int .i64 0, .int .i64 0, .int .i64 0, .string ⟨#[]⟩, .int .i64 0, .int .i64 0, .bool false, .bool false, .int .i64 0, .int .i64 0, .bool false, .bool false, .int .i64 0, .slice none 0 0] 29); simpa using this) (by simp) rfl (by simp [Value.oneCell']) ?_
     intro w2 hw2
     have h1 : w2.heap[w.heap.size + 1]? = some (.cells #[.int .i64 (-7), .int .i64 0, .int .i64 kl, .string ⟨#[]⟩, .int .i64 0, .int .i64 0, .bool false, .bool false, .int .i64 0, .int .i64 0, .bool false, .bool false, .int .i64 0, .slice none 0 0] 29 (0, 0)) := by
       rw [hw2]
       refine setCells_all (vs := [.int .i64 (-7), .int .i64 0, .int .i64 kl, .string ⟨#[]⟩, .int .i64 0, .int .i64 0, .bool false, .bool false, .int .i64 0, .int .i64 0, .bool false, .bool false, .int .i64 0, .slice none 0 0]) (cs := #[.int .i64 0, .int .i64 0, .int .i64 0, .string ⟨#[]⟩, .int .i64 0, .int .i64 0, .bool false, .bool false, .int .i64 0, .int .i64 0, .bool false, .bool false, .int .i64 0, .slice none 0 0]) ?_ rfl
       have := heap_alloc_new (w.alloc (.cells #[.int .i64 nd.kind, .int .i64 nd.op, .int .i64 nd.num, .string ⟨nd.text.toArray⟩, .int .i64 nd.ref.row, .int .i64 nd.ref.col, .bool nd.ref.pr, .bool nd.ref.pc, .int .i64 nd.to.row, .int .i64 nd.to.col, .bool nd.to.pr, .bool nd.to.pc, .int .i64 nd.fn, .slice (some ⟨g, 0, none⟩) kl kc] 29)) (.cells #[.int .i64 0, .int .i64 0, .int .i64 0, .string ⟨#[]⟩, .int .i64 0, .int .i64 0, .bool false, .bool false, .int .i64 0, .int .i64 0, .bool false, .bool false, .int .i64 0, .slice none 0 0] 29); simpa using this
     have h0 : w2.heap[w.heap.size]? = some (.cells #[.int .i64 nd.kind, .int .i64 nd.op, .int .i64 nd.num, .string ⟨nd.text.toArray⟩, .int .i64 nd.ref.row, .int .i64 nd.ref.col, .bool nd.ref.pr, .bool nd.ref.pc, .int .i64 nd.to.row, .int .i64 nd.to.col, .bool nd.to.pr, .bool nd.to.pc, .int .i64 nd.fn, .slice (some ⟨g, 0, none⟩) kl kc] 29 (0, 0)) := by rw [hw2]; exact (setCells_other (by omega) _ _ _).trans (heap_alloc2_old w _ _)
     have hb : Below w.heap.size w w2 := by rw [hw2]; exact setCells_below (by omega) _ _ (ext_alloc B0.out _)
     have c1 := cells_of_block h1
     have c0 := cells_of_block h0
     have B2 := Lib.hid hb
     have H2 := Lib.hid h0
     clear hw2 h1 h0 hb))
  clear c1 c0
  go_loopw [5] (fun i wr => MlRel nd g kl kc ok w wr i) (fun i _ => kl - (intOf i).toNat)
  case atStart => exact ⟨0, ks, rfl, Lib.hid (by have := HT.out.len; omega), HT.out.row.kept fun b hb => ⟨hb, B2.out.block b (OK.out b hb)⟩, HI.out, H2.out, B2⟩
  case round =>
    obtain ⟨j, rest, rfl, HJ, hrow, hall, hbx, HB⟩ := hrel
    have c0 := cells_of_block hbx
    have HBX := Lib.hid hbx
    have hlen := HJ.out
    by_cases hlt : j < kl
    · obtain ⟨h', k', r', rfl⟩ := trees_cons (rest := rest) (by omega)
      obtain ⟨b1, off, ka', kl', kc', ea, hb1, N1, tv1⟩ := hrow.head
      injection ea with ea
      injection ea with e1 e2 e3
      subst e1 e2
      have RG1 := Lib.hid (show wr.rangeAt g (j * 14) [.int .i64 h'.kind, .int .i64 h'.op, .int .i64 h'.num, .string ⟨h'.text.toArray⟩, .int .i64 h'.ref.row, .int .i64 h'.ref.col, .bool h'.ref.pr, .bool h'.ref.pc, .int .i64 h'.to.row, .int .i64 h'.to.col, .bool h'.to.pr, .bool h'.to.pc, .int .i64 h'.fn, .slice ka' kl' kc'] from fun q x hx => by have := N1.2 q x hx; rwa [Nat.zero_add] at this)
      have hsz : ∀ b, ok b → b < wr.heap.size := fun b hb => Nat.lt_of_lt_of_le (OK.out b hb) HB.out.size
      have CC := Lib.hid (hall.1 wr ok ka' kl' kc' hsz tv1)
      have HA := Lib.hid hall.2; have HR := Lib.hid hrow.2; have SZ := Lib.hid hsz
      have hji : (j : Int) < (kl : Int) := by omega
      have hj0 : (0 : Int) ≤ (j : Int) := by omega
      clear hlen hall hrow N1 tv1 hsz hbx
      go_wp2_with (refine wpList_load_rng (N := g) (off := j * 14) (vs := [.int .i64 h'.kind, .int .i64 h'.op, .int .i64 h'.num, .string ⟨h'.text.toArray⟩, .int .i64 h'.ref.row, .int .i64 h'.ref.col, .bool h'.ref.pr, .bool h'.ref.pc, .int .i64 h'.to.row, .int .i64 h'.to.col, .bool h'.to.pr, .bool h'.to.pc, .int .i64 h'.fn, .slice ka' kl' kc']) rfl rfl rfl RG1.out rfl ?_)
      refine CC.out.mono ?_
      rintro e w2 ⟨rfl, b2⟩
      have HR2 := Lib.hid (HR.out.kept (ok' := ok) (w' := w2) fun b hb => ⟨hb, b2.block b (SZ.out b hb)⟩)
      have BX2 := Lib.hid ((b2.block _ (lt_of_block HBX.out)).trans HBX.out)
      have B2 := Lib.hid (HB.out.trans (b2.mono HB.out.size))
      have HJ2 := Lib.hid (show (j + 1) + r'.len = kl by have := HJ.out; simp only [Trees.len] at this; omega)
      clear b2 c0
      go_wp2
      exact ⟨⟨j + 1, r', by go_num, HJ2, HR2.out, HA.out, BX2.out, B2⟩, by simp [intOf]; have := HJ2.out; omega⟩
    · clear hrow hall hbx
      go_wp2
      go_ret
      exact ⟨rfl, HB.out⟩
theorem marked_any (h : Hd) (ks : Trees) : RMl h ks := marked_step h ks (allT marked_step ks)

set_option maxRecDepth 100000 in
set_option maxHeartbeats 4000000 in
theorem kept9_any (h : Hd) (ks : Trees) (w : World) (ok : Nat → Prop) (B : Nat) (F : List Nat) (a a' : Option Addr) (l c l' c' : Nat) (hok : ∀ b, ok b → b < w.heap.size) (hB : B ≤ w.heap.size) (lt : LTree w ok h ks a l c) (ow : OwnV w ks (.slice a l c) F) (hn : F.Nodup) (hF : ∀ b ∈ F, b < w.heap.size) (hk : ks.nodes ≤ 100000) (tv : TreeV w B h ks a' l') :
    Calls Try.prog 26 #[.agg #[.int .i64 h.kind, .int .i64 h.op, .int .i64 h.num, .string ⟨h.text.toArray⟩, .int .i64 h.ref.row, .int .i64 h.ref.col, .bool h.ref.pr, .bool h.ref.pc, .int .i64 h.to.row, .int .i64 h.to.col, .bool h.to.pr, .bool h.to.pc, .int .i64 h.fn, .slice a l c], .agg #[.int .i64 h.kind, .int .i64 h.op, .int .i64 h.num, .string ⟨h.text.toArray⟩, .int .i64 h.ref.row, .int .i64 h.ref.col, .bool h.ref.pr, .bool h.ref.pc, .int .i64 h.to.row, .int .i64 h.to.col, .bool h.to.pr, .bool h.to.pc, .int .i64 h.fn, .slice a' l' c']] w fun e w' => e = .returned (.bool true) ∧ Spd F w w' := by
  have b0 := ext_alloc (ext_alloc (Below.refl _ w) (.cells #[.int .i64 h.kind, .int .i64 h.op, .int .i64 h.num, .string ⟨h.text.toArray⟩, .int .i64 h.ref.row, .int .i64 h.ref.col, .bool h.ref.pr, .bool h.ref.pc, .int .i64 h.to.row, .int .i64 h.to.col, .bool h.to.pr, .bool h.to.pc, .int .i64 h.fn, .slice a l c] 29)) (.cells #[.int .i64 h.kind, .int .i64 h.op, .int .i64 h.num, .string ⟨h.text.toArray⟩, .int .i64 h.ref.row, .int .i64 h.ref.col, .bool h.ref.pr, .bool h.ref.pc, .int .i64 h.to.row, .int .i64 h.to.col, .bool h.to.pr, .bool h.to.pc, .int .i64 h.fn, .slice a' l' c'] 29)
  have M0 := Lib.hid (lt.kept (ok' := ok) fun b hb => ⟨hb, b0.block b (hok b hb)⟩)
  have T0 := Lib.hid (tv.kept (b0.mono hB) (Nat.le_refl _))
  have B0 := Lib.hid b0
  have OK := Lib.hid hok; have OW := Lib.hid ow; have HN := Lib.hid hn; have HF := Lib.hid hF; have HK := Lib.hid hk
  clear lt tv b0 hok ow hn hF hk
  go_enter Try.func26, Try.ntmps26
  go_wp2_with fail
  have cb := refEq_any h ks h ks _ w.heap.size B a a' l c l' c' (by simp; omega) (by simp; omega) (LTree.plain M0.out |>.to OK.out) T0.out
  refine cb.mono ?_
  clear cb
  rintro e w2 ⟨he, b2⟩
  obtain rfl := he.trans (show _ = Ending.returned (.bool true) by simp [sameB])
  obtain ⟨zb, cb, cb'⟩ := kept_block2 b2
  have M2 := Lib.hid (M0.out.kept (ok' := ok) fun b hb => ⟨hb, b2.block b (by have := OK.out b hb; simp; omega)⟩)
  have B2 := Lib.hid (B0.out.trans (b2.mono B0.out.size))
  have hok2 : ∀ b, ok b → b < w2.heap.size := fun b hb => by have := OK.out b hb; have := B2.out.size; omega
  have OK2 := Lib.hid hok2
  clear b2 hok2
  go_wp2_with fail
  have cm := marked_any h ks w2 ok a l c OK2.out M2.out
  refine cm.mono ?_
  clear cm
  rintro e w3 ⟨rfl, b3⟩
  have k0 := fun o => (b3.cell (p := ⟨w.heap.size, o, none⟩) (by simp; omega)).trans (cb o)
  have B3 := Lib.hid (B2.out.trans (b3.mono B2.out.size))
  clear b3 cb cb'
  go_wp2_with fail
  have cs := spoil_any h ks w3 F a l c (OW.out.ext HF.out B3.out) HN.out (fun b hb => Nat.lt_of_lt_of_le (HF.out b hb) B3.out.size) HK.out
  refine cs.mono ?_
  clear cs
  rintro e w4 ⟨rfl, s4⟩
  go_wp2
  go_ret
  exact ⟨rfl, (Spd.of B3.out).trans s4 fun b hb => .inl hb⟩
end Go.Proofs.Ytkjfeakbhfkldaa
