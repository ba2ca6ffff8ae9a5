/- TreeFresh: the first loop and the whole. -/
import Derived.Test.YtkjfeakbhfkldaaFr6b
namespace Go.Proofs.Ytkjfeakbhfkldaa
open Go.RowKit
set_option maxRecDepth 100000 in
set_option maxHeartbeats 4000000 in
theorem treeFresh_any (w : World) (a : Option Addr) (len cap : Nat) (TS : Trees) (hTS : len = TS.len) (_hm : len ≤ 9223372036854775807) (hrow : RowIn w w.heap.size TS a 0) : Calls Try.prog 5 #[.slice a len cap] w (TruePost w) := by
  have HTS := Lib.hid hTS; have HROW := Lib.hid hrow
  clear hTS hrow
  go_enter Try.func5, Try.ntmps5
  go_wp2_with fail
  refine (begun_any w).mono ?_
  rintro e w1 ⟨rfl, b1⟩
  have hs1 := b1.size
  have B1 := Lib.hid b1; clear b1
  go_wp2_with fail
  go_loopw [3, 4, 5, 6, 7] (fun vK vW vL vS i wr => TfRel a len w1 wr vK vW vL vS i) (fun _ _ _ _ i _ => len - (intOf i).toNat)
  case atStart => exact ⟨0, TS, _, _, .nil, [], [], [], [], [], [], [], [], rfl, Lib.hid (by have := HTS.out; omega), Lib.hid ((HROW.out.kept B1.out (Nat.le_refl _)).mono hs1), Lib.hid (FrSt.nil w1), Nat.le_refl _, Nat.le_refl _, Nat.zero_le _, Lib.hid trivial, Lib.hid (Below.refl _ _)⟩
  case round =>
    obtain ⟨j, rest, N, cl, TK, LL, csK, csW, csL, csS, FK, GL, GS, rfl, HJ, HR, FS, hTK, hLL, hj2, HSM, HBW⟩ := hrel
    obtain ⟨wq, rfl⟩ : ∃ x, x = wr := ⟨_, rfl⟩
    by_cases hlt : j < len
    · by_cases h2 : j < 200
      · have hlen := HJ.out
        obtain ⟨h', k', r', rfl⟩ := trees_cons (rest := rest) (by omega)
        have hrow := HR.out
        obtain ⟨b1, off, ka', kl', kc', rfl, hb1, N1, tv1⟩ := hrow.head
        have RG := Lib.hid (show wq.rangeAt b1 (off + j * 14) [.int .i64 h'.kind, .int .i64 h'.op, .int .i64 h'.num, .string ⟨h'.text.toArray⟩, .int .i64 h'.ref.row, .int .i64 h'.ref.col, .bool h'.ref.pr, .bool h'.ref.pc, .int .i64 h'.to.row, .int .i64 h'.to.col, .bool h'.to.pr, .bool h'.to.pc, .int .i64 h'.fn, .slice ka' kl' kc'] from fun q x hx => N1.2 q x hx)
        have hbw : w1.heap.size ≤ wq.heap.size := HBW.out.size
        have hNw : N ≤ wq.heap.size := FS.out.hN
        have TO := Lib.hid tv1; have ROW := Lib.hid hrow.2
        have BW := Lib.hid (Below.refl wq.heap.size wq)
        have hw_wq : wq.heap.size ≤ wq.heap.size := Nat.le_refl _
        have hji : (j : Int) < (len : Int) := by omega
        have hj0 : (0 : Int) ≤ (j : Int) := by omega
        clear hlen hrow N1 tv1
        go_wp2_with (first
        | (refine wpList_load_rng (N := b1) (off := off + j * 14) (vs := [.int .i64 h'.kind, .int .i64 h'.op, .int .i64 h'.num, .string ⟨h'.text.toArray⟩, .int .i64 h'.ref.row, .int .i64 h'.ref.col, .bool h'.ref.pr, .bool h'.ref.pc, .int .i64 h'.to.row, .int .i64 h'.to.col, .bool h'.to.pr, .bool h'.to.pc, .int .i64 h'.fn, .slice ka' kl' kc']) rfl rfl rfl RG.out rfl ?_))
        have cc := refSize_any h' k' wq w1.heap.size ka' kl' kc' hbw TO.out
        refine cc.mono ?_
        clear cc
        rintro e w2 ⟨rfl, b2⟩
        have hs_w2 : wq.heap.size ≤ w2.heap.size := b2.size
        have bs_ : Below wq.heap.size wq w2 := b2.mono hw_wq
        have BW := Lib.hid (BW.out.trans bs_)
        have TO := Lib.hid (TO.out.kept (bs_.mono hbw) (Nat.le_refl _))
        have ROW := Lib.hid (ROW.out.kept (bs_.mono hbw) (Nat.le_refl _))
        have FS := Lib.hid (FS.out.kept (bs_.mono hNw))
        have RG := Lib.hid (show w2.rangeAt b1 (off + j * 14) [.int .i64 h'.kind, .int .i64 h'.op, .int .i64 h'.num, .string ⟨h'.text.toArray⟩, .int .i64 h'.ref.row, .int .i64 h'.ref.col, .bool h'.ref.pr, .bool h'.ref.pc, .int .i64 h'.to.row, .int .i64 h'.to.col, .bool h'.to.pr, .bool h'.to.pc, .int .i64 h'.fn, .slice ka' kl' kc'] from fun q x hx => (World.cell?_of_block (a := ⟨b1, off + j * 14 + q, none⟩) (bs_.block b1 (by omega))).trans (RG.out q x hx))
        clear bs_
        have hw_w2 : wq.heap.size ≤ w2.heap.size := Nat.le_trans hw_wq b2.size
        clear b2
        by_cases f : Fine h' k'
        · have FN := Lib.hid f
          clear f
          have hsz : sizeN h' k' ≤ 512 := by obtain ⟨s1, s2, s3⟩ := size_yes FN.out; have := FN.out.1; omega
          have hno : k'.nodes ≤ 100000 := by have := FN.out.1; omega
          obtain ⟨RL, ERL⟩ : ∃ RL, Hid (ReadsAns h' k' = RL) := ⟨_, Lib.hid rfl⟩
          have hRL : RL.length ≤ 600 := by have := readsT_le h' k'; have := FN.out.1; rw [← ERL.out]; unfold ReadsAns; split <;> simp <;> omega
          go_wp2_with (first
          | (refine wpList_load_rng (N := b1) (off := off + j * 14) (vs := [.int .i64 h'.kind, .int .i64 h'.op, .int .i64 h'.num, .string ⟨h'.text.toArray⟩, .int .i64 h'.ref.row, .int .i64 h'.ref.col, .bool h'.ref.pr, .bool h'.ref.pc, .int .i64 h'.to.row, .int .i64 h'.to.col, .bool h'.to.pr, .bool h'.to.pc, .int .i64 h'.fn, .slice ka' kl' kc']) rfl rfl rfl RG.out rfl ?_))
          have cc := lay_any h' k' w2 w1.heap.size ka' kl' kc' (Nat.le_trans hbw hw_w2) TO.out hno
          refine cc.mono ?_
          clear cc
          rintro e w3 ⟨ta, tl, tc, Ft, rfl, b3, ft, lt⟩
          have LT := Lib.hid lt
          have OT := Lib.hid ft.own
          have HT := Lib.hid (show ∀ q ∈ Ft, w2.heap.size ≤ q ∧ q < w3.heap.size from fun q hq => ⟨ft.new q hq, ft.lt q hq⟩)
          have NT := Lib.hid ft.once
          clear lt ft
          have hs_w3 : w2.heap.size ≤ w3.heap.size := b3.size
          have bs_ : Below wq.heap.size w2 w3 := b3.mono hw_w2
          have BW := Lib.hid (BW.out.trans bs_)
          have TO := Lib.hid (TO.out.kept (bs_.mono hbw) (Nat.le_refl _))
          have ROW := Lib.hid (ROW.out.kept (bs_.mono hbw) (Nat.le_refl _))
          have FS := Lib.hid (FS.out.kept (bs_.mono hNw))
          have RG := Lib.hid (show w3.rangeAt b1 (off + j * 14) [.int .i64 h'.kind, .int .i64 h'.op, .int .i64 h'.num, .string ⟨h'.text.toArray⟩, .int .i64 h'.ref.row, .int .i64 h'.ref.col, .bool h'.ref.pr, .bool h'.ref.pc, .int .i64 h'.to.row, .int .i64 h'.to.col, .bool h'.to.pr, .bool h'.to.pc, .int .i64 h'.fn, .slice ka' kl' kc'] from fun q x hx => (World.cell?_of_block (a := ⟨b1, off + j * 14 + q, none⟩) (bs_.block b1 (by omega))).trans (RG.out q x hx))
          clear bs_
          have hw_w3 : wq.heap.size ≤ w3.heap.size := Nat.le_trans hw_w2 b3.size
          clear b3
          go_wp2_with (first
          | (refine wpList_store_mem (N := w3.heap.size) (off := 0) (vs := [.int .i64 h'.kind, .int .i64 h'.op, .int .i64 h'.num, .string ⟨h'.text.toArray⟩, .int .i64 h'.ref.row, .int .i64 h'.ref.col, .bool h'.ref.pr, .bool h'.ref.pc, .int .i64 h'.to.row, .int .i64 h'.to.col, .bool h'.to.pr, .bool h'.to.pc, .int .i64 h'.fn, .slice ta tl tc]) infoExprS rfl rfl rfl rfl (heap_alloc_new w3 (.cells #[.int .i64 0, .int .i64 0, .int .i64 0, .string ⟨#[]⟩, .int .i64 0, .int .i64 0, .bool false, .bool false, .int .i64 0, .int .i64 0, .bool false, .bool false, .int .i64 0, .slice none 0 0] 29)) (by simp) rfl (by simp [Value.oneCell']) ?_
             intro w4 hWn
             have bx : w4.heap[w3.heap.size]? = some (.cells #[.int .i64 h'.kind, .int .i64 h'.op, .int .i64 h'.num, .string ⟨h'.text.toArray⟩, .int .i64 h'.ref.row, .int .i64 h'.ref.col, .bool h'.ref.pr, .bool h'.ref.pc, .int .i64 h'.to.row, .int .i64 h'.to.col, .bool h'.to.pr, .bool h'.to.pc, .int .i64 h'.fn, .slice ta tl tc] 29 (0, 0)) := by rw [hWn]; exact setCells_all (vs := [.int .i64 h'.kind, .int .i64 h'.op, .int .i64 h'.num, .string ⟨h'.text.toArray⟩, .int .i64 h'.ref.row, .int .i64 h'.ref.col, .bool h'.ref.pr, .bool h'.ref.pc, .int .i64 h'.to.row, .int .i64 h'.to.col, .bool h'.to.pr, .bool h'.to.pc, .int .i64 h'.fn, .slice ta tl tc]) (heap_alloc_new w3 (.cells #[.int .i64 0, .int .i64 0, .int .i64 0, .string ⟨#[]⟩, .int .i64 0, .int .i64 0, .bool false, .bool false, .int .i64 0, .int .i64 0, .bool false, .bool false, .int .i64 0, .slice none 0 0] 29)) rfl
             have bb : Below w3.heap.size w3 w4 := by rw [hWn]; exact setCells_below (Nat.le_refl _) _ _ (ext_alloc (Below.refl _ w3) _)
             have B11 := Lib.hid bx
             have lB11 := lt_of_block bx
             clear hWn bx
             have hs_w4 : w3.heap.size ≤ w4.heap.size := bb.size
             have bs_ : Below wq.heap.size w3 w4 := bb.mono hw_w3
             have BW := Lib.hid (BW.out.trans bs_)
             have TO := Lib.hid (TO.out.kept (bs_.mono hbw) (Nat.le_refl _))
             have ROW := Lib.hid (ROW.out.kept (bs_.mono hbw) (Nat.le_refl _))
             have FS := Lib.hid (FS.out.kept (bs_.mono hNw))
             have RG := Lib.hid (show w4.rangeAt b1 (off + j * 14) [.int .i64 h'.kind, .int .i64 h'.op, .int .i64 h'.num, .string ⟨h'.text.toArray⟩, .int .i64 h'.ref.row, .int .i64 h'.ref.col, .bool h'.ref.pr, .bool h'.ref.pc, .int .i64 h'.to.row, .int .i64 h'.to.col, .bool h'.to.pr, .bool h'.to.pc, .int .i64 h'.fn, .slice ka' kl' kc'] from fun q x hx => (World.cell?_of_block (a := ⟨b1, off + j * 14 + q, none⟩) (bs_.block b1 (by omega))).trans (RG.out q x hx))
             clear bs_
             have LT := Lib.hid (LT.out.kept (ok' := fun q => w2.heap.size ≤ q ∧ q < w3.heap.size) fun q hq => ⟨hq, bb.block q (by omega)⟩)
             have OT := Lib.hid (OT.out.kept fun q hq => bb.block q (by have := HT.out q hq; omega))
             have hw_w4 : wq.heap.size ≤ w4.heap.size := Nat.le_trans hw_w3 bb.size
             clear bb)
          | (refine wpList_load_rng (N := w3.heap.size) (off := 0) (vs := [.int .i64 h'.kind, .int .i64 h'.op, .int .i64 h'.num, .string ⟨h'.text.toArray⟩, .int .i64 h'.ref.row, .int .i64 h'.ref.col, .bool h'.ref.pr, .bool h'.ref.pc, .int .i64 h'.to.row, .int .i64 h'.to.col, .bool h'.to.pr, .bool h'.to.pc, .int .i64 h'.fn, .slice ta tl tc]) rfl rfl rfl (box_rng B11.out) rfl ?_))
          have cc := copy_any h' k' w4 w4.heap.size ta tl tc (Nat.le_refl _) (OT.out.tv (h := h') (fun q hq => by have := HT.out q hq; omega) LT.out.hok)
          refine cc.mono ?_
          clear cc
          rintro e w5 ⟨b5, cp⟩
          rcases cp with ⟨-, xa, xl, xc, Fx, rfl, fx⟩ | ⟨nf, -⟩
          rotate_left
          · exact absurd FN.out nf
          have OX := Lib.hid fx.own
          have HOX := Lib.hid (show ∀ q ∈ Fx, w4.heap.size ≤ q ∧ q < w5.heap.size from fun q hq => ⟨fx.new q hq, fx.lt q hq⟩)
          have NOX := Lib.hid fx.once
          clear fx
          have hs_w5 : w4.heap.size ≤ w5.heap.size := b5.size
          have bs_ : Below wq.heap.size w4 w5 := b5.mono hw_w4
          have BW := Lib.hid (BW.out.trans bs_)
          have TO := Lib.hid (TO.out.kept (bs_.mono hbw) (Nat.le_refl _))
          have ROW := Lib.hid (ROW.out.kept (bs_.mono hbw) (Nat.le_refl _))
          have FS := Lib.hid (FS.out.kept (bs_.mono hNw))
          have RG := Lib.hid (show w5.rangeAt b1 (off + j * 14) [.int .i64 h'.kind, .int .i64 h'.op, .int .i64 h'.num, .string ⟨h'.text.toArray⟩, .int .i64 h'.ref.row, .int .i64 h'.ref.col, .bool h'.ref.pr, .bool h'.ref.pc, .int .i64 h'.to.row, .int .i64 h'.to.col, .bool h'.to.pr, .bool h'.to.pc, .int .i64 h'.fn, .slice ka' kl' kc'] from fun q x hx => (World.cell?_of_block (a := ⟨b1, off + j * 14 + q, none⟩) (bs_.block b1 (by omega))).trans (RG.out q x hx))
          clear bs_
          have LT := Lib.hid (LT.out.kept (ok' := fun q => w2.heap.size ≤ q ∧ q < w3.heap.size) fun q hq => ⟨hq, b5.block q (by omega)⟩)
          have OT := Lib.hid (OT.out.kept fun q hq => b5.block q (by have := HT.out q hq; omega))
          have B11 := Lib.hid ((b5.block w3.heap.size (lt_of_block B11.out)).trans B11.out)
          have hw_w5 : wq.heap.size ≤ w5.heap.size := Nat.le_trans hw_w4 b5.size
          clear b5
          go_wp2_with (first
          | (refine wpList_store_mem (N := w5.heap.size) (off := 0) (vs := [.int .i64 h'.kind, .int .i64 h'.op, .int .i64 h'.num, .string ⟨h'.text.toArray⟩, .int .i64 h'.ref.row, .int .i64 h'.ref.col, .bool h'.ref.pr, .bool h'.ref.pc, .int .i64 h'.to.row, .int .i64 h'.to.col, .bool h'.to.pr, .bool h'.to.pc, .int .i64 h'.fn, .slice xa xl xc]) infoExprS rfl rfl rfl rfl (heap_alloc_new w5 (.cells #[.int .i64 0, .int .i64 0, .int .i64 0, .string ⟨#[]⟩, .int .i64 0, .int .i64 0, .bool false, .bool false, .int .i64 0, .int .i64 0, .bool false, .bool false, .int .i64 0, .slice none 0 0] 29)) (by simp) rfl (by simp [Value.oneCell']) ?_
             intro w6 hWn
             have bx : w6.heap[w5.heap.size]? = some (.cells #[.int .i64 h'.kind, .int .i64 h'.op, .int .i64 h'.num, .string ⟨h'.text.toArray⟩, .int .i64 h'.ref.row, .int .i64 h'.ref.col, .bool h'.ref.pr, .bool h'.ref.pc, .int .i64 h'.to.row, .int .i64 h'.to.col, .bool h'.to.pr, .bool h'.to.pc, .int .i64 h'.fn, .slice xa xl xc] 29 (0, 0)) := by rw [hWn]; exact setCells_all (vs := [.int .i64 h'.kind, .int .i64 h'.op, .int .i64 h'.num, .string ⟨h'.text.toArray⟩, .int .i64 h'.ref.row, .int .i64 h'.ref.col, .bool h'.ref.pr, .bool h'.ref.pc, .int .i64 h'.to.row, .int .i64 h'.to.col, .bool h'.to.pr, .bool h'.to.pc, .int .i64 h'.fn, .slice xa xl xc]) (heap_alloc_new w5 (.cells #[.int .i64 0, .int .i64 0, .int .i64 0, .string ⟨#[]⟩, .int .i64 0, .int .i64 0, .bool false, .bool false, .int .i64 0, .int .i64 0, .bool false, .bool false, .int .i64 0, .slice none 0 0] 29)) rfl
             have bb : Below w5.heap.size w5 w6 := by rw [hWn]; exact setCells_below (Nat.le_refl _) _ _ (ext_alloc (Below.refl _ w5) _)
             have B12 := Lib.hid bx
             have lB12 := lt_of_block bx
             clear hWn bx
             have hs_w6 : w5.heap.size ≤ w6.heap.size := bb.size
             have bs_ : Below wq.heap.size w5 w6 := bb.mono hw_w5
             have BW := Lib.hid (BW.out.trans bs_)
             have TO := Lib.hid (TO.out.kept (bs_.mono hbw) (Nat.le_refl _))
             have ROW := Lib.hid (ROW.out.kept (bs_.mono hbw) (Nat.le_refl _))
             have FS := Lib.hid (FS.out.kept (bs_.mono hNw))
             have RG := Lib.hid (show w6.rangeAt b1 (off + j * 14) [.int .i64 h'.kind, .int .i64 h'.op, .int .i64 h'.num, .string ⟨h'.text.toArray⟩, .int .i64 h'.ref.row, .int .i64 h'.ref.col, .bool h'.ref.pr, .bool h'.ref.pc, .int .i64 h'.to.row, .int .i64 h'.to.col, .bool h'.to.pr, .bool h'.to.pc, .int .i64 h'.fn, .slice ka' kl' kc'] from fun q x hx => (World.cell?_of_block (a := ⟨b1, off + j * 14 + q, none⟩) (bs_.block b1 (by omega))).trans (RG.out q x hx))
             clear bs_
             have LT := Lib.hid (LT.out.kept (ok' := fun q => w2.heap.size ≤ q ∧ q < w3.heap.size) fun q hq => ⟨hq, bb.block q (by omega)⟩)
             have OT := Lib.hid (OT.out.kept fun q hq => bb.block q (by have := HT.out q hq; omega))
             have B11 := Lib.hid ((bb.block w3.heap.size (lt_of_block B11.out)).trans B11.out)
             have OX := Lib.hid (OX.out.kept fun q hq => bb.block q (by have := HOX.out q hq; omega))
             have hw_w6 : wq.heap.size ≤ w6.heap.size := Nat.le_trans hw_w5 bb.size
             clear bb)
          | (refine wpList_load_rng (N := w3.heap.size) (off := 0) (vs := [.int .i64 h'.kind, .int .i64 h'.op, .int .i64 h'.num, .string ⟨h'.text.toArray⟩, .int .i64 h'.ref.row, .int .i64 h'.ref.col, .bool h'.ref.pr, .bool h'.ref.pc, .int .i64 h'.to.row, .int .i64 h'.to.col, .bool h'.to.pr, .bool h'.to.pc, .int .i64 h'.fn, .slice ta tl tc]) rfl rfl rfl (box_rng B11.out) rfl ?_))
          have cc := copy_any h' k' w6 w6.heap.size ta tl tc (Nat.le_refl _) (OT.out.tv (h := h') (fun q hq => by have := HT.out q hq; omega) LT.out.hok)
          refine cc.mono ?_
          clear cc
          rintro e w7 ⟨b5, cp⟩
          rcases cp with ⟨-, ya, yl, yc, Fy, rfl, fx⟩ | ⟨nf, -⟩
          rotate_left
          · exact absurd FN.out nf
          have OY := Lib.hid fx.own
          have HOY := Lib.hid (show ∀ q ∈ Fy, w6.heap.size ≤ q ∧ q < w7.heap.size from fun q hq => ⟨fx.new q hq, fx.lt q hq⟩)
          have NOY := Lib.hid fx.once
          clear fx
          have hs_w7 : w6.heap.size ≤ w7.heap.size := b5.size
          have bs_ : Below wq.heap.size w6 w7 := b5.mono hw_w6
          have BW := Lib.hid (BW.out.trans bs_)
          have TO := Lib.hid (TO.out.kept (bs_.mono hbw) (Nat.le_refl _))
          have ROW := Lib.hid (ROW.out.kept (bs_.mono hbw) (Nat.le_refl _))
          have FS := Lib.hid (FS.out.kept (bs_.mono hNw))
          have RG := Lib.hid (show w7.rangeAt b1 (off + j * 14) [.int .i64 h'.kind, .int .i64 h'.op, .int .i64 h'.num, .string ⟨h'.text.toArray⟩, .int .i64 h'.ref.row, .int .i64 h'.ref.col, .bool h'.ref.pr, .bool h'.ref.pc, .int .i64 h'.to.row, .int .i64 h'.to.col, .bool h'.to.pr, .bool h'.to.pc, .int .i64 h'.fn, .slice ka' kl' kc'] from fun q x hx => (World.cell?_of_block (a := ⟨b1, off + j * 14 + q, none⟩) (bs_.block b1 (by omega))).trans (RG.out q x hx))
          clear bs_
          have LT := Lib.hid (LT.out.kept (ok' := fun q => w2.heap.size ≤ q ∧ q < w3.heap.size) fun q hq => ⟨hq, b5.block q (by omega)⟩)
          have OT := Lib.hid (OT.out.kept fun q hq => b5.block q (by have := HT.out q hq; omega))
          have B11 := Lib.hid ((b5.block w3.heap.size (lt_of_block B11.out)).trans B11.out)
          have OX := Lib.hid (OX.out.kept fun q hq => b5.block q (by have := HOX.out q hq; omega))
          have B12 := Lib.hid ((b5.block w5.heap.size (lt_of_block B12.out)).trans B12.out)
          have hw_w7 : wq.heap.size ≤ w7.heap.size := Nat.le_trans hw_w6 b5.size
          clear b5
          go_wp2_with (first
          | (refine wpList_store_mem (N := w7.heap.size) (off := 0) (vs := [.int .i64 h'.kind, .int .i64 h'.op, .int .i64 h'.num, .string ⟨h'.text.toArray⟩, .int .i64 h'.ref.row, .int .i64 h'.ref.col, .bool h'.ref.pr, .bool h'.ref.pc, .int .i64 h'.to.row, .int .i64 h'.to.col, .bool h'.to.pr, .bool h'.to.pc, .int .i64 h'.fn, .slice ya yl yc]) infoExprS rfl rfl rfl rfl (heap_alloc_new w7 (.cells #[.int .i64 0, .int .i64 0, .int .i64 0, .string ⟨#[]⟩, .int .i64 0, .int .i64 0, .bool false, .bool false, .int .i64 0, .int .i64 0, .bool false, .bool false, .int .i64 0, .slice none 0 0] 29)) (by simp) rfl (by simp [Value.oneCell']) ?_
             intro w8 hWn
             have bx : w8.heap[w7.heap.size]? = some (.cells #[.int .i64 h'.kind, .int .i64 h'.op, .int .i64 h'.num, .string ⟨h'.text.toArray⟩, .int .i64 h'.ref.row, .int .i64 h'.ref.col, .bool h'.ref.pr, .bool h'.ref.pc, .int .i64 h'.to.row, .int .i64 h'.to.col, .bool h'.to.pr, .bool h'.to.pc, .int .i64 h'.fn, .slice ya yl yc] 29 (0, 0)) := by rw [hWn]; exact setCells_all (vs := [.int .i64 h'.kind, .int .i64 h'.op, .int .i64 h'.num, .string ⟨h'.text.toArray⟩, .int .i64 h'.ref.row, .int .i64 h'.ref.col, .bool h'.ref.pr, .bool h'.ref.pc, .int .i64 h'.to.row, .int .i64 h'.to.col, .bool h'.to.pr, .bool h'.to.pc, .int .i64 h'.fn, .slice ya yl yc]) (heap_alloc_new w7 (.cells #[.int .i64 0, .int .i64 0, .int .i64 0, .string ⟨#[]⟩, .int .i64 0, .int .i64 0, .bool false, .bool false, .int .i64 0, .int .i64 0, .bool false, .bool false, .int .i64 0, .slice none 0 0] 29)) rfl
             have bb : Below w7.heap.size w7 w8 := by rw [hWn]; exact setCells_below (Nat.le_refl _) _ _ (ext_alloc (Below.refl _ w7) _)
             have B14 := Lib.hid bx
             have lB14 := lt_of_block bx
             clear hWn bx
             have hs_w8 : w7.heap.size ≤ w8.heap.size := bb.size
             have bs_ : Below wq.heap.size w7 w8 := bb.mono hw_w7
             have BW := Lib.hid (BW.out.trans bs_)
             have TO := Lib.hid (TO.out.kept (bs_.mono hbw) (Nat.le_refl _))
             have ROW := Lib.hid (ROW.out.kept (bs_.mono hbw) (Nat.le_refl _))
             have FS := Lib.hid (FS.out.kept (bs_.mono hNw))
             have RG := Lib.hid (show w8.rangeAt b1 (off + j * 14) [.int .i64 h'.kind, .int .i64 h'.op, .int .i64 h'.num, .string ⟨h'.text.toArray⟩, .int .i64 h'.ref.row, .int .i64 h'.ref.col, .bool h'.ref.pr, .bool h'.ref.pc, .int .i64 h'.to.row, .int .i64 h'.to.col, .bool h'.to.pr, .bool h'.to.pc, .int .i64 h'.fn, .slice ka' kl' kc'] from fun q x hx => (World.cell?_of_block (a := ⟨b1, off + j * 14 + q, none⟩) (bs_.block b1 (by omega))).trans (RG.out q x hx))
             clear bs_
             have LT := Lib.hid (LT.out.kept (ok' := fun q => w2.heap.size ≤ q ∧ q < w3.heap.size) fun q hq => ⟨hq, bb.block q (by omega)⟩)
             have OT := Lib.hid (OT.out.kept fun q hq => bb.block q (by have := HT.out q hq; omega))
             have B11 := Lib.hid ((bb.block w3.heap.size (lt_of_block B11.out)).trans B11.out)
             have OX := Lib.hid (OX.out.kept fun q hq => bb.block q (by have := HOX.out q hq; omega))
             have B12 := Lib.hid ((bb.block w5.heap.size (lt_of_block B12.out)).trans B12.out)
             have OY := Lib.hid (OY.out.kept fun q hq => bb.block q (by have := HOY.out q hq; omega))
             have hw_w8 : wq.heap.size ≤ w8.heap.size := Nat.le_trans hw_w7 bb.size
             clear bb)
          | (refine wpList_load_rng (N := w3.heap.size) (off := 0) (vs := [.int .i64 h'.kind, .int .i64 h'.op, .int .i64 h'.num, .string ⟨h'.text.toArray⟩, .int .i64 h'.ref.row, .int .i64 h'.ref.col, .bool h'.ref.pr, .bool h'.ref.pc, .int .i64 h'.to.row, .int .i64 h'.to.col, .bool h'.to.pr, .bool h'.to.pc, .int .i64 h'.fn, .slice ta tl tc]) rfl rfl rfl (box_rng B11.out) rfl ?_))
          have cc := reads_any h' k' w8 w8.heap.size ta tl tc (Nat.le_refl _) (OT.out.tv (h := h') (fun q hq => by have := HT.out q hq; omega) LT.out.hok)
          refine cc.mono ?_
          clear cc
          rintro e w9 ⟨v_, rfl, b9, ar⟩
          rw [ERL.out] at ar
          obtain ⟨vla, vlc, rfl, -, GAL_⟩ := ar.at_
          have GAL := Lib.hid GAL_
          clear GAL_
          have AL := Lib.hid ar
          have HAL := Lib.hid (show ∀ q, (Value.slice vla RL.length vlc).ownBlock = some q → w8.heap.size ≤ q ∧ q < w9.heap.size from fun q hq => ar.lt q hq)
          clear ar
          have hs_w9 : w8.heap.size ≤ w9.heap.size := b9.size
          have bs_ : Below wq.heap.size w8 w9 := b9.mono hw_w8
          have BW := Lib.hid (BW.out.trans bs_)
          have TO := Lib.hid (TO.out.kept (bs_.mono hbw) (Nat.le_refl _))
          have ROW := Lib.hid (ROW.out.kept (bs_.mono hbw) (Nat.le_refl _))
          have FS := Lib.hid (FS.out.kept (bs_.mono hNw))
          have RG := Lib.hid (show w9.rangeAt b1 (off + j * 14) [.int .i64 h'.kind, .int .i64 h'.op, .int .i64 h'.num, .string ⟨h'.text.toArray⟩, .int .i64 h'.ref.row, .int .i64 h'.ref.col, .bool h'.ref.pr, .bool h'.ref.pc, .int .i64 h'.to.row, .int .i64 h'.to.col, .bool h'.to.pr, .bool h'.to.pc, .int .i64 h'.fn, .slice ka' kl' kc'] from fun q x hx => (World.cell?_of_block (a := ⟨b1, off + j * 14 + q, none⟩) (bs_.block b1 (by omega))).trans (RG.out q x hx))
          clear bs_
          have LT := Lib.hid (LT.out.kept (ok' := fun q => w2.heap.size ≤ q ∧ q < w3.heap.size) fun q hq => ⟨hq, b9.block q (by omega)⟩)
          have OT := Lib.hid (OT.out.kept fun q hq => b9.block q (by have := HT.out q hq; omega))
          have B11 := Lib.hid ((b9.block w3.heap.size (lt_of_block B11.out)).trans B11.out)
          have OX := Lib.hid (OX.out.kept fun q hq => b9.block q (by have := HOX.out q hq; omega))
          have B12 := Lib.hid ((b9.block w5.heap.size (lt_of_block B12.out)).trans B12.out)
          have OY := Lib.hid (OY.out.kept fun q hq => b9.block q (by have := HOY.out q hq; omega))
          have B14 := Lib.hid ((b9.block w7.heap.size (lt_of_block B14.out)).trans B14.out)
          have hw_w9 : wq.heap.size ≤ w9.heap.size := Nat.le_trans hw_w8 b9.size
          clear b9
          go_wp2_with (first
          | (refine wpList_load_rng (N := w3.heap.size) (off := 0) (vs := [.int .i64 h'.kind, .int .i64 h'.op, .int .i64 h'.num, .string ⟨h'.text.toArray⟩, .int .i64 h'.ref.row, .int .i64 h'.ref.col, .bool h'.ref.pr, .bool h'.ref.pc, .int .i64 h'.to.row, .int .i64 h'.to.col, .bool h'.to.pr, .bool h'.to.pc, .int .i64 h'.fn, .slice ta tl tc]) rfl rfl rfl (box_rng B11.out) rfl ?_))
          have cc := reads_any h' k' w9 w9.heap.size ta tl tc (Nat.le_refl _) (OT.out.tv (h := h') (fun q hq => by have := HT.out q hq; omega) LT.out.hok)
          refine cc.mono ?_
          clear cc
          rintro e w10 ⟨v_, rfl, b9, ar⟩
          rw [ERL.out] at ar
          obtain ⟨vma, vmc, rfl, -, GAM_⟩ := ar.at_
          have GAM := Lib.hid GAM_
          clear GAM_
          have AM := Lib.hid ar
          have HAM := Lib.hid (show ∀ q, (Value.slice vma RL.length vmc).ownBlock = some q → w9.heap.size ≤ q ∧ q < w10.heap.size from fun q hq => ar.lt q hq)
          clear ar
          have hs_w10 : w9.heap.size ≤ w10.heap.size := b9.size
          have bs_ : Below wq.heap.size w9 w10 := b9.mono hw_w9
          have BW := Lib.hid (BW.out.trans bs_)
          have TO := Lib.hid (TO.out.kept (bs_.mono hbw) (Nat.le_refl _))
          have ROW := Lib.hid (ROW.out.kept (bs_.mono hbw) (Nat.le_refl _))
          have FS := Lib.hid (FS.out.kept (bs_.mono hNw))
          have RG := Lib.hid (show w10.rangeAt b1 (off + j * 14) [.int .i64 h'.kind, .int .i64 h'.op, .int .i64 h'.num, .string ⟨h'.text.toArray⟩, .int .i64 h'.ref.row, .int .i64 h'.ref.col, .bool h'.ref.pr, .bool h'.ref.pc, .int .i64 h'.to.row, .int .i64 h'.to.col, .bool h'.to.pr, .bool h'.to.pc, .int .i64 h'.fn, .slice ka' kl' kc'] from fun q x hx => (World.cell?_of_block (a := ⟨b1, off + j * 14 + q, none⟩) (bs_.block b1 (by omega))).trans (RG.out q x hx))
          clear bs_
          have LT := Lib.hid (LT.out.kept (ok' := fun q => w2.heap.size ≤ q ∧ q < w3.heap.size) fun q hq => ⟨hq, b9.block q (by omega)⟩)
          have OT := Lib.hid (OT.out.kept fun q hq => b9.block q (by have := HT.out q hq; omega))
          have B11 := Lib.hid ((b9.block w3.heap.size (lt_of_block B11.out)).trans B11.out)
          have OX := Lib.hid (OX.out.kept fun q hq => b9.block q (by have := HOX.out q hq; omega))
          have B12 := Lib.hid ((b9.block w5.heap.size (lt_of_block B12.out)).trans B12.out)
          have OY := Lib.hid (OY.out.kept fun q hq => b9.block q (by have := HOY.out q hq; omega))
          have B14 := Lib.hid ((b9.block w7.heap.size (lt_of_block B14.out)).trans B14.out)
          have AL := Lib.hid (AL.out.kept fun q hq => b9.block q (by have := HAL.out q hq; omega))
          have hw_w10 : wq.heap.size ≤ w10.heap.size := Nat.le_trans hw_w9 b9.size
          clear b9
          go_wp2_with fail
          have TVX := Lib.hid (OX.out.tv (h := h') (fun q hq => by have := HOX.out q hq; omega) LT.out.hok)
          refine wp_region_noPanic ?_
          refine wp_region_held_drew (S := fun W => Below w10.heap.size w10 W) (by kernel_rfl) (Below.refl _ _).drew (fun hS1 => ?_)
          refine wpAnyH_take (i := 0) (oi := { dst := some 78, op := Go.Op.move (Go.Operand.tmp 13), type := 38, pos := "memory.go:78", after := #[], guard := none }) (v := (.int .i64 0)) rfl (by kernel_rfl) (by kernel_rfl) (by kernel_rfl) (fun _ _ _ h => h) (Or.inl ⟨by rfl, fun W hW => by first | (go_simp; done) | (go_simp; with_reducible rfl)⟩) hS1 ?_
          try simp only [Act.put, List.setIfInBounds_toArray, List.set_cons_zero, List.set_cons_succ]
          refine wpAnyH_take (i := 1) (oi := { dst := some 79, op := Go.Op.binOp Go.BinOp.neq 38 (Go.Operand.tmp 78) (Go.Operand.const (Go.Value.int Go.IntKind.i64 0)) 38, type := 4, pos := "memory.go:78", after := #[{ on := 0, ground := Go.Ground.data }], guard := none }) (v := (.bool false)) rfl (by kernel_rfl) (by kernel_rfl) (by kernel_rfl) (fun _ _ _ h => h) (Or.inl ⟨by rfl, fun W hW => by first | (go_simp; done) | (go_simp; with_reducible rfl)⟩) hS1 ?_
          try simp only [Act.put, List.setIfInBounds_toArray, List.set_cons_zero, List.set_cons_succ]
          refine wpAnyH_take (i := 2) (oi := { dst := some 80, op := Go.Op.move (Go.Operand.tmp 79), type := 4, pos := "memory.go:78", after := #[{ on := 1, ground := Go.Ground.data }], guard := none }) (v := (.bool false)) rfl (by kernel_rfl) (by kernel_rfl) (by kernel_rfl) (fun _ _ _ h => h) (Or.inl ⟨by rfl, fun W hW => by first | (go_simp; done) | (go_simp; with_reducible rfl)⟩) hS1 ?_
          try simp only [Act.put, List.setIfInBounds_toArray, List.set_cons_zero, List.set_cons_succ]
          refine wpAnyH_take (i := 3) (oi := { dst := some 81, op := Go.Op.move (Go.Operand.tmp 15), type := 38, pos := "memory.go:78", after := #[{ on := 2, ground := Go.Ground.guard }], guard := some (2, false) }) (v := (.int .i64 0)) rfl (by kernel_rfl) (by kernel_rfl) (by kernel_rfl) (fun _ _ _ h => h) (Or.inl ⟨by rfl, fun W hW => by first | (go_simp; done) | (go_simp; with_reducible rfl)⟩) hS1 ?_
          try simp only [Act.put, List.setIfInBounds_toArray, List.set_cons_zero, List.set_cons_succ]
          refine wpAnyH_take (i := 4) (oi := { dst := some 82, op := Go.Op.binOp Go.BinOp.neq 38 (Go.Operand.tmp 81) (Go.Operand.const (Go.Value.int Go.IntKind.i64 0)) 38, type := 4, pos := "memory.go:78", after := #[{ on := 3, ground := Go.Ground.data }, { on := 2, ground := Go.Ground.guard }], guard := some (2, false) }) (v := (.bool false)) rfl (by kernel_rfl) (by kernel_rfl) (by kernel_rfl) (fun _ _ _ h => h) (Or.inl ⟨by rfl, fun W hW => by first | (go_simp; done) | (go_simp; with_reducible rfl)⟩) hS1 ?_
          try simp only [Act.put, List.setIfInBounds_toArray, List.set_cons_zero, List.set_cons_succ]
          refine wpAnyH_take (i := 5) (oi := { dst := some 83, op := Go.Op.pick (Go.Operand.tmp 80) (Go.Operand.const (Go.Value.bool true)) (Go.Operand.tmp 82), type := 4, pos := "memory.go:78", after := #[{ on := 2, ground := Go.Ground.data }, { on := 4, ground := Go.Ground.data }], guard := none }) (v := (.bool false)) rfl (by kernel_rfl) (by kernel_rfl) (by kernel_rfl) (fun _ _ _ h => h) (Or.inl ⟨by rfl, fun W hW => by first | (go_simp; done) | (go_simp; with_reducible rfl)⟩) hS1 ?_
          try simp only [Act.put, List.setIfInBounds_toArray, List.set_cons_zero, List.set_cons_succ]
          refine wpAnyH_take (i := 6) (oi := { dst := some 84, op := Go.Op.move (Go.Operand.tmp 83), type := 4, pos := "memory.go:78", after := #[{ on := 5, ground := Go.Ground.data }, { on := 2, ground := Go.Ground.chain }], guard := none }) (v := (.bool false)) rfl (by kernel_rfl) (by kernel_rfl) (by kernel_rfl) (fun _ _ _ h => h) (Or.inl ⟨by rfl, fun W hW => by first | (go_simp; done) | (go_simp; with_reducible rfl)⟩) hS1 ?_
          try simp only [Act.put, List.setIfInBounds_toArray, List.set_cons_zero, List.set_cons_succ]
          refine wpAnyH_take (i := 7) (oi := { dst := some 85, op := Go.Op.move (Go.Operand.tmp 17), type := 38, pos := "memory.go:78", after := #[{ on := 6, ground := Go.Ground.guard }], guard := some (6, false) }) (v := (.int .i64 (mayE h' k'))) rfl (by kernel_rfl) (by kernel_rfl) (by kernel_rfl) (fun _ _ _ h => h) (Or.inl ⟨by rfl, fun W hW => by first | (go_simp; done) | (go_simp; with_reducible rfl)⟩) hS1 ?_
          try simp only [Act.put, List.setIfInBounds_toArray, List.set_cons_zero, List.set_cons_succ]
          refine wpAnyH_take (i := 8) (oi := { dst := some 86, op := Go.Op.move (Go.Operand.tmp 19), type := 38, pos := "memory.go:78", after := #[{ on := 6, ground := Go.Ground.guard }], guard := some (6, false) }) (v := (.int .i64 (mayE h' k'))) rfl (by kernel_rfl) (by kernel_rfl) (by kernel_rfl) (fun _ _ _ h => h) (Or.inl ⟨by rfl, fun W hW => by first | (go_simp; done) | (go_simp; with_reducible rfl)⟩) hS1 ?_
          try simp only [Act.put, List.setIfInBounds_toArray, List.set_cons_zero, List.set_cons_succ]
          refine wpAnyH_take (i := 9) (oi := { dst := some 87, op := Go.Op.binOp Go.BinOp.neq 38 (Go.Operand.tmp 85) (Go.Operand.tmp 86) 38, type := 4, pos := "memory.go:78", after := #[{ on := 7, ground := Go.Ground.data }, { on := 8, ground := Go.Ground.data }, { on := 6, ground := Go.Ground.guard }], guard := some (6, false) }) (v := (.bool false)) rfl (by kernel_rfl) (by kernel_rfl) (by kernel_rfl) (fun _ _ _ h => h) (Or.inl ⟨by rfl, fun W hW => by first | (go_simp; done) | (go_simp; with_reducible rfl)⟩) hS1 ?_
          try simp only [Act.put, List.setIfInBounds_toArray, List.set_cons_zero, List.set_cons_succ]
          refine wpAnyH_take (i := 10) (oi := { dst := some 88, op := Go.Op.pick (Go.Operand.tmp 84) (Go.Operand.const (Go.Value.bool true)) (Go.Operand.tmp 87), type := 4, pos := "memory.go:78", after := #[{ on := 6, ground := Go.Ground.data }, { on := 9, ground := Go.Ground.data }], guard := none }) (v := (.bool false)) rfl (by kernel_rfl) (by kernel_rfl) (by kernel_rfl) (fun _ _ _ h => h) (Or.inl ⟨by rfl, fun W hW => by first | (go_simp; done) | (go_simp; with_reducible rfl)⟩) hS1 ?_
          try simp only [Act.put, List.setIfInBounds_toArray, List.set_cons_zero, List.set_cons_succ]
          refine wpAnyH_take (i := 11) (oi := { dst := some 89, op := Go.Op.move (Go.Operand.tmp 88), type := 4, pos := "memory.go:78", after := #[{ on := 10, ground := Go.Ground.data }, { on := 6, ground := Go.Ground.chain }], guard := none }) (v := (.bool false)) rfl (by kernel_rfl) (by kernel_rfl) (by kernel_rfl) (fun _ _ _ h => h) (Or.inl ⟨by rfl, fun W hW => by first | (go_simp; done) | (go_simp; with_reducible rfl)⟩) hS1 ?_
          try simp only [Act.put, List.setIfInBounds_toArray, List.set_cons_zero, List.set_cons_succ]
          refine wpAnyH_take (i := 12) (oi := { dst := some 90, op := Go.Op.load 29 (Go.Operand.tmp 12), type := 29, pos := "memory.go:78", after := #[{ on := 11, ground := Go.Ground.guard }], guard := some (11, false) }) (v := (.agg #[.int .i64 h'.kind, .int .i64 h'.op, .int .i64 h'.num, .string ⟨h'.text.toArray⟩, .int .i64 h'.ref.row, .int .i64 h'.ref.col, .bool h'.ref.pr, .bool h'.ref.pc, .int .i64 h'.to.row, .int .i64 h'.to.col, .bool h'.to.pr, .bool h'.to.pc, .int .i64 h'.fn, .slice xa xl xc])) rfl (by kernel_rfl) (by kernel_rfl) (by kernel_rfl) (fun _ _ _ h => h) (yieldsIf_load_mid (by rfl) 29 _ rfl w5.heap.size 0 rfl [.int .i64 h'.kind, .int .i64 h'.op, .int .i64 h'.num, .string ⟨h'.text.toArray⟩, .int .i64 h'.ref.row, .int .i64 h'.ref.col, .bool h'.ref.pr, .bool h'.ref.pc, .int .i64 h'.to.row, .int .i64 h'.to.col, .bool h'.to.pr, .bool h'.to.pc, .int .i64 h'.fn, .slice xa xl xc] _ (fun W hW => box_rng ((hW.block _ (lt_of_block B12.out)).trans B12.out)) Try.underlying29 rfl infoExprS) hS1 ?_
          try simp only [Act.put, List.setIfInBounds_toArray, List.set_cons_zero, List.set_cons_succ]
          refine wpAnyH_take (i := 13) (oi := { dst := some 91, op := Go.Op.move (Go.Operand.tmp 0), type := 27, pos := "memory.go:78", after := #[{ on := 11, ground := Go.Ground.guard }], guard := some (11, false) }) (v := (.slice (some ⟨b1, off, none⟩) len cap)) rfl (by kernel_rfl) (by kernel_rfl) (by kernel_rfl) (fun _ _ _ h => h) (Or.inl ⟨by rfl, fun W hW => by first | (go_simp; done) | (go_simp; with_reducible rfl)⟩) hS1 ?_
          try simp only [Act.put, List.setIfInBounds_toArray, List.set_cons_zero, List.set_cons_succ]
          refine wpAnyH_take (i := 14) (oi := { dst := some 92, op := Go.Op.move (Go.Operand.tmp 7), type := 3, pos := "memory.go:78", after := #[{ on := 11, ground := Go.Ground.guard }], guard := some (11, false) }) (v := (.int .i64 j)) rfl (by kernel_rfl) (by kernel_rfl) (by kernel_rfl) (fun _ _ _ h => h) (Or.inl ⟨by rfl, fun W hW => by first | (go_simp; done) | (go_simp; with_reducible rfl)⟩) hS1 ?_
          try simp only [Act.put, List.setIfInBounds_toArray, List.set_cons_zero, List.set_cons_succ]
          refine wpAnyH_take (i := 15) (oi := { dst := some 93, op := Go.Op.indexAddr 27 (Go.Operand.tmp 91) (Go.Operand.tmp 92), type := 0, pos := "memory.go:78", after := #[{ on := 13, ground := Go.Ground.data }, { on := 14, ground := Go.Ground.data }, { on := 11, ground := Go.Ground.guard }], guard := some (11, false) }) (v := (.pointer (some ⟨b1, off + j * 14, none⟩))) rfl (by kernel_rfl) (by kernel_rfl) (by kernel_rfl) (fun _ _ _ h => h) (Or.inl ⟨by rfl, fun W hW => by first | (go_simp; done) | (go_simp; with_reducible rfl)⟩) hS1 ?_
          try simp only [Act.put, List.setIfInBounds_toArray, List.set_cons_zero, List.set_cons_succ]
          refine wpAnyH_take (i := 16) (oi := { dst := some 94, op := Go.Op.load 29 (Go.Operand.tmp 93), type := 29, pos := "memory.go:78", after := #[{ on := 15, ground := Go.Ground.data }, { on := 11, ground := Go.Ground.guard }], guard := some (11, false) }) (v := (.agg #[.int .i64 h'.kind, .int .i64 h'.op, .int .i64 h'.num, .string ⟨h'.text.toArray⟩, .int .i64 h'.ref.row, .int .i64 h'.ref.col, .bool h'.ref.pr, .bool h'.ref.pc, .int .i64 h'.to.row, .int .i64 h'.to.col, .bool h'.to.pr, .bool h'.to.pc, .int .i64 h'.fn, .slice ka' kl' kc'])) rfl (by kernel_rfl) (by kernel_rfl) (by kernel_rfl) (fun _ _ _ h => h) (yieldsIf_load_mid (by rfl) 29 _ rfl b1 (off + j * 14) rfl [.int .i64 h'.kind, .int .i64 h'.op, .int .i64 h'.num, .string ⟨h'.text.toArray⟩, .int .i64 h'.ref.row, .int .i64 h'.ref.col, .bool h'.ref.pr, .bool h'.ref.pc, .int .i64 h'.to.row, .int .i64 h'.to.col, .bool h'.to.pr, .bool h'.to.pc, .int .i64 h'.fn, .slice ka' kl' kc'] _ (fun W hW => fun q x hx => (World.cell?_of_block (a := ⟨b1, off + j * 14 + q, none⟩) (hW.block b1 (by omega))).trans (RG.out q x hx)) Try.underlying29 rfl infoExprS) hS1 ?_
          try simp only [Act.put, List.setIfInBounds_toArray, List.set_cons_zero, List.set_cons_succ]
          refine wpAnyH_ready (rs := [17]) (by kernel_rfl) (by simp) ?_
          refine AllReadyH.cons (o := { dst := some 95, op := Go.Op.call { callee := Go.Callee.value (Go.Operand.func 21), args := #[Go.Operand.tmp 90, Go.Operand.tmp 94], argTypes := #[29, 29] }, type := 4, pos := "memory.go:78", after := #[{ on := 12, ground := Go.Ground.data }, { on := 16, ground := Go.Ground.data }, { on := 11, ground := Go.Ground.chain }, { on := 11, ground := Go.Ground.guard }], guard := some (11, false) }) rfl (fun K hK => ?_) AllReadyH.nil
          refine wanted_wp (by rfl) ?_
          go_simp
          go_at_call 21
          have cc := refEq_any h' k' h' k' _ w10.heap.size w1.heap.size xa ka' xl xc kl' kc' hS1.size (by have := hS1.size; omega) (TVX.out.kept hS1 (Nat.le_refl _)) (TO.out.kept (hS1.mono (by omega)) (Nat.le_refl _))
          with_reducible refine cc.mono ?_
          clear cc
          rintro e w' ⟨he, bq⟩
          obtain rfl := he.trans (show _ = Ending.returned (.bool true) by simp [sameB])
          refine hK.out _ _ (hS1.trans (bq.mono hS1.size)) (fun hS1 => ?_)
          clear hK K bq
          try simp only [Act.put, List.setIfInBounds_toArray, List.set_cons_zero, List.set_cons_succ]
          refine wpAnyH_take (i := 18) (oi := { dst := some 96, op := Go.Op.unOp Go.UnOp.not 4 (Go.Operand.tmp 95), type := 4, pos := "memory.go:78", after := #[{ on := 17, ground := Go.Ground.data }, { on := 11, ground := Go.Ground.guard }], guard := some (11, false) }) (v := (.bool false)) rfl (by kernel_rfl) (by kernel_rfl) (by kernel_rfl) (fun _ _ _ h => h) (Or.inl ⟨by rfl, fun W hW => by first | (go_simp; done) | (go_simp; with_reducible rfl)⟩) hS1 ?_
          try simp only [Act.put, List.setIfInBounds_toArray, List.set_cons_zero, List.set_cons_succ]
          refine wpAnyH_take (i := 19) (oi := { dst := some 97, op := Go.Op.pick (Go.Operand.tmp 89) (Go.Operand.const (Go.Value.bool true)) (Go.Operand.tmp 96), type := 4, pos := "memory.go:78", after := #[{ on := 11, ground := Go.Ground.data }, { on := 18, ground := Go.Ground.data }], guard := none }) (v := (.bool false)) rfl (by kernel_rfl) (by kernel_rfl) (by kernel_rfl) (fun _ _ _ h => h) (Or.inl ⟨by rfl, fun W hW => by first | (go_simp; done) | (go_simp; with_reducible rfl)⟩) hS1 ?_
          try simp only [Act.put, List.setIfInBounds_toArray, List.set_cons_zero, List.set_cons_succ]
          refine wpAnyH_done (by kernel_rfl) ?_ _
          refine NoPanic.normal ?_
          have b11 := hS1
          clear hS1 TVX
          have hs_w' : w10.heap.size ≤ w'.heap.size := b11.size
          have bs_ : Below wq.heap.size w10 w' := b11.mono hw_w10
          have BW := Lib.hid (BW.out.trans bs_)
          have TO := Lib.hid (TO.out.kept (bs_.mono hbw) (Nat.le_refl _))
          have ROW := Lib.hid (ROW.out.kept (bs_.mono hbw) (Nat.le_refl _))
          have FS := Lib.hid (FS.out.kept (bs_.mono hNw))
          have RG := Lib.hid (show w'.rangeAt b1 (off + j * 14) [.int .i64 h'.kind, .int .i64 h'.op, .int .i64 h'.num, .string ⟨h'.text.toArray⟩, .int .i64 h'.ref.row, .int .i64 h'.ref.col, .bool h'.ref.pr, .bool h'.ref.pc, .int .i64 h'.to.row, .int .i64 h'.to.col, .bool h'.to.pr, .bool h'.to.pc, .int .i64 h'.fn, .slice ka' kl' kc'] from fun q x hx => (World.cell?_of_block (a := ⟨b1, off + j * 14 + q, none⟩) (bs_.block b1 (by omega))).trans (RG.out q x hx))
          clear bs_
          have LT := Lib.hid (LT.out.kept (ok' := fun q => w2.heap.size ≤ q ∧ q < w3.heap.size) fun q hq => ⟨hq, b11.block q (by omega)⟩)
          have OT := Lib.hid (OT.out.kept fun q hq => b11.block q (by have := HT.out q hq; omega))
          have B11 := Lib.hid ((b11.block w3.heap.size (lt_of_block B11.out)).trans B11.out)
          have OX := Lib.hid (OX.out.kept fun q hq => b11.block q (by have := HOX.out q hq; omega))
          have B12 := Lib.hid ((b11.block w5.heap.size (lt_of_block B12.out)).trans B12.out)
          have OY := Lib.hid (OY.out.kept fun q hq => b11.block q (by have := HOY.out q hq; omega))
          have B14 := Lib.hid ((b11.block w7.heap.size (lt_of_block B14.out)).trans B14.out)
          have AL := Lib.hid (AL.out.kept fun q hq => b11.block q (by have := HAL.out q hq; omega))
          have AM := Lib.hid (AM.out.kept fun q hq => b11.block q (by have := HAM.out q hq; omega))
          have hw_w' : wq.heap.size ≤ w'.heap.size := Nat.le_trans hw_w10 b11.size
          clear b11
          go_wp2_with (first
          | (refine wpList_load_rng (N := w5.heap.size) (off := 0) (vs := [.int .i64 h'.kind, .int .i64 h'.op, .int .i64 h'.num, .string ⟨h'.text.toArray⟩, .int .i64 h'.ref.row, .int .i64 h'.ref.col, .bool h'.ref.pr, .bool h'.ref.pc, .int .i64 h'.to.row, .int .i64 h'.to.col, .bool h'.to.pr, .bool h'.to.pc, .int .i64 h'.fn, .slice xa xl xc]) rfl rfl rfl (box_rng B12.out) rfl ?_))
          have cc := spoil_any h' k' w' Fx xa xl xc OX.out NOX.out (fun q hq => by have := HOX.out q hq; omega) hno
          refine cc.mono ?_
          clear cc
          rintro e w12 ⟨rfl, sp⟩
          clear OX B12 lB12
          have hs_w12 : w'.heap.size ≤ w12.heap.size := sp.size
          have bs_ : Below wq.heap.size w' w12 := sp.below hw_w' (fun q hq => by have := HOX.out q hq; omega)
          have BW := Lib.hid (BW.out.trans bs_)
          have TO := Lib.hid (TO.out.kept (bs_.mono hbw) (Nat.le_refl _))
          have ROW := Lib.hid (ROW.out.kept (bs_.mono hbw) (Nat.le_refl _))
          have FS := Lib.hid (FS.out.kept (bs_.mono hNw))
          have RG := Lib.hid (show w12.rangeAt b1 (off + j * 14) [.int .i64 h'.kind, .int .i64 h'.op, .int .i64 h'.num, .string ⟨h'.text.toArray⟩, .int .i64 h'.ref.row, .int .i64 h'.ref.col, .bool h'.ref.pr, .bool h'.ref.pc, .int .i64 h'.to.row, .int .i64 h'.to.col, .bool h'.to.pr, .bool h'.to.pc, .int .i64 h'.fn, .slice ka' kl' kc'] from fun q x hx => (World.cell?_of_block (a := ⟨b1, off + j * 14 + q, none⟩) (bs_.block b1 (by omega))).trans (RG.out q x hx))
          clear bs_
          have LT := Lib.hid (LT.out.kept (ok' := fun q => w2.heap.size ≤ q ∧ q < w3.heap.size) fun q hq => ⟨hq, sp.same q (by omega) (fun hm => by have := HOX.out _ hm; omega)⟩)
          have OT := Lib.hid (OT.out.kept fun q hq => sp.same q (by have := HT.out q hq; omega) (fun hm => by have := HOX.out _ hm; have := HT.out q hq; omega))
          have B11 := Lib.hid ((sp.same w3.heap.size (lt_of_block B11.out) (fun hm => by have := HOX.out _ hm; omega)).trans B11.out)
          have OY := Lib.hid (OY.out.kept fun q hq => sp.same q (by have := HOY.out q hq; omega) (fun hm => by have := HOX.out _ hm; have := HOY.out q hq; omega))
          have B14 := Lib.hid ((sp.same w7.heap.size (lt_of_block B14.out) (fun hm => by have := HOX.out _ hm; omega)).trans B14.out)
          have AL := Lib.hid (AL.out.kept fun q hq => sp.same q (by have := HAL.out q hq; omega) (fun hm => by have := HOX.out _ hm; have := HAL.out q hq; omega))
          have AM := Lib.hid (AM.out.kept fun q hq => sp.same q (by have := HAM.out q hq; omega) (fun hm => by have := HOX.out _ hm; have := HAM.out q hq; omega))
          have hw_w12 : wq.heap.size ≤ w12.heap.size := Nat.le_trans hw_w' sp.size
          clear sp HOX NOX
          go_wp2_with fail
          go_loopw [20] (fun i wr => Tw2 w8.heap.size RL.length (Value.slice vla RL.length vlc) w12 wr i) (fun i _ => RL.length - (intOf i).toNat)
          case atStart => exact ⟨0, _, rfl, Nat.zero_le _, AL, Lib.hid (Spd.refl _ _)⟩
          case round =>
            obtain ⟨q, cs, rfl, hq, HOW, HSP⟩ := hrel
            by_cases hlq : q < RL.length
            · obtain ⟨g, cp, cur, hva, hg0, hcur, h1, h2_, h3⟩ : ∃ g cp cur, vla = some ⟨g, 0, none⟩ ∧ w8.heap.size ≤ g ∧ wr.heap[g]? = some (.cells cur 47 (0, 0)) ∧ RL.length ≤ vlc ∧ vlc ≤ maxLen ∧ cur.size = vlc * 4 ∧ cp = vlc := by
                rcases HOW.out.2 with ⟨-, e⟩ | ⟨g, cp, cur, e, hb, hc, h1, h2, h3, -⟩
                · omega
                · simp only [Value.slice.injEq] at e
                  obtain ⟨rfl, -, rfl⟩ := e
                  exact ⟨g, _, cur, rfl, hb, hc, h1, h2, h3, rfl⟩
              obtain rfl := hva
              have HG := Lib.hid hcur
              have hroom : q * 4 + 4 ≤ cur.size := by rw [h3.1]; omega
              have H3 := Lib.hid (And.intro h1 (And.intro h2_ h3.1))
              have hqi : (q : Int) < (RL.length : Int) := by omega
              have hq0 : (0 : Int) ≤ (q : Int) := by omega
              clear hcur h1 h2_ h3
              go_wp2_with (refine wpList_store_mem (N := g) (off := q * 4) (vs := [.int .i64 (-1), .int .i64 0, .int .i64 0, .int .i64 0]) infoArS rfl rfl rfl rfl HG.out hroom rfl (by simp [Value.oneCell']) ?_; intro wn hwn; have EW := Lib.hid hwn; clear hwn)
              obtain ⟨cur2, c1, c2⟩ := setCells_sized (vs := [.int .i64 (-1), .int .i64 0, .int .i64 0, .int .i64 0]) HG.out hroom
              rw [← EW.out] at c1
              refine ⟨⟨q + 1, _, by go_num, by omega, Lib.hid (own_of_block c1 hg0 H3.out.1 H3.out.2.1 (by rw [c2]; exact H3.out.2.2)), Lib.hid ?_⟩, by simp [intOf]; omega⟩
              rw [EW.out]
              exact HSP.out.cells (.inl (by simp [ownList, Value.ownBlock])) _ _
            · obtain ⟨w13, rfl⟩ : ∃ x, x = wr := ⟨_, rfl⟩
              have sp := HSP.out
              have hs_w13 : w12.heap.size ≤ w13.heap.size := sp.size
              have bs_ : Below wq.heap.size w12 w13 := sp.below hw_w12 (fun q hq => by have := HAL.out q (mem_ownList.1 hq); omega)
              have BW := Lib.hid (BW.out.trans bs_)
              have TO := Lib.hid (TO.out.kept (bs_.mono hbw) (Nat.le_refl _))
              have ROW := Lib.hid (ROW.out.kept (bs_.mono hbw) (Nat.le_refl _))
              have FS := Lib.hid (FS.out.kept (bs_.mono hNw))
              have RG := Lib.hid (show w13.rangeAt b1 (off + j * 14) [.int .i64 h'.kind, .int .i64 h'.op, .int .i64 h'.num, .string ⟨h'.text.toArray⟩, .int .i64 h'.ref.row, .int .i64 h'.ref.col, .bool h'.ref.pr, .bool h'.ref.pc, .int .i64 h'.to.row, .int .i64 h'.to.col, .bool h'.to.pr, .bool h'.to.pc, .int .i64 h'.fn, .slice ka' kl' kc'] from fun q x hx => (World.cell?_of_block (a := ⟨b1, off + j * 14 + q, none⟩) (bs_.block b1 (by omega))).trans (RG.out q x hx))
              clear bs_
              have LT := Lib.hid (LT.out.kept (ok' := fun q => w2.heap.size ≤ q ∧ q < w3.heap.size) fun q hq => ⟨hq, sp.same q (by omega) (fun hm => by have := HAL.out _ (mem_ownList.1 hm); omega)⟩)
              have OT := Lib.hid (OT.out.kept fun q hq => sp.same q (by have := HT.out q hq; omega) (fun hm => by have := HAL.out _ (mem_ownList.1 hm); have := HT.out q hq; omega))
              have B11 := Lib.hid ((sp.same w3.heap.size (lt_of_block B11.out) (fun hm => by have := HAL.out _ (mem_ownList.1 hm); omega)).trans B11.out)
              have OY := Lib.hid (OY.out.kept fun q hq => sp.same q (by have := HOY.out q hq; omega) (fun hm => by have := HAL.out _ (mem_ownList.1 hm); have := HOY.out q hq; omega))
              have B14 := Lib.hid ((sp.same w7.heap.size (lt_of_block B14.out) (fun hm => by have := HAL.out _ (mem_ownList.1 hm); omega)).trans B14.out)
              have AM := Lib.hid (AM.out.kept fun q hq => sp.same q (by have := HAM.out q hq; omega) (fun hm => by have := HAL.out _ (mem_ownList.1 hm); have := HAM.out q hq; omega))
              have hw_w13 : wq.heap.size ≤ w13.heap.size := Nat.le_trans hw_w12 sp.size
              have AL := Lib.hid HOW.out
              clear sp HSP HOW
              go_upto_region 22 with (fail)
              go_cut [21] from 32 to 197 (fun s21 w => ∃ nm : Int, s21 = .int .i64 nm ∧ nm ≤ (RL.length : Int) + 5000 ∧ w = w13)
              case first =>
                rcases Nat.lt_or_ge (RL.length + 5000) vlc with hc | hc
                all_goals
                  have hci : (RL.length : Int) + 5000 < (vlc : Int) ∨ (vlc : Int) ≤ (RL.length : Int) + 5000 := by omega
                  go_wp2
                  go_meet
                  case rel => exact ⟨_, rfl, by omega, rfl⟩
              case rest =>
                obtain ⟨nm, rfl, hnm, hwc⟩ := hcut
                obtain rfl := hwc.symm
                go_wp2_with fail
                go_loopw [16] (fun l wr => Tw3 w8.heap.size RL.length (Value.slice vla RL.length vlc) w13 wr l) (fun l _ => RL.length + 5000 - lenOf l)
                case atStart => exact ⟨vla, RL.length, vlc, _, rfl, Nat.le_refl _, by omega, AL, Lib.hid (fun b hb => .inl (mem_ownList.2 hb)), Lib.hid (Spd.refl _ _)⟩
                case round =>
                  obtain ⟨la, m, lc, cs3, rfl, hm1, hm2, HOW, HOB, HSP3⟩ := hrel
                  by_cases hmc : (m : Int) < nm
                  · obtain ⟨i0, hi, hz0, hz1, hz2⟩ := info_parts infoAr
                    go_wp2_with (at_builtin; refine wpList_append_own_at _ rfl _ _ 41 rfl w8.heap.size 47 i0 _ 4 32 Try.underlying41 hi hz0 hz1 hz2 rfl (by decide) (.slice la m lc) m cs3 rfl (HOW.out.alloc _) ⟨wr.heap.size, 0, none⟩ 1 1 [.int .i64 (-2), .int .i64 0, .int .i64 0, .int .i64 0] rfl rfl (World.news_of_block (heap_alloc_new wr _)) (by simp [Value.oneCell']) (by unfold maxLen; omega) (by omega) (by have := HSP3.out.size; simp; omega) ?_)
                    intro v' w4_ hown4 hgrow _ hloc
                    obtain ⟨la', lc', rfl⟩ := own_slice hown4
                    have h4 : Spd (ownList (Value.slice vla RL.length vlc)) w13 (wr.alloc (.cells #[.int .i64 (-2), .int .i64 0, .int .i64 0, .int .i64 0] 47)) := HSP3.out.ext ((Below.refl _ wr).alloc (Nat.le_refl _) _)
                    have SP4 := Lib.hid (h4.grown hgrow HOB.out)
                    have hob : ∀ b, (Value.slice la' (m + 1) lc').ownBlock = some b → b ∈ ownList (Value.slice vla RL.length vlc) ∨ w13.heap.size ≤ b := fun b hb => by
                      rcases hloc with q | q
                      · exact HOB.out b (q.symm.trans hb)
                      · rw [q] at hb; injection hb with hb; have := HSP3.out.size; exact .inr (by omega)
                    have HOB4 := Lib.hid hob; have HOW4 := Lib.hid hown4
                    clear hown4 hgrow hloc h4 hob
                    go_wp2
                    exact ⟨⟨la', m + 1, lc', _, rfl, by omega, by omega, HOW4, HOB4, SP4⟩, by simp [lenOf]; omega⟩
                  · obtain ⟨w14, rfl⟩ : ∃ x, x = wr := ⟨_, rfl⟩
                    have sp := HSP3.out
                    have hs_w14 : w13.heap.size ≤ w14.heap.size := sp.size
                    have bs_ : Below wq.heap.size w13 w14 := sp.below hw_w13 (fun q hq => by have := HAL.out q (mem_ownList.1 hq); omega)
                    have BW := Lib.hid (BW.out.trans bs_)
                    have TO := Lib.hid (TO.out.kept (bs_.mono hbw) (Nat.le_refl _))
                    have ROW := Lib.hid (ROW.out.kept (bs_.mono hbw) (Nat.le_refl _))
                    have FS := Lib.hid (FS.out.kept (bs_.mono hNw))
                    have RG := Lib.hid (show w14.rangeAt b1 (off + j * 14) [.int .i64 h'.kind, .int .i64 h'.op, .int .i64 h'.num, .string ⟨h'.text.toArray⟩, .int .i64 h'.ref.row, .int .i64 h'.ref.col, .bool h'.ref.pr, .bool h'.ref.pc, .int .i64 h'.to.row, .int .i64 h'.to.col, .bool h'.to.pr, .bool h'.to.pc, .int .i64 h'.fn, .slice ka' kl' kc'] from fun q x hx => (World.cell?_of_block (a := ⟨b1, off + j * 14 + q, none⟩) (bs_.block b1 (by omega))).trans (RG.out q x hx))
                    clear bs_
                    have LT := Lib.hid (LT.out.kept (ok' := fun q => w2.heap.size ≤ q ∧ q < w3.heap.size) fun q hq => ⟨hq, sp.same q (by omega) (fun hm => by have := HAL.out _ (mem_ownList.1 hm); omega)⟩)
                    have OT := Lib.hid (OT.out.kept fun q hq => sp.same q (by have := HT.out q hq; omega) (fun hm => by have := HAL.out _ (mem_ownList.1 hm); have := HT.out q hq; omega))
                    have B11 := Lib.hid ((sp.same w3.heap.size (lt_of_block B11.out) (fun hm => by have := HAL.out _ (mem_ownList.1 hm); omega)).trans B11.out)
                    have OY := Lib.hid (OY.out.kept fun q hq => sp.same q (by have := HOY.out q hq; omega) (fun hm => by have := HAL.out _ (mem_ownList.1 hm); have := HOY.out q hq; omega))
                    have B14 := Lib.hid ((sp.same w7.heap.size (lt_of_block B14.out) (fun hm => by have := HAL.out _ (mem_ownList.1 hm); omega)).trans B14.out)
                    have AM := Lib.hid (AM.out.kept fun q hq => sp.same q (by have := HAM.out q hq; omega) (fun hm => by have := HAL.out _ (mem_ownList.1 hm); have := HAM.out q hq; omega))
                    have hw_w14 : wq.heap.size ≤ w14.heap.size := Nat.le_trans hw_w13 sp.size
                    clear sp HSP3 HOW HOB AL
                    go_wp2_with (first
                    | (refine wpList_load_rng (N := w3.heap.size) (off := 0) (vs := [.int .i64 h'.kind, .int .i64 h'.op, .int .i64 h'.num, .string ⟨h'.text.toArray⟩, .int .i64 h'.ref.row, .int .i64 h'.ref.col, .bool h'.ref.pr, .bool h'.ref.pc, .int .i64 h'.to.row, .int .i64 h'.to.col, .bool h'.to.pr, .bool h'.to.pc, .int .i64 h'.fn, .slice ta tl tc]) rfl rfl rfl (box_rng B11.out) rfl ?_))
                    have cc := may_any h' k' w14 w14.heap.size ta tl tc (Nat.le_refl _) (OT.out.tv (h := h') (fun q hq => by have := HT.out q hq; omega) LT.out.hok)
                    refine cc.mono ?_
                    clear cc
                    rintro e w15 ⟨rfl, b15⟩
                    have hs_w15 : w14.heap.size ≤ w15.heap.size := b15.size
                    have bs_ : Below wq.heap.size w14 w15 := b15.mono hw_w14
                    have BW := Lib.hid (BW.out.trans bs_)
                    have TO := Lib.hid (TO.out.kept (bs_.mono hbw) (Nat.le_refl _))
                    have ROW := Lib.hid (ROW.out.kept (bs_.mono hbw) (Nat.le_refl _))
                    have FS := Lib.hid (FS.out.kept (bs_.mono hNw))
                    have RG := Lib.hid (show w15.rangeAt b1 (off + j * 14) [.int .i64 h'.kind, .int .i64 h'.op, .int .i64 h'.num, .string ⟨h'.text.toArray⟩, .int .i64 h'.ref.row, .int .i64 h'.ref.col, .bool h'.ref.pr, .bool h'.ref.pc, .int .i64 h'.to.row, .int .i64 h'.to.col, .bool h'.to.pr, .bool h'.to.pc, .int .i64 h'.fn, .slice ka' kl' kc'] from fun q x hx => (World.cell?_of_block (a := ⟨b1, off + j * 14 + q, none⟩) (bs_.block b1 (by omega))).trans (RG.out q x hx))
                    clear bs_
                    have LT := Lib.hid (LT.out.kept (ok' := fun q => w2.heap.size ≤ q ∧ q < w3.heap.size) fun q hq => ⟨hq, b15.block q (by omega)⟩)
                    have OT := Lib.hid (OT.out.kept fun q hq => b15.block q (by have := HT.out q hq; omega))
                    have B11 := Lib.hid ((b15.block w3.heap.size (lt_of_block B11.out)).trans B11.out)
                    have OY := Lib.hid (OY.out.kept fun q hq => b15.block q (by have := HOY.out q hq; omega))
                    have B14 := Lib.hid ((b15.block w7.heap.size (lt_of_block B14.out)).trans B14.out)
                    have AM := Lib.hid (AM.out.kept fun q hq => b15.block q (by have := HAM.out q hq; omega))
                    have hw_w15 : wq.heap.size ≤ w15.heap.size := Nat.le_trans hw_w14 b15.size
                    clear b15
                    go_wp2_with (first
                    | (refine wpList_load_rng (N := w3.heap.size) (off := 0) (vs := [.int .i64 h'.kind, .int .i64 h'.op, .int .i64 h'.num, .string ⟨h'.text.toArray⟩, .int .i64 h'.ref.row, .int .i64 h'.ref.col, .bool h'.ref.pr, .bool h'.ref.pc, .int .i64 h'.to.row, .int .i64 h'.to.col, .bool h'.to.pr, .bool h'.to.pc, .int .i64 h'.fn, .slice ta tl tc]) rfl rfl rfl (box_rng B11.out) rfl ?_))
                    have cc := size_any h' k' w15 w15.heap.size ta tl tc (Nat.le_refl _) (OT.out.tv (h := h') (fun q hq => by have := HT.out q hq; omega) LT.out.hok)
                    refine cc.mono ?_
                    clear cc
                    rintro e w16 ⟨rfl, b16⟩
                    have hs_w16 : w15.heap.size ≤ w16.heap.size := b16.size
                    have bs_ : Below wq.heap.size w15 w16 := b16.mono hw_w15
                    have BW := Lib.hid (BW.out.trans bs_)
                    have TO := Lib.hid (TO.out.kept (bs_.mono hbw) (Nat.le_refl _))
                    have ROW := Lib.hid (ROW.out.kept (bs_.mono hbw) (Nat.le_refl _))
                    have FS := Lib.hid (FS.out.kept (bs_.mono hNw))
                    have RG := Lib.hid (show w16.rangeAt b1 (off + j * 14) [.int .i64 h'.kind, .int .i64 h'.op, .int .i64 h'.num, .string ⟨h'.text.toArray⟩, .int .i64 h'.ref.row, .int .i64 h'.ref.col, .bool h'.ref.pr, .bool h'.ref.pc, .int .i64 h'.to.row, .int .i64 h'.to.col, .bool h'.to.pr, .bool h'.to.pc, .int .i64 h'.fn, .slice ka' kl' kc'] from fun q x hx => (World.cell?_of_block (a := ⟨b1, off + j * 14 + q, none⟩) (bs_.block b1 (by omega))).trans (RG.out q x hx))
                    clear bs_
                    have LT := Lib.hid (LT.out.kept (ok' := fun q => w2.heap.size ≤ q ∧ q < w3.heap.size) fun q hq => ⟨hq, b16.block q (by omega)⟩)
                    have OT := Lib.hid (OT.out.kept fun q hq => b16.block q (by have := HT.out q hq; omega))
                    have B11 := Lib.hid ((b16.block w3.heap.size (lt_of_block B11.out)).trans B11.out)
                    have OY := Lib.hid (OY.out.kept fun q hq => b16.block q (by have := HOY.out q hq; omega))
                    have B14 := Lib.hid ((b16.block w7.heap.size (lt_of_block B14.out)).trans B14.out)
                    have AM := Lib.hid (AM.out.kept fun q hq => b16.block q (by have := HAM.out q hq; omega))
                    have hw_w16 : wq.heap.size ≤ w16.heap.size := Nat.le_trans hw_w15 b16.size
                    clear b16
                    go_wp2_with (first
                    | (refine wpList_load_rng (N := w3.heap.size) (off := 0) (vs := [.int .i64 h'.kind, .int .i64 h'.op, .int .i64 h'.num, .string ⟨h'.text.toArray⟩, .int .i64 h'.ref.row, .int .i64 h'.ref.col, .bool h'.ref.pr, .bool h'.ref.pc, .int .i64 h'.to.row, .int .i64 h'.to.col, .bool h'.to.pr, .bool h'.to.pc, .int .i64 h'.fn, .slice ta tl tc]) rfl rfl rfl (box_rng B11.out) rfl ?_)
                    | (refine wpList_load_rng (N := w7.heap.size) (off := 0) (vs := [.int .i64 h'.kind, .int .i64 h'.op, .int .i64 h'.num, .string ⟨h'.text.toArray⟩, .int .i64 h'.ref.row, .int .i64 h'.ref.col, .bool h'.ref.pr, .bool h'.ref.pc, .int .i64 h'.to.row, .int .i64 h'.to.col, .bool h'.to.pr, .bool h'.to.pc, .int .i64 h'.fn, .slice ya yl yc]) rfl rfl rfl (box_rng B14.out) rfl ?_))
                    have cc := same_all h' h' k' k' w16 w16.heap.size w16.heap.size ta ya tl tc yl yc (Nat.le_refl _) (Nat.le_refl _) (OT.out.tv (h := h') (fun q hq => by have := HT.out q hq; omega) LT.out.hok) (OY.out.tv (h := h') (fun q hq => by have := HOY.out q hq; omega) LT.out.hok)
                    refine cc.mono ?_
                    clear cc
                    rintro e w17 ⟨rfl, b17⟩
                    have hs_w17 : w16.heap.size ≤ w17.heap.size := b17.size
                    have bs_ : Below wq.heap.size w16 w17 := b17.mono hw_w16
                    have BW := Lib.hid (BW.out.trans bs_)
                    have TO := Lib.hid (TO.out.kept (bs_.mono hbw) (Nat.le_refl _))
                    have ROW := Lib.hid (ROW.out.kept (bs_.mono hbw) (Nat.le_refl _))
                    have FS := Lib.hid (FS.out.kept (bs_.mono hNw))
                    have RG := Lib.hid (show w17.rangeAt b1 (off + j * 14) [.int .i64 h'.kind, .int .i64 h'.op, .int .i64 h'.num, .string ⟨h'.text.toArray⟩, .int .i64 h'.ref.row, .int .i64 h'.ref.col, .bool h'.ref.pr, .bool h'.ref.pc, .int .i64 h'.to.row, .int .i64 h'.to.col, .bool h'.to.pr, .bool h'.to.pc, .int .i64 h'.fn, .slice ka' kl' kc'] from fun q x hx => (World.cell?_of_block (a := ⟨b1, off + j * 14 + q, none⟩) (bs_.block b1 (by omega))).trans (RG.out q x hx))
                    clear bs_
                    have LT := Lib.hid (LT.out.kept (ok' := fun q => w2.heap.size ≤ q ∧ q < w3.heap.size) fun q hq => ⟨hq, b17.block q (by omega)⟩)
                    have OT := Lib.hid (OT.out.kept fun q hq => b17.block q (by have := HT.out q hq; omega))
                    have B11 := Lib.hid ((b17.block w3.heap.size (lt_of_block B11.out)).trans B11.out)
                    have OY := Lib.hid (OY.out.kept fun q hq => b17.block q (by have := HOY.out q hq; omega))
                    have B14 := Lib.hid ((b17.block w7.heap.size (lt_of_block B14.out)).trans B14.out)
                    have AM := Lib.hid (AM.out.kept fun q hq => b17.block q (by have := HAM.out q hq; omega))
                    have hw_w17 : wq.heap.size ≤ w17.heap.size := Nat.le_trans hw_w16 b17.size
                    clear b17
                    go_wp2_with (first
                    | (refine wpList_load_rng (N := w3.heap.size) (off := 0) (vs := [.int .i64 h'.kind, .int .i64 h'.op, .int .i64 h'.num, .string ⟨h'.text.toArray⟩, .int .i64 h'.ref.row, .int .i64 h'.ref.col, .bool h'.ref.pr, .bool h'.ref.pc, .int .i64 h'.to.row, .int .i64 h'.to.col, .bool h'.to.pr, .bool h'.to.pc, .int .i64 h'.fn, .slice ta tl tc]) rfl rfl rfl (box_rng B11.out) rfl ?_))
                    have cc := copy_any h' k' w17 w17.heap.size ta tl tc (Nat.le_refl _) (OT.out.tv (h := h') (fun q hq => by have := HT.out q hq; omega) LT.out.hok)
                    refine cc.mono ?_
                    clear cc
                    rintro e w18 ⟨b5, cp⟩
                    rcases cp with ⟨-, za, zl, zc, Fz, rfl, fx⟩ | ⟨nf, -⟩
                    rotate_left
                    · exact absurd FN.out nf
                    have OZ := Lib.hid fx.own
                    have HOZ := Lib.hid (show ∀ q ∈ Fz, w17.heap.size ≤ q ∧ q < w18.heap.size from fun q hq => ⟨fx.new q hq, fx.lt q hq⟩)
                    have NOZ := Lib.hid fx.once
                    clear fx
                    have hs_w18 : w17.heap.size ≤ w18.heap.size := b5.size
                    have bs_ : Below wq.heap.size w17 w18 := b5.mono hw_w17
                    have BW := Lib.hid (BW.out.trans bs_)
                    have TO := Lib.hid (TO.out.kept (bs_.mono hbw) (Nat.le_refl _))
                    have ROW := Lib.hid (ROW.out.kept (bs_.mono hbw) (Nat.le_refl _))
                    have FS := Lib.hid (FS.out.kept (bs_.mono hNw))
                    have RG := Lib.hid (show w18.rangeAt b1 (off + j * 14) [.int .i64 h'.kind, .int .i64 h'.op, .int .i64 h'.num, .string ⟨h'.text.toArray⟩, .int .i64 h'.ref.row, .int .i64 h'.ref.col, .bool h'.ref.pr, .bool h'.ref.pc, .int .i64 h'.to.row, .int .i64 h'.to.col, .bool h'.to.pr, .bool h'.to.pc, .int .i64 h'.fn, .slice ka' kl' kc'] from fun q x hx => (World.cell?_of_block (a := ⟨b1, off + j * 14 + q, none⟩) (bs_.block b1 (by omega))).trans (RG.out q x hx))
                    clear bs_
                    have LT := Lib.hid (LT.out.kept (ok' := fun q => w2.heap.size ≤ q ∧ q < w3.heap.size) fun q hq => ⟨hq, b5.block q (by omega)⟩)
                    have OT := Lib.hid (OT.out.kept fun q hq => b5.block q (by have := HT.out q hq; omega))
                    have B11 := Lib.hid ((b5.block w3.heap.size (lt_of_block B11.out)).trans B11.out)
                    have OY := Lib.hid (OY.out.kept fun q hq => b5.block q (by have := HOY.out q hq; omega))
                    have B14 := Lib.hid ((b5.block w7.heap.size (lt_of_block B14.out)).trans B14.out)
                    have AM := Lib.hid (AM.out.kept fun q hq => b5.block q (by have := HAM.out q hq; omega))
                    have hw_w18 : wq.heap.size ≤ w18.heap.size := Nat.le_trans hw_w17 b5.size
                    clear b5
                    go_wp2_with (first
                    | (refine wpList_store_mem (N := w18.heap.size) (off := 0) (vs := [.int .i64 h'.kind, .int .i64 h'.op, .int .i64 h'.num, .string ⟨h'.text.toArray⟩, .int .i64 h'.ref.row, .int .i64 h'.ref.col, .bool h'.ref.pr, .bool h'.ref.pc, .int .i64 h'.to.row, .int .i64 h'.to.col, .bool h'.to.pr, .bool h'.to.pc, .int .i64 h'.fn, .slice za zl zc]) infoExprS rfl rfl rfl rfl (heap_alloc_new w18 (.cells #[.int .i64 0, .int .i64 0, .int .i64 0, .string ⟨#[]⟩, .int .i64 0, .int .i64 0, .bool false, .bool false, .int .i64 0, .int .i64 0, .bool false, .bool false, .int .i64 0, .slice none 0 0] 29)) (by simp) rfl (by simp [Value.oneCell']) ?_
                       intro w19 hWn
                       have bx : w19.heap[w18.heap.size]? = some (.cells #[.int .i64 h'.kind, .int .i64 h'.op, .int .i64 h'.num, .string ⟨h'.text.toArray⟩, .int .i64 h'.ref.row, .int .i64 h'.ref.col, .bool h'.ref.pr, .bool h'.ref.pc, .int .i64 h'.to.row, .int .i64 h'.to.col, .bool h'.to.pr, .bool h'.to.pc, .int .i64 h'.fn, .slice za zl zc] 29 (0, 0)) := by rw [hWn]; exact setCells_all (vs := [.int .i64 h'.kind, .int .i64 h'.op, .int .i64 h'.num, .string ⟨h'.text.toArray⟩, .int .i64 h'.ref.row, .int .i64 h'.ref.col, .bool h'.ref.pr, .bool h'.ref.pc, .int .i64 h'.to.row, .int .i64 h'.to.col, .bool h'.to.pr, .bool h'.to.pc, .int .i64 h'.fn, .slice za zl zc]) (heap_alloc_new w18 (.cells #[.int .i64 0, .int .i64 0, .int .i64 0, .string ⟨#[]⟩, .int .i64 0, .int .i64 0, .bool false, .bool false, .int .i64 0, .int .i64 0, .bool false, .bool false, .int .i64 0, .slice none 0 0] 29)) rfl
                       have bb : Below w18.heap.size w18 w19 := by rw [hWn]; exact setCells_below (Nat.le_refl _) _ _ (ext_alloc (Below.refl _ w18) _)
                       have B22 := Lib.hid bx
                       have lB22 := lt_of_block bx
                       clear hWn bx
                       have hs_w19 : w18.heap.size ≤ w19.heap.size := bb.size
                       have bs_ : Below wq.heap.size w18 w19 := bb.mono hw_w18
                       have BW := Lib.hid (BW.out.trans bs_)
                       have TO := Lib.hid (TO.out.kept (bs_.mono hbw) (Nat.le_refl _))
                       have ROW := Lib.hid (ROW.out.kept (bs_.mono hbw) (Nat.le_refl _))
                       have FS := Lib.hid (FS.out.kept (bs_.mono hNw))
                       have RG := Lib.hid (show w19.rangeAt b1 (off + j * 14) [.int .i64 h'.kind, .int .i64 h'.op, .int .i64 h'.num, .string ⟨h'.text.toArray⟩, .int .i64 h'.ref.row, .int .i64 h'.ref.col, .bool h'.ref.pr, .bool h'.ref.pc, .int .i64 h'.to.row, .int .i64 h'.to.col, .bool h'.to.pr, .bool h'.to.pc, .int .i64 h'.fn, .slice ka' kl' kc'] from fun q x hx => (World.cell?_of_block (a := ⟨b1, off + j * 14 + q, none⟩) (bs_.block b1 (by omega))).trans (RG.out q x hx))
                       clear bs_
                       have LT := Lib.hid (LT.out.kept (ok' := fun q => w2.heap.size ≤ q ∧ q < w3.heap.size) fun q hq => ⟨hq, bb.block q (by omega)⟩)
                       have OT := Lib.hid (OT.out.kept fun q hq => bb.block q (by have := HT.out q hq; omega))
                       have B11 := Lib.hid ((bb.block w3.heap.size (lt_of_block B11.out)).trans B11.out)
                       have OY := Lib.hid (OY.out.kept fun q hq => bb.block q (by have := HOY.out q hq; omega))
                       have B14 := Lib.hid ((bb.block w7.heap.size (lt_of_block B14.out)).trans B14.out)
                       have AM := Lib.hid (AM.out.kept fun q hq => bb.block q (by have := HAM.out q hq; omega))
                       have OZ := Lib.hid (OZ.out.kept fun q hq => bb.block q (by have := HOZ.out q hq; omega))
                       have hw_w19 : wq.heap.size ≤ w19.heap.size := Nat.le_trans hw_w18 bb.size
                       clear bb))
                    go_wp2_with fail
                    refine wp_region_noPanic ?_
                    refine wp_region_held_drew (S := fun W => Spd Ft w19 W) (by kernel_rfl) (Spd.of (Below.refl _ _).drew) (fun hS1 => ?_)
                    have bd : Below w19.heap.size w19 w19.drew := (Below.refl _ _).drew
                    have LTd := Lib.hid (LT.out.kept (ok' := fun q => w2.heap.size ≤ q ∧ q < w3.heap.size) fun q hq => ⟨hq, bd.block q (by omega)⟩)
                    have OTd := Lib.hid (OT.out.kept fun q hq => bd.block q (by have := HT.out q hq; omega))
                    have TOd := Lib.hid (TO.out.kept (bd.mono (by omega)) (Nat.le_refl _))
                    clear bd
                    refine wpAnyH_take (i := 0) (oi := { dst := some 136, op := Go.Op.load 29 (Go.Operand.tmp 11), type := 29, pos := "memory.go:92", after := #[], guard := none }) (v := (.agg #[.int .i64 h'.kind, .int .i64 h'.op, .int .i64 h'.num, .string ⟨h'.text.toArray⟩, .int .i64 h'.ref.row, .int .i64 h'.ref.col, .bool h'.ref.pr, .bool h'.ref.pc, .int .i64 h'.to.row, .int .i64 h'.to.col, .bool h'.to.pr, .bool h'.to.pc, .int .i64 h'.fn, .slice ta tl tc])) rfl (by kernel_rfl) (by kernel_rfl) (by kernel_rfl) (fun _ _ _ h => h) (yieldsIf_load_mid (by rfl) 29 _ rfl w3.heap.size 0 rfl [.int .i64 h'.kind, .int .i64 h'.op, .int .i64 h'.num, .string ⟨h'.text.toArray⟩, .int .i64 h'.ref.row, .int .i64 h'.ref.col, .bool h'.ref.pr, .bool h'.ref.pc, .int .i64 h'.to.row, .int .i64 h'.to.col, .bool h'.to.pr, .bool h'.to.pc, .int .i64 h'.fn, .slice ta tl tc] _ (fun W hW => box_rng ((hW.same w3.heap.size (lt_of_block B11.out) (fun hm => by have := HT.out _ hm; omega)).trans B11.out)) Try.underlying29 rfl infoExprS) hS1 ?_
                    try simp only [Act.put, List.setIfInBounds_toArray, List.set_cons_zero, List.set_cons_succ]
                    refine wpAnyH_take (i := 1) (oi := { dst := some 137, op := Go.Op.move (Go.Operand.tmp 0), type := 27, pos := "memory.go:92", after := #[], guard := none }) (v := (.slice (some ⟨b1, off, none⟩) len cap)) rfl (by kernel_rfl) (by kernel_rfl) (by kernel_rfl) (fun _ _ _ h => h) (Or.inl ⟨by rfl, fun W hW => by first | (go_simp; done) | (go_simp; with_reducible rfl)⟩) hS1 ?_
                    try simp only [Act.put, List.setIfInBounds_toArray, List.set_cons_zero, List.set_cons_succ]
                    refine wpAnyH_take (i := 2) (oi := { dst := some 138, op := Go.Op.move (Go.Operand.tmp 7), type := 3, pos := "memory.go:92", after := #[], guard := none }) (v := (.int .i64 j)) rfl (by kernel_rfl) (by kernel_rfl) (by kernel_rfl) (fun _ _ _ h => h) (Or.inl ⟨by rfl, fun W hW => by first | (go_simp; done) | (go_simp; with_reducible rfl)⟩) hS1 ?_
                    try simp only [Act.put, List.setIfInBounds_toArray, List.set_cons_zero, List.set_cons_succ]
                    refine wpAnyH_take (i := 3) (oi := { dst := some 139, op := Go.Op.indexAddr 27 (Go.Operand.tmp 137) (Go.Operand.tmp 138), type := 0, pos := "memory.go:92", after := #[{ on := 1, ground := Go.Ground.data }, { on := 2, ground := Go.Ground.data }], guard := none }) (v := (.pointer (some ⟨b1, off + j * 14, none⟩))) rfl (by kernel_rfl) (by kernel_rfl) (by kernel_rfl) (fun _ _ _ h => h) (Or.inl ⟨by rfl, fun W hW => by first | (go_simp; done) | (go_simp; with_reducible rfl)⟩) hS1 ?_
                    try simp only [Act.put, List.setIfInBounds_toArray, List.set_cons_zero, List.set_cons_succ]
                    refine wpAnyH_take (i := 4) (oi := { dst := some 140, op := Go.Op.load 29 (Go.Operand.tmp 139), type := 29, pos := "memory.go:92", after := #[{ on := 3, ground := Go.Ground.data }], guard := none }) (v := (.agg #[.int .i64 h'.kind, .int .i64 h'.op, .int .i64 h'.num, .string ⟨h'.text.toArray⟩, .int .i64 h'.ref.row, .int .i64 h'.ref.col, .bool h'.ref.pr, .bool h'.ref.pc, .int .i64 h'.to.row, .int .i64 h'.to.col, .bool h'.to.pr, .bool h'.to.pc, .int .i64 h'.fn, .slice ka' kl' kc'])) rfl (by kernel_rfl) (by kernel_rfl) (by kernel_rfl) (fun _ _ _ h => h) (yieldsIf_load_mid (by rfl) 29 _ rfl b1 (off + j * 14) rfl [.int .i64 h'.kind, .int .i64 h'.op, .int .i64 h'.num, .string ⟨h'.text.toArray⟩, .int .i64 h'.ref.row, .int .i64 h'.ref.col, .bool h'.ref.pr, .bool h'.ref.pc, .int .i64 h'.to.row, .int .i64 h'.to.col, .bool h'.to.pr, .bool h'.to.pc, .int .i64 h'.fn, .slice ka' kl' kc'] _ (fun W hW => fun q x hx => (World.cell?_of_block (a := ⟨b1, off + j * 14 + q, none⟩) (hW.same b1 (by omega) (fun hm => by have := HT.out _ hm; omega))).trans (RG.out q x hx)) Try.underlying29 rfl infoExprS) hS1 ?_
                    try simp only [Act.put, List.setIfInBounds_toArray, List.set_cons_zero, List.set_cons_succ]
                    refine wpAnyH_ready (rs := [5]) (by kernel_rfl) (by simp) ?_
                    refine AllReadyH.cons (o := { dst := some 141, op := Go.Op.call { callee := Go.Callee.value (Go.Operand.func 26), args := #[Go.Operand.tmp 136, Go.Operand.tmp 140], argTypes := #[29, 29] }, type := 4, pos := "memory.go:92", after := #[{ on := 0, ground := Go.Ground.data }, { on := 4, ground := Go.Ground.data }], guard := none }) rfl (fun K hK => ?_) AllReadyH.nil
                    refine wanted_wp (by rfl) ?_
                    go_simp
                    go_at_call 26
                    have cc := kept9_any h' k' w19.drew (fun q => w2.heap.size ≤ q ∧ q < w3.heap.size) w1.heap.size Ft ta ka' tl tc kl' kc' (fun q hq => by have : w19.drew.heap.size = w19.heap.size := rfl; omega) (by have : w19.drew.heap.size = w19.heap.size := rfl; omega) LTd.out OTd.out NT.out (fun q hq => by have := HT.out q hq; have : w19.drew.heap.size = w19.heap.size := rfl; omega) hno TOd.out
                    with_reducible refine cc.mono ?_
                    clear cc
                    rintro e w20 ⟨rfl, sq⟩
                    refine hK.out _ _ (hS1.trans sq fun q hq => .inl hq) (fun hS1 => ?_)
                    clear hK K sq LTd OTd TOd
                    try simp only [Act.put, List.setIfInBounds_toArray, List.set_cons_zero, List.set_cons_succ]
                    refine wpAnyH_take (i := 6) (oi := { dst := some 24, op := Go.Op.assign (Go.Operand.tmp 141), type := 4, pos := "memory.go:92", after := #[{ on := 5, ground := Go.Ground.data }, { on := 5, ground := Go.Ground.chain }, { on := 0, ground := Go.Ground.phase }, { on := 1, ground := Go.Ground.phase }, { on := 2, ground := Go.Ground.phase }, { on := 3, ground := Go.Ground.phase }, { on := 4, ground := Go.Ground.phase }, { on := 5, ground := Go.Ground.phase }], guard := none }) (v := (.bool true)) rfl (by kernel_rfl) (by kernel_rfl) (by kernel_rfl) (fun _ _ _ h => h) (Or.inl ⟨by rfl, fun W hW => by first | (go_simp; done) | (go_simp; with_reducible rfl)⟩) hS1 ?_
                    try simp only [Act.put, List.setIfInBounds_toArray, List.set_cons_zero, List.set_cons_succ]
                    refine wpAnyH_done (by kernel_rfl) ?_ _
                    refine NoPanic.normal ?_
                    have sp := hS1
                    clear hS1
                    have OKH := Lib.hid LT.out.hok
                    clear LT OT B11
                    have hs_w20 : w19.heap.size ≤ w20.heap.size := sp.size
                    have bs_ : Below wq.heap.size w19 w20 := sp.below hw_w19 (fun q hq => by have := HT.out q hq; omega)
                    have BW := Lib.hid (BW.out.trans bs_)
                    have TO := Lib.hid (TO.out.kept (bs_.mono hbw) (Nat.le_refl _))
                    have ROW := Lib.hid (ROW.out.kept (bs_.mono hbw) (Nat.le_refl _))
                    have FS := Lib.hid (FS.out.kept (bs_.mono hNw))
                    have RG := Lib.hid (show w20.rangeAt b1 (off + j * 14) [.int .i64 h'.kind, .int .i64 h'.op, .int .i64 h'.num, .string ⟨h'.text.toArray⟩, .int .i64 h'.ref.row, .int .i64 h'.ref.col, .bool h'.ref.pr, .bool h'.ref.pc, .int .i64 h'.to.row, .int .i64 h'.to.col, .bool h'.to.pr, .bool h'.to.pc, .int .i64 h'.fn, .slice ka' kl' kc'] from fun q x hx => (World.cell?_of_block (a := ⟨b1, off + j * 14 + q, none⟩) (bs_.block b1 (by omega))).trans (RG.out q x hx))
                    clear bs_
                    have OY := Lib.hid (OY.out.kept fun q hq => sp.same q (by have := HOY.out q hq; omega) (fun hm => by have := HT.out _ hm; have := HOY.out q hq; omega))
                    have B14 := Lib.hid ((sp.same w7.heap.size (lt_of_block B14.out) (fun hm => by have := HT.out _ hm; omega)).trans B14.out)
                    have AM := Lib.hid (AM.out.kept fun q hq => sp.same q (by have := HAM.out q hq; omega) (fun hm => by have := HT.out _ hm; have := HAM.out q hq; omega))
                    have OZ := Lib.hid (OZ.out.kept fun q hq => sp.same q (by have := HOZ.out q hq; omega) (fun hm => by have := HT.out _ hm; have := HOZ.out q hq; omega))
                    have B22 := Lib.hid ((sp.same w18.heap.size (lt_of_block B22.out) (fun hm => by have := HT.out _ hm; omega)).trans B22.out)
                    have hw_w20 : wq.heap.size ≤ w20.heap.size := Nat.le_trans hw_w19 sp.size
                    clear sp
                    go_wp2_with fail
                    have TVZ := Lib.hid (OZ.out.tv (h := h') (fun q hq => by have := HOZ.out q hq; omega) OKH.out)
                    have TVY := Lib.hid (OY.out.tv (h := h') (fun q hq => by have := HOY.out q hq; omega) OKH.out)
                    refine wp_region_noPanic ?_
                    refine wp_region_held_drew (S := fun W => Below w20.heap.size w20 W) (by kernel_rfl) (Below.refl _ _).drew (fun hS1 => ?_)
                    refine wpAnyH_take (i := 0) (oi := { dst := some 142, op := Go.Op.move (Go.Operand.tmp 24), type := 4, pos := "memory.go:93", after := #[], guard := none }) (v := (.bool true)) rfl (by kernel_rfl) (by kernel_rfl) (by kernel_rfl) (fun _ _ _ h => h) (Or.inl ⟨by rfl, fun W hW => by first | (go_simp; done) | (go_simp; with_reducible rfl)⟩) hS1 ?_
                    try simp only [Act.put, List.setIfInBounds_toArray, List.set_cons_zero, List.set_cons_succ]
                    refine wpAnyH_take (i := 1) (oi := { dst := some 143, op := Go.Op.unOp Go.UnOp.not 4 (Go.Operand.tmp 142), type := 4, pos := "memory.go:93", after := #[{ on := 0, ground := Go.Ground.data }], guard := none }) (v := (.bool false)) rfl (by kernel_rfl) (by kernel_rfl) (by kernel_rfl) (fun _ _ _ h => h) (Or.inl ⟨by rfl, fun W hW => by first | (go_simp; done) | (go_simp; with_reducible rfl)⟩) hS1 ?_
                    try simp only [Act.put, List.setIfInBounds_toArray, List.set_cons_zero, List.set_cons_succ]
                    refine wpAnyH_take (i := 2) (oi := { dst := some 144, op := Go.Op.move (Go.Operand.tmp 143), type := 4, pos := "memory.go:93", after := #[{ on := 1, ground := Go.Ground.data }], guard := none }) (v := (.bool false)) rfl (by kernel_rfl) (by kernel_rfl) (by kernel_rfl) (fun _ _ _ h => h) (Or.inl ⟨by rfl, fun W hW => by first | (go_simp; done) | (go_simp; with_reducible rfl)⟩) hS1 ?_
                    try simp only [Act.put, List.setIfInBounds_toArray, List.set_cons_zero, List.set_cons_succ]
                    refine wpAnyH_take (i := 3) (oi := { dst := some 145, op := Go.Op.move (Go.Operand.tmp 23), type := 38, pos := "memory.go:93", after := #[{ on := 2, ground := Go.Ground.guard }], guard := some (2, false) }) (v := (.int .i64 0)) rfl (by kernel_rfl) (by kernel_rfl) (by kernel_rfl) (fun _ _ _ h => h) (Or.inl ⟨by rfl, fun W hW => by first | (go_simp; done) | (go_simp; with_reducible rfl)⟩) hS1 ?_
                    try simp only [Act.put, List.setIfInBounds_toArray, List.set_cons_zero, List.set_cons_succ]
                    refine wpAnyH_take (i := 4) (oi := { dst := some 146, op := Go.Op.binOp Go.BinOp.neq 38 (Go.Operand.tmp 145) (Go.Operand.const (Go.Value.int Go.IntKind.i64 0)) 38, type := 4, pos := "memory.go:93", after := #[{ on := 3, ground := Go.Ground.data }, { on := 2, ground := Go.Ground.guard }], guard := some (2, false) }) (v := (.bool false)) rfl (by kernel_rfl) (by kernel_rfl) (by kernel_rfl) (fun _ _ _ h => h) (Or.inl ⟨by rfl, fun W hW => by first | (go_simp; done) | (go_simp; with_reducible rfl)⟩) hS1 ?_
                    try simp only [Act.put, List.setIfInBounds_toArray, List.set_cons_zero, List.set_cons_succ]
                    refine wpAnyH_take (i := 5) (oi := { dst := some 147, op := Go.Op.pick (Go.Operand.tmp 144) (Go.Operand.const (Go.Value.bool true)) (Go.Operand.tmp 146), type := 4, pos := "memory.go:93", after := #[{ on := 2, ground := Go.Ground.data }, { on := 4, ground := Go.Ground.data }], guard := none }) (v := (.bool false)) rfl (by kernel_rfl) (by kernel_rfl) (by kernel_rfl) (fun _ _ _ h => h) (Or.inl ⟨by rfl, fun W hW => by first | (go_simp; done) | (go_simp; with_reducible rfl)⟩) hS1 ?_
                    try simp only [Act.put, List.setIfInBounds_toArray, List.set_cons_zero, List.set_cons_succ]
                    refine wpAnyH_take (i := 6) (oi := { dst := some 148, op := Go.Op.move (Go.Operand.tmp 147), type := 4, pos := "memory.go:93", after := #[{ on := 5, ground := Go.Ground.data }, { on := 2, ground := Go.Ground.chain }], guard := none }) (v := (.bool false)) rfl (by kernel_rfl) (by kernel_rfl) (by kernel_rfl) (fun _ _ _ h => h) (Or.inl ⟨by rfl, fun W hW => by first | (go_simp; done) | (go_simp; with_reducible rfl)⟩) hS1 ?_
                    try simp only [Act.put, List.setIfInBounds_toArray, List.set_cons_zero, List.set_cons_succ]
                    refine wpAnyH_take (i := 7) (oi := { dst := some 149, op := Go.Op.load 29 (Go.Operand.tmp 22), type := 29, pos := "memory.go:93", after := #[{ on := 6, ground := Go.Ground.guard }], guard := some (6, false) }) (v := (.agg #[.int .i64 h'.kind, .int .i64 h'.op, .int .i64 h'.num, .string ⟨h'.text.toArray⟩, .int .i64 h'.ref.row, .int .i64 h'.ref.col, .bool h'.ref.pr, .bool h'.ref.pc, .int .i64 h'.to.row, .int .i64 h'.to.col, .bool h'.to.pr, .bool h'.to.pc, .int .i64 h'.fn, .slice za zl zc])) rfl (by kernel_rfl) (by kernel_rfl) (by kernel_rfl) (fun _ _ _ h => h) (yieldsIf_load_mid (by rfl) 29 _ rfl w18.heap.size 0 rfl [.int .i64 h'.kind, .int .i64 h'.op, .int .i64 h'.num, .string ⟨h'.text.toArray⟩, .int .i64 h'.ref.row, .int .i64 h'.ref.col, .bool h'.ref.pr, .bool h'.ref.pc, .int .i64 h'.to.row, .int .i64 h'.to.col, .bool h'.to.pr, .bool h'.to.pc, .int .i64 h'.fn, .slice za zl zc] _ (fun W hW => box_rng ((hW.block _ (lt_of_block B22.out)).trans B22.out)) Try.underlying29 rfl infoExprS) hS1 ?_
                    try simp only [Act.put, List.setIfInBounds_toArray, List.set_cons_zero, List.set_cons_succ]
                    refine wpAnyH_take (i := 8) (oi := { dst := some 150, op := Go.Op.move (Go.Operand.tmp 0), type := 27, pos := "memory.go:93", after := #[{ on := 6, ground := Go.Ground.guard }], guard := some (6, false) }) (v := (.slice (some ⟨b1, off, none⟩) len cap)) rfl (by kernel_rfl) (by kernel_rfl) (by kernel_rfl) (fun _ _ _ h => h) (Or.inl ⟨by rfl, fun W hW => by first | (go_simp; done) | (go_simp; with_reducible rfl)⟩) hS1 ?_
                    try simp only [Act.put, List.setIfInBounds_toArray, List.set_cons_zero, List.set_cons_succ]
                    refine wpAnyH_take (i := 9) (oi := { dst := some 151, op := Go.Op.move (Go.Operand.tmp 7), type := 3, pos := "memory.go:93", after := #[{ on := 6, ground := Go.Ground.guard }], guard := some (6, false) }) (v := (.int .i64 j)) rfl (by kernel_rfl) (by kernel_rfl) (by kernel_rfl) (fun _ _ _ h => h) (Or.inl ⟨by rfl, fun W hW => by first | (go_simp; done) | (go_simp; with_reducible rfl)⟩) hS1 ?_
                    try simp only [Act.put, List.setIfInBounds_toArray, List.set_cons_zero, List.set_cons_succ]
                    refine wpAnyH_take (i := 10) (oi := { dst := some 152, op := Go.Op.indexAddr 27 (Go.Operand.tmp 150) (Go.Operand.tmp 151), type := 0, pos := "memory.go:93", after := #[{ on := 8, ground := Go.Ground.data }, { on := 9, ground := Go.Ground.data }, { on := 6, ground := Go.Ground.guard }], guard := some (6, false) }) (v := (.pointer (some ⟨b1, off + j * 14, none⟩))) rfl (by kernel_rfl) (by kernel_rfl) (by kernel_rfl) (fun _ _ _ h => h) (Or.inl ⟨by rfl, fun W hW => by first | (go_simp; done) | (go_simp; with_reducible rfl)⟩) hS1 ?_
                    try simp only [Act.put, List.setIfInBounds_toArray, List.set_cons_zero, List.set_cons_succ]
                    refine wpAnyH_take (i := 11) (oi := { dst := some 153, op := Go.Op.load 29 (Go.Operand.tmp 152), type := 29, pos := "memory.go:93", after := #[{ on := 10, ground := Go.Ground.data }, { on := 6, ground := Go.Ground.guard }], guard := some (6, false) }) (v := (.agg #[.int .i64 h'.kind, .int .i64 h'.op, .int .i64 h'.num, .string ⟨h'.text.toArray⟩, .int .i64 h'.ref.row, .int .i64 h'.ref.col, .bool h'.ref.pr, .bool h'.ref.pc, .int .i64 h'.to.row, .int .i64 h'.to.col, .bool h'.to.pr, .bool h'.to.pc, .int .i64 h'.fn, .slice ka' kl' kc'])) rfl (by kernel_rfl) (by kernel_rfl) (by kernel_rfl) (fun _ _ _ h => h) (yieldsIf_load_mid (by rfl) 29 _ rfl b1 (off + j * 14) rfl [.int .i64 h'.kind, .int .i64 h'.op, .int .i64 h'.num, .string ⟨h'.text.toArray⟩, .int .i64 h'.ref.row, .int .i64 h'.ref.col, .bool h'.ref.pr, .bool h'.ref.pc, .int .i64 h'.to.row, .int .i64 h'.to.col, .bool h'.to.pr, .bool h'.to.pc, .int .i64 h'.fn, .slice ka' kl' kc'] _ (fun W hW => fun q x hx => (World.cell?_of_block (a := ⟨b1, off + j * 14 + q, none⟩) (hW.block b1 (by omega))).trans (RG.out q x hx)) Try.underlying29 rfl infoExprS) hS1 ?_
                    try simp only [Act.put, List.setIfInBounds_toArray, List.set_cons_zero, List.set_cons_succ]
                    refine wpAnyH_ready (rs := [12]) (by kernel_rfl) (by simp) ?_
                    refine AllReadyH.cons (o := { dst := some 154, op := Go.Op.call { callee := Go.Callee.value (Go.Operand.func 21), args := #[Go.Operand.tmp 149, Go.Operand.tmp 153], argTypes := #[29, 29] }, type := 4, pos := "memory.go:93", after := #[{ on := 7, ground := Go.Ground.data }, { on := 11, ground := Go.Ground.data }, { on := 6, ground := Go.Ground.chain }, { on := 6, ground := Go.Ground.guard }], guard := some (6, false) }) rfl (fun K hK => ?_) AllReadyH.nil
                    refine wanted_wp (by rfl) ?_
                    go_simp
                    go_at_call 21
                    have cc := refEq_any h' k' h' k' _ w20.heap.size w1.heap.size za ka' zl zc kl' kc' hS1.size (by have := hS1.size; omega) (TVZ.out.kept hS1 (Nat.le_refl _)) (TO.out.kept (hS1.mono (by omega)) (Nat.le_refl _))
                    with_reducible refine cc.mono ?_
                    clear cc
                    rintro e w' ⟨he, bq⟩
                    obtain rfl := he.trans (show _ = Ending.returned (.bool true) by simp [sameB])
                    refine hK.out _ _ (hS1.trans (bq.mono hS1.size)) (fun hS1 => ?_)
                    clear hK K bq
                    try simp only [Act.put, List.setIfInBounds_toArray, List.set_cons_zero, List.set_cons_succ]
                    refine wpAnyH_take (i := 13) (oi := { dst := some 155, op := Go.Op.unOp Go.UnOp.not 4 (Go.Operand.tmp 154), type := 4, pos := "memory.go:93", after := #[{ on := 12, ground := Go.Ground.data }, { on := 6, ground := Go.Ground.guard }], guard := some (6, false) }) (v := (.bool false)) rfl (by kernel_rfl) (by kernel_rfl) (by kernel_rfl) (fun _ _ _ h => h) (Or.inl ⟨by rfl, fun W hW => by first | (go_simp; done) | (go_simp; with_reducible rfl)⟩) hS1 ?_
                    try simp only [Act.put, List.setIfInBounds_toArray, List.set_cons_zero, List.set_cons_succ]
                    refine wpAnyH_take (i := 14) (oi := { dst := some 156, op := Go.Op.pick (Go.Operand.tmp 148) (Go.Operand.const (Go.Value.bool true)) (Go.Operand.tmp 155), type := 4, pos := "memory.go:93", after := #[{ on := 6, ground := Go.Ground.data }, { on := 13, ground := Go.Ground.data }], guard := none }) (v := (.bool false)) rfl (by kernel_rfl) (by kernel_rfl) (by kernel_rfl) (fun _ _ _ h => h) (Or.inl ⟨by rfl, fun W hW => by first | (go_simp; done) | (go_simp; with_reducible rfl)⟩) hS1 ?_
                    try simp only [Act.put, List.setIfInBounds_toArray, List.set_cons_zero, List.set_cons_succ]
                    refine wpAnyH_take (i := 15) (oi := { dst := some 157, op := Go.Op.move (Go.Operand.tmp 156), type := 4, pos := "memory.go:93", after := #[{ on := 14, ground := Go.Ground.data }, { on := 12, ground := Go.Ground.chain }], guard := none }) (v := (.bool false)) rfl (by kernel_rfl) (by kernel_rfl) (by kernel_rfl) (fun _ _ _ h => h) (Or.inl ⟨by rfl, fun W hW => by first | (go_simp; done) | (go_simp; with_reducible rfl)⟩) hS1 ?_
                    try simp only [Act.put, List.setIfInBounds_toArray, List.set_cons_zero, List.set_cons_succ]
                    refine wpAnyH_take (i := 16) (oi := { dst := some 158, op := Go.Op.load 29 (Go.Operand.tmp 14), type := 29, pos := "memory.go:93", after := #[{ on := 15, ground := Go.Ground.guard }], guard := some (15, false) }) (v := (.agg #[.int .i64 h'.kind, .int .i64 h'.op, .int .i64 h'.num, .string ⟨h'.text.toArray⟩, .int .i64 h'.ref.row, .int .i64 h'.ref.col, .bool h'.ref.pr, .bool h'.ref.pc, .int .i64 h'.to.row, .int .i64 h'.to.col, .bool h'.to.pr, .bool h'.to.pc, .int .i64 h'.fn, .slice ya yl yc])) rfl (by kernel_rfl) (by kernel_rfl) (by kernel_rfl) (fun _ _ _ h => h) (yieldsIf_load_mid (by rfl) 29 _ rfl w7.heap.size 0 rfl [.int .i64 h'.kind, .int .i64 h'.op, .int .i64 h'.num, .string ⟨h'.text.toArray⟩, .int .i64 h'.ref.row, .int .i64 h'.ref.col, .bool h'.ref.pr, .bool h'.ref.pc, .int .i64 h'.to.row, .int .i64 h'.to.col, .bool h'.to.pr, .bool h'.to.pc, .int .i64 h'.fn, .slice ya yl yc] _ (fun W hW => box_rng ((hW.block _ (lt_of_block B14.out)).trans B14.out)) Try.underlying29 rfl infoExprS) hS1 ?_
                    try simp only [Act.put, List.setIfInBounds_toArray, List.set_cons_zero, List.set_cons_succ]
                    refine wpAnyH_take (i := 17) (oi := { dst := some 159, op := Go.Op.move (Go.Operand.tmp 0), type := 27, pos := "memory.go:93", after := #[{ on := 15, ground := Go.Ground.guard }], guard := some (15, false) }) (v := (.slice (some ⟨b1, off, none⟩) len cap)) rfl (by kernel_rfl) (by kernel_rfl) (by kernel_rfl) (fun _ _ _ h => h) (Or.inl ⟨by rfl, fun W hW => by first | (go_simp; done) | (go_simp; with_reducible rfl)⟩) hS1 ?_
                    try simp only [Act.put, List.setIfInBounds_toArray, List.set_cons_zero, List.set_cons_succ]
                    refine wpAnyH_take (i := 18) (oi := { dst := some 160, op := Go.Op.move (Go.Operand.tmp 7), type := 3, pos := "memory.go:93", after := #[{ on := 15, ground := Go.Ground.guard }], guard := some (15, false) }) (v := (.int .i64 j)) rfl (by kernel_rfl) (by kernel_rfl) (by kernel_rfl) (fun _ _ _ h => h) (Or.inl ⟨by rfl, fun W hW => by first | (go_simp; done) | (go_simp; with_reducible rfl)⟩) hS1 ?_
                    try simp only [Act.put, List.setIfInBounds_toArray, List.set_cons_zero, List.set_cons_succ]
                    refine wpAnyH_take (i := 19) (oi := { dst := some 161, op := Go.Op.indexAddr 27 (Go.Operand.tmp 159) (Go.Operand.tmp 160), type := 0, pos := "memory.go:93", after := #[{ on := 17, ground := Go.Ground.data }, { on := 18, ground := Go.Ground.data }, { on := 15, ground := Go.Ground.guard }], guard := some (15, false) }) (v := (.pointer (some ⟨b1, off + j * 14, none⟩))) rfl (by kernel_rfl) (by kernel_rfl) (by kernel_rfl) (fun _ _ _ h => h) (Or.inl ⟨by rfl, fun W hW => by first | (go_simp; done) | (go_simp; with_reducible rfl)⟩) hS1 ?_
                    try simp only [Act.put, List.setIfInBounds_toArray, List.set_cons_zero, List.set_cons_succ]
                    refine wpAnyH_take (i := 20) (oi := { dst := some 162, op := Go.Op.load 29 (Go.Operand.tmp 161), type := 29, pos := "memory.go:93", after := #[{ on := 19, ground := Go.Ground.data }, { on := 15, ground := Go.Ground.guard }], guard := some (15, false) }) (v := (.agg #[.int .i64 h'.kind, .int .i64 h'.op, .int .i64 h'.num, .string ⟨h'.text.toArray⟩, .int .i64 h'.ref.row, .int .i64 h'.ref.col, .bool h'.ref.pr, .bool h'.ref.pc, .int .i64 h'.to.row, .int .i64 h'.to.col, .bool h'.to.pr, .bool h'.to.pc, .int .i64 h'.fn, .slice ka' kl' kc'])) rfl (by kernel_rfl) (by kernel_rfl) (by kernel_rfl) (fun _ _ _ h => h) (yieldsIf_load_mid (by rfl) 29 _ rfl b1 (off + j * 14) rfl [.int .i64 h'.kind, .int .i64 h'.op, .int .i64 h'.num, .string ⟨h'.text.toArray⟩, .int .i64 h'.ref.row, .int .i64 h'.ref.col, .bool h'.ref.pr, .bool h'.ref.pc, .int .i64 h'.to.row, .int .i64 h'.to.col, .bool h'.to.pr, .bool h'.to.pc, .int .i64 h'.fn, .slice ka' kl' kc'] _ (fun W hW => fun q x hx => (World.cell?_of_block (a := ⟨b1, off + j * 14 + q, none⟩) (hW.block b1 (by omega))).trans (RG.out q x hx)) Try.underlying29 rfl infoExprS) hS1 ?_
                    try simp only [Act.put, List.setIfInBounds_toArray, List.set_cons_zero, List.set_cons_succ]
                    refine wpAnyH_ready (rs := [21]) (by kernel_rfl) (by simp) ?_
                    refine AllReadyH.cons (o := { dst := some 163, op := Go.Op.call { callee := Go.Callee.value (Go.Operand.func 21), args := #[Go.Operand.tmp 158, Go.Operand.tmp 162], argTypes := #[29, 29] }, type := 4, pos := "memory.go:93", after := #[{ on := 16, ground := Go.Ground.data }, { on := 20, ground := Go.Ground.data }, { on := 15, ground := Go.Ground.chain }, { on := 15, ground := Go.Ground.guard }], guard := some (15, false) }) rfl (fun K hK => ?_) AllReadyH.nil
                    refine wanted_wp (by rfl) ?_
                    go_simp
                    go_at_call 21
                    have cc := refEq_any h' k' h' k' _ w20.heap.size w1.heap.size ya ka' yl yc kl' kc' hS1.size (by have := hS1.size; omega) (TVY.out.kept hS1 (Nat.le_refl _)) (TO.out.kept (hS1.mono (by omega)) (Nat.le_refl _))
                    with_reducible refine cc.mono ?_
                    clear cc
                    rintro e w21 ⟨he, bq⟩
                    obtain rfl := he.trans (show _ = Ending.returned (.bool true) by simp [sameB])
                    refine hK.out _ _ (hS1.trans (bq.mono hS1.size)) (fun hS1 => ?_)
                    clear hK K bq
                    try simp only [Act.put, List.setIfInBounds_toArray, List.set_cons_zero, List.set_cons_succ]
                    refine wpAnyH_take (i := 22) (oi := { dst := some 164, op := Go.Op.unOp Go.UnOp.not 4 (Go.Operand.tmp 163), type := 4, pos := "memory.go:93", after := #[{ on := 21, ground := Go.Ground.data }, { on := 15, ground := Go.Ground.guard }], guard := some (15, false) }) (v := (.bool false)) rfl (by kernel_rfl) (by kernel_rfl) (by kernel_rfl) (fun _ _ _ h => h) (Or.inl ⟨by rfl, fun W hW => by first | (go_simp; done) | (go_simp; with_reducible rfl)⟩) hS1 ?_
                    try simp only [Act.put, List.setIfInBounds_toArray, List.set_cons_zero, List.set_cons_succ]
                    refine wpAnyH_take (i := 23) (oi := { dst := some 165, op := Go.Op.pick (Go.Operand.tmp 157) (Go.Operand.const (Go.Value.bool true)) (Go.Operand.tmp 164), type := 4, pos := "memory.go:93", after := #[{ on := 15, ground := Go.Ground.data }, { on := 22, ground := Go.Ground.data }], guard := none }) (v := (.bool false)) rfl (by kernel_rfl) (by kernel_rfl) (by kernel_rfl) (fun _ _ _ h => h) (Or.inl ⟨by rfl, fun W hW => by first | (go_simp; done) | (go_simp; with_reducible rfl)⟩) hS1 ?_
                    try simp only [Act.put, List.setIfInBounds_toArray, List.set_cons_zero, List.set_cons_succ]
                    refine wpAnyH_done (by kernel_rfl) ?_ _
                    refine NoPanic.normal ?_
                    have b21 := hS1
                    clear hS1 TVZ TVY
                    have hs_w21 : w20.heap.size ≤ w21.heap.size := b21.size
                    have bs_ : Below wq.heap.size w20 w21 := b21.mono hw_w20
                    have BW := Lib.hid (BW.out.trans bs_)
                    have TO := Lib.hid (TO.out.kept (bs_.mono hbw) (Nat.le_refl _))
                    have ROW := Lib.hid (ROW.out.kept (bs_.mono hbw) (Nat.le_refl _))
                    have FS := Lib.hid (FS.out.kept (bs_.mono hNw))
                    have RG := Lib.hid (show w21.rangeAt b1 (off + j * 14) [.int .i64 h'.kind, .int .i64 h'.op, .int .i64 h'.num, .string ⟨h'.text.toArray⟩, .int .i64 h'.ref.row, .int .i64 h'.ref.col, .bool h'.ref.pr, .bool h'.ref.pc, .int .i64 h'.to.row, .int .i64 h'.to.col, .bool h'.to.pr, .bool h'.to.pc, .int .i64 h'.fn, .slice ka' kl' kc'] from fun q x hx => (World.cell?_of_block (a := ⟨b1, off + j * 14 + q, none⟩) (bs_.block b1 (by omega))).trans (RG.out q x hx))
                    clear bs_
                    have OY := Lib.hid (OY.out.kept fun q hq => b21.block q (by have := HOY.out q hq; omega))
                    have B14 := Lib.hid ((b21.block w7.heap.size (lt_of_block B14.out)).trans B14.out)
                    have AM := Lib.hid (AM.out.kept fun q hq => b21.block q (by have := HAM.out q hq; omega))
                    have OZ := Lib.hid (OZ.out.kept fun q hq => b21.block q (by have := HOZ.out q hq; omega))
                    have B22 := Lib.hid ((b21.block w18.heap.size (lt_of_block B22.out)).trans B22.out)
                    have hw_w21 : wq.heap.size ≤ w21.heap.size := Nat.le_trans hw_w20 b21.size
                    clear b21
                    obtain ⟨clA, fs2⟩ := FS.out.enter (h := h') (h2 := h') OY.out OZ.out OKH.out OKH.out (AM.out.lower (by omega)) NOY.out NOZ.out (fun x hx => by have := HOY.out x hx; omega) (fun x hx => by have := HOZ.out x hx; omega) (fun x hx => by have := HAM.out x hx; exact ⟨by omega, by omega, fun hm => by have := HOY.out x hm; omega, fun hm => by have := HOZ.out x hm; omega⟩) (fun x hx hm => by have := HOY.out x hx; have := HOZ.out x hm; omega)
                    have FS := Lib.hid fs2
                    have BT := Lib.hid (HBW.out.trans (BW.out.mono hbw))
                    have HSM := Lib.hid (Sml.snoc (h := h') hno (Sml.snoc (h := h') hno HSM.out))
                    have hw1_21 : w1.heap.size ≤ w21.heap.size := by omega
                    have e1 : ((TK.app (.cons h' k' .nil)).app (.cons h' k' .nil)).len = TK.len + 2 := by simp [Trees.app_len, Trees.len]
                    have e2 : (LL ++ [RL]).length = LL.length + 1 := by simp
                    have E1 := Lib.hid e1; have E2 := Lib.hid e2
                    clear fs2 e1 e2
                    go_upto_region 32 with (fail)
                    refine tf_r32 B14 B22 (Lib.hid FS.out.k1) hw1_21 (by omega) (fun x hx => (FS.out.cK x hx).2.1) ?_
                    intro _ _ _ _ _ nK w23 hown bel same loc
                    obtain ⟨clB, fs2⟩ := FS.out.rowK (v' := nK) (nK' := ((TK.app (.cons h' k' .nil)).app (.cons h' k' .nil)).len) (rK' := csK ++ h'.vals (.slice ya yl yc) ++ h'.vals (.slice za zl zc)) (by rw [E1.out, List.append_assoc]; exact hown) bel same loc
                    have FS := Lib.hid fs2
                    clear fs2 hown same loc
                    have bs_ : Below w1.heap.size w21 w23 := bel
                    have BT := Lib.hid (BT.out.trans bs_)
                    have TO := Lib.hid (TO.out.kept bs_ (Nat.le_refl _))
                    have ROW := Lib.hid (ROW.out.kept bs_ (Nat.le_refl _))
                    have RG := Lib.hid (show w23.rangeAt b1 (off + j * 14) [.int .i64 h'.kind, .int .i64 h'.op, .int .i64 h'.num, .string ⟨h'.text.toArray⟩, .int .i64 h'.ref.row, .int .i64 h'.ref.col, .bool h'.ref.pr, .bool h'.ref.pc, .int .i64 h'.to.row, .int .i64 h'.to.col, .bool h'.to.pr, .bool h'.to.pc, .int .i64 h'.fn, .slice ka' kl' kc'] from fun q x hx => (World.cell?_of_block (a := ⟨b1, off + j * 14 + q, none⟩) (bs_.block b1 (by omega))).trans (RG.out q x hx))
                    have ht_w23 : w21.heap.size ≤ w23.heap.size := bs_.size
                    clear bs_
                    clear bel
                    go_upto_region 33 with (fail)
                    refine tf_r33 RG hb1 hji (Lib.hid FS.out.w1) (by omega) (by omega) (fun x hx => (FS.out.cW x hx).2.1) ?_
                    intro _ _ _ _ _ _ _ _ _ _ _ nW w24 hown bel same loc
                    have tsw := (FS.out.w2.snoc (h := h') TO.out (kc := kc')).snoc (h := h') TO.out (kc := kc')
                    obtain ⟨clC, fs2⟩ := FS.out.rowW (v' := nW) (TW' := ((TK.app (.cons h' k' .nil)).app (.cons h' k' .nil))) (csW' := csW ++ h'.vals (.slice ka' kl' kc') ++ h'.vals (.slice ka' kl' kc')) (by rw [E1.out, List.append_assoc]; exact hown) tsw bel same loc
                    have FS := Lib.hid fs2
                    clear fs2 hown same loc tsw
                    have bs_ : Below w1.heap.size w23 w24 := bel
                    have BT := Lib.hid (BT.out.trans bs_)
                    have TO := Lib.hid (TO.out.kept bs_ (Nat.le_refl _))
                    have ROW := Lib.hid (ROW.out.kept bs_ (Nat.le_refl _))
                    have RG := Lib.hid (show w24.rangeAt b1 (off + j * 14) [.int .i64 h'.kind, .int .i64 h'.op, .int .i64 h'.num, .string ⟨h'.text.toArray⟩, .int .i64 h'.ref.row, .int .i64 h'.ref.col, .bool h'.ref.pr, .bool h'.ref.pc, .int .i64 h'.to.row, .int .i64 h'.to.col, .bool h'.to.pr, .bool h'.to.pc, .int .i64 h'.fn, .slice ka' kl' kc'] from fun q x hx => (World.cell?_of_block (a := ⟨b1, off + j * 14 + q, none⟩) (bs_.block b1 (by omega))).trans (RG.out q x hx))
                    have ht_w24 : w23.heap.size ≤ w24.heap.size := bs_.size
                    clear bs_
                    clear bel
                    go_wp2_with (first
                    | (refine wpList_load_rng (N := b1) (off := off + j * 14) (vs := [.int .i64 h'.kind, .int .i64 h'.op, .int .i64 h'.num, .string ⟨h'.text.toArray⟩, .int .i64 h'.ref.row, .int .i64 h'.ref.col, .bool h'.ref.pr, .bool h'.ref.pc, .int .i64 h'.to.row, .int .i64 h'.to.col, .bool h'.to.pr, .bool h'.to.pc, .int .i64 h'.fn, .slice ka' kl' kc']) rfl rfl rfl RG.out rfl ?_))
                    have cc := refAllReads_any h' k' w24 w1.heap.size ka' kl' kc' (by omega) TO.out
                    refine cc.mono ?_
                    clear cc
                    rintro e w25 ⟨vr, rfl, b25, ar⟩
                    rw [ERL.out] at ar
                    obtain ⟨vra, vrc, rfl, -, -⟩ := ar.at_
                    have FS := Lib.hid (FS.out.kept b25)
                    have AR := Lib.hid ar
                    have bel := b25.mono (show w1.heap.size ≤ w24.heap.size by omega)
                    clear ar b25
                    have bs_ : Below w1.heap.size w24 w25 := bel
                    have BT := Lib.hid (BT.out.trans bs_)
                    have TO := Lib.hid (TO.out.kept bs_ (Nat.le_refl _))
                    have ROW := Lib.hid (ROW.out.kept bs_ (Nat.le_refl _))
                    have RG := Lib.hid (show w25.rangeAt b1 (off + j * 14) [.int .i64 h'.kind, .int .i64 h'.op, .int .i64 h'.num, .string ⟨h'.text.toArray⟩, .int .i64 h'.ref.row, .int .i64 h'.ref.col, .bool h'.ref.pr, .bool h'.ref.pc, .int .i64 h'.to.row, .int .i64 h'.to.col, .bool h'.to.pr, .bool h'.to.pc, .int .i64 h'.fn, .slice ka' kl' kc'] from fun q x hx => (World.cell?_of_block (a := ⟨b1, off + j * 14 + q, none⟩) (bs_.block b1 (by omega))).trans (RG.out q x hx))
                    have ht_w25 : w24.heap.size ≤ w25.heap.size := bs_.size
                    clear bs_
                    clear bel
                    obtain ⟨clE, fs2⟩ := FS.out.enterS (l := RL) (m := (Value.slice vra RL.length vrc)) (AR.out.lower (by omega)) (fun x hx => by have := AR.out.lt x hx; exact ⟨by omega, by omega⟩)
                    have FS := Lib.hid fs2
                    clear fs2
                    try clear hsz
                    try clear hno
                    try clear hRL
                    try clear cc
                    try clear LT
                    try clear OT
                    try clear HT
                    try clear NT
                    try clear hs_w3
                    try clear bs_
                    try clear BW
                    try clear TO
                    try clear RG
                    try clear hw_w3
                    try clear bx
                    try clear bb
                    try clear B11
                    try clear lB11
                    try clear hs_w4
                    try clear hw_w4
                    try clear OX
                    try clear HOX
                    try clear NOX
                    try clear hs_w5
                    try clear hw_w5
                    try clear B12
                    try clear lB12
                    try clear hs_w6
                    try clear hw_w6
                    try clear OY
                    try clear HOY
                    try clear NOY
                    try clear hs_w7
                    try clear hw_w7
                    try clear B14
                    try clear lB14
                    try clear hs_w8
                    try clear hw_w8
                    try clear GAL
                    try clear AL
                    try clear HAL
                    try clear hs_w9
                    try clear hw_w9
                    try clear GAM
                    try clear AM
                    try clear HAM
                    try clear hs_w10
                    try clear hw_w10
                    try clear TVX
                    try clear b11
                    try clear hs_w12
                    try clear hw_w12
                    try clear HG
                    try clear hroom
                    try clear H3
                    try clear hqi
                    try clear hq0
                    try clear EW
                    try clear sp
                    try clear hs_w13
                    try clear hw_w13
                    try clear hci
                    try clear h4
                    try clear SP4
                    try clear hob
                    try clear HOB4
                    try clear HOW4
                    try clear hs_w14
                    try clear hw_w14
                    try clear hs_w15
                    try clear hw_w15
                    try clear hs_w16
                    try clear hw_w16
                    try clear hs_w17
                    try clear hw_w17
                    try clear OZ
                    try clear HOZ
                    try clear NOZ
                    try clear hs_w18
                    try clear hw_w18
                    try clear B22
                    try clear lB22
                    try clear hs_w19
                    try clear hw_w19
                    try clear bd
                    try clear LTd
                    try clear OTd
                    try clear TOd
                    try clear OKH
                    try clear hs_w20
                    try clear hw_w20
                    try clear TVZ
                    try clear TVY
                    try clear b21
                    try clear hs_w21
                    try clear hw_w21
                    try clear hw1_21
                    try clear e1
                    try clear e2
                    try clear ht_w23
                    try clear tsw
                    try clear ht_w24
                    try clear AR
                    try clear bel
                    try clear ht_w25
                    try clear s1
                    try clear s2
                    try clear s3
                    try clear RL
                    try clear ERL
                    try clear q
                    try clear cs
                    try clear hq
                    try clear HOW
                    try clear HSP
                    try clear g
                    try clear cp
                    try clear cur
                    try clear hva
                    try clear hg0
                    try clear hcur
                    try clear h1
                    try clear h2_
                    try clear h3
                    try clear cur2
                    try clear c1
                    try clear c2
                    try clear w13
                    try clear nm
                    try clear hnm
                    try clear hwc
                    try clear la
                    try clear m
                    try clear lc
                    try clear cs3
                    try clear hm1
                    try clear hm2
                    try clear HOB
                    try clear HSP3
                    try clear i0
                    try clear hi
                    try clear hz0
                    try clear hz1
                    try clear hz2
                    try clear w14
                    try clear clA
                    try clear fs2
                    try clear clB
                    try clear clC
                    try clear clE
                    try clear HBW
                    try clear hb1
                    try clear hbw
                    try clear hNw
                    try clear hw_wq
                    try clear FN
                    try clear HROW
                    try clear HTS
                    try clear hm
                    try clear rest
                    try clear hsz
                    try clear hno
                    try clear hRL
                    try clear cc
                    try clear LT
                    try clear OT
                    try clear HT
                    try clear NT
                    try clear hs_w3
                    try clear bs_
                    try clear BW
                    try clear TO
                    try clear RG
                    try clear hw_w3
                    try clear bx
                    try clear bb
                    try clear B11
                    try clear lB11
                    try clear hs_w4
                    try clear hw_w4
                    try clear OX
                    try clear HOX
                    try clear NOX
                    try clear hs_w5
                    try clear hw_w5
                    try clear B12
                    try clear lB12
                    try clear hs_w6
                    try clear hw_w6
                    try clear OY
                    try clear HOY
                    try clear NOY
                    try clear hs_w7
                    try clear hw_w7
                    try clear B14
                    try clear lB14
                    try clear hs_w8
                    try clear hw_w8
                    try clear GAL
                    try clear AL
                    try clear HAL
                    try clear hs_w9
                    try clear hw_w9
                    try clear GAM
                    try clear AM
                    try clear HAM
                    try clear hs_w10
                    try clear hw_w10
                    try clear TVX
                    try clear b11
                    try clear hs_w12
                    try clear hw_w12
                    try clear HG
                    try clear hroom
                    try clear H3
                    try clear hqi
                    try clear hq0
                    try clear EW
                    try clear sp
                    try clear hs_w13
                    try clear hw_w13
                    try clear hci
                    try clear h4
                    try clear SP4
                    try clear hob
                    try clear HOB4
                    try clear HOW4
                    try clear hs_w14
                    try clear hw_w14
                    try clear hs_w15
                    try clear hw_w15
                    try clear hs_w16
                    try clear hw_w16
                    try clear hs_w17
                    try clear hw_w17
                    try clear OZ
                    try clear HOZ
                    try clear NOZ
                    try clear hs_w18
                    try clear hw_w18
                    try clear B22
                    try clear lB22
                    try clear hs_w19
                    try clear hw_w19
                    try clear bd
                    try clear LTd
                    try clear OTd
                    try clear TOd
                    try clear OKH
                    try clear hs_w20
                    try clear hw_w20
                    try clear TVZ
                    try clear TVY
                    try clear b21
                    try clear hs_w21
                    try clear hw_w21
                    try clear hw1_21
                    try clear e1
                    try clear e2
                    try clear ht_w23
                    try clear tsw
                    try clear ht_w24
                    try clear AR
                    try clear bel
                    try clear ht_w25
                    try clear s1
                    try clear s2
                    try clear s3
                    try clear RL
                    try clear ERL
                    try clear q
                    try clear cs
                    try clear hq
                    try clear HOW
                    try clear HSP
                    try clear g
                    try clear cp
                    try clear cur
                    try clear hva
                    try clear hg0
                    try clear hcur
                    try clear h1
                    try clear h2_
                    try clear h3
                    try clear cur2
                    try clear c1
                    try clear c2
                    try clear w13
                    try clear nm
                    try clear hnm
                    try clear hwc
                    try clear la
                    try clear m
                    try clear lc
                    try clear cs3
                    try clear hm1
                    try clear hm2
                    try clear HOB
                    try clear HSP3
                    try clear i0
                    try clear hi
                    try clear hz0
                    try clear hz1
                    try clear hz2
                    try clear w14
                    try clear clA
                    try clear fs2
                    try clear clB
                    try clear clC
                    try clear clE
                    try clear HBW
                    try clear hb1
                    try clear hbw
                    try clear hNw
                    try clear hw_wq
                    try clear FN
                    try clear HROW
                    try clear HTS
                    try clear hm
                    try clear rest
                    go_upto_region 35 with (fail)
                    refine tf_r35 (Lib.hid FS.out.l1) BT.out.size (by omega) (fun x hx => (FS.out.cL x hx).2.1) ?_
                    intro _ _ _ _ nL w26 hown bel same loc
                    obtain ⟨clD, fs2⟩ := FS.out.rowL (v' := nL) (by rw [← E2.out] at hown; exact hown) bel same loc
                    have FS := Lib.hid fs2
                    have BT := Lib.hid (BT.out.trans bel)
                    have ROW := Lib.hid (ROW.out.kept bel (Nat.le_refl _))
                    clear fs2 hown same loc bel
                    go_upto_region 36 with (fail)
                    refine tf_r36 (Lib.hid FS.out.s1) BT.out.size (by omega) (fun x hx => (FS.out.cS x hx).2.1) ?_
                    intro _ _ _ _ nS w27 hown bel same loc
                    obtain ⟨clF, fs2⟩ := FS.out.rowS (v' := nS) (by rw [← E2.out] at hown; exact hown) bel same loc
                    have FS := Lib.hid fs2
                    have BT := Lib.hid (BT.out.trans bel)
                    have ROW := Lib.hid (ROW.out.kept bel (Nat.le_refl _))
                    clear fs2 hown same loc bel
                    go_upto_region 7 with (fail)
                    refine tf_r7 (by omega) ?_
                    intro v40_ v41_
                    refine And.intro ?_ ?_
                    · refine tf_wi ?_
                      exact ⟨j + 1, r', _, _, (TK.app (.cons h' k' .nil)).app (.cons h' k' .nil), LL ++ [RL], _, _, _, _, _, _, _, by go_num, Lib.hid (by have := HJ.out; simp only [Trees.len] at this; omega), ROW, FS, by have := E1.out; omega, by have := E2.out; omega, by omega, HSM, BT⟩
                    · show len - ((j : Int) + 1).toNat < len - ((j : Int)).toNat
                      have := HJ.out; simp only [Trees.len] at this; omega
        · have hsz : 512 < sizeN h' k' := by obtain ⟨s1, s2, s3⟩ := size_no f; omega
          clear f
          go_wp2
          refine ⟨⟨j + 1, r', N, cl, TK, LL, csK, csW, csL, csS, FK, GL, GS, by go_num, Lib.hid (by have := HJ.out; simp only [Trees.len] at this; omega), ROW, FS, by omega, by omega, by omega, HSM, Lib.hid (HBW.out.trans (BW.out.mono hbw))⟩, by simp [intOf]; have := HJ.out; simp only [Trees.len] at this; omega⟩
      · have hji : (j : Int) < (len : Int) := by omega
        have hj2' : ¬ (j : Int) < 200 := by omega
        obtain ⟨aK, kK, eK⟩ := own_slice FS.out.k1
        obtain ⟨aW, kW, eW⟩ := own_slice FS.out.w1
        obtain ⟨aL, kL, eL⟩ := own_slice FS.out.l1
        obtain ⟨aS, kS, eS⟩ := own_slice FS.out.s1
        subst eK eW eL eS
        have hNq : N ≤ wq.heap.size := FS.out.hN
        have hbN : w1.heap.size ≤ N := FS.out.hb
        clear HR
        go_wp2_with fail
        refine tf_loop4 FS HSM (by omega) ?_
        intros
        rename_i w5 hsp
        have HSP := Lib.hid hsp
        clear hsp
        go_wp2_with fail
        refine tf_loop5 FS HSP (by omega) ?_
        intros
        rename_i w6 hsp
        have HSP5 := Lib.hid hsp
        clear hsp
        go_wp2_with fail
        go_ret
        have hq5 : wq.heap.size ≤ w5.heap.size := HSP.out.size
        exact ⟨rfl, B1.out.trans (((HBW.out.trans (HSP.out.below (by omega) (fun x hx => (FS.out.cF x hx).2.1))).trans (HSP5.out.below (by omega) (fun x hx => (FS.out.cG x hx).2.1))).mono hs1)⟩
    · have hji : ¬ (j : Int) < (len : Int) := by omega
      obtain ⟨aK, kK, eK⟩ := own_slice FS.out.k1
      obtain ⟨aW, kW, eW⟩ := own_slice FS.out.w1
      obtain ⟨aL, kL, eL⟩ := own_slice FS.out.l1
      obtain ⟨aS, kS, eS⟩ := own_slice FS.out.s1
      subst eK eW eL eS
      have hNq : N ≤ wq.heap.size := FS.out.hN
      have hbN : w1.heap.size ≤ N := FS.out.hb
      clear HR
      go_wp2_with fail
      refine tf_loop4 FS HSM (by omega) ?_
      intros
      rename_i w5 hsp
      have HSP := Lib.hid hsp
      clear hsp
      go_wp2_with fail
      refine tf_loop5 FS HSP (by omega) ?_
      intros
      rename_i w6 hsp
      have HSP5 := Lib.hid hsp
      clear hsp
      go_wp2_with fail
      go_ret
      have hq5 : wq.heap.size ≤ w5.heap.size := HSP.out.size
      exact ⟨rfl, B1.out.trans (((HBW.out.trans (HSP.out.below (by omega) (fun x hx => (FS.out.cF x hx).2.1))).trans (HSP5.out.below (by omega) (fun x hx => (FS.out.cG x hx).2.1))).mono hs1)⟩
end Go.Proofs.Ytkjfeakbhfkldaa
