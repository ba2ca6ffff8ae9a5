/- CompAll: every tree; it stays as it is: the walk. -/
import Derived.Test.YtlmpiobdgkmmgaaGreatDoorKcS
import Derived.Test.YtlmpiobdgkmmgaaGreatDoorKeB
import Derived.Test.YtlmpiobdgkmmgaaGreatDoorKfC
namespace Go.Proofs.YtlmpiobdgkmmgaaGreatDoor
open Go.RowKit Go.Lib

theorem box_rng {w : World} {N : Nat} {cs : Array Value} {T : TypeId} (h : w.heap[N]? = some (.cells cs T (0, 0))) : w.rangeAt N 0 cs.toList := fun j v hv => by rw [cells_of_block h, ← hv]; simp
theorem OwnV.tv {w : World} {h : Hd} {ks : Trees} {a : Option Addr} {l c : Nat} {F : List Nat} (o : OwnV w ks (.slice a l c) F) (hF : ∀ b ∈ F, b < w.heap.size) (ok : h.ok) : TreeV w w.heap.size h ks a l := by
  obtain ⟨ka', kc', e', t'⟩ := o.tree (Nat.le_refl _) hF ok
  simp only [Value.slice.injEq] at e'
  obtain ⟨rfl, rfl, rfl⟩ := e'
  exact t'
theorem blk_below8 {w w' : World} {X : Nat} {o : Obj} (b : Below w.heap.size w w') (h : w.heap[X]? = some o) : w'.heap[X]? = some o := (b.block X (lt_of_block h)).trans h
theorem mayE_big {h : Hd} {k : Trees} (f : ¬ Fine h k) : mayE h k = 2 := by rw [mayE, if_neg f]
theorem mayE_fine {h : Hd} {k : Trees} (f : Fine h k) : mayE h k ≠ 2 := by rw [mayE, if_pos f]; split <;> decide
theorem codeA_may {b : Nat} {W : World} {vI vC : Value} {h : Hd} {ks : Trees} (c : CodeV b W vI vC (codeT h ks).1 (codeT h ks).2) : CodeA W W.heap.size vI vC (codeT h ks).1 (codeT h ks).2 := c.ofT (Nat.le_refl _) fun m => by have := may_nodes m; omega
theorem codeA_none (W : World) (b : Nat) : CodeA W b (.slice none 0 0) (.slice none 0 0) [] [] :=
  ⟨⟨none, 0, rfl, fun h => absurd h (by simp)⟩, ⟨none, 0, rfl, fun h => absurd h (by simp)⟩, fun p hp => by simp at hp, by simp, by simp, by simp [longS]⟩
def CaRel (w : World) (len : Nat) (a : Option Addr) (wr : World) (i : Value) : Prop :=
  ∃ (j : Nat) (rest : Trees), i = .int .i64 j ∧ j + rest.len = len ∧ (RowIn w w.heap.size rest a j ∧ CapsIn w w.heap.size rest a j) ∧ Hid (Below w.heap.size w wr)
set_option maxRecDepth 1000000 in
set_option maxHeartbeats 16000000 in
theorem compAll_any (w : World) (a : Option Addr) (len cap : Nat) (ts : Trees) (hl : len = ts.len) (hmax : len ≤ 9223372036854775807) (row : RowIn w w.heap.size ts a 0) (cps : CapsIn w w.heap.size ts a 0) : Calls Tryz.prog 3 #[.slice a len cap] w (TruePost w) := by
  have ROW := Lib.hid row; have HL := Lib.hid hl; have CPS := Lib.hid cps
  clear row hl cps
  go_enter Tryz.func3, Tryz.ntmps3
  go_wp2_with fail
  refine (begun17_any w).mono ?_
  rintro e w1 ⟨rfl, b1⟩
  have B1 := Lib.hid b1
  clear b1
  go_wp2
  go_loopw [3] (fun i wr => CaRel w len a wr i) (fun i _ => len - (RowKit.intOf i).toNat)
  case atStart => exact ⟨0, ts, rfl, (by have := HL.out; omega), ⟨ROW.out, CPS.out⟩, B1⟩
  case round =>
    obtain ⟨j, rest, rfl, hj, ⟨hrow, hcap⟩, HB⟩ := hrel
    have hbw : w.heap.size ≤ wr.heap.size := HB.out.size
    by_cases hlt : j < len
    · obtain ⟨h', k', r', rfl⟩ : ∃ h' k' r', rest = .cons h' k' r' := by
        cases rest with
        | nil => exact absurd hj (by simp only [Trees.len]; omega)
        | cons x y z => exact ⟨x, y, z, rfl⟩
      obtain ⟨b1, off, ka', kl', kc', rfl, hb1, nd0, tv0⟩ := hrow.head
      obtain ⟨q1, q2, q3⟩ := caps_head nd0 hcap
      have HR := Lib.hid (And.intro hrow.2 q3)
      have ND := Lib.hid nd0; have TO := Lib.hid (show TreeCp w w.heap.size h' k' ka' kl' kc' from ⟨tv0, q1, q2⟩)
      have ND1 := Lib.hid (nd0.kept HB.out hb1)
      have hji : (j : Int) < (len : Int) := by omega
      have hj0 : (0 : Int) ≤ (j : Int) := by omega
      simp only [Trees.len] at hj
      have HJ := Lib.hid hj
      clear hrow nd0 tv0 hj hcap q1 q2 q3
      go_wp2_with (refine cpLoad ND1.out rfl rfl rfl ?_)
      refine (rformula_code h' k' wr w.heap.size ka' kl' kc' hbw (TO.out.kept HB.out)).mono ?_
      rintro e w2 ⟨vI, vC, rfl, c2, b2⟩
      obtain ⟨a1, k1, a2, k2, rfl, rfl⟩ := c2.slices
      have Q2 := Lib.hid (codeA_may c2)
      have B2 := Lib.hid (HB.out.trans (b2.mono hbw))
      have hs2 : w.heap.size ≤ w2.heap.size := B2.out.size
      clear b2 c2 ND1 HB
      obtain ⟨ni, hni⟩ : ∃ ni, (codeT h' k').1.length = ni := ⟨_, rfl⟩
      obtain ⟨nc, hnc⟩ : ∃ nc, (codeT h' k').2.length = nc := ⟨_, rfl⟩
      have HNI := Lib.hid hni; have HNC := Lib.hid hnc
      rw [hni, hnc] at Q2 ⊢
      obtain ⟨me, hme⟩ : ∃ me, mayE h' k' = me := ⟨_, rfl⟩
      have HME := Lib.hid hme
      rw [hme]
      clear hni hnc hme
      go_upto_region 7 with (fail)
      obtain ⟨w3, hw3⟩ : ∃ w3, w3 = w2.alloc (.cells #[.slice a1 ni k1, .slice a2 nc k2] 27) := ⟨_, rfl⟩
      rw [← hw3]
      obtain ⟨X, hX⟩ : ∃ X, w2.heap.size = X := ⟨_, rfl⟩
      have bx3 : w3.heap[X]? = some (.cells #[.slice a1 ni k1, .slice a2 nc k2] 27 (0, 0)) := by rw [hw3, ← hX]; exact heap_alloc_new _ _
      have b3 : Below X w2 w3 := by rw [hw3, ← hX]; exact ext_alloc (Below.refl _ _) _
      rw [hX] at Q2 hs2 ⊢
      have Q3 := Lib.hid (Q2.out.kept b3)
      have B3 := Lib.hid (B2.out.trans (b3.mono hs2))
      have hx3 : X < w3.heap.size := lt_of_block bx3
      have BX3 := Lib.hid bx3
      have hs3 : w.heap.size ≤ w3.heap.size := B3.out.size
      clear hw3 hX bx3 b3 Q2 B2
      have ND3 := Lib.hid (ND.out.kept B3.out hb1)
      by_cases f : Fine h' k'
      rotate_left
      · have hm : me = 2 := HME.out.symm.trans (mayE_big f)
        subst hm
        clear f
        have TF3 := Lib.hid (TO.out.toTreeV.kept B3.out (Nat.le_refl _))
        go_wp2_with (refine cpLoad ND3.out rfl rfl rfl ?_)
        refine (formula_code h' k' w3 w.heap.size ka' kl' kc' hs3 TF3.out).mono ?_
        rintro e w4 ⟨vI, vC, rfl, c4, b4⟩
        obtain ⟨a3, k3, a4, k4, rfl, rfl⟩ := c4.slices
        have P4 := Lib.hid (codeA_may c4)
        have CT := Lib.hid (codeT_none (h := h') (ks := k') (by rw [HME.out]; decide))
        rw [HNI.out, HNC.out] at P4 ⊢
        rw [HME.out]
        have B4 := Lib.hid (B3.out.trans (b4.mono hs3))
        clear b4 c4
        go_upto_region 9 with (fail)
        obtain ⟨w5, hw5⟩ : ∃ w5, w5 = w4.alloc (.cells #[.slice a3 ni k3, .slice a4 nc k4] 27) := ⟨_, rfl⟩
        rw [← hw5]
        obtain ⟨Y, hY⟩ : ∃ Y, w4.heap.size = Y := ⟨_, rfl⟩
        have bx5 : w5.heap[Y]? = some (.cells #[.slice a3 ni k3, .slice a4 nc k4] 27 (0, 0)) := by rw [hw5, ← hY]; exact heap_alloc_new _ _
        have b5 : Below Y w4 w5 := by rw [hw5, ← hY]; exact ext_alloc (Below.refl _ _) _
        rw [hY] at P4 ⊢
        have P5 := Lib.hid (P4.out.kept b5)
        have B5 := Lib.hid (B4.out.trans (b5.mono (by rw [← hY]; exact B4.out.size)))
        have hy5 : Y < w5.heap.size := lt_of_block bx5
        have c0 : w5.cell? ⟨Y, 0, none⟩ = some (.slice a3 ni k3) := (cells_of_block bx5 0).trans rfl
        have c1 : w5.cell? ⟨Y, 1, none⟩ = some (.slice a4 nc k4) := (cells_of_block bx5 1).trans rfl
        clear hw5 hY bx5 b5 P4
        go_wp2_with fail
        refine (eq17_any w5 P5.out (codeA_none w5 w5.heap.size) (Nat.le_of_lt hy5) (Nat.le_refl _)).mono ?_
        rintro e w6 ⟨rfl, b6⟩
        rw [CT.out, EqB_self]
        have B6 := Lib.hid (B5.out.trans (b6.mono B5.out.size))
        clear b6
        go_wp2
        go_roundw
        case rel => exact ⟨j + 1, r', by go_num, (by have := HJ.out; omega), HR.out, B6⟩
        case measure => simp [RowKit.intOf]; omega
      · have hno : k'.nodes ≤ 100000 := by have := f.1; omega
        have hm : me ≠ 2 := fun q => mayE_fine f (HME.out.trans q)
        clear f
        have TF3 := Lib.hid (TO.out.toTreeV.kept B3.out (Nat.le_refl _))
        go_wp2_with (refine cpLoad ND3.out rfl rfl rfl ?_)
        have cc := lay_any h' k' w3 w.heap.size ka' kl' kc' hs3 TF3.out hno
        refine cc.mono ?_
        clear cc
        rintro e w4 ⟨ta, tl, tc, Ft, rfl, b4, ft, lt⟩
        have LT := Lib.hid lt
        have OT := Lib.hid ft.own
        have HT := Lib.hid (show ∀ q ∈ Ft, w3.heap.size ≤ q ∧ q < w4.heap.size from fun q hq => ⟨ft.new q hq, ft.lt q hq⟩)
        have NT := Lib.hid ft.once
        have B4 := Lib.hid (B3.out.trans (b4.mono hs3))
        have Q4 := Lib.hid (Q3.out.kept (b4.mono (Nat.le_of_lt hx3)))
        have BX4 := Lib.hid (blk_below8 b4 BX3.out)
        have hs4 : w3.heap.size ≤ w4.heap.size := b4.size
        clear lt ft b4 Q3 BX3 TF3
        go_upto_region 12 with (first
        | (refine wpList_store_mem (N := w4.heap.size) (off := 0) (vs := [.int .i64 h'.kind, .int .i64 h'.op, .int .i64 h'.num, .string ⟨h'.text.toArray⟩, .int .i64 h'.ref.row, .int .i64 h'.ref.col, .bool h'.ref.pr, .bool h'.ref.pc, .int .i64 h'.to.row, .int .i64 h'.to.col, .bool h'.to.pr, .bool h'.to.pc, .int .i64 h'.fn, .slice ta tl tc]) infoExprS rfl rfl rfl rfl (heap_alloc_new w4 (.cells #[.int .i64 0, .int .i64 0, .int .i64 0, .string ⟨#[]⟩, .int .i64 0, .int .i64 0, .bool false, .bool false, .int .i64 0, .int .i64 0, .bool false, .bool false, .int .i64 0, .slice none 0 0] 34)) (by simp) rfl (by simp [Value.oneCell']) ?_
           intro w5 hWn
           have BT5 := Lib.hid (show w5.heap[w4.heap.size]? = some (.cells #[.int .i64 h'.kind, .int .i64 h'.op, .int .i64 h'.num, .string ⟨h'.text.toArray⟩, .int .i64 h'.ref.row, .int .i64 h'.ref.col, .bool h'.ref.pr, .bool h'.ref.pc, .int .i64 h'.to.row, .int .i64 h'.to.col, .bool h'.to.pr, .bool h'.to.pc, .int .i64 h'.fn, .slice ta tl tc] 34 (0, 0)) by rw [hWn]; exact setCells_all (vs := [.int .i64 h'.kind, .int .i64 h'.op, .int .i64 h'.num, .string ⟨h'.text.toArray⟩, .int .i64 h'.ref.row, .int .i64 h'.ref.col, .bool h'.ref.pr, .bool h'.ref.pc, .int .i64 h'.to.row, .int .i64 h'.to.col, .bool h'.to.pr, .bool h'.to.pc, .int .i64 h'.fn, .slice ta tl tc]) (heap_alloc_new w4 (.cells #[.int .i64 0, .int .i64 0, .int .i64 0, .string ⟨#[]⟩, .int .i64 0, .int .i64 0, .bool false, .bool false, .int .i64 0, .int .i64 0, .bool false, .bool false, .int .i64 0, .slice none 0 0] 34)) rfl)
           have BN := Lib.hid (show Below w4.heap.size w4 w5 by rw [hWn]; exact setCells_below (Nat.le_refl _) _ _ (ext_alloc (Below.refl _ w4) _))
           have hs5 : w4.heap.size < w5.heap.size := lt_of_block BT5.out
           have B5 := Lib.hid (B4.out.trans (BN.out.mono (Nat.le_trans hs3 hs4)))
           clear hWn))
        have LT5 := Lib.hid (LT.out.kept (ok' := fun q => w3.heap.size ≤ q ∧ q < w4.heap.size) fun q hq => ⟨hq, BN.out.block q hq.2⟩)
        have OT5 := Lib.hid (OT.out.kept fun q hq => BN.out.block q (HT.out q hq).2)
        have TV5 := Lib.hid (OT5.out.tv (h := h') (fun q hq => by have := HT.out q hq; omega) LT.out.hok)
        have Q5 := Lib.hid (Q4.out.kept (BN.out.mono (by omega)))
        have BX5 := Lib.hid (blk_below8 BN.out BX4.out)
        have NT5 := Lib.hid (box_at BT5.out)
        clear LT OT BN Q4 BX4
        go_wp2_with (refine cpLoad NT5.out rfl rfl rfl ?_)
        refine (formula_code h' k' w5 w5.heap.size ta tl tc (Nat.le_refl _) TV5.out).mono ?_
        rintro e w6 ⟨vI, vC, rfl, c6, b6⟩
        obtain ⟨a3, k3, a4, k4, rfl, rfl⟩ := c6.slices
        have P6 := Lib.hid c6
        rw [HNI.out, HNC.out] at P6 ⊢
        rw [HME.out]
        have LT6 := Lib.hid (LT5.out.kept (ok' := fun q => w3.heap.size ≤ q ∧ q < w4.heap.size) fun q hq => ⟨hq, b6.block q (by omega)⟩)
        have OT6 := Lib.hid (OT5.out.kept fun q hq => b6.block q (by have := HT.out q hq; omega))
        have BT6 := Lib.hid (blk_below8 b6 BT5.out)
        have Q6 := Lib.hid (Q5.out.kept (b6.mono (by omega)))
        have BX6 := Lib.hid (blk_below8 b6 BX5.out)
        have hs6 : w5.heap.size ≤ w6.heap.size := b6.size
        have B6 := Lib.hid (B5.out.trans (b6.mono (by omega)))
        clear b6 c6 LT5 OT5 TV5 BT5 Q5 BX5 NT5
        go_upto_region 13 with (fail)
        obtain ⟨w7, hw7⟩ : ∃ w7, w7 = w6.alloc (.cells #[.slice a3 ni k3, .slice a4 nc k4] 27) := ⟨_, rfl⟩
        rw [← hw7]
        obtain ⟨Y, hY⟩ : ∃ Y, w6.heap.size = Y := ⟨_, rfl⟩
        have by7 : w7.heap[Y]? = some (.cells #[.slice a3 ni k3, .slice a4 nc k4] 27 (0, 0)) := by rw [hw7, ← hY]; exact heap_alloc_new _ _
        have b7 : Below w6.heap.size w6 w7 := by rw [hw7]; exact ext_alloc (Below.refl _ _) _
        have P7 := Lib.hid (P6.out.keep (fun x _ hx => b7.block x hx) b7.size)
        have hs7 : w6.heap.size < w7.heap.size := by rw [hw7]; simp
        have LT := Lib.hid (LT6.out.kept (ok' := fun q => w3.heap.size ≤ q ∧ q < w4.heap.size) fun q hq => ⟨hq, b7.block q (by omega)⟩)
        have OT := Lib.hid (OT6.out.kept fun q hq => b7.block q (by have := HT.out q hq; omega))
        have BX7 := Lib.hid (blk_below8 b7 BT6.out)
        have Q7 := Lib.hid (Q6.out.kept (b7.mono (by omega)))
        have BQ7 := Lib.hid (blk_below8 b7 BX6.out)
        have BY7 := Lib.hid by7
        have B7 := Lib.hid (B6.out.trans (b7.mono (by omega)))
        have hY6 : w6.heap.size ≤ Y ∧ Y < w7.heap.size := by omega
        rw [hY]
        clear hw7 by7 b7 P6 LT6 OT6 BT6 Q6 BX6 hY
        refine wp_region_noPanic ?_
        refine wp_region_held_drew (S := fun W => Spd Ft w7 W) (by kernel_rfl) (Spd.of (Below.refl _ _).drew) (fun hS1 => ?_)
        have bd : Below w7.heap.size w7 w7.drew := (Below.refl _ _).drew
        have LTd := Lib.hid (LT.out.kept (ok' := fun q => w3.heap.size ≤ q ∧ q < w4.heap.size) fun q hq => ⟨hq, bd.block q (by omega)⟩)
        have OTd := Lib.hid (OT.out.kept fun q hq => bd.block q (by have := HT.out q hq; omega))
        have TOd := Lib.hid ((TO.out.toTreeV.kept B7.out (Nat.le_refl _)).kept (bd.mono (by omega)) (Nat.le_refl _))
        clear bd
        refine wpAnyH_take (i := 0) (oi := { dst := some 57, op := Go.Op.load 34 (Go.Operand.tmp 8), type := 34, pos := "law.go:66", after := #[], guard := none }) (v := (.agg #[.int .i64 h'.kind, .int .i64 h'.op, .int .i64 h'.num, .string ⟨h'.text.toArray⟩, .int .i64 h'.ref.row, .int .i64 h'.ref.col, .bool h'.ref.pr, .bool h'.ref.pc, .int .i64 h'.to.row, .int .i64 h'.to.col, .bool h'.to.pr, .bool h'.to.pc, .int .i64 h'.fn, .slice ta tl tc])) rfl (by kernel_rfl) (by kernel_rfl) (by kernel_rfl) (fun _ _ _ h => h) (yieldsIf_load_mid (by rfl) 34 _ rfl w4.heap.size 0 rfl [.int .i64 h'.kind, .int .i64 h'.op, .int .i64 h'.num, .string ⟨h'.text.toArray⟩, .int .i64 h'.ref.row, .int .i64 h'.ref.col, .bool h'.ref.pr, .bool h'.ref.pc, .int .i64 h'.to.row, .int .i64 h'.to.col, .bool h'.to.pr, .bool h'.to.pc, .int .i64 h'.fn, .slice ta tl tc] _ (fun W hW => box_rng ((hW.same w4.heap.size (lt_of_block BX7.out) (fun hm => by have := HT.out _ hm; omega)).trans BX7.out)) Tryz.underlying34 rfl infoExprS) hS1 ?_
        try simp only [Act.put, List.setIfInBounds_toArray, List.set_cons_zero, List.set_cons_succ]
        refine wpAnyH_take (i := 1) (oi := { dst := some 58, op := Go.Op.move (Go.Operand.tmp 0), type := 22, pos := "law.go:66", after := #[], guard := none }) (v := (.slice (some ⟨b1, off, none⟩) len cap)) rfl (by kernel_rfl) (by kernel_rfl) (by kernel_rfl) (fun _ _ _ h => h) (Or.inl ⟨by rfl, fun W hW => by first | (go_simp; done) | (go_simp; with_reducible rfl)⟩) hS1 ?_
        try simp only [Act.put, List.setIfInBounds_toArray, List.set_cons_zero, List.set_cons_succ]
        refine wpAnyH_take (i := 2) (oi := { dst := some 59, op := Go.Op.move (Go.Operand.tmp 3), type := 3, pos := "law.go:66", after := #[], guard := none }) (v := (.int .i64 j)) rfl (by kernel_rfl) (by kernel_rfl) (by kernel_rfl) (fun _ _ _ h => h) (Or.inl ⟨by rfl, fun W hW => by first | (go_simp; done) | (go_simp; with_reducible rfl)⟩) hS1 ?_
        try simp only [Act.put, List.setIfInBounds_toArray, List.set_cons_zero, List.set_cons_succ]
        refine wpAnyH_take (i := 3) (oi := { dst := some 60, op := Go.Op.indexAddr 22 (Go.Operand.tmp 58) (Go.Operand.tmp 59), type := 0, pos := "law.go:66", after := #[{ on := 1, ground := Go.Ground.data }, { on := 2, ground := Go.Ground.data }], guard := none }) (v := (.pointer (some ⟨b1, off + j * 14, none⟩))) rfl (by kernel_rfl) (by kernel_rfl) (by kernel_rfl) (fun _ _ _ h => h) (Or.inl ⟨by rfl, fun W hW => by first | (go_simp; done) | (go_simp; with_reducible rfl)⟩) hS1 ?_
        try simp only [Act.put, List.setIfInBounds_toArray, List.set_cons_zero, List.set_cons_succ]
        refine wpAnyH_take (i := 4) (oi := { dst := some 61, op := Go.Op.load 34 (Go.Operand.tmp 60), type := 34, pos := "law.go:66", after := #[{ on := 3, ground := Go.Ground.data }], guard := none }) (v := (.agg #[.int .i64 h'.kind, .int .i64 h'.op, .int .i64 h'.num, .string ⟨h'.text.toArray⟩, .int .i64 h'.ref.row, .int .i64 h'.ref.col, .bool h'.ref.pr, .bool h'.ref.pc, .int .i64 h'.to.row, .int .i64 h'.to.col, .bool h'.to.pr, .bool h'.to.pc, .int .i64 h'.fn, .slice ka' kl' kc'])) rfl (by kernel_rfl) (by kernel_rfl) (by kernel_rfl) (fun _ _ _ h => h) (yieldsIf_load_mid (by rfl) 34 _ rfl b1 (off + j * 14) rfl [.int .i64 h'.kind, .int .i64 h'.op, .int .i64 h'.num, .string ⟨h'.text.toArray⟩, .int .i64 h'.ref.row, .int .i64 h'.ref.col, .bool h'.ref.pr, .bool h'.ref.pc, .int .i64 h'.to.row, .int .i64 h'.to.col, .bool h'.to.pr, .bool h'.to.pc, .int .i64 h'.fn, .slice ka' kl' kc'] _ (fun W hW => fun q x hx => (World.cell?_of_block (a := ⟨b1, off + j * 14 + q, none⟩) (hW.same b1 (by omega) (fun hm => by have := HT.out _ hm; omega))).trans ((ND.out.kept B7.out hb1).2 q x hx)) Tryz.underlying34 rfl infoExprS) hS1 ?_
        try simp only [Act.put, List.setIfInBounds_toArray, List.set_cons_zero, List.set_cons_succ]
        refine wpAnyH_ready (rs := [5]) (by kernel_rfl) (by simp) ?_
        refine AllReadyH.cons (o := { dst := some 62, op := Go.Op.call { callee := Go.Callee.value (Go.Operand.func 12), args := #[Go.Operand.tmp 57, Go.Operand.tmp 61], argTypes := #[34, 34] }, type := 4, pos := "law.go:66", after := #[{ on := 0, ground := Go.Ground.data }, { on := 4, ground := Go.Ground.data }], guard := none }) rfl (fun K hK => ?_) AllReadyH.nil
        refine wanted_wp10 (by rfl) ?_
        go_simp
        go_at_call 12
        have cc := kept9_any h' k' w7.drew (fun q => w3.heap.size ≤ q ∧ q < w4.heap.size) w.heap.size Ft ta ka' tl tc kl' kc' (fun q hq => by have : w7.drew.heap.size = w7.heap.size := rfl; omega) (by have : w7.drew.heap.size = w7.heap.size := rfl; omega) LTd.out OTd.out NT.out (fun q hq => by have := HT.out q hq; have : w7.drew.heap.size = w7.heap.size := rfl; omega) hno TOd.out
        with_reducible refine cc.mono ?_
        clear cc
        rintro e w20 ⟨rfl, sq⟩
        refine hK.out _ _ (hS1.trans sq fun q hq => .inl hq) (fun hS1 => ?_)
        clear hK K sq LTd OTd TOd
        try simp only [Act.put, List.setIfInBounds_toArray, List.set_cons_zero, List.set_cons_succ]
        refine wpAnyH_take (i := 6) (oi := { dst := some 11, op := Go.Op.assign (Go.Operand.tmp 62), type := 4, pos := "law.go:66", after := #[{ on := 5, ground := Go.Ground.data }, { on := 5, ground := Go.Ground.chain }, { on := 0, ground := Go.Ground.phase }, { on := 1, ground := Go.Ground.phase }, { on := 2, ground := Go.Ground.phase }, { on := 3, ground := Go.Ground.phase }, { on := 4, ground := Go.Ground.phase }, { on := 5, ground := Go.Ground.phase }], guard := none }) (v := (.bool true)) rfl (by kernel_rfl) (by kernel_rfl) (by kernel_rfl) (fun _ _ _ h => h) (Or.inl ⟨by rfl, fun W hW => by first | (go_simp; done) | (go_simp; with_reducible rfl)⟩) hS1 ?_
        try simp only [Act.put, List.setIfInBounds_toArray, List.set_cons_zero, List.set_cons_succ]
        refine wpAnyH_done (by kernel_rfl) ?_ _
        refine NoPanic.normal ?_
        have B8 := Lib.hid (B7.out.trans (hS1.below (B := w.heap.size) (by omega) (fun q hq => by have := HT.out q hq; omega)))
        have Q8 := Lib.hid (Q7.out.kept (hS1.below (B := X) (by omega) (fun q hq => by have := HT.out q hq; omega)))
        have P8 := Lib.hid (P7.out.keep (W' := w20) (fun x h1 h2 => hS1.same x h2 (fun hm => by have := HT.out _ hm; omega)) hS1.size)
        have bq := (hS1.same X (by omega) (fun hm => by have := HT.out _ hm; omega)).trans BQ7.out
        have bp := (hS1.same Y hY6.2 (fun hm => by have := HT.out _ hm; omega)).trans BY7.out
        have hx8 : X < w20.heap.size := lt_of_block bq
        have hy8 : Y < w20.heap.size := lt_of_block bp
        have c0 : w20.cell? ⟨X, 0, none⟩ = some (.slice a1 ni k1) := (cells_of_block bq 0).trans rfl
        have c1 : w20.cell? ⟨X, 1, none⟩ = some (.slice a2 nc k2) := (cells_of_block bq 1).trans rfl
        have d0 : w20.cell? ⟨Y, 0, none⟩ = some (.slice a3 ni k3) := (cells_of_block bp 0).trans rfl
        have d1 : w20.cell? ⟨Y, 1, none⟩ = some (.slice a4 nc k4) := (cells_of_block bp 1).trans rfl
        have PA := Lib.hid (codeA_may (by have := P8.out; rw [← HNI.out, ← HNC.out] at this; exact this))
        clear hS1 bq bp LT OT BX7 Q7 BQ7 BY7 P7 B7
        rw [HNI.out, HNC.out] at PA
        go_wp2_with fail
        refine (eq17_any w20 PA.out Q8.out (Nat.le_refl _) (Nat.le_of_lt hx8)).mono ?_
        rintro e w9 ⟨rfl, b9⟩
        rw [EqB_self]
        have B9 := Lib.hid (B8.out.trans (b9.mono B8.out.size))
        clear b9
        go_wp2
        go_roundw
        case rel => exact ⟨j + 1, r', by go_num, (by have := HJ.out; omega), HR.out, B9⟩
        case measure => simp [RowKit.intOf]; omega
    · clear hrow hcap
      go_wp2
      go_ret
      exact ⟨rfl, HB.out⟩
end Go.Proofs.YtlmpiobdgkmmgaaGreatDoor
