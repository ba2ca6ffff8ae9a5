/- CompMay: of every tree that may be there is code that may be: the walk. -/
import Derived.Test.YtlmpiobdgkmmgaaGreatDoorKeB
import Derived.Test.YtlmpiobdgkmmgaaGreatDoorKeC
import Derived.Test.YtlmpiobdgkmmgaaGreatDoorCmZ
namespace Go.Proofs.YtlmpiobdgkmmgaaGreatDoor
open Go.RowKit Go.Lib

theorem blk_below9 {w w' : World} {X : Nat} {o : Obj} (b : Below w.heap.size w w') (h : w.heap[X]? = some o) : w'.heap[X]? = some o := (b.block X (lt_of_block h)).trans h
theorem CodeA.insRow {W : World} {b n k : Nat} {a : Option Addr} {vC : Value} {ps : List PI} {cs : List PV} (A : CodeA W b (.slice a n k) vC ps cs) (h0 : 0 < ps.length) : ∃ g off, a = some ⟨g, off, none⟩ ∧ ∀ (i : Nat) (p : PI), ps[i]? = some p → ∃ tv, InP W b g (off + i * 6) p tv := by
  obtain ⟨a', cap, e, r⟩ := A.iI
  injection e with e1 e2 e3
  subst e1
  exact r h0
theorem CodeA.conRow {W : World} {b n k : Nat} {a : Option Addr} {vI : Value} {ps : List PI} {cs : List PV} (A : CodeA W b vI (.slice a n k) ps cs) (h0 : 0 < cs.length) : ∃ g off, a = some ⟨g, off, none⟩ ∧ g < b ∧ ∀ (i : Nat) (c : PV), cs[i]? = some c → W.cell? ⟨g, off + i * 3, none⟩ = some (.int .i64 c.kind) ∧ W.cell? ⟨g, off + i * 3 + 1, none⟩ = some (.int .i64 c.num) ∧ W.cell? ⟨g, off + i * 3 + 2, none⟩ = some (.string ⟨c.text.toArray⟩) := by
  obtain ⟨a', cap, e, r⟩ := A.cC
  injection e with e1 e2 e3
  subst e1
  exact r h0
theorem nodup_ne {cs : List PV} (h : cs.Nodup) {i j : Nat} {x y : PV} (hij : i < j) (hx : cs[i]? = some x) (hy : cs[j]? = some y) : x ≠ y := fun e => by
  subst e
  have h1 := (List.getElem?_eq_some_iff.1 hx)
  have h2 := (List.getElem?_eq_some_iff.1 hy)
  obtain ⟨a1, b1⟩ := h1
  obtain ⟨a2, b2⟩ := h2
  exact List.pairwise_iff_getElem.1 h i j a1 a2 hij (b1.trans b2.symm)
def usedB (ps : List PI) (i : Int) : Bool := ps.any fun p => decide (p.op = 1) && decide (p.a = i)
theorem usedB_step {ps : List PI} {k : Nat} {p : PI} {i : Int} (h : ps[k]? = some p) : usedB (ps.take (k + 1)) i = (usedB (ps.take k) i || (decide (p.op = 1) && decide (p.a = i))) := by
  unfold usedB
  rw [List.take_add_one, h, List.any_append]
  simp
theorem usedB_all {ps : List PI} {cs : List PV} (g : CodeGood ps cs) {k i : Nat} (hk : ¬ k < ps.length) (hi : i < cs.length) : usedB (ps.take k) i = true := by
  rw [List.take_of_length_le (by omega)]
  obtain ⟨p, hp, h1, h2⟩ := g.used i hi
  exact List.any_eq_true.2 ⟨p, hp, by simp [h1, h2]⟩
theorem codeA_nil (W : World) (b : Nat) : CodeA W b (.slice none 0 0) (.slice none 0 0) [] [] :=
  ⟨⟨none, 0, rfl, fun h => absurd h (by simp)⟩, ⟨none, 0, rfl, fun h => absurd h (by simp)⟩, fun p hp => by simp at hp, by simp, by simp, by simp [longS]⟩
set_option maxRecDepth 1000000 in
set_option maxHeartbeats 2000000 in
theorem compMay_any (h : Hd) (ks : Trees) (W : World) (ka : Option Addr) (kl kc : Nat) (tv : TreeV W W.heap.size h ks ka kl) : Calls Tryz.prog 6 #[.agg #[.int .i64 h.kind, .int .i64 h.op, .int .i64 h.num, .string ⟨h.text.toArray⟩, .int .i64 h.ref.row, .int .i64 h.ref.col, .bool h.ref.pr, .bool h.ref.pc, .int .i64 h.to.row, .int .i64 h.to.col, .bool h.to.pr, .bool h.to.pc, .int .i64 h.fn, .slice ka kl kc]] W (TruePost W) := by
  obtain ⟨w1, hw1⟩ : ∃ w1, w1 = W.alloc (.cells #[.int .i64 h.kind, .int .i64 h.op, .int .i64 h.num, .string ⟨h.text.toArray⟩, .int .i64 h.ref.row, .int .i64 h.ref.col, .bool h.ref.pr, .bool h.ref.pc, .int .i64 h.to.row, .int .i64 h.to.col, .bool h.to.pr, .bool h.to.pc, .int .i64 h.fn, .slice ka kl kc] 34) := ⟨_, rfl⟩
  have b1 : Below W.heap.size W w1 := by rw [hw1]; exact ext_alloc (Below.refl _ _) _
  have N1 := Lib.hid (show NodeAt w1 W.heap.size 0 h (.slice ka kl kc) by rw [hw1]; exact node_box W h (.slice ka kl kc))
  have B1 := Lib.hid b1
  have T0 := Lib.hid tv
  have hl1 : W.heap.size < w1.heap.size := N1.out.1
  clear b1 tv
  go_enter Tryz.func6, Tryz.ntmps6
  go_upto_region 1 with (fail)
  rw [← hw1]
  clear hw1
  go_wp2_with fail
  refine (begun17_any w1).mono ?_
  rintro e w2 ⟨rfl, b2⟩
  have N2 := Lib.hid (N1.out.kept b2 hl1)
  have B2 := Lib.hid (B1.out.trans (b2.mono (Nat.le_of_lt hl1)))
  have hl2 : W.heap.size < w2.heap.size := N2.out.1
  clear b2 N1 B1 hl1
  have T2 := Lib.hid (T0.out.kept B2.out (Nat.le_refl _))
  go_wp2_with (refine cpLoad N2.out rfl rfl rfl ?_)
  refine (formula_code h ks w2 W.heap.size ka kl kc (Nat.le_of_lt hl2) T2.out).mono ?_
  rintro e w3 ⟨vI, vC, rfl, c3, b3⟩
  obtain ⟨a1, k1, a2, k2, rfl, rfl⟩ := c3.slices
  have A3 := Lib.hid (c3.ofT (Nat.le_refl _) (fun m => by have := may_nodes m; omega))
  have N3 := Lib.hid (N2.out.kept b3 hl2)
  have B3 := Lib.hid (B2.out.trans (b3.mono (Nat.le_of_lt hl2)))
  have hl3 : W.heap.size < w3.heap.size := N3.out.1
  clear c3 b3 N2 B2 hl2 T2
  have GM := Lib.hid (fun m : mayE h ks = 0 => codeT_good m (by have := (codeT_size h ks).1; have := may_nodes m; omega) (by have := (codeT_size h ks).2.1; have := may_nodes m; omega))
  have SZ := Lib.hid (fun m : mayE h ks = 0 => (show (codeT h ks).1.length ≤ 5 * (1 + ks.nodes) ∧ (codeT h ks).2.length ≤ 2560 from ⟨(codeT_size h ks).1, by have := (codeT_size h ks).2.2.2; have := may_nodes m; omega⟩))
  have NO := Lib.hid (fun m : mayE h ks ≠ 0 => codeT_none m)
  obtain ⟨me, hme⟩ : ∃ me, mayE h ks = me := ⟨_, rfl⟩
  have HME := Lib.hid hme
  rw [hme] at GM SZ NO ⊢
  clear hme
  obtain ⟨⟨ps, cs⟩, hc⟩ : ∃ c, codeT h ks = c := ⟨_, rfl⟩
  rw [hc] at A3 GM SZ NO ⊢
  simp only at A3 GM SZ NO ⊢
  clear hc
  obtain ⟨ni, hni⟩ : ∃ ni, ps.length = ni := ⟨_, rfl⟩
  obtain ⟨nc, hnc⟩ : ∃ nc, cs.length = nc := ⟨_, rfl⟩
  rw [hni, hnc]
  have HNI := Lib.hid hni; have HNC := Lib.hid hnc
  rw [hni, hnc] at A3
  clear hni hnc
  go_upto_region 4 with (fail)
  obtain ⟨w4, hw4⟩ : ∃ w4, w4 = w3.alloc (.cells #[.slice a1 ni k1, .slice a2 nc k2] 27) := ⟨_, rfl⟩
  rw [← hw4]
  obtain ⟨X, hX⟩ : ∃ X, w3.heap.size = X := ⟨_, rfl⟩
  have bx4 : w4.heap[X]? = some (.cells #[.slice a1 ni k1, .slice a2 nc k2] 27 (0, 0)) := by rw [hw4, ← hX]; exact heap_alloc_new _ _
  have b4 : Below X w3 w4 := by rw [hw4, ← hX]; exact ext_alloc (Below.refl _ _) _
  rw [hX] at A3 hl3 ⊢
  have A4 := Lib.hid (A3.out.kept b4)
  have N4 := Lib.hid (N3.out.kept b4 hl3)
  have B4 := Lib.hid (B3.out.trans (b4.mono (Nat.le_of_lt hl3)))
  have T4 := Lib.hid (T0.out.kept B4.out (Nat.le_refl _))
  have hl4 : W.heap.size < w4.heap.size := N4.out.1
  have hx4 : X < w4.heap.size := lt_of_block bx4
  have BX4 := Lib.hid bx4
  clear hw4 b4 bx4 A3 N3 B3 hX
  go_wp2_with (refine cpLoad N4.out rfl rfl rfl ?_)
  refine (may_any h ks w4 W.heap.size ka kl kc (Nat.le_of_lt hl4) T4.out).mono ?_
  rintro e w5 ⟨rfl, b5⟩
  rw [HME.out]
  have A5 := Lib.hid (A4.out.kept (b5.mono (Nat.le_of_lt hx4)))
  have N5 := Lib.hid (N4.out.kept b5 hl4)
  have B5 := Lib.hid (B4.out.trans (b5.mono (Nat.le_of_lt hl4)))
  have T5 := Lib.hid (T0.out.kept B5.out (Nat.le_refl _))
  have BX5 := Lib.hid (blk_below9 b5 BX4.out)
  have hl5 : W.heap.size < w5.heap.size := N5.out.1
  have hx5 : X < w5.heap.size := lt_of_block BX5.out
  clear b5 A4 N4 B4 T4 BX4 hx4 hl4
  by_cases hm : me = 0
  · subst hm
    have G := Lib.hid (GM.out rfl)
    have S := Lib.hid (SZ.out rfl)
    have hnod : 1 + ks.nodes ≤ 512 := may_nodes HME.out
    clear GM SZ NO
    have FN := Lib.hid (goodT HME.out).1
    go_wp2_with (refine cpLoad N5.out rfl rfl rfl ?_)
    refine (size_any h ks w5 W.heap.size ka kl kc (Nat.le_of_lt hl5) T5.out).mono ?_
    rintro e w6 ⟨rfl, b6⟩
    rw [(size_yes FN.out).1]
    have A6 := Lib.hid (A5.out.kept (b6.mono (Nat.le_of_lt hx5)))
    have B6 := Lib.hid (B5.out.trans (b6.mono (Nat.le_of_lt hl5)))
    have BX6 := Lib.hid (blk_below9 b6 BX5.out)
    have hx6 : X < w6.heap.size := lt_of_block BX6.out
    clear b6 A5 N5 B5 T5 BX5 hx5 hl5 T0
    obtain ⟨nd, hnd⟩ : ∃ nd, 1 + ks.nodes = nd := ⟨_, rfl⟩
    have hni : ni ≤ 5 * nd := by rw [← hnd, ← HNI.out]; exact S.out.1
    have hnc : nc ≤ 2560 := by rw [← HNC.out]; exact S.out.2
    rw [hnd] at hnod
    have e1 : (1 : Int) + (ks.nodes : Int) = (nd : Int) := by omega
    rw [e1]
    obtain ⟨d1, hd1⟩ : ∃ d, sizeD h ks = d := ⟨_, rfl⟩
    obtain ⟨d2, hd2⟩ : ∃ d, sizeT h ks = d := ⟨_, rfl⟩
    rw [hd1, hd2]
    clear e1 hd1 hd2 hnd S
    have c0 : w6.cell? ⟨X, 0, none⟩ = some (.slice a1 ni k1) := (cells_of_block BX6.out 0).trans rfl
    have c1 : w6.cell? ⟨X, 1, none⟩ = some (.slice a2 nc k2) := (cells_of_block BX6.out 1).trans rfl
    go_upto_region 7 with (fail)
    go_wp2_with fail
    refine (codeMay_any w6 A6.out (Nat.le_of_lt hx6)).mono ?_
    rintro e w7 ⟨rfl, b7⟩
    rw [G.out.may]
    have A7 := Lib.hid (A6.out.kept (b7.mono (Nat.le_of_lt hx6)))
    have hw6 : W.heap.size ≤ w6.heap.size := B6.out.size
    have B7 := Lib.hid (B6.out.trans (b7.mono hw6))
    have BX7 := Lib.hid (blk_below9 b7 BX6.out)
    have hx7 : X < w7.heap.size := lt_of_block BX7.out
    have hw7 : W.heap.size ≤ w7.heap.size := B7.out.size
    clear b7 A6 B6 BX6 hx6 hw6 c0 c1 hl3
    have c0 : w7.cell? ⟨X, 0, none⟩ = some (.slice a1 ni k1) := (cells_of_block BX7.out 0).trans rfl
    have c1 : w7.cell? ⟨X, 1, none⟩ = some (.slice a2 nc k2) := (cells_of_block BX7.out 1).trans rfl
    go_wp2_with fail
    go_loopw [8] (fun iv wr => ∃ j : Nat, iv = .int .i64 (j : Int) ∧ j ≤ nc ∧ Hid (Below w7.heap.size w7 wr)) (fun iv _ => nc - (RowKit.intOf iv).toNat)
    case atStart => exact ⟨0, rfl, Nat.zero_le _, Lib.hid (Below.refl _ _)⟩
    case round =>
      obtain ⟨j, rfl, hj, HB⟩ := hrel
      obtain ⟨w8, hw8⟩ : ∃ w8, wr = w8 := ⟨_, rfl⟩
      rw [hw8] at HB ⊢
      clear hw8 wr
      have A8 := Lib.hid (A7.out.kept (HB.out.mono (Nat.le_of_lt hx7)))
      have BX8 := Lib.hid (blk_below9 HB.out BX7.out)
      have hx8 : X < w8.heap.size := lt_of_block BX8.out
      clear c0 c1
      have c0 : w8.cell? ⟨X, 0, none⟩ = some (.slice a1 ni k1) := (cells_of_block BX8.out 0).trans rfl
      have c1 : w8.cell? ⟨X, 1, none⟩ = some (.slice a2 nc k2) := (cells_of_block BX8.out 1).trans rfl
      by_cases hlt : j < nc
      · go_wp2_with fail
        go_loopw [9, 10] (fun uv kv w0 => ∃ i : Nat, kv = .int .i64 (i : Int) ∧ i ≤ ni ∧ uv = .bool (usedB (ps.take i) j) ∧ w0 = w8) (fun _ kv _ => ni - (RowKit.intOf kv).toNat)
        case atStart => exact ⟨0, rfl, Nat.zero_le _, rfl, rfl⟩
        case round =>
          obtain ⟨i, rfl, hi, rfl, hw⟩ := hrel
          rw [hw]
          clear hw wr
          by_cases hlt2 : i < ni
          · obtain ⟨p, hp⟩ : ∃ p, ps[i]? = some p := ⟨_, List.getElem?_eq_getElem (by have := HNI.out; omega)⟩
            obtain ⟨g, o, rfl, r⟩ := A8.out.insRow (by have := HNI.out; omega)
            obtain ⟨tv, P⟩ := r i p hp
            have p0 := P.c0; have p1 := P.c1
            have pl : g < w8.heap.size := by have := P.lt; omega
            have HU := Lib.hid (usedB_step (i := j) hp)
            clear r P hp
            obtain ⟨u, hu⟩ : ∃ u, usedB (ps.take i) j = u := ⟨_, rfl⟩
            obtain ⟨v, hv⟩ : ∃ v, usedB (ps.take (i + 1)) j = v := ⟨_, rfl⟩
            rw [hu, hv] at HU
            have HV := Lib.hid hv
            rw [hu]
            clear hu hv
            obtain ⟨po, pa, pb, pc, pd, pt⟩ := p
            simp only at HU p0 p1
            cases u with
            | true =>
              have HU := Lib.hid (show v = true by rw [HU.out]; rfl)
              go_wp2
              exact ⟨⟨i + 1, by go_num, by omega, by rw [HV.out, HU.out], trivial⟩, by simp [RowKit.intOf]; omega⟩
            | false =>
              by_cases h1 : po = 1
              · by_cases h2 : pa = (j : Int)
                · have HU := Lib.hid (show v = true by rw [HU.out, h1, h2]; simp)
                  go_wp2
                  exact ⟨⟨i + 1, by go_num, by omega, by rw [HV.out, HU.out], trivial⟩, by simp [RowKit.intOf]; omega⟩
                · have HU := Lib.hid (show v = false by rw [HU.out]; simp [h2])
                  go_wp2
                  exact ⟨⟨i + 1, by go_num, by omega, by rw [HV.out, HU.out]; simp [h2], trivial⟩, by simp [RowKit.intOf]; omega⟩
              · have HU := Lib.hid (show v = false by rw [HU.out]; simp [h1])
                go_wp2
                exact ⟨⟨i + 1, by go_num, by omega, by rw [HV.out, HU.out], trivial⟩, by simp [RowKit.intOf]; omega⟩
          · have hu : usedB (ps.take i) j = true := usedB_all G.out (by have := HNI.out; omega) (by have := HNC.out; omega)
            rw [hu]
            clear hu
            go_wp2_with fail
            go_loopw [9, 11] (fun uv kv w0 => uv = .bool true ∧ ∃ k : Nat, kv = .int .i64 (k : Int) ∧ k ≤ j ∧ Hid (Below w8.heap.size w8 w0)) (fun _ kv _ => j - (RowKit.intOf kv).toNat)
            case atStart => exact ⟨rfl, 0, rfl, Nat.zero_le _, Lib.hid (Below.refl _ _)⟩
            case round =>
              obtain ⟨rfl, k, rfl, hk, HC⟩ := hrel
              have A9 := Lib.hid (A8.out.kept (HC.out.mono (Nat.le_of_lt hx8)))
              have BX9 := Lib.hid (blk_below9 HC.out BX8.out)
              have hx9 : X < wr.heap.size := lt_of_block BX9.out
              clear c0 c1
              have c0 : wr.cell? ⟨X, 0, none⟩ = some (.slice a1 ni k1) := (cells_of_block BX9.out 0).trans rfl
              have c1 : wr.cell? ⟨X, 1, none⟩ = some (.slice a2 nc k2) := (cells_of_block BX9.out 1).trans rfl
              by_cases hlt3 : k < j
              · obtain ⟨x, hx⟩ : ∃ x, cs[k]? = some x := ⟨_, List.getElem?_eq_getElem (by have := HNC.out; omega)⟩
                obtain ⟨y, hy⟩ : ∃ y, cs[j]? = some y := ⟨_, List.getElem?_eq_getElem (by have := HNC.out; omega)⟩
                obtain ⟨g, o, rfl, l2, r⟩ := A9.out.conRow (by have := HNC.out; omega)
                obtain ⟨x0, x1, x2⟩ := r k x hx
                obtain ⟨y0, y1, y2⟩ := r j y hy
                have hgl : g < wr.heap.size := by omega
                have e := nodup_ne G.out.nd hlt3 hx hy
                clear r hx hy
                obtain ⟨xk, xn, xt⟩ := x
                obtain ⟨yk, yn, yt⟩ := y
                go_wp2_with fail
                go_quiet (fail)
                go_wp2
                exact ⟨⟨rfl, k + 1, by go_num, by omega, Lib.hid (below_drewN HC.out)⟩, by simp [RowKit.intOf]; omega⟩
              · have HD := Lib.hid (HB.out.trans (HC.out.mono (by have := HB.out.size; omega)))
                clear A9 BX9 c0 c1
                go_wp2
                exact ⟨⟨j + 1, by go_num, by omega, HD⟩, by simp [RowKit.intOf]; omega⟩
      · clear A8 BX8
        have B9 := Lib.hid (B7.out.trans (HB.out.mono hw7))
        go_wp2
        go_ret
        exact ⟨rfl, B9.out⟩
  · obtain ⟨rfl, rfl⟩ : ps = [] ∧ cs = [] := by have := NO.out hm; injection this with h1 h2; exact ⟨h1, h2⟩
    clear GM SZ NO
    go_wp2_with (refine cpLoad N5.out rfl rfl rfl ?_)
    refine (may_any h ks w5 W.heap.size ka kl kc (Nat.le_of_lt hl5) T5.out).mono ?_
    rintro e w6 ⟨rfl, b6⟩
    rw [HME.out]
    have A6 := Lib.hid (A5.out.kept (b6.mono (Nat.le_of_lt hx5)))
    have B6 := Lib.hid (B5.out.trans (b6.mono (Nat.le_of_lt hl5)))
    have BX6 := Lib.hid (blk_below9 b6 BX5.out)
    have hx6 : X < w6.heap.size := lt_of_block BX6.out
    have hl6 : W.heap.size ≤ w6.heap.size := B6.out.size
    clear b6 A5 N5 B5 T5 BX5 hx5 hl5 T0
    have c0 : w6.cell? ⟨X, 0, none⟩ = some (.slice a1 ni k1) := (cells_of_block BX6.out 0).trans rfl
    have c1 : w6.cell? ⟨X, 1, none⟩ = some (.slice a2 nc k2) := (cells_of_block BX6.out 1).trans rfl
    go_wp2_with fail
    refine (eq17_any w6 A6.out (codeA_nil w6 w6.heap.size) (Nat.le_of_lt hx6) (Nat.le_refl _)).mono ?_
    rintro e w7 ⟨rfl, b7⟩
    rw [EqB_self]
    have B7 := Lib.hid (B6.out.trans (b7.mono hl6))
    clear b7
    go_wp2
    go_ret
    exact ⟨rfl, B7.out⟩
end Go.Proofs.YtlmpiobdgkmmgaaGreatDoor
