/- CompParts: an operation's code is its kids' with what stands between and behind them: the walk. -/
import Derived.Test.YtlmpiobdgkmmgaaGreatDoorCrPa
namespace Go.Proofs.YtlmpiobdgkmmgaaGreatDoor
open Go.RowKit Go.Lib

set_option maxRecDepth 1000000 in
set_option maxHeartbeats 4000000 in
theorem compParts_any (h : Hd) (ks : Trees) (W : World) (ka : Option Addr) (kl kc : Nat) (tv : TreeV W W.heap.size h ks ka kl) : Calls Tryz.prog 5 #[.agg #[.int .i64 h.kind, .int .i64 h.op, .int .i64 h.num, .string ⟨h.text.toArray⟩, .int .i64 h.ref.row, .int .i64 h.ref.col, .bool h.ref.pr, .bool h.ref.pc, .int .i64 h.to.row, .int .i64 h.to.col, .bool h.to.pr, .bool h.to.pc, .int .i64 h.fn, .slice ka kl kc]] W (TruePost W) := by
  obtain ⟨w1, hw1⟩ : ∃ w1, w1 = W.alloc (.cells #[.int .i64 h.kind, .int .i64 h.op, .int .i64 h.num, .string ⟨h.text.toArray⟩, .int .i64 h.ref.row, .int .i64 h.ref.col, .bool h.ref.pr, .bool h.ref.pc, .int .i64 h.to.row, .int .i64 h.to.col, .bool h.to.pr, .bool h.to.pc, .int .i64 h.fn, .slice ka kl kc] 34) := ⟨_, rfl⟩
  have b1 : Below W.heap.size W w1 := by rw [hw1]; exact ext_alloc (Below.refl _ _) _
  have N1 := Lib.hid (show NodeAt w1 W.heap.size 0 h (.slice ka kl kc) by rw [hw1]; exact node_box W h (.slice ka kl kc))
  have B1 := Lib.hid b1
  have T0 := Lib.hid tv
  have hl1 : W.heap.size < w1.heap.size := N1.out.1
  clear b1 tv
  go_enter Tryz.func5, Tryz.ntmps5
  go_upto_region 1 with (fail)
  rw [← hw1]
  clear hw1
  go_wp2_with fail
  refine (begun17_any w1).mono ?_
  rintro e w2 ⟨rfl, b2⟩
  have N2 := Lib.hid (N1.out.kept b2 hl1)
  have B2 := Lib.hid (B1.out.trans (b2.mono (Nat.le_of_lt hl1)))
  have hl2 : W.heap.size < w2.heap.size := N2.out.1
  clear b2 N1 B1 hl1
  have T2 := Lib.hid (T0.out.kept B2.out (Nat.le_refl _))
  go_wp2_with (refine cpLoad N2.out rfl rfl rfl ?_)
  refine (formula_code h ks w2 W.heap.size ka kl kc (Nat.le_of_lt hl2) T2.out).mono ?_
  rintro e w3 ⟨vI, vC, rfl, c3, b3⟩
  obtain ⟨a1, k1, a2, k2, rfl, rfl⟩ := c3.slices
  have A3 := Lib.hid (c3.ofT (Nat.le_refl _) (fun m => by have := may_nodes m; omega))
  have N3 := Lib.hid (N2.out.kept b3 hl2)
  have B3 := Lib.hid (B2.out.trans (b3.mono (Nat.le_of_lt hl2)))
  have hl3 : W.heap.size < w3.heap.size := N3.out.1
  clear c3 b3 N2 B2 hl2 T2
  have PT := Lib.hid (fun (m : mayE h ks = 0) (hk : h.kind = 7 ∨ h.kind = 8 ∨ (h.kind = 9 ∧ ((infoRow h.fn).cls = 1 ∨ (infoRow h.fn).cls = 2))) => parts_of m hk)
  obtain ⟨me, hme⟩ : ∃ me, mayE h ks = me := ⟨_, rfl⟩
  have HME := Lib.hid hme
  rw [hme] at PT ⊢
  clear hme
  obtain ⟨⟨ps, cs⟩, hc⟩ : ∃ c, codeT h ks = c := ⟨_, rfl⟩
  rw [hc] at A3 PT ⊢
  simp only at A3 PT ⊢
  clear hc
  obtain ⟨ni, hni⟩ : ∃ ni, ps.length = ni := ⟨_, rfl⟩
  obtain ⟨nc, hnc⟩ : ∃ nc, cs.length = nc := ⟨_, rfl⟩
  rw [hni, hnc]
  have HNI := Lib.hid hni; have HNC := Lib.hid hnc
  rw [hni, hnc] at A3
  clear hni hnc
  go_upto_region 4 with (fail)
  obtain ⟨w4, hw4⟩ : ∃ w4, w4 = w3.alloc (.cells #[.slice a1 ni k1, .slice a2 nc k2] 27) := ⟨_, rfl⟩
  rw [← hw4]
  obtain ⟨X, hX⟩ : ∃ X, w3.heap.size = X := ⟨_, rfl⟩
  have bx4 : w4.heap[X]? = some (.cells #[.slice a1 ni k1, .slice a2 nc k2] 27 (0, 0)) := by rw [hw4, ← hX]; exact heap_alloc_new _ _
  have b4 : Below X w3 w4 := by rw [hw4, ← hX]; exact ext_alloc (Below.refl _ _) _
  rw [hX] at A3 hl3 ⊢
  have A4 := Lib.hid (A3.out.kept b4)
  have N4 := Lib.hid (N3.out.kept b4 hl3)
  have B4 := Lib.hid (B3.out.trans (b4.mono (Nat.le_of_lt hl3)))
  have T4 := Lib.hid (T0.out.kept B4.out (Nat.le_refl _))
  have hl4 : W.heap.size < w4.heap.size := N4.out.1
  have hx4 : X < w4.heap.size := lt_of_block bx4
  have BX4 := Lib.hid bx4
  clear hw4 b4 bx4 A3 N3 B3 hX
  have c0 : w4.cell? ⟨X, 0, none⟩ = some (.slice a1 ni k1) := (cells_of_block BX4.out 0).trans rfl
  by_cases hm : me = 0
  rotate_left
  · go_wp2
    go_ret
    exact ⟨rfl, B4.out⟩
  subst hm
  have HA := Lib.hid A4.out
  have t0 := N4.out.facts.c0; have t12 := N4.out.facts.c12
  have HI := Lib.hid (info_any h.fn)
  go_wp2_with fail
  refine (HI.out _).mono ?_
  rintro e w5 ⟨rfl, b5⟩
  simp only [clsV_eq]
  have A5 := Lib.hid (A4.out.kept (b5.mono (Nat.le_of_lt hx4)))
  have N5 := Lib.hid (N4.out.kept b5 hl4)
  have B5 := Lib.hid (B4.out.trans (b5.mono (Nat.le_of_lt hl4)))
  have BX5 := Lib.hid (blk_below9 b5 BX4.out)
  have hl5 : W.heap.size < w5.heap.size := N5.out.1
  have hx5 : X < w5.heap.size := lt_of_block BX5.out
  clear b5 A4 N4 B4 T4 BX4 hx4 hl4 t0 t12 HI HA c0
  obtain ⟨cl, hcl⟩ : ∃ cl, (infoRow h.fn).cls = cl := ⟨_, rfl⟩
  rw [hcl] at PT ⊢
  have HCL := Lib.hid hcl
  clear hcl
  go_upto_region 7 with (fail)
  obtain ⟨w6, hw6⟩ : ∃ w6, w6 = w5.alloc (.cells #[.string ⟨(infoRow h.fn).name.toArray⟩, .int .i64 cl, .int .i64 (infoRow h.fn).min, .int .i64 (infoRow h.fn).max] 42) := ⟨_, rfl⟩
  rw [← hw6]
  have b6 : Below w5.heap.size w5 w6 := by rw [hw6]; exact ext_alloc (Below.refl _ _) _
  obtain ⟨Y, hY⟩ : ∃ Y, w5.heap.size = Y := ⟨_, rfl⟩
  have by6 : w6.heap[Y]? = some (.cells #[.string ⟨(infoRow h.fn).name.toArray⟩, .int .i64 cl, .int .i64 (infoRow h.fn).min, .int .i64 (infoRow h.fn).max] 42 (0, 0)) := by rw [hw6, ← hY]; exact heap_alloc_new _ _
  have A6 := Lib.hid (A5.out.kept (b6.mono (Nat.le_of_lt hx5)))
  have N6 := Lib.hid (N5.out.kept b6 hl5)
  have B6 := Lib.hid (B5.out.trans (b6.mono (Nat.le_of_lt hl5)))
  have BX6 := Lib.hid (blk_below9 b6 BX5.out)
  have hl6 : W.heap.size < w6.heap.size := N6.out.1
  have hx6 : X < w6.heap.size := lt_of_block BX6.out
  have hy6 : Y < w6.heap.size := lt_of_block by6
  rw [hY]
  have y1 : w6.cell? ⟨Y, 1, none⟩ = some (.int .i64 cl) := (cells_of_block by6 1).trans rfl
  have t0 := N6.out.facts.c0
  clear hw6 b6 hY by6 A5 N5 B5 BX5 hx5 hl5
  obtain ⟨kd, hkd⟩ : ∃ kd, h.kind = kd := ⟨_, rfl⟩
  have HKD := Lib.hid hkd
  obtain ⟨sc, hsc⟩ : ∃ sc, decide (kd = 9 ∧ (cl = 1 ∨ cl = 2)) = sc := ⟨_, rfl⟩
  have HSC := Lib.hid hsc
  clear hsc
  rw [hkd] at t0
  clear hkd
  go_cut [7] from 29 (fun v W' => v = .bool sc ∧ W' = w6)
  case first =>
    by_cases q9 : kd = 9
    · have p9 : (kd == 9) = true := by simp [q9]
      by_cases q1 : cl = 1
      · have p1 : (cl == 1) = true := by simp [q1]
        have hs := Lib.hid (show sc = true by rw [← HSC.out]; simp [q9, q1])
        go_wp2_with fail
        go_meet
        case rel => exact ⟨by rw [hs.out], rfl⟩
      · have p1 : (cl == 1) = false := by simp [q1]
        by_cases q2 : cl = 2
        · have p2 : (cl == 2) = true := by simp [q2]
          have hs := Lib.hid (show sc = true by rw [← HSC.out]; simp [q9, q2])
          go_wp2_with fail
          go_meet
          case rel => exact ⟨by rw [hs.out], rfl⟩
        · have p2 : (cl == 2) = false := by simp [q2]
          have hs := Lib.hid (show sc = false by rw [← HSC.out]; simp [q1, q2])
          go_wp2_with fail
          go_meet
          case rel => exact ⟨by rw [hs.out], rfl⟩
    · have p9 : (kd == 9) = false := by simp [q9]
      have hs := Lib.hid (show sc = false by rw [← HSC.out]; simp [q9])
      go_wp2_with fail
      go_meet
      case rel => exact ⟨by rw [hs.out], rfl⟩
  case rest =>
    obtain ⟨rfl, rfl⟩ := hcut
    obtain ⟨ea, hea⟩ : ∃ ea, decide (kd ≠ 7 ∧ kd ≠ 8 ∧ sc = false) = ea := ⟨_, rfl⟩
    have HEA := Lib.hid hea
    clear hea
    go_upto_region 8 with (fail)
    go_cut [53] from 42 (fun v W' => v = .bool ea ∧ W' = wc)
    case first =>
      by_cases q7 : kd = 7
      · have p7 : (kd != 7) = false := by simp [q7]
        have hs := Lib.hid (show ea = false by rw [← HEA.out]; simp [q7])
        go_wp2_with fail
        go_meet
        case rel => exact ⟨by rw [hs.out], rfl⟩
      · have p7 : (kd != 7) = true := by simp [q7]
        by_cases q8 : kd = 8
        · have p8 : (kd != 8) = false := by simp [q8]
          have hs := Lib.hid (show ea = false by rw [← HEA.out]; simp [q8])
          go_wp2_with fail
          go_meet
          case rel => exact ⟨by rw [hs.out], rfl⟩
        · have p8 : (kd != 8) = true := by simp [q8]
          cases sc with
          | true =>
            have hs := Lib.hid (show ea = false by rw [← HEA.out]; simp)
            go_wp2_with fail
            go_meet
            case rel => exact ⟨by rw [hs.out], rfl⟩
          | false =>
            have hs := Lib.hid (show ea = true by rw [← HEA.out]; simp [q7, q8])
            go_wp2_with fail
            go_meet
            case rel => exact ⟨by rw [hs.out], rfl⟩
    case rest =>
      obtain ⟨rfl, rfl⟩ := hcut
      cases ea with
      | true =>
        go_wp2
        go_ret
        exact ⟨rfl, B6.out⟩
      | false =>
        have hk3 : kd = 7 ∨ kd = 8 ∨ (kd = 9 ∧ (cl = 1 ∨ cl = 2)) := by
          have := HEA.out
          have hs := HSC.out
          by_cases q7 : kd = 7
          · exact .inl q7
          by_cases q8 : kd = 8
          · exact .inr (.inl q8)
          cases sc with
          | false => simp [q7, q8] at this
          | true => exact .inr (.inr (of_decide_eq_true hs))
        obtain ⟨sg, la, lp⟩ := PT.out trivial (by rw [HKD.out]; exact hk3)
        have SG := Lib.hid sg; have LA := Lib.hid la
        have HK3 := Lib.hid hk3
        have hnp : 0 < ni := by rw [← HNI.out]; exact lp
        have hnb : ni ≤ 1000000000 := by rw [← HNI.out]; exact A6.out.nI
        have hn0 : ((ni : Int) == 0) = false := by simp; omega
        have hkl := T0.out.len
        have hkm := T0.out.max
        have HKL := Lib.hid hkl
        have x0 : wc.cell? ⟨X, 0, none⟩ = some (.slice a1 ni k1) := (cells_of_block BX6.out 0).trans rfl
        clear sg la lp hk3 hkl PT y1
        obtain ⟨a1', ho, rfl, -⟩ : ∃ g o, a1 = some ⟨g, o, none⟩ ∧ True := by
          obtain ⟨g, o, e, -⟩ := A6.out.insRow (by rw [HNI.out]; exact hnp)
          exact ⟨g, o, e, trivial⟩
        go_wp2_with fail
        go_loopw [8, 9] (fun nv iv wr => ∃ (j s : Nat) (rest : Trees), nv = .int .i64 ((s : Int) + 1) ∧ iv = .int .i64 (j : Int) ∧ j + rest.len = kl ∧ s + 1 ≤ ni ∧ RowIn W W.heap.size rest ka j ∧ Hid (Seg ps rest j s) ∧ Hid (Below wc.heap.size wc wr)) (fun _ iv _ => kl - (RowKit.intOf iv).toNat)
        case atStart => exact ⟨0, 0, ks, rfl, rfl, by have := HKL.out; omega, hnp, T0.out.row, SG, Lib.hid (Below.refl _ _)⟩
        case round =>
          obtain ⟨j, s, rest, rfl, rfl, hj, hs, hrow, HS, HB⟩ := hrel
          obtain ⟨w8, hw8⟩ : ∃ w8, wr = w8 := ⟨_, rfl⟩
          rw [hw8] at HB ⊢
          clear hw8 wr x0
          have A8 := Lib.hid (A6.out.kept (HB.out.mono (Nat.le_of_lt hx6)))
          have N8 := Lib.hid (N6.out.kept HB.out hl6)
          have BX8 := Lib.hid (blk_below9 HB.out BX6.out)
          have B8 := Lib.hid (B6.out.trans (HB.out.mono (Nat.le_of_lt hl6)))
          have hl8 : W.heap.size < w8.heap.size := N8.out.1
          have hx8 : X < w8.heap.size := lt_of_block BX8.out
          have t13 := N8.out.facts.c13
          by_cases hlt : j < kl
          · obtain ⟨h', k', r', rfl⟩ : ∃ h' k' r', rest = .cons h' k' r' := by
              cases rest with
              | nil => exact absurd hj (by simp only [Trees.len]; omega)
              | cons x y z => exact ⟨x, y, z, rfl⟩
            obtain ⟨b1, off, ka', kl', kc', rfl, hb1, nd0, tv0⟩ := hrow.head
            have HR := Lib.hid hrow.2
            have ND := Lib.hid (nd0.kept B8.out hb1)
            have TO := Lib.hid (tv0.kept B8.out (Nat.le_refl _))
            simp only [Trees.len] at hj
            obtain ⟨m', oa, hsl, hz, hnz⟩ := HS.out
            have OA := Lib.hid oa; have HZ := Lib.hid hz; have HNZ := Lib.hid hnz
            clear hrow nd0 tv0 oa hz hnz HS
            go_wp2_with (refine cpLoad ND.out rfl rfl rfl ?_)
            refine (formula_code h' k' w8 W.heap.size ka' kl' kc' (Nat.le_of_lt hl8) TO.out).mono ?_
            rintro e w9 ⟨vI, vC, rfl, c9, b9⟩
            obtain ⟨a3, k3, a4, k4, rfl, rfl⟩ := c9.slices
            have Q9 := Lib.hid (c9.ofT (Nat.le_refl _) (fun m => by have := may_nodes m; omega))
            rw [m']
            have A9 := Lib.hid (A8.out.kept (b9.mono (Nat.le_of_lt hx8)))
            have N9 := Lib.hid (N8.out.kept b9 hl8)
            have BX9 := Lib.hid (blk_below9 b9 BX8.out)
            have HB9 := Lib.hid (HB.out.trans (b9.mono HB.out.size))
            have hl9 : W.heap.size < w9.heap.size := N9.out.1
            have hx9 : X < w9.heap.size := lt_of_block BX9.out
            clear c9 b9 A8 N8 BX8 B8 ND TO HB hl8 hx8 t13 m'
            obtain ⟨⟨qs, ds⟩, hc⟩ : ∃ c, codeT h' k' = c := ⟨_, rfl⟩
            rw [hc] at OA hsl HZ HNZ Q9 ⊢
            simp only at OA hsl HZ HNZ Q9 ⊢
            clear hc
            obtain ⟨L, hL⟩ : ∃ L, qs.length = L := ⟨_, rfl⟩
            rw [hL] at hsl HZ HNZ Q9 ⊢
            have HL := Lib.hid hL
            obtain ⟨D, hD⟩ : ∃ D, ds.length = D := ⟨_, rfl⟩
            rw [hD] at Q9 ⊢
            clear hL hD
            rw [HNI.out] at hsl HNZ
            go_upto_region 17 with (fail)
            obtain ⟨wd, hwd⟩ : ∃ wd, wd = w9.alloc (.cells #[.slice a3 L k3, .slice a4 D k4] 27) := ⟨_, rfl⟩
            rw [← hwd]
            obtain ⟨Z, hZ⟩ : ∃ Z, w9.heap.size = Z := ⟨_, rfl⟩
            have bzd : wd.heap[Z]? = some (.cells #[.slice a3 L k3, .slice a4 D k4] 27 (0, 0)) := by rw [hwd, ← hZ]; exact heap_alloc_new _ _
            have bd : Below Z w9 wd := by rw [hwd, ← hZ]; exact ext_alloc (Below.refl _ _) _
            have hlz : W.heap.size < Z := by rw [← hZ]; exact hl9
            have hxz : X < Z := by rw [← hZ]; exact hx9
            have hbz : wc.heap.size ≤ Z := by rw [← hZ]; exact HB9.out.size
            rw [hZ] at Q9 ⊢
            have Qd := Lib.hid (Q9.out.kept bd)
            have Ad := Lib.hid (A9.out.kept (bd.mono (Nat.le_of_lt hxz)))
            have Nd := Lib.hid (N9.out.kept bd hlz)
            have bxd : wd.heap[X]? = some (.cells #[.slice (some ⟨a1', ho, none⟩) ni k1, .slice a2 nc k2] 27 (0, 0)) := (bd.block X hxz).trans BX9.out
            have HBd := Lib.hid (HB9.out.trans (bd.mono hbz))
            have hzd : Z < wd.heap.size := lt_of_block bzd
            have hxd : X < wd.heap.size := lt_of_block bxd
            have BXd := Lib.hid bxd; have BZd := Lib.hid bzd
            clear hwd bd bzd bxd hZ Q9 A9 N9 BX9 HB9 hl9 hx9
            have x0 : wd.cell? ⟨X, 0, none⟩ = some (.slice (some ⟨a1', ho, none⟩) ni k1) := (cells_of_block BXd.out 0).trans rfl
            have z0 : wd.cell? ⟨Z, 0, none⟩ = some (.slice a3 L k3) := (cells_of_block BZd.out 0).trans rfl
            go_wp2_with fail
            refine pt_l1 (X := X) (Z := Z) (s := s) (L := L) x0 z0 hxd hzd Ad Qd (Nat.le_of_lt hxd) (Nat.le_of_lt hzd) HNI HL OA hsl hnb (Lib.hid ?_)
            intro v2 v76 v77 v78 v79 v80 v81 v82 v83 v84 v85 v86 v87 v88 v89 v90 v91 v92 v93 v94 v95 v96 v97 v98 v99 v100 v101 v102 v103 v104 v105 v106 v107 v108 we bb
            have HC := Lib.hid bb
            clear bb x0 z0
            have Ae := Lib.hid (Ad.out.kept (HC.out.mono (Nat.le_of_lt hxd)))
            have BXe := Lib.hid (blk_below9 HC.out BXd.out)
            have BZe := Lib.hid (blk_below9 HC.out BZd.out)
            have x0 : we.cell? ⟨X, 0, none⟩ = some (.slice (some ⟨a1', ho, none⟩) ni k1) := (cells_of_block BXe.out 0).trans rfl
            have z0 : we.cell? ⟨Z, 0, none⟩ = some (.slice a3 L k3) := (cells_of_block BZe.out 0).trans rfl
            have hxe : X < we.heap.size := lt_of_block BXe.out
            have hze : Z < we.heap.size := lt_of_block BZe.out
            obtain ⟨g1, o1, e1, r1⟩ := Ae.out.insRow (by rw [HNI.out]; exact hnp)
            injection e1 with e1
            injection e1 with e1 e2
            subst e1 e2
            clear BXe BZe
            have Ne := Lib.hid (Nd.out.kept HC.out (by omega))
            have t13 := Ne.out.facts.c13
            have HBe := Lib.hid (HBd.out.trans (HC.out.mono (by have := HBd.out.size; omega)))
            by_cases hr0 : r'.len = 0
            · have HS' := Lib.hid (HZ.out hr0)
              have hjk : j + 1 = kl := by omega
              have hjn : ¬ (j : Int) < (kl : Int) - 1 := by omega
              clear r1 HNZ HZ OA
              go_wp2
              go_roundw
              case rel => exact ⟨j + 1, s + L, r', congrArg (Value.int IntKind.i64) (by omega), congrArg (Value.int IntKind.i64) (by omega), by omega, by omega, HR.out, HS', HBe⟩
              case measure => simp [RowKit.intOf]; omega
            · obtain ⟨hi, hs'⟩ := HNZ.out (by omega)
              have HS' := Lib.hid hs'
              obtain ⟨t1, P1⟩ := r1 (s + L) _ hi
              have p0 := P1.c0; have p1 := P1.c1; have p2 := P1.c2
              have hg1 : a1' < we.heap.size := by have := P1.lt; omega
              simp only at p0 p1 p2
              have hjn : (j : Int) < (kl : Int) - 1 := by omega
              clear r1 hi hs' HNZ HZ OA P1
              go_upto_region 26 with (fail)
              obtain ⟨q, hq⟩ : ∃ q, s + L = q := ⟨_, rfl⟩
              rw [show (s : Int) + 1 + (L : Int) = (q : Int) + 1 by omega]
              rw [hq] at p0 p1 p2 HS'
              have s5 : q + 1 + 1 ≤ ni := by have := seg_lt HS'.out; have := HNI.out; omega
              refine pt_r26 (X := X) (q := q) (j := j) x0 hxe hg1 p0 p1 p2 (by omega) hnb (Lib.hid ?_)
              intro v120 v121 v122 v123 v124 v125 v126 v127 v128 v129 v130 v131 v132 v133 v134 v135 v136 v137 v138 v139 v140 v141 v142 v143 v144 v145 v146 v147 v148 v149 v150 v151 v152 v153 v154 v155 v156 v157 v158 nd9
              go_wp2
              go_roundw
              case rel => exact ⟨j + 1, q + 1, r', congrArg (Value.int IntKind.i64) (by omega), congrArg (Value.int IntKind.i64) (by omega), by omega, s5, HR.out, HS', Lib.hid (below_drewN HBe.out)⟩
              case measure => simp [RowKit.intOf]; omega
          · have hr0 : rest = .nil := kcs_nil (by omega)
            subst hr0
            have hz : s + 1 = ni := by rw [← HNI.out]; exact HS.out
            clear hrow HS
            subst hz
            have x0 : w8.cell? ⟨X, 0, none⟩ = some (.slice (some ⟨a1', ho, none⟩) (s + 1) k1) := (cells_of_block BX8.out 0).trans rfl
            obtain ⟨g1, o1, e1, r1⟩ := A8.out.insRow (by rw [HNI.out]; exact hnp)
            injection e1 with e1
            injection e1 with e1 e2
            subst e1 e2
            have la := LA.out
            rw [HNI.out, Nat.add_sub_cancel] at la
            obtain ⟨tv, P⟩ := r1 s _ la
            obtain ⟨ta, tk, rfl, -⟩ := id P.t
            have hg1 : a1' < w8.heap.size := by have := P.lt; omega
            have p0 := P.c0; have p1 := P.c1; have p2 := P.c2; have p3 := P.c3; have p4 := P.c4; have p5 := P.c5
            have n0 := N8.out.facts.c0; have n1 := N8.out.facts.c1; have n12 := N8.out.facts.c12
            rw [HKD.out] at n0
            clear r1 la P
            rcases HK3.out with q | q | ⟨q, qc⟩
            · have hq := HKD.out.trans q
              simp only [lastI, if_pos hq] at p0 p1 p2 p3 p4 p5
              clear hq
              subst q
              go_wp2
              go_ret
              exact ⟨rfl, B8.out.alloc (Nat.le_of_lt hl8) _⟩
            · have hq := HKD.out.trans q
              simp only [lastI, if_neg (show ¬ h.kind = 7 by omega), if_pos hq] at p0 p1 p2 p3 p4 p5
              clear hq
              subst q
              go_wp2
              go_ret
              exact ⟨rfl, B8.out.alloc (Nat.le_of_lt hl8) _⟩
            · have hq := HKD.out.trans q
              simp only [lastI, if_neg (show ¬ h.kind = 7 by omega), if_neg (show ¬ h.kind = 8 by omega)] at p0 p1 p2 p3 p4 p5
              rw [← HKL.out] at p2
              clear hq qc
              subst q
              go_wp2
              go_ret
              exact ⟨rfl, B8.out.alloc (Nat.le_of_lt hl8) _⟩
end Go.Proofs.YtlmpiobdgkmmgaaGreatDoor
