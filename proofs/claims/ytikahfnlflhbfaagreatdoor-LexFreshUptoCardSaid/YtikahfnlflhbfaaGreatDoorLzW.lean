/- LexFresh: the whole. -/
import Derived.Test.YtikahfnlflhbfaaGreatDoorLzV
namespace Go.Proofs.YtikahfnlflhbfaaGreatDoor
open Go.RowKit Go.Lib

def FxR1 (w0 : World) (n : Nat) (zv vL vQ vW vN iv : Value) (wr : World) : Prop :=
  ∃ (k N : Nat) (z : Int) (cl : Nat → Nat) (cL cQ cW : List Value) (ns : List Nat), zv = .int .i64 z ∧ iv = .int .i64 (k : Int) ∧ k ≤ n ∧ k ≤ 300 ∧ Hid (FxS w0 w0.heap.size N cl (fun j => j < cL.length) (fun _ => 0) vL vQ vW vN cL cQ cW ns wr) ∧
    Hid (ns.length = cL.length) ∧ Hid (cW.length = cQ.length) ∧ cL.length ≤ k ∧ cQ.length ≤ 2 * k
set_option maxRecDepth 1000000 in
set_option maxHeartbeats 16000000 in
theorem lexFresh_any (a : Option Addr) (n c : Nat) (w : World) (L : LaidX w) (hT : Hid (TxtsIn w a n)) : Calls Tryz.prog 4 #[.slice a n c] w (TruePost w) := by
  have HLX := Lib.hid L
  have hmax : n ≤ 9223372036854775807 := hT.out.1
  clear L
  go_enter Tryz.func4, Tryz.ntmps4
  go_wp2_with fail
  refine (begun8_any w HLX.out).mono ?_
  rintro e w1 ⟨rfl, b1⟩
  have B1 := Lib.hid b1
  clear b1
  go_wp2_with fail
  go_loopw [3, 4, 5, 6, 7, 8] (fun zv vL vQ vW vN iv wr => FxR1 w n zv vL vQ vW vN iv wr) (fun _ _ _ _ _ iv _ => n - (intOf iv).toNat)
  case atStart => exact ⟨0, _, 0, _, [], [], [], [], rfl, rfl, Nat.zero_le _, by omega, Lib.hid (FxS.start w _ rfl w1 B1.out), Lib.hid rfl, Lib.hid rfl, Nat.le_refl _, Nat.le_refl _⟩
  case round =>
    obtain ⟨k, N, z, cl, cL, cQ, cW, ns, rfl, rfl, hk, hk3, FS, HN, HW, hcl, hcq⟩ := hrel
    by_cases hlt : k < n
    · by_cases h3 : k < 300
      · obtain ⟨bt, off, t, rfl, hb, hc, htz⟩ := hT.out.2 k hlt
        have KT : Hid (∀ W, Below w.heap.size w W → W.cell? ⟨bt, off + k, none⟩ = some (.string t)) := Lib.hid fun W hW => (hW.cell (p := ⟨bt, off + k, none⟩) hb).trans hc
        obtain ⟨wx, rfl⟩ : ∃ wx, wx = wr := ⟨_, rfl⟩
        have kt := KT.out wx FS.out.bel
        obtain ⟨⟨ws, pl, er⟩, hA⟩ : ∃ A, cutL t.data.toList = A := ⟨_, rfl⟩
        have HA := Lib.hid hA
        have C2 : Hid (Calls Tryz.prog 7 #[.string t] wx (CutPost wx ⟨ws, pl, er⟩)) := Lib.hid (by rw [← hA]; exact rf8Cut_any t wx htz)
        obtain ⟨z1, hz1⟩ : ∃ z1, IntKind.i64.wrap (z + 100) = z1 := ⟨_, rfl⟩
        obtain ⟨z2, hz2⟩ : ∃ z2, IntKind.i64.wrap (60 * (t.size : Int)) = z2 := ⟨_, rfl⟩
        obtain ⟨z3, hz3⟩ : ∃ z3, IntKind.i64.wrap (z1 + z2) = z3 := ⟨_, rfl⟩
        have u1 : (k : Int) < (n : Int) := by omega
        have u2 : (k : Int) < 300 := by omega
        clear hb hc hA
        by_cases hz : 16777216 < z3
        · go_wp2_with fail
          exact ⟨⟨k + 1, _, _, _, _, _, _, _, rfl, by go_num, by omega, by omega, FS, HN, HW, by omega, by omega⟩, by simp [intOf]; omega⟩
        · go_wp2_with fail
          refine (C2.out).mono ?_
          rintro e w2 ⟨v2, rfl, b2, r2⟩
          obtain ⟨a2, kc2, rfl, -, -⟩ := r2.at_
          have hNw : N ≤ wx.heap.size := FS.out.hN
          have FS2 := Lib.hid (FS.out.kept 5 (b2.mono hNw))
          have HK2 : Hid (Wl w.heap.size w2.heap.size (upc cl N 5) 5 w2 ws (.slice a2 ws.length kc2)) := Lib.hid ⟨r2.base (Nat.le_trans FS.out.hb hNw), Cls.later fun x hx => ⟨Nat.le_trans hNw (r2.lt x hx).1, (r2.lt x hx).2⟩⟩
          clear b2 r2 kt C2 hz1 hz2 hz3
          go_wp2_with fail
          refine fx_l2 HLX KT htz HA h3 hlt FS2 HK2 HN.out HW.out hcl hcq (Lib.hid ?_)
          intros
          rename_i N' cl' cL' cQ' cW' ns' w' FS3 hn3 hw3 hl3 hq3
          have HN3 := Lib.hid hn3; have HW3 := Lib.hid hw3
          clear hn3 hw3 FS FS2 HK2
          go_wp2_with fail
          exact ⟨⟨k + 1, _, _, _, cL', cQ', cW', ns', rfl, by go_num, by omega, by omega, FS3, HN3, HW3, by omega, by omega⟩, by simp [intOf]; omega⟩
      · have u1 : (k : Int) < (n : Int) := by omega
        have u2 : ¬ (k : Int) < 300 := by omega
        obtain ⟨aL, kL, rfl⟩ := World.ownsRow.slice FS.out.rL.own
        obtain ⟨aQ, kQ, rfl⟩ := World.ownsRow.slice FS.out.rQ.own
        obtain ⟨aW, kW, eW⟩ := World.ownsRow.slice FS.out.rW.own
        rw [HW.out] at eW
        obtain rfl := eW
        obtain ⟨aN, kN, eN⟩ := World.ownsRow.slice FS.out.rN.own
        rw [List.length_map, HN.out] at eN
        obtain rfl := eN
        go_wp2_with fail
        refine fx_l4 FS rfl (by omega) (Lib.hid ?_)
        intros
        rename_i N4 cl4 cL4 w4 hL4 FS4
        have HL4 := Lib.hid hL4
        clear hL4
        go_wp2_with fail
        refine fx_l6 FS4 rfl HW.out (by omega) (Lib.hid ?_)
        intros
        rename_i N6 cl6 w6 FS6
        go_wp2_with fail
        refine fx_l7 FS6 HL4.out HN.out (by omega) (Lib.hid ?_)
        intros
        rename_i N7 cl7 w7 FS7
        go_wp2_with fail
        go_ret
        exact ⟨rfl, FS7.out.bel⟩
    · have u1 : ¬ (k : Int) < (n : Int) := by omega
      obtain ⟨aL, kL, rfl⟩ := World.ownsRow.slice FS.out.rL.own
      obtain ⟨aQ, kQ, rfl⟩ := World.ownsRow.slice FS.out.rQ.own
      obtain ⟨aW, kW, eW⟩ := World.ownsRow.slice FS.out.rW.own
      rw [HW.out] at eW
      obtain rfl := eW
      obtain ⟨aN, kN, eN⟩ := World.ownsRow.slice FS.out.rN.own
      rw [List.length_map, HN.out] at eN
      obtain rfl := eN
      go_wp2_with fail
      refine fx_l4 FS rfl (by omega) (Lib.hid ?_)
      intros
      rename_i N4 cl4 cL4 w4 hL4 FS4
      have HL4 := Lib.hid hL4
      clear hL4
      go_wp2_with fail
      refine fx_l6 FS4 rfl HW.out (by omega) (Lib.hid ?_)
      intros
      rename_i N6 cl6 w6 FS6
      go_wp2_with fail
      refine fx_l7 FS6 HL4.out HN.out (by omega) (Lib.hid ?_)
      intros
      rename_i N7 cl7 w7 FS7
      go_wp2_with fail
      go_ret
      exact ⟨rfl, FS7.out.bel⟩
end Go.Proofs.YtikahfnlflhbfaaGreatDoor
