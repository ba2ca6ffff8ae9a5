/- LexAll: the answer is the document's; any texts, one behind the other. -/
import Derived.Test.YtikahfnlflhbfaaGreatDoorLzL
import Derived.Test.YtikahfnlflhbfaaGreatDoorLzO
namespace Go.Proofs.YtikahfnlflhbfaaGreatDoor
open Go.RowKit Go.Lib

theorem cutR_err : ∀ (f p : Nat) (r : List UInt8) (acc : List WordL), (cutR f p r acc).err ≠ 0 → (cutR f p r acc).words = []
  | 0, _, _, _, h => absurd rfl h
  | f + 1, p, r, acc, h => by
    unfold cutR at h ⊢
    split at h
    · exact absurd rfl h
    · rename_i h1
      rw [if_neg h1]
      split at h
      · rename_i h2
        rw [if_pos h2]; exact cutR_err f _ _ _ h
      · rename_i h2
        rw [if_neg h2]
        split at h
        · rename_i h3
          rw [if_pos h3]
        · rename_i h3
          rw [if_neg h3]; exact cutR_err f _ _ _ h
theorem cutL_err {l : List UInt8} (h : (cutL l).err ≠ 0) : (cutL l).words = [] := by
  unfold cutL at h ⊢
  split
  · rfl
  · rename_i h1
    rw [if_neg h1] at h
    exact cutR_err _ _ _ _ h
set_option maxRecDepth 100000 in
set_option maxHeartbeats 4000000 in
theorem like8_any (s : ByteArray) (w : World) (L : LaidX w) (hs : s.size ≤ 9223372036854775807) : Calls Tryz.prog 6 #[.string s] w (TruePost w) := by
  obtain ⟨a, ha⟩ : ∃ a, cutL s.data.toList = a := ⟨_, rfl⟩
  have HE : Hid (a.err ≠ 0 → a.words = []) := Lib.hid (by rw [← ha]; exact cutL_err)
  have C1 := Lib.hid (cut_const ha hs w L)
  have C2 : Hid (∀ W, Calls Tryz.prog 7 #[.string s] W (CutPost W a)) := Lib.hid fun W => by rw [← ha]; exact rf8Cut_any s W hs
  clear ha L
  go_enter Tryz.func6, Tryz.ntmps6
  go_wp2_with fail
  refine (C1.out).mono ?_
  rintro e w1 ⟨v1, rfl, b1, r1⟩
  have B1 := Lib.hid b1; have R1 := Lib.hid r1
  clear b1 r1 C1
  go_wp2_with fail
  refine (C2.out w1).mono ?_
  rintro e w2 ⟨v2, rfl, b2, r2⟩
  have B2 := Lib.hid (B1.out.trans (b2.mono B1.out.size))
  have R2 := Lib.hid (R1.out.kept fun k hk => b2.block k (R1.out.lt k hk).2)
  have R3 := Lib.hid r2
  clear b2 r2 R1 C2
  obtain ⟨a1, kc1, rfl, A1, -⟩ := R2.out.at_
  obtain ⟨a2, kc2, rfl, A2, -⟩ := R3.out.at_
  have CE : Hid (Calls Tryz.prog 9 #[.slice a1 a.words.length kc1, .slice a2 a.words.length kc2] w2 fun e w' => e = .returned (.bool true) ∧ Below w2.heap.size w2 w') := Lib.hid (by
    refine (lawEq8_any a.words a.words w2 w2.heap.size w2.heap.size a1 a2 kc1 kc2 A1 A2 (Nat.le_refl _) (Nat.le_refl _)).mono ?_
    rintro e w' ⟨rfl, hb⟩
    exact ⟨ret_bool8 (by simp), hb⟩)
  clear A1 A2 R2 R3
  obtain ⟨ws, pl, err⟩ := a
  simp only at CE HE
  obtain ⟨n, hn⟩ : ∃ n, ws.length = n := ⟨_, rfl⟩
  simp only at *
  rw [hn] at CE
  rw [hn]
  by_cases he : err = 0
  · subst he
    clear hn HE
    go_wp2_with (go_at_call 9; refine (CE.out).mono ?_; rintro e w4 ⟨rfl, b4⟩)
    go_ret
    exact ⟨rfl, B2.out.trans (b4.mono B2.out.size)⟩
  · have h0 : n = 0 := by rw [← hn, HE.out he]; rfl
    subst h0
    have e1 : (err == 0) = false := by simpa using he
    clear hn HE
    go_wp2_with (go_at_call 9; refine (CE.out).mono ?_; rintro e w4 ⟨rfl, b4⟩)
    go_ret
    exact ⟨rfl, B2.out.trans (b4.mono B2.out.size)⟩
/-- Texts, lying in the world. -/
def TxtsIn (w : World) (a : Option Addr) (n : Nat) : Prop := n ≤ 9223372036854775807 ∧ ∀ i, i < n → ∃ b off t, a = some ⟨b, off, none⟩ ∧ b < w.heap.size ∧ w.cell? ⟨b, off + i, none⟩ = some (.string t) ∧ t.size ≤ 9223372036854775807
def LaRel (n : Nat) (w : World) (nv i : Value) (wr : World) : Prop := ∃ (k : Nat) (z : Int), i = .int .i64 k ∧ nv = .int .i64 z ∧ k ≤ n ∧ Hid (Below w.heap.size w wr)
set_option maxRecDepth 100000 in
set_option maxHeartbeats 4000000 in
theorem lexAll_any (a : Option Addr) (n c : Nat) (w : World) (L : LaidX w) (hT : Hid (TxtsIn w a n)) : Calls Tryz.prog 3 #[.slice a n c] w (TruePost w) := by
  have HL := Lib.hid L
  have hmax : n ≤ 9223372036854775807 := hT.out.1
  clear L
  go_enter Tryz.func3, Tryz.ntmps3
  go_wp2_with fail
  refine (begun8_any w HL.out).mono ?_
  rintro e w1 ⟨rfl, b1⟩
  have B1 := Lib.hid b1
  clear b1
  go_wp2_with fail
  go_loopw [3, 4] (fun nv i wr => LaRel n w nv i wr) (fun _ i _ => n - (intOf i).toNat)
  case atStart => exact ⟨0, 0, rfl, rfl, Nat.zero_le _, B1⟩
  case round =>
    obtain ⟨k, z, rfl, rfl, hk, HB⟩ := hrel
    by_cases hlt : k < n
    · obtain ⟨b, off, t, rfl, hb, hc, htz⟩ := hT.out.2 k hlt
      have kt : wr.cell? ⟨b, off + k, none⟩ = some (.string t) := (HB.out.cell (p := ⟨b, off + k, none⟩) hb).trans hc
      have HLr := HL.out.kept HB.out
      have CL := Lib.hid (like8_any t wr HLr htz)
      clear HLr hc
      obtain ⟨z1, hz1⟩ : ∃ z1, IntKind.i64.wrap (z + 100) = z1 := ⟨_, rfl⟩
      obtain ⟨z2, hz2⟩ : ∃ z2, IntKind.i64.wrap (z1 + (t.size : Int)) = z2 := ⟨_, rfl⟩
      by_cases hz : 4194304 < z2
      · go_wp2_with fail
        go_ret
        exact ⟨rfl, HB.out⟩
      · go_wp2_with fail
        refine (CL.out).mono ?_
        rintro e w2 ⟨rfl, b2⟩
        have HB2 := Lib.hid (HB.out.trans (b2.mono HB.out.size))
        clear b2
        go_wp2_with fail
        go_roundw
        case rel => exact ⟨k + 1, _, by go_num, rfl, by omega, HB2⟩
        case measure => simp [intOf]; omega
    · go_wp2_with fail
      go_ret
      exact ⟨rfl, HB.out⟩
end Go.Proofs.YtikahfnlflhbfaaGreatDoor
