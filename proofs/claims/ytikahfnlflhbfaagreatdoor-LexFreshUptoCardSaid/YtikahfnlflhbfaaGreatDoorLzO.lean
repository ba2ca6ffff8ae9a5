/- law8's begun: three texts whose words are known. -/
import Derived.Test.YtikahfnlflhbfaaGreatDoorLzN
namespace Go.Proofs.YtikahfnlflhbfaaGreatDoor
open Go.RowKit Go.Lib

theorem bg8a : cutL [116, 114, 117, 101, 32, 60, 62, 35, 78, 47, 65] = ⟨[⟨5, [84, 82, 85, 69], 0⟩, ⟨7, [60, 62], 5⟩, ⟨6, [35, 78, 47, 65], 7⟩], 0, 0⟩ := by kernel_rfl
theorem bg8b : cutL [50, 46, 53] = ⟨[], 1, 21⟩ := by kernel_rfl
theorem bg8c : cutL [57, 50, 50, 51, 51, 55, 50, 48, 51, 54, 56, 53, 52, 55, 55, 53, 56, 48, 56] = ⟨[], 0, 12⟩ := by kernel_rfl
theorem cut_const {s : ByteArray} {a : CutA} (h : cutL s.data.toList = a) (hs : s.size ≤ 9223372036854775807) (w : World) (L : LaidX w) : Calls Tryz.prog 8 #[.string s] w (CutPost w a) := by rw [← h]; exact lexCut_any s w L hs
set_option maxRecDepth 100000 in
set_option maxHeartbeats 4000000 in
theorem begun8_any (w : World) (L : LaidX w) : Calls Tryz.prog 5 #[] w (TruePost w) := by
  have HL := Lib.hid L
  have C1 := Lib.hid (cut_const (s := ⟨#[116, 114, 117, 101, 32, 60, 62, 35, 78, 47, 65]⟩) bg8a (by decide) w L)
  clear L
  go_enter Tryz.func5, Tryz.ntmps5
  go_wp2_with fail
  refine (C1.out).mono ?_
  rintro e w1 ⟨v1, rfl, b1, r1⟩
  have B1 := Lib.hid b1; have R1 := Lib.hid r1
  have HL1 := Lib.hid (HL.out.kept b1)
  have C2 := Lib.hid (cut_const (s := ⟨#[50, 46, 53]⟩) bg8b (by decide) w1 HL1.out)
  clear b1 r1 C1
  go_wp2_with fail
  refine (C2.out).mono ?_
  rintro e w2 ⟨v2, rfl, b2, r2⟩
  have B2 := Lib.hid (B1.out.trans (b2.mono B1.out.size))
  have R2 := Lib.hid (R1.out.kept fun k hk => b2.block k (R1.out.lt k hk).2)
  have HL2 := Lib.hid (HL1.out.kept b2)
  have C3 := Lib.hid (cut_const (s := ⟨#[57, 50, 50, 51, 51, 55, 50, 48, 51, 54, 56, 53, 52, 55, 55, 53, 56, 48, 56]⟩) bg8c (by decide) w2 HL2.out)
  clear b2 r2 R1 C2
  go_wp2_with fail
  refine (C3.out).mono ?_
  rintro e w3 ⟨v3, rfl, b3, r3⟩
  have B3 := Lib.hid (B2.out.trans (b3.mono B2.out.size))
  have R3 := Lib.hid (R2.out.kept fun k hk => b3.block k (R2.out.lt k hk).2)
  clear b3 r3 R2 C3 HL HL1 HL2
  obtain ⟨a1, kc1, rfl, A1, -⟩ := R3.out.at_
  have HA1 := Lib.hid A1
  have HA2 : Hid (WdAt (w3.alloc (.cells #[.int .i64 5, .string ⟨#[84, 82, 85, 69]⟩, .int .i64 0, .int .i64 7, .string ⟨#[60, 62]⟩, .int .i64 5, .int .i64 6, .string ⟨#[35, 78, 47, 65]⟩, .int .i64 7] 34)) (w3.heap.size + 1) [⟨5, [84, 82, 85, 69], 0⟩, ⟨7, [60, 62], 5⟩, ⟨6, [35, 78, 47, 65], 7⟩] (some ⟨w3.heap.size, 0, none⟩)) := Lib.hid (by
    refine ⟨by simp, fun j x hj => ⟨w3.heap.size, 0, rfl, by omega, by simp, ?_⟩⟩
    have hc := blk_at8 (heap_alloc_new w3 (.cells #[.int .i64 5, .string ⟨#[84, 82, 85, 69]⟩, .int .i64 0, .int .i64 7, .string ⟨#[60, 62]⟩, .int .i64 5, .int .i64 6, .string ⟨#[35, 78, 47, 65]⟩, .int .i64 7] 34))
    match j, hj with
    | 0, hj => simp at hj; subst hj; exact ⟨hc 0, hc 1, hc 2⟩
    | 1, hj => simp at hj; subst hj; exact ⟨hc 3, hc 4, hc 5⟩
    | 2, hj => simp at hj; subst hj; exact ⟨hc 6, hc 7, hc 8⟩
    | j + 3, hj => simp at hj)
  have CE : Hid (∀ kc', Calls Tryz.prog 9 #[.slice a1 3 kc1, .slice (some ⟨w3.heap.size, 0, none⟩) 3 kc'] (w3.alloc (.cells #[.int .i64 5, .string ⟨#[84, 82, 85, 69]⟩, .int .i64 0, .int .i64 7, .string ⟨#[60, 62]⟩, .int .i64 5, .int .i64 6, .string ⟨#[35, 78, 47, 65]⟩, .int .i64 7] 34)) fun e w' => e = .returned (.bool true) ∧ Below (w3.heap.size + 1) (w3.alloc (.cells #[.int .i64 5, .string ⟨#[84, 82, 85, 69]⟩, .int .i64 0, .int .i64 7, .string ⟨#[60, 62]⟩, .int .i64 5, .int .i64 6, .string ⟨#[35, 78, 47, 65]⟩, .int .i64 7] 34)) w') := Lib.hid fun kc' => by
    refine (lawEq8_any [⟨5, [84, 82, 85, 69], 0⟩, ⟨7, [60, 62], 5⟩, ⟨6, [35, 78, 47, 65], 7⟩] [⟨5, [84, 82, 85, 69], 0⟩, ⟨7, [60, 62], 5⟩, ⟨6, [35, 78, 47, 65], 7⟩] _ w3.heap.size (w3.heap.size + 1) a1 _ kc1 kc' (HA1.out.kept (ext_alloc (Below.refl _ _) _) (Nat.le_refl _)) HA2.out (by simp) (by simp)).mono ?_
    rintro e w' ⟨rfl, hb⟩
    exact ⟨ret_bool8 (by simp), by simpa using hb⟩
  clear A1
  go_wp2_with (go_at_call 9; refine (CE.out _).mono ?_; rintro e w4 ⟨rfl, b4⟩)
  go_ret
  exact ⟨rfl, (B3.out.alloc B3.out.size _).trans (b4.mono (by have := B3.out.size; omega))⟩
end Go.Proofs.YtikahfnlflhbfaaGreatDoor
