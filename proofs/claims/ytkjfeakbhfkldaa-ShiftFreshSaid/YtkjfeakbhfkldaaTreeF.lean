/- Trees: the reference's all and May. -/
import Derived.Test.YtkjfeakbhfkldaaTreeE
import Derived.Test.YtkjfeakbhfkldaaTreeC
namespace Go.Proofs.Ytkjfeakbhfkldaa
open Go.RowKit

theorem ret_int {a b : Int} (h : a = b) : Ending.returned (.int .i64 a) = .returned (.int .i64 b) := by rw [h]
/-- Are all nodes as the document tells? -/
def allFits : Trees → Bool
  | .nil => true
  | .cons h k r => fitsV h k.len && allFits k && allFits r
def treeFits (h : Hd) (ks : Trees) : Bool := fitsV h ks.len && allFits ks
def mayE (h : Hd) (ks : Trees) : Int := if Fine h ks then (if treeFits h ks = true then 0 else 22) else 2

def AllPost (h : Hd) (ks : Trees) (w : World) (e : Ending) (w' : World) : Prop := e = .returned (.bool (treeFits h ks)) ∧ Below w.heap.size w w'
def RAll (h : Hd) (ks : Trees) : Prop := ∀ (w : World) (B : Nat) (ka : Option Addr) (kl kc : Nat), B ≤ w.heap.size → TreeV w B h ks ka kl →
  Calls Try.prog 77 #[.agg #[.int .i64 h.kind, .int .i64 h.op, .int .i64 h.num, .string ⟨h.text.toArray⟩, .int .i64 h.ref.row, .int .i64 h.ref.col, .bool h.ref.pr, .bool h.ref.pc, .int .i64 h.to.row, .int .i64 h.to.col, .bool h.to.pr, .bool h.to.pc, .int .i64 h.fn, .slice ka kl kc]] w (AllPost h ks w)
def ARel (ks : Trees) (kl B : Nat) (ka : Option Addr) (w wr : World) (i : Value) : Prop :=
  ∃ (j : Nat) (rest : Trees), i = .int .i64 j ∧ j + rest.len = kl ∧ RowIn wr B rest ka j ∧ AllT RAll rest ∧ Below w.heap.size w wr ∧ Hid (allFits rest = allFits ks)

set_option maxRecDepth 100000 in
set_option maxHeartbeats 4000000 in
theorem refAll_step (h : Hd) (ks : Trees) (ih : AllT RAll ks) : RAll h ks := by
  intro w B ka kl kc hB tv
  have hm := tv.max
  have HI := Lib.hid ih; clear ih
  have HT := Lib.hid tv; clear tv
  have F := fits_any h ka kl kc
  simp only [Hd.vals] at F
  have HF := Lib.hid F; clear F
  go_enter Try.func77, Try.ntmps77
  go_wp2_with fail
  refine (HF.out _ hm).mono ?_; rintro e w1 ⟨rfl, b1⟩
  cases hf : fitsV h kl
  · have hx : treeFits h ks = false := by unfold treeFits; rw [← HT.out.len, hf]; rfl
    have HX := Lib.hid hx; clear hx hf
    go_wp2
    go_ret
    exact ⟨ret_bool HX.out.symm, ext_trans (ext_alloc (Below.refl _ _) _) b1⟩
  · have hx : treeFits h ks = allFits ks := by unfold treeFits; rw [← HT.out.len, hf]; rfl
    have HX := Lib.hid hx; clear hx hf
    go_wp2_with fail
    go_loopw [3] (fun i wr => ARel ks kl B ka (w.alloc (.cells #[.int .i64 h.kind, .int .i64 h.op, .int .i64 h.num, .string ⟨h.text.toArray⟩, .int .i64 h.ref.row, .int .i64 h.ref.col, .bool h.ref.pr, .bool h.ref.pc, .int .i64 h.to.row, .int .i64 h.to.col, .bool h.to.pr, .bool h.to.pc, .int .i64 h.fn, .slice ka kl kc] 29)) wr i) (fun i _ => kl - (intOf i).toNat)
    case atStart =>
      exact ⟨0, ks, rfl, by have := HT.out.len; omega, HT.out.row.kept (((Below.refl _ _).alloc hB _).trans (b1.mono (by simp; omega))) (Nat.le_refl _), HI.out, b1, Lib.hid rfl⟩
    case round =>
      obtain ⟨j, rest, rfl, hj, hrow, hall, hbel, H1⟩ := hrel
      obtain ⟨zb, cb⟩ := kept_block hbel
      by_cases hlt : j < kl
      · obtain ⟨h', k', r', rfl⟩ := trees_cons (rest := rest) (by omega)
        obtain ⟨bb, off, ka', kl', kc', rfl, hb1, N1, tv1⟩ := hrow.head
        obtain ⟨hl1, c0, c1, c2, c3, c4, c5, c6, c7, c8, c9, c10, c11, c12, c13, d5, d6, d7, d9, d10, d11⟩ := N1.facts
        clear d5 d6 d7 d9 d10 d11 N1
        have HT1 := Lib.hid tv1; clear tv1
        have HC := Lib.hid (hall.1); have HA := Lib.hid hall.2; clear hall
        have HRow := Lib.hid hrow.2; clear hrow
        have HJ := Lib.hid hj; clear hj
        go_wp2_with fail
        refine (HC.out _ B ka' kl' kc' (by have := hbel.size; simp at this; omega) HT1.out).mono ?_
        clear c0 c1 c2 c3 c4 c5 c6 c7 c8 c9 c10 c11 c12 c13
        rintro e w2 ⟨rfl, b2⟩
        cases hq : treeFits h' k'
        · have hz : treeFits h ks = false := by rw [HX.out, ← H1.out]; unfold allFits; unfold treeFits at hq; rw [hq]; rfl
          have HZ := Lib.hid hz; clear hz hq
          go_wp2
          go_ret
          exact ⟨ret_bool HZ.out.symm, ((Below.refl _ _).alloc (Nat.le_refl _) _).trans ((hbel.trans (b2.mono hbel.size)).mono (by simp))⟩
        · have hz : allFits r' = allFits ks := by rw [← H1.out]; unfold treeFits at hq; conv => rhs; unfold allFits
                                                  rw [hq]; rfl
          have HZ := Lib.hid hz; clear hz hq
          go_wp2
          exact ⟨⟨j + 1, r', by go_num, by have := HJ.out; simp only [Trees.len] at this; omega, HRow.out.kept b2 (by have := hbel.size; simp at this; omega), HA.out, hbel.trans (b2.mono hbel.size), HZ⟩, by simp [intOf]; omega⟩
      · have hz : rest.len = 0 := by omega
        obtain rfl := trees_nil hz
        go_wp2
        go_ret
        exact ⟨ret_bool (by rw [HX.out, ← H1.out]; rfl), ((Below.refl _ _).alloc (Nat.le_refl _) _).trans (hbel.mono (by simp))⟩
theorem refAll_any (h : Hd) (ks : Trees) : RAll h ks := refAll_step h ks (allT refAll_step ks)

def MayPost (h : Hd) (ks : Trees) (w : World) (e : Ending) (w' : World) : Prop := e = .returned (.int .i64 (mayE h ks)) ∧ Below w.heap.size w w'
set_option maxRecDepth 100000 in
set_option maxHeartbeats 1000000 in
theorem refMay_any (h : Hd) (ks : Trees) (w : World) (B : Nat) (ka : Option Addr) (kl kc : Nat) (hB : B ≤ w.heap.size) (tv : TreeV w B h ks ka kl) :
    Calls Try.prog 48 #[.agg #[.int .i64 h.kind, .int .i64 h.op, .int .i64 h.num, .string ⟨h.text.toArray⟩, .int .i64 h.ref.row, .int .i64 h.ref.col, .bool h.ref.pr, .bool h.ref.pc, .int .i64 h.to.row, .int .i64 h.to.col, .bool h.to.pr, .bool h.to.pc, .int .i64 h.fn, .slice ka kl kc]] w (MayPost h ks w) := by
  have HT := Lib.hid tv; clear tv
  go_enter Try.func48, Try.ntmps48
  go_wp2_with fail
  refine (refSize_any h ks _ B ka kl kc (by simp; omega) (HT.out.kept ((Below.refl _ _).alloc hB _) (Nat.le_refl _))).mono ?_
  rintro e w2 ⟨rfl, b2⟩
  obtain ⟨zb, cb⟩ := kept_block b2
  by_cases f : Fine h ks
  · obtain ⟨s1, s2, s3⟩ := size_yes f
    have g1 : sizeN h ks ≤ 512 := by have := f.1; omega
    have hm : mayE h ks = if treeFits h ks = true then 0 else 22 := by simp [mayE, f]
    have HM := Lib.hid hm
    clear s1 s2 s3 f hm
    go_wp2_with fail
    refine (refAll_any h ks _ B ka kl kc (by omega) (HT.out.kept (((Below.refl _ _).alloc hB _).trans (b2.mono (by simp; omega))) (Nat.le_refl _))).mono ?_
    rintro e w3 ⟨rfl, b3⟩
    cases hq : treeFits h ks
    · have hm : mayE h ks = 22 := by rw [HM.out, hq]; rfl
      have HM2 := Lib.hid hm
      clear hm hq HM
      go_wp2
      go_ret
      exact ⟨ret_int HM2.out.symm, ext_trans (ext_trans (ext_alloc (Below.refl _ _) _) b2) b3⟩
    · have hm : mayE h ks = 0 := by rw [HM.out, hq]; rfl
      have HM2 := Lib.hid hm
      clear hm hq HM
      go_wp2
      go_ret
      exact ⟨ret_int HM2.out.symm, ext_trans (ext_trans (ext_alloc (Below.refl _ _) _) b2) b3⟩
  · obtain ⟨s1, s2, s3⟩ := size_no f
    have g1 : 512 < sizeN h ks := by omega
    have hm : mayE h ks = 2 := by simp [mayE, f]
    have HM := Lib.hid hm
    clear s1 s2 s3 f hm
    go_wp2
    go_ret
    exact ⟨ret_int HM.out.symm, ext_trans (ext_alloc (Below.refl _ _) _) b2⟩
end Go.Proofs.Ytkjfeakbhfkldaa
