/- Trees: how many nodes one has, as the laws of chapter 10 count them. -/
import Derived.Test.YtkjfeakbhfkldaaTreeG
import Derived.BigRegion
import Derived.BigQuiet
import Derived.Deep.QuietTactic
namespace Go.Proofs.Ytkjfeakbhfkldaa
open Go.RowKit

def Hd.wt (h : Hd) : Nat := 1 + h.text.length / 1024
def Trees.wt : Trees → Nat
  | .nil => 0
  | .cons h k r => h.wt + k.wt + r.wt
def NdPost (h : Hd) (ks : Trees) (n : Int) (w : World) (e : Ending) (w' : World) : Prop :=
  ∃ r : Int, e = .returned (.int .i64 r) ∧ Below w.heap.size w w' ∧ -1000000000000000 ≤ r ∧ r ≤ n ∧ (((h.wt + ks.wt : Nat) : Int) ≤ n → r = n - ((h.wt + ks.wt : Nat) : Int)) ∧ (¬ ((h.wt + ks.wt : Nat) : Int) ≤ n → r < 0)
def RNd (h : Hd) (ks : Trees) : Prop := ∀ (w : World) (B : Nat) (ka : Option Addr) (kl kc : Nat) (n : Int), 0 ≤ n → n ≤ 2000 → B ≤ w.heap.size → TreeV w B h ks ka kl →
  Calls Try.prog 64 #[.agg #[.int .i64 h.kind, .int .i64 h.op, .int .i64 h.num, .string ⟨h.text.toArray⟩, .int .i64 h.ref.row, .int .i64 h.ref.col, .bool h.ref.pr, .bool h.ref.pc, .int .i64 h.to.row, .int .i64 h.to.col, .bool h.to.pr, .bool h.to.pc, .int .i64 h.fn, .slice ka kl kc], .int .i64 n] w (NdPost h ks n w)
/-- The loop: x is left behind the kids that were counted. -/
def NRel (nd : Hd) (ks : Trees) (n : Int) (kl kc B : Nat) (ka : Option Addr) (w wr : World) (v i : Value) : Prop :=
  ∃ (j : Nat) (x : Int) (rest : Trees), i = .int .i64 j ∧ v = .int .i64 x ∧ Hid (j + rest.len = kl) ∧ RowIn wr B rest ka j ∧ AllT RNd rest ∧ Below (w.alloc (.cells #[.int .i64 nd.kind, .int .i64 nd.op, .int .i64 nd.num, .string ⟨nd.text.toArray⟩, .int .i64 nd.ref.row, .int .i64 nd.ref.col, .bool nd.ref.pr, .bool nd.ref.pc, .int .i64 nd.to.row, .int .i64 nd.to.col, .bool nd.to.pr, .bool nd.to.pc, .int .i64 nd.fn, .slice ka kl kc] 29)).heap.size (w.alloc (.cells #[.int .i64 nd.kind, .int .i64 nd.op, .int .i64 nd.num, .string ⟨nd.text.toArray⟩, .int .i64 nd.ref.row, .int .i64 nd.ref.col, .bool nd.ref.pr, .bool nd.ref.pc, .int .i64 nd.to.row, .int .i64 nd.to.col, .bool nd.to.pr, .bool nd.to.pc, .int .i64 nd.fn, .slice ka kl kc] 29)) wr ∧ -1000000000000000 ≤ x ∧ x ≤ n ∧
    Hid ((((nd.wt + ks.wt : Nat) : Int) ≤ n ↔ 0 ≤ x ∧ (rest.wt : Int) ≤ x) ∧ (0 ≤ x → x + ((nd.wt + ks.wt : Nat) : Int) = n + rest.wt))

set_option maxRecDepth 100000 in
set_option maxHeartbeats 4000000 in
theorem nodes_step (nd : Hd) (ks : Trees) (ih : AllT RNd ks) : RNd nd ks := by
  intro w B ka kl kc n n0 n1 hB tv
  have ht := tv.ok.text
  have hm := tv.max
  have b0 := ext_alloc (Below.refl _ w) (.cells #[.int .i64 nd.kind, .int .i64 nd.op, .int .i64 nd.num, .string ⟨nd.text.toArray⟩, .int .i64 nd.ref.row, .int .i64 nd.ref.col, .bool nd.ref.pr, .bool nd.ref.pc, .int .i64 nd.to.row, .int .i64 nd.to.col, .bool nd.to.pr, .bool nd.to.pc, .int .i64 nd.fn, .slice ka kl kc] 29)
  have B0 := Lib.hid b0
  have HT := Lib.hid (tv.kept (b0.mono hB) (Nat.le_refl _))
  have HI := Lib.hid ih
  have hl := tv.len
  have HL := Lib.hid hl
  clear ih tv b0 hl
  obtain ⟨q, hq⟩ : ∃ q : Nat, q = nd.text.length / 1024 := ⟨_, rfl⟩
  have hq1 : (nd.text.length : Int) / 1024 = q := by omega
  have hq2 : q ≤ 140000000000 := by omega
  have hwt : nd.wt = 1 + q := by rw [hq]; rfl
  have HW := Lib.hid hwt
  clear hwt hq
  go_enter Try.func64, Try.ntmps64
  go_wp2_with fail
  go_loopw [1, 5] (fun v i wr => NRel nd ks n kl kc B ka w wr v i) (fun _ i _ => kl - (intOf i).toNat)
  case atStart =>
    have hw := HW.out
    exact ⟨0, n - 1 - q, ks, rfl, rfl, Lib.hid (by have := HL.out; omega), HT.out.row, HI.out, Below.refl _ _, by omega, by omega, Lib.hid ⟨by omega, by omega⟩⟩
  case round =>
    obtain ⟨j, x, rest, rfl, rfl, HJ, hrow, hall, hbel, x0, x1, HX⟩ := hrel
    obtain ⟨hz, cb⟩ := kept_block hbel
    have BW := Lib.hid (B0.out.trans (hbel.mono B0.out.size))
    have HB := Lib.hid hbel
    have hlen := HJ.out
    by_cases hlt : j < kl
    · by_cases hx : 0 ≤ x
      · obtain ⟨h', k', r', rfl⟩ := trees_cons (rest := rest) (by omega)
        obtain ⟨b1, off, ka', kl', kc', rfl, hb1, N1, tv1⟩ := hrow.head
        obtain ⟨hl1, d0, d1, d2, d3, d4, d5, d6, d7, d8, d9, d10, d11, d12, d13, y5, y6, y7, y9, y10, y11⟩ := N1.facts
        have CC := Lib.hid (hall.1 wr B ka' kl' kc' x hx (by omega) (by omega) tv1)
        have HA := Lib.hid hall.2; have HR := Lib.hid hrow.2
        have hji : (j : Int) < (kl : Int) := by omega
        clear y5 y6 y7 y9 y10 y11 hlen hall hrow N1 tv1 hbel
        go_wp2_with fail
        refine CC.out.mono ?_
        rintro e w2 ⟨r, rfl, b2, r0, r1, r2, r3⟩
        have HR2 := Lib.hid (HR.out.kept (b2.mono (by omega)) (Nat.le_refl _))
        have B2 := Lib.hid (HB.out.trans (b2.mono HB.out.size))
        have hX2 : (((nd.wt + ks.wt : Nat) : Int) ≤ n ↔ 0 ≤ r ∧ (r'.wt : Int) ≤ r) ∧ (0 ≤ r → r + ((nd.wt + ks.wt : Nat) : Int) = n + r'.wt) := by
          obtain ⟨e1, e2⟩ := HX.out
          simp only [Trees.wt] at e1 e2
          by_cases q' : ((h'.wt + k'.wt : Nat) : Int) ≤ x
          · have := r2 q'; omega
          · have := r3 q'; omega
        have HX2 := Lib.hid hX2
        have HJ2 := Lib.hid (show (j + 1) + r'.len = kl by have := HJ.out; simp only [Trees.len] at this; omega)
        clear hX2 r2 r3 b2 cb d0 d1 d2 d3 d4 d5 d6 d7 d8 d9 d10 d11 d12 d13
        go_wp2
        exact ⟨⟨j + 1, r, r', by go_num, rfl, HJ2, HR2.out, HA.out, B2.out, r0, by omega, HX2⟩, by simp [intOf]; omega⟩
      · clear hlen hbel hrow hall
        have hji : (j : Int) < (kl : Int) := by omega
        go_wp2
        go_ret
        refine ⟨x, rfl, BW.out, x0, x1, fun h => ?_, fun _ => by omega⟩
        have := HX.out.1.1 h; omega
    · have hz0 : rest.len = 0 := by omega
      obtain rfl := trees_nil hz0
      clear hlen hbel hrow hall
      go_wp2
      go_ret
      refine ⟨x, rfl, BW.out, x0, x1, fun h => ?_, fun h => ?_⟩
      · have h1 := HX.out.1.1 h
        have h2 := HX.out.2 h1.1
        simp only [Trees.wt] at h2; omega
      · have h1 := HX.out.1
        simp only [Trees.wt] at h1; omega
theorem nodes_any (h : Hd) (ks : Trees) : RNd h ks := nodes_step h ks (allT nodes_step ks)
def smallB (h : Hd) (ks : Trees) : Bool := decide (h.wt + ks.wt ≤ 2000)
set_option maxRecDepth 100000 in
set_option maxHeartbeats 4000000 in
theorem small_any (nd : Hd) (ks : Trees) (w : World) (B : Nat) (ka : Option Addr) (kl kc : Nat) (hB : B ≤ w.heap.size) (tv : TreeV w B nd ks ka kl) :
    Calls Try.prog 31 #[.agg #[.int .i64 nd.kind, .int .i64 nd.op, .int .i64 nd.num, .string ⟨nd.text.toArray⟩, .int .i64 nd.ref.row, .int .i64 nd.ref.col, .bool nd.ref.pr, .bool nd.ref.pc, .int .i64 nd.to.row, .int .i64 nd.to.col, .bool nd.to.pr, .bool nd.to.pc, .int .i64 nd.fn, .slice ka kl kc]] w fun e w' => e = .returned (.bool (smallB nd ks)) ∧ Below w.heap.size w w' := by
  have b0 := ext_alloc (Below.refl _ w) (.cells #[.int .i64 nd.kind, .int .i64 nd.op, .int .i64 nd.num, .string ⟨nd.text.toArray⟩, .int .i64 nd.ref.row, .int .i64 nd.ref.col, .bool nd.ref.pr, .bool nd.ref.pc, .int .i64 nd.to.row, .int .i64 nd.to.col, .bool nd.to.pr, .bool nd.to.pc, .int .i64 nd.fn, .slice ka kl kc] 29)
  have B0 := Lib.hid b0
  have HT := Lib.hid (tv.kept (b0.mono hB) (Nat.le_refl _))
  clear tv b0
  go_enter Try.func31, Try.ntmps31
  go_wp2_with fail
  refine (nodes_any nd ks _ B ka kl kc 2000 (by omega) (by omega) (by simp; omega) HT.out).mono ?_
  rintro e w2 ⟨r, rfl, b2, -, -, r2, r3⟩
  have B2 := Lib.hid (B0.out.trans (b2.mono B0.out.size))
  have R2 := Lib.hid r2; have R3 := Lib.hid r3
  clear b2 r2 r3
  go_wp2
  go_ret
  refine ⟨ret_bool (decide_eq_decide.2 ⟨fun h => ?_, fun h => ?_⟩), B2.out⟩
  · by_cases q : ((nd.wt + ks.wt : Nat) : Int) ≤ 2000
    · omega
    · have := R3.out (by omega); omega
  · have := R2.out (by omega); omega
end Go.Proofs.Ytkjfeakbhfkldaa
