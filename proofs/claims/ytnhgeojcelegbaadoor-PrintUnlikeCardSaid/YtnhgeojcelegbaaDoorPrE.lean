/- print.Formula's lay, kind 9. -/
import Derived.Test.YtnhgeojcelegbaaDoorPrC
import Derived.WalkKit
namespace Go.Proofs.YtnhgeojcelegbaaDoor
open Go.RowKit Go.Lib

/-- The arguments from the j-th on are still to be laid; E: what will be written. -/
def KidRel (w0 : World) (N : Ns) (wa : World) (E : List UInt8) (ka : Option Addr) (kl : Nat) (wr : World) (i : Value) : Prop :=
  ∃ (j : Nat) (rest : Trees) (bs : List UInt8), i = .int .i64 j ∧ j + rest.len = kl ∧ RowIn w0 w0.heap.size rest ka j ∧ AllT (LayS w0 N) rest ∧ PrW w0 N wa bs wr ∧ Hid (bs ++ argsL (txs rest) j = E) ∧ bs.length + roomT rest ≤ 274877906900 ∧ allFits rest = true ∧ rest.bytes ≤ 16384
set_option maxRecDepth 100000 in
set_option maxHeartbeats 2000000 in
theorem lay_k9 {w0 : World} {N : Ns} (T : TabW w0) (op num : Int) (text : List UInt8) (ref tr : RefT) (fn : Int) (ks : Trees) (A : AllT (LayS w0 N) ks) : LayS w0 N ⟨9, op, num, text, ref, tr, fn⟩ ks := by
  intro W wa bs b off ka kl kc hb nd tv P hl hy hf
  have HT := Lib.hid T
  have f := (nd.kept P.bel hb).facts
  have c0 := f.c0; have c12 := f.c12
  have nf := fun W' wa' bs' (P' : PrW w0 N wa' bs' W') => (nd.kept P'.bel hb).facts.c13
  have NF := Lib.hid nf
  simp only at c0 c12
  simp only [treeFits, Bool.and_eq_true] at hf
  have hal := hf.2
  have hby : ks.bytes ≤ 16384 := by omega
  have hrw : bs.length + 200 + roomT ks ≤ 274877906944 := by simp only [roomH] at hl; omega
  have hrow := tv.row; have hlen := tv.len; have hmax := tv.max
  have hnl := infoName_len fn
  have HP := Lib.hid P
  have hbW : b < W.heap.size := Nat.lt_of_lt_of_le hb P.bel.size
  have HROW := Lib.hid hrow; have HLEN := Lib.hid hlen; have HAL := Lib.hid hal
  clear P f T hf hy tv nd hb nf hl hrow hlen hal
  obtain ⟨nm, hnm⟩ : ∃ nm, nm = (infoRow fn).name := ⟨_, rfl⟩
  rw [← hnm] at hnl
  have HLL := Lib.hid (show textL ⟨9, op, num, text, ref, tr, fn⟩ ks = nm ++ [40] ++ argsL (txs ks) 0 ++ [41] from by rw [hnm]; rfl)
  have ci := info_any fn W
  unfold InfoPost at ci
  rw [infoV_eq, ← hnm] at ci
  have CI := Lib.hid ci
  have sn : (⟨nm.toArray⟩ : ByteArray).size ≤ 30 := by rw [Lib.size_eq]; simpa using hnl
  obtain ⟨s, hs⟩ : ∃ s : ByteArray, s = ⟨nm.toArray⟩ := ⟨_, rfl⟩
  rw [← hs] at sn CI
  have HS := Lib.hid hs
  generalize (infoRow fn).cls = i1 at CI
  generalize (infoRow fn).min = i2 at CI
  generalize (infoRow fn).max = i3 at CI
  generalize infoErr fn = i4 at CI
  have q1 : (9223372036854775807 < s.size + 1) = False := eq_false (by omega)
  clear ci hnm hs
  go_enter Tryd.func40, Tryd.ntmps40
  go_wp2_with fail
  refine CI.out.mono ?_
  rintro e w1 ⟨rfl, b1⟩
  have P1 := Lib.hid ((HP.out.below b1).alloc (.cells #[.string s, .int .i64 i1, .int .i64 i2, .int .i64 i3] 88))
  clear b1 c0 c12
  go_wp2_with fail
  refine (prStrB _ P1.out (by simp only [ByteArray.size_append]; show bs.length + (s.size + 1) ≤ _; omega)).mono ?_
  rintro e w9 ⟨⟨v9, rfl⟩, P9⟩
  have e13 := NF.out _ _ _ P9
  have P3 := Lib.hid P9
  clear P9
  have hz : (s ++ ⟨#[40]⟩ : ByteArray).data.toList = nm ++ [40] := by rw [HS.out]; simp
  rw [hz] at P3
  clear hz hbW
  go_wp2_with fail
  go_loopw [153] (fun i wr => KidRel w0 N wa (bs ++ (nm ++ [40]) ++ argsL (txs ks) 0) ka kl wr i) (fun i _ => kl - (intOf i).toNat)
  case atStart => exact ⟨0, ks, _, rfl, (by have := HLEN.out; omega), HROW.out, A, P3.out, Lib.hid rfl, (by simp only [List.length_append, List.length_cons, List.length_nil]; omega), HAL.out, hby⟩
  case round =>
    obtain ⟨j, rest, bs', rfl, hj, row, al, P4, HE, hM, hfa, hya⟩ := hrel
    have P4h := Lib.hid P4
    have g13 := NF.out _ _ _ P4
    clear P4
    by_cases hlt : j < kl
    · cases rest with
      | nil => exact absurd hj (by simp only [Trees.len]; omega)
      | cons hk kk r =>
        obtain ⟨kb, ko, ja, jl, jc, rfl, hkb, nd1, tv1⟩ := row.head
        have hf1 : treeFits hk kk = true := by
          simp only [allFits, Bool.and_eq_true] at hfa
          simp only [treeFits, Bool.and_eq_true]; exact hfa.1
        have hf2 : allFits r = true := by simp only [allFits, Bool.and_eq_true] at hfa; exact hfa.2
        simp only [Trees.bytes] at hya
        simp only [Trees.len] at hj
        have hrm : roomT (.cons hk kk r) = roomH hk kk + roomT r := by simp only [roomT, roomH]
        rw [hrm] at hM
        have hlen := textL_room hk kk tv1.ok.num tv1.row.nums
        have lay := fun W' bs' (P' : PrW w0 N wa bs' W') (hl' : bs'.length + roomH hk kk ≤ 274877906944) => al.1 W' wa bs' kb (ko + j * 14) ja jl jc hkb nd1 tv1 P' hl' (by omega) hf1
        have LAY := Lib.hid lay
        have ROW := Lib.hid row.2; have AL := Lib.hid al.2; have HF2 := Lib.hid hf2
        have hy2 : r.bytes ≤ 16384 := by omega
        clear lay row al nd1 tv1 hfa hf1 hya hrm hf2
        have e9 := P4h.out.d9
        by_cases hj0 : 0 < j
        · have hjI : 0 < (j : Int) := by omega
          go_wp2_with fail
          refine (prByte 44 P4h.out (by omega)).mono ?_
          rintro e w9 ⟨rfl, P9⟩
          have P5 := Lib.hid P9
          have h13 := NF.out _ _ _ P9
          have h9 := P9.d9
          clear P9 g13 e9
          go_upto_region 34 with (fail)
          go_still_tail 7, (by kernel_rfl)
          change wpList _ _ _ _ _ w9.drew
          have PD := Lib.hid P5.out.drew
          generalize w9.drew = wd at PD ⊢
          go_wp2_with fail
          refine (LAY.out wd (bs' ++ [44]) PD.out (by first | omega | (simp only [List.length_append, List.length_cons, List.length_nil]; omega))).mono ?_
          rintro e w2 ⟨rfl, Q2⟩
          have PQ := Lib.hid Q2
          clear Q2 PD
          go_wp2
          go_roundw
          case rel => exact ⟨j + 1, r, _, by go_num, by omega, ROW.out, AL.out, PQ.out, Lib.hid (by rw [← HE.out]; simp [txs, argsL, hj0, textL]), (by simp only [List.length_append, List.length_cons, List.length_nil]; omega), HF2.out, hy2⟩
          case measure => simp [intOf]; omega
        · have hjI : ¬ 0 < (j : Int) := by omega
          go_upto_region 34 with (fail)
          go_still_tail 7, (by kernel_rfl)
          change wpList _ _ _ _ _ wr.drew
          have PD := Lib.hid P4h.out.drew
          generalize wr.drew = wd at PD ⊢
          go_wp2_with fail
          refine (LAY.out wd bs' PD.out (by first | omega | (simp only [List.length_append, List.length_cons, List.length_nil]; omega))).mono ?_
          rintro e w2 ⟨rfl, Q2⟩
          have PQ := Lib.hid Q2
          clear Q2 PD
          go_wp2
          go_roundw
          case rel => exact ⟨j + 1, r, _, by go_num, by omega, ROW.out, AL.out, PQ.out, Lib.hid (by rw [← HE.out]; simp [txs, argsL, hj0, textL]), (by simp only [List.length_append]; omega), HF2.out, hy2⟩
          case measure => simp [intOf]; omega
    · cases rest with
      | cons hk kk r => exact absurd hj (by simp only [Trees.len]; omega)
      | nil =>
        have hE := HE.out
        simp only [txs, argsL, List.append_nil] at hE
        have HE2 := Lib.hid hE
        clear hE HE row al
        go_wp2_with fail
        refine (prByte 41 P4h.out (by omega)).mono ?_
        rintro e w9 ⟨rfl, P9⟩
        have P5 := Lib.hid P9
        clear P9
        go_wp2
        exact bodyPost_ret (v := .tuple #[]) (by simp [results, Tryd.results40, go_sem]) rfl ⟨rfl, by
          have h := P5.out
          rw [HE2.out] at h
          rw [HLL.out]
          simpa using h⟩
end Go.Proofs.YtnhgeojcelegbaaDoor
