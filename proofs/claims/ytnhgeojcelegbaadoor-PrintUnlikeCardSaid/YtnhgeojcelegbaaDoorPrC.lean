/- print.Formula's lay, kinds 5, 6, 7. -/
import Derived.Test.YtnhgeojcelegbaaDoorPrB
import Derived.Test.YtnhgeojcelegbaaDoorPrR
namespace Go.Proofs.YtnhgeojcelegbaaDoor
open Go.RowKit Go.Lib

set_option maxRecDepth 100000 in
set_option maxHeartbeats 2000000 in
theorem lay_k5 {w0 : World} {N : Ns} (T : TabW w0) (op num : Int) (text : List UInt8) (ref tr : RefT) (fn : Int) (ks : Trees) : LayS w0 N ⟨5, op, num, text, ref, tr, fn⟩ ks := by
  intro W wa bs b off ka kl kc hb nd tv P hl hy hf
  have HT := Lib.hid T
  have hg := good_of (h := ⟨5, op, num, text, ref, tr, fn⟩) (n := ks.len) (by simp only [treeFits, Bool.and_eq_true] at hf; exact hf.1)
  simp only at hg
  have f := (nd.kept P.bel hb).facts
  have c0 := f.c0
  have c4 := f.c4
  have c5 := f.d5
  have c6 := f.d6
  have c7 := f.d7
  have d8 := P.d8
  simp only at c4 c5 c6 c7

  have HP := Lib.hid P
  have hbW : b < W.heap.size := Nat.lt_of_lt_of_le hb P.bel.size
  clear P f T
  have hl2 : bs.length + 200 ≤ 274877906944 := by simp only [roomH] at hl; omega
  clear hg hf hy tv nd hb hl
  go_enter Tryd.func40, Tryd.ntmps40
  go_upto_region 10 with (fail)
  go_still_tail 5, (by kernel_rfl)
  change wpList _ _ _ _ _ W.drew
  have PD := Lib.hid HP.out.drew
  generalize W.drew = wd at PD ⊢
  go_wp2_with fail
  refine (ref_any ref w0 wa wd N _ PD.out HT.out (by first | omega | (simp only [List.length_append]; omega) | (simp only [List.length_append, List.length_cons, List.length_nil]; omega))).mono ?_
  rintro e w2 ⟨rfl, Q2⟩
  have P3 := Lib.hid Q2
  clear Q2 PD
  go_wp2
  exact bodyPost_ret (v := .tuple #[]) (by simp [results, Tryd.results40, go_sem]) rfl ⟨rfl, P3.out⟩
set_option maxRecDepth 100000 in
set_option maxHeartbeats 2000000 in
theorem lay_k6 {w0 : World} {N : Ns} (T : TabW w0) (op num : Int) (text : List UInt8) (ref tr : RefT) (fn : Int) (ks : Trees) : LayS w0 N ⟨6, op, num, text, ref, tr, fn⟩ ks := by
  intro W wa bs b off ka kl kc hb nd tv P hl hy hf
  have HT := Lib.hid T
  have hg := good_of (h := ⟨6, op, num, text, ref, tr, fn⟩) (n := ks.len) (by simp only [treeFits, Bool.and_eq_true] at hf; exact hf.1)
  simp only at hg
  have f := (nd.kept P.bel hb).facts
  have c0 := f.c0
  have c4 := f.c4
  have c5 := f.d5
  have c6 := f.d6
  have c7 := f.d7
  have d8 := P.d8
  simp only at c4 c5 c6 c7
  have nf := fun W' bs' (P' : PrW w0 N wa bs' W') => (nd.kept P'.bel hb).facts
  have NF := Lib.hid nf
  have HP := Lib.hid P
  have hbW : b < W.heap.size := Nat.lt_of_lt_of_le hb P.bel.size
  clear P f T
  have hl2 : bs.length + 200 ≤ 274877906944 := by simp only [roomH] at hl; omega
  have hrl := refTextL_len ref
  clear hg hf hy tv nd hb hl nf
  go_enter Tryd.func40, Tryd.ntmps40
  go_upto_region 12 with (fail)
  go_still_tail 5, (by kernel_rfl)
  change wpList _ _ _ _ _ W.drew
  have PD := Lib.hid HP.out.drew
  generalize W.drew = wd at PD ⊢
  go_wp2_with fail
  refine (ref_any ref w0 wa wd N _ PD.out HT.out (by first | omega | (simp only [List.length_append]; omega) | (simp only [List.length_append, List.length_cons, List.length_nil]; omega))).mono ?_
  rintro e w2 ⟨rfl, Q2⟩
  have P3 := Lib.hid Q2
  clear Q2 PD
  go_wp2_with fail
  refine (prByte 58 P3.out (by first | omega | (simp only [List.length_append]; omega) | (simp only [List.length_append, List.length_cons, List.length_nil]; omega))).mono ?_
  rintro e w9 ⟨rfl, P9⟩
  have P4 := Lib.hid P9
  clear P9
  have g := NF.out _ _ P4.out
  have e8 := g.c8; have e9 := g.d9; have e10 := g.d10; have e11 := g.d11
  have h8 := P4.out.d8
  simp only at e8 e9 e10 e11
  clear g c0 c4 c5 c6 c7 d8
  go_upto_region 14 with (fail)
  go_still_tail 5, (by kernel_rfl)
  change wpList _ _ _ _ _ w9.drew
  have PD := Lib.hid P4.out.drew
  generalize w9.drew = wd at PD ⊢
  go_wp2_with fail
  refine (ref_any tr w0 wa wd N _ PD.out HT.out (by first | omega | (simp only [List.length_append]; omega) | (simp only [List.length_append, List.length_cons, List.length_nil]; omega))).mono ?_
  rintro e w2 ⟨rfl, Q2⟩
  have P5 := Lib.hid Q2
  clear Q2 PD
  go_wp2
  exact bodyPost_ret (v := .tuple #[]) (by simp [results, Tryd.results40, go_sem]) rfl ⟨rfl, by
    have h := P5.out
    rw [List.append_assoc, List.append_assoc] at h
    rw [show textL ⟨6, op, num, text, ref, tr, fn⟩ ks = refTextL ref ++ ([58] ++ refTextL tr) from by rw [← List.append_assoc]; rfl]
    exact h⟩
set_option maxRecDepth 100000 in
set_option maxHeartbeats 2000000 in
theorem lay_k7 {w0 : World} {N : Ns} (T : TabW w0) (op num : Int) (text : List UInt8) (ref tr : RefT) (fn : Int) (ks : Trees) (A : AllT (LayS w0 N) ks) : LayS w0 N ⟨7, op, num, text, ref, tr, fn⟩ ks := by
  intro W wa bs b off ka kl kc hb nd tv P hl hy hf
  have HT := Lib.hid T
  have hg := good_of (h := ⟨7, op, num, text, ref, tr, fn⟩) (n := ks.len) (by simp only [treeFits, Bool.and_eq_true] at hf; exact hf.1)
  simp only at hg
  have f := (nd.kept P.bel hb).facts
  have c0 := f.c0
  have c1 := f.c1
  have c13 := f.c13
  have d10 := P.d10
  simp only at c1 c13
  have nf := fun W' bs' (P' : PrW w0 N wa bs' W') => (nd.kept P'.bel hb).facts.c13
  have NF := Lib.hid nf
  have HP := Lib.hid P
  have hbW : b < W.heap.size := Nat.lt_of_lt_of_le hb P.bel.size
  clear P f T
  obtain ⟨ho1, ho2, hlen1⟩ := hg.2.2.2.1 trivial
  obtain ⟨hk, kk, rfl⟩ : ∃ hk kk, ks = .cons hk kk .nil := by
    cases ks with
    | nil => simp [Trees.len] at hlen1
    | cons a b r =>
      cases r with
      | nil => exact ⟨a, b, rfl⟩
      | cons c d e => simp [Trees.len] at hlen1
  obtain ⟨kb, ko, ja, jl, jc, rfl, hkb, nd1, tv1⟩ := tv.row.head
  simp only [Nat.zero_mul, Nat.add_zero] at nd1
  have hln := tv.len
  have hf1 : treeFits hk kk = true := by
    simp only [treeFits, allFits, Bool.and_eq_true] at hf
    simp only [treeFits, Bool.and_eq_true]
    exact hf.2.1
  have hy1 : hk.bytes + kk.bytes ≤ 16384 := by simp only [Trees.bytes] at hy; omega
  have hr1 : roomH ⟨7, op, num, text, ref, tr, fn⟩ (.cons hk kk .nil) = 200 + 2 * text.length + roomH hk kk := by simp only [roomH, roomT]; omega
  rw [hr1] at hl
  have hlen := textL_room hk kk tv1.ok.num tv1.row.nums
  have fr := fun n W' wa' bs' (P' : PrW w0 N wa' bs' W') (hl' : bs'.length + 10 + roomH hk kk ≤ 274877906944) => from_any A.1 n W' wa' bs' kb ko ja jl jc hkb nd1 tv1 P' hl' hy1 hf1 (by omega)
  have FR := Lib.hid fr
  have hroom : (fromL (hk, textL hk kk) 7).length ≤ roomH hk kk := Nat.le_trans (fromL_len (hk, textL hk kk) 7) (by show (textL hk kk).length + 2 ≤ _; omega)
  have hj : kl = 1 := by rw [hln]; rfl
  subst hj
  clear hg hf hy tv nd hb nf fr hln hr1 tv1 nd1 hlen
  have hl2 : bs.length + 200 + roomH hk kk ≤ 274877906944 := by omega
  by_cases o3 : op = 3
  · subst o3
    go_enter Tryd.func40, Tryd.ntmps40
    go_upto_region 17 with (fail)
    go_still_tail 6, (by kernel_rfl)
    change wpList _ _ _ _ _ W.drew
    have PD := Lib.hid HP.out.drew
    generalize W.drew = wd at PD ⊢
    go_wp2_with fail
    refine (FR.out 7 wd wa _ PD.out (by first | omega | (simp only [List.length_append]; omega) | (simp only [List.length_append, List.length_cons, List.length_nil]; omega))).mono ?_
    rintro e w2 ⟨rfl, Q2⟩
    have P3 := Lib.hid Q2
    clear Q2 PD
    go_wp2_with fail
    refine (prByte 37 P3.out (by first | omega | (simp only [List.length_append]; omega) | (simp only [List.length_append, List.length_cons, List.length_nil]; omega))).mono ?_
    rintro e w9 ⟨rfl, P9⟩
    have P4 := Lib.hid P9
    clear P9
    go_wp2
    exact bodyPost_ret (v := .tuple #[]) (by simp [results, Tryd.results40, go_sem]) rfl ⟨rfl, by
      have h := P4.out
      rw [List.append_assoc] at h
      exact h⟩
  · have hb3 : (op == 3) = false := beq_eq_false_iff_ne.2 o3
    have ho : op = 1 ∨ op = 2 := by omega
    clear o3 ho1 ho2 hroom
    rcases ho with rfl | rfl
    all_goals
      go_enter Tryd.func40, Tryd.ntmps40
      go_wp2_with fail
      refine (prStrB _ (HP.out.alloc _) (by first | exact Nat.le_trans (Nat.add_le_add_left (by decide : ByteArray.size ⟨#[45]⟩ ≤ 5) _) (by omega) | exact Nat.le_trans (Nat.add_le_add_left (by decide : ByteArray.size ⟨#[43]⟩ ≤ 5) _) (by omega))).mono ?_
      rintro e w9 ⟨⟨v9, rfl⟩, P9⟩
      have P3 := Lib.hid P9
      have e13 := NF.out _ _ P9
      have e10 := P9.d10
      clear P9 c13 d10 c0 c1
      go_upto_region 20 with (fail)
      go_still_tail 6, (by kernel_rfl)
      change wpList _ _ _ _ _ w9.drew
      have PD := Lib.hid P3.out.drew
      generalize w9.drew = wd at PD ⊢
      go_wp2_with fail
      refine (FR.out 6 wd wa _ PD.out (by first | omega | (simp only [List.length_append]; omega) | (simp only [List.length_append, List.length_cons, List.length_nil]; omega))).mono ?_
      rintro e w2 ⟨rfl, Q2⟩
      have P4 := Lib.hid Q2
      clear Q2 PD
      go_wp2
      exact bodyPost_ret (v := .tuple #[]) (by simp [results, Tryd.results40, go_sem]) rfl ⟨rfl, by
        have h := P4.out
        rw [List.append_assoc] at h
        exact h⟩
end Go.Proofs.YtnhgeojcelegbaaDoor
