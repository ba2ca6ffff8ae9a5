/- print.Formula's lay, kind 8. -/
import Derived.Test.YtnhgeojcelegbaaDoorPrC
import Derived.Deep.Cut
namespace Go.Proofs.YtnhgeojcelegbaaDoor
open Go.RowKit Go.Lib

set_option maxRecDepth 100000 in
set_option maxHeartbeats 2000000 in
theorem lay_k8 {w0 : World} {N : Ns} (T : TabW w0) (op num : Int) (text : List UInt8) (ref tr : RefT) (fn : Int) (ks : Trees) (A : AllT (LayS w0 N) ks) : LayS w0 N ⟨8, op, num, text, ref, tr, fn⟩ ks := by
  intro W wa bs b off ka kl kc hb nd tv P hl hy hf
  have HT := Lib.hid T
  have hg := good_of (h := ⟨8, op, num, text, ref, tr, fn⟩) (n := ks.len) (by simp only [treeFits, Bool.and_eq_true] at hf; exact hf.1)
  simp only at hg
  obtain ⟨ho1, ho2, hlen1⟩ := hg.2.2.2.2.1 trivial
  obtain ⟨k, rfl⟩ : ∃ k : Nat, op = k := ⟨op.toNat, by omega⟩
  have f := (nd.kept P.bel hb).facts
  have c0 := f.c0; have c1 := f.c1; have d6 := P.d6
  have nf := fun W' wa' bs' (P' : PrW w0 N wa' bs' W') => (nd.kept P'.bel hb).facts.c13
  have NF := Lib.hid nf
  simp only at c0 c1
  have hn6 : N.n6 < W.heap.size := (Array.getElem?_eq_some_iff.1 P.c6).1
  have hl3 := look_sign P.map.drew (k := k) (by omega) (by omega)
  have hl4 := look_sign ((P.map.alloc (.cells #[.string ⟨#[]⟩, .int .i64 0] 77)).drew) (k := k) (by omega) (by omega)
  obtain ⟨hk, kk, gk, gg, rfl⟩ : ∃ hk kk gk gg, ks = .cons hk kk (.cons gk gg .nil) := by
    cases ks with
    | nil => simp [Trees.len] at hlen1
    | cons a b r =>
      cases r with
      | nil => simp [Trees.len] at hlen1
      | cons c d e =>
        cases e with
        | nil => exact ⟨a, b, c, d, rfl⟩
        | cons x y z => simp [Trees.len] at hlen1
  obtain ⟨kb, ko, ja, jl, jc, rfl, hkb, nd1, tv1⟩ := tv.row.head
  obtain ⟨kb2, ko2, ja2, jl2, jc2, heq, hkb2, nd2, tv2⟩ := (tv.row.2 : RowIn _ _ (.cons gk gg .nil) _ _).head
  simp only [Option.some.injEq, Addr.mk.injEq, and_true] at heq
  obtain ⟨rfl, rfl⟩ := heq
  simp only [Nat.zero_mul, Nat.add_zero] at nd1
  simp only [Nat.zero_add, Nat.one_mul] at nd2
  have hln := tv.len
  simp only [treeFits, allFits, Bool.and_eq_true, and_true] at hf
  have hf1 : treeFits hk kk = true := by simp only [treeFits, Bool.and_eq_true]; exact hf.2.1
  have hf2 : treeFits gk gg = true := by simp only [treeFits, Bool.and_eq_true]; exact hf.2.2
  simp only [Trees.bytes] at hy
  have hy1 : hk.bytes + kk.bytes ≤ 16384 := by omega
  have hy2 : gk.bytes + gg.bytes ≤ 16384 := by omega
  have hr1 : roomH ⟨8, (k : Int), num, text, ref, tr, fn⟩ (.cons hk kk (.cons gk gg .nil)) = 200 + 2 * text.length + roomH hk kk + roomH gk gg := by simp only [roomH, roomT]; omega
  rw [hr1] at hl
  have hlen := textL_room hk kk tv1.ok.num tv1.row.nums
  have hleng := textL_room gk gg tv2.ok.num tv2.row.nums
  have fr := fun n W' wa' bs' (P' : PrW w0 N wa' bs' W') (hl' : bs'.length + 10 + roomH hk kk ≤ 274877906944) => from_any A.1 n W' wa' bs' kb ko ja jl jc hkb nd1 tv1 P' hl' hy1 hf1 (by omega)
  have FR := Lib.hid fr
  have fr2 := fun n W' wa' bs' (P' : PrW w0 N wa' bs' W') (hl' : bs'.length + 10 + roomH gk gg ≤ 274877906944) => from_any A.2.1 n W' wa' bs' kb (ko + 14) ja2 jl2 jc2 hkb nd2 tv2 P' hl' hy2 hf2 (by omega)
  have FR2 := Lib.hid fr2
  have hroom : (fromL (hk, textL hk kk) (levN k)).length ≤ roomH hk kk := Nat.le_trans (fromL_len (hk, textL hk kk) _) (by show (textL hk kk).length + 2 ≤ _; omega)
  have hj : kl = 2 := by rw [hln]; rfl
  subst hj
  have HP := Lib.hid P
  have hbW : b < W.heap.size := Nat.lt_of_lt_of_le hb P.bel.size
  clear P f T hg hf hy tv nd hb nf fr fr2 hln hr1 tv1 nd1 tv2 nd2 hlen hleng
  have hl2 : bs.length + 200 + roomH hk kk + roomH gk gg ≤ 274877906944 := by omega
  have hsg := signL_len k
  obtain ⟨lv1, lv2⟩ := levN_in k
  have HLL := Lib.hid (show textL ⟨8, (k : Int), num, text, ref, tr, fn⟩ (.cons hk kk (.cons gk gg .nil)) = fromL (hk, textL hk kk) (levN k) ++ signL k ++ fromL (gk, textL gk gg) (levN k + 1) from rfl)
  generalize levN (k : Int) = lv at *
  go_enter Tryd.func40, Tryd.ntmps40
  go_upto_region 22 with (fail)
  go_cut [7] from 106 (fun v W' => v = .pointer (some ⟨W.heap.size, 0, none⟩) ∧ W' = (W.alloc (.cells #[.string (strB (signL k)), .int .i64 lv] 77)).drew)
  case first =>
    go_region
    all_goals
      go_wp2_with fail
      go_meet
      case rel => exact ⟨rfl, rfl⟩
  obtain ⟨rfl, rfl⟩ := hcut
  have hn5 : N.n5 < W.heap.size := HP.out.bld.elim (fun x => x.lt) (fun x => x.lt)
  have P1 := Lib.hid (HP.out.alloc (.cells #[.string (strB (signL k)), .int .i64 lv] 77)).drew
  have hS : (W.alloc (.cells #[.string (strB (signL k)), .int .i64 lv] 77)).drew.heap[W.heap.size]? = some (.cells #[.string (strB (signL k)), .int .i64 lv] 77 (0, 0)) := heap_alloc_new W _
  generalize (W.alloc (.cells #[.string (strB (signL k)), .int .i64 lv] 77)).drew = W1 at P1 hS ⊢
  have hq : W.heap.size ≠ N.n5 := by omega
  generalize W.heap.size = q at hS hq ⊢
  have HS := Lib.hid hS; have HQ := Lib.hid hq
  have P1a := Lib.hid (P1.out.at (OthersKept.refl _ _ W1))
  have bk : ∀ (bs' : List UInt8) (w' : World), PrW w0 N W1 bs' w' → w'.cell? ⟨q, 0, none⟩ = some (.string (strB (signL k))) ∧ w'.cell? ⟨q, 1, none⟩ = some (.int .i64 lv)   := fun _ _ p => by
    have h := blk_others p.oth HS.out HQ.out (by decide)
    exact ⟨by simp [World.cell?, h], by simp [World.cell?, h]⟩
  have BK := Lib.hid bk
  clear bk hS hq c0 c1 d6 hl3 hl4 hn6 hn5 hbW
  obtain ⟨s0, s1⟩ := BK.out _ _ P1a.out
  have e13 := NF.out _ _ _ P1a.out
  have e10 := P1a.out.d10
  clear s0
  go_upto_region 23 with (fail)
  go_still_tail 8, (by kernel_rfl)
  change wpList _ _ _ _ _ W1.drew
  have PD := Lib.hid P1a.out.drew
  generalize W1.drew = wd at PD ⊢
  go_wp2_with fail
  refine (FR.out lv wd W1 _ PD.out (by first | omega | (simp only [List.length_append]; omega) | (simp only [List.length_append, List.length_cons, List.length_nil]; omega))).mono ?_
  rintro e w2 ⟨rfl, Q2⟩
  have P2a := Lib.hid Q2
  clear Q2 PD
  obtain ⟨s0, s1b⟩ := BK.out _ _ P2a.out
  clear s1 s1b e13 e10
  go_wp2_with fail
  refine (prStrB (strB (signL k)) P2a.out (by rw [strB_size]; simp only [List.length_append]; omega)).mono ?_
  rintro e w9 ⟨⟨v9, rfl⟩, P9⟩
  have P3a := Lib.hid P9
  clear P9 s0
  obtain ⟨s0, s1⟩ := BK.out _ _ P3a.out
  have e13 := NF.out _ _ _ P3a.out
  have e10 := P3a.out.d10
  clear s0
  go_upto_region 25 with (fail)
  go_still_tail 9, (by kernel_rfl)
  change wpList _ _ _ _ _ w9.drew
  have PD := Lib.hid P3a.out.drew
  generalize w9.drew = wd at PD ⊢
  go_wp2_with fail
  refine (FR2.out (lv + 1) wd W1 _ PD.out (by first | omega | (rw [show (strB (signL (k : Int))).data.toList = signL k from rfl]; simp only [List.length_append]; omega) | (simp only [List.length_append, List.length_cons, List.length_nil]; omega))).mono ?_
  rintro e w2 ⟨rfl, Q2⟩
  have P4a := Lib.hid Q2
  clear Q2 PD
  go_wp2
  exact bodyPost_ret (v := .tuple #[]) (by simp [results, Tryd.results40, go_sem]) rfl ⟨rfl, by
    have h := P4a.out.at (P1.out.oth.trans P4a.out.oth)
    rw [show (strB (signL (k : Int))).data.toList = signL k from rfl, List.append_assoc, List.append_assoc, ← List.append_assoc (fromL _ _)] at h
    rw [HLL.out]
    exact h⟩
end Go.Proofs.YtnhgeojcelegbaaDoor
