/- PrintKids: a node's text has its kids' texts in it, in order: the walk. -/
import Derived.Test.YtnhgeojcelegbaaDoorPrG
import Derived.Test.YtnhgeojcelegbaaDoorPrH
namespace Go.Proofs.YtnhgeojcelegbaaDoor
open Go.RowKit Go.Lib

theorem wpList_load_nd {ops : Array Oper} {Q : Exit → Act → World → Prop} {rest : List Oper} {a : Act} {o : Oper} {s : Operand} {w : World} {b off : Nat} {h : Hd} {ka : Option Addr} {kl kc : Nat} (hg : o.guard = none) (ho : o.op = Op.load 30 s) (ha : a.eval s = .pointer (some ⟨b, off, none⟩)) (nd : NodeAt w b off h (.slice ka kl kc)) (hw : wpList Tryd.prog ops Q rest (a.put o.dst (.agg #[.int .i64 h.kind, .int .i64 h.op, .int .i64 h.num, .string ⟨h.text.toArray⟩, .int .i64 h.ref.row, .int .i64 h.ref.col, .bool h.ref.pr, .bool h.ref.pc, .int .i64 h.to.row, .int .i64 h.to.col, .bool h.to.pr, .bool h.to.pc, .int .i64 h.fn, (.slice ka kl kc)])) w) : wpList Tryd.prog ops Q (o :: rest) a w :=
  wpList_load_mid hg _ s ho b off ha [.int .i64 h.kind, .int .i64 h.op, .int .i64 h.num, .string ⟨h.text.toArray⟩, .int .i64 h.ref.row, .int .i64 h.ref.col, .bool h.ref.pr, .bool h.ref.pc, .int .i64 h.to.row, .int .i64 h.to.col, .bool h.to.pr, .bool h.to.pc, .int .i64 h.fn, (.slice ka kl kc)] _ (fun j v hv => nd.2 j v hv) Tryd.underlying30 rfl infoExprP hw
/-- Before the kid at place j: the rest's texts lie behind place p. -/
def KRel (w : World) (B : Nat) (sL : List UInt8) (ka : Option Addr) (kl : Nat) (v8 v9 : Value) (wr : World) : Prop :=
  ∃ (p j : Nat) (rest : Trees), v8 = .int .i64 p ∧ v9 = .int .i64 j ∧ j + rest.len = kl ∧ p ≤ sL.length ∧ RowIn w B rest ka j ∧ allFits rest = true ∧ rest.nodes ≤ 511 ∧ rest.deep ≤ 63 ∧ rest.bytes ≤ 16384 ∧ Hid (Occ (kidsL rest) (sL.drop p)) ∧ Below w.heap.size w wr
set_option maxRecDepth 100000 in
set_option maxHeartbeats 2000000 in
theorem printKids_any (nd : Hd) (ks : Trees) (w : World) (B : Nat) (ka : Option Addr) (kl kc : Nat) (hB : B ≤ w.heap.size) (tv : TreeV w B nd ks ka kl) (T : TabW w) :
    Calls Tryd.prog 4 #[.agg #[.int .i64 nd.kind, .int .i64 nd.op, .int .i64 nd.num, .string ⟨nd.text.toArray⟩, .int .i64 nd.ref.row, .int .i64 nd.ref.col, .bool nd.ref.pr, .bool nd.ref.pc, .int .i64 nd.to.row, .int .i64 nd.to.col, .bool nd.to.pr, .bool nd.to.pc, .int .i64 nd.fn, (.slice ka kl kc)]] w (TruePost w) := by
  have HTV := Lib.hid tv; have HT := Lib.hid T
  clear tv T
  go_enter Tryd.func4, Tryd.ntmps4
  go_upto_region 1 with (fail)
  have BX : (w.alloc (.cells #[.int .i64 nd.kind, .int .i64 nd.op, .int .i64 nd.num, .string ⟨nd.text.toArray⟩, .int .i64 nd.ref.row, .int .i64 nd.ref.col, .bool nd.ref.pr, .bool nd.ref.pc, .int .i64 nd.to.row, .int .i64 nd.to.col, .bool nd.to.pr, .bool nd.to.pc, .int .i64 nd.fn, (.slice ka kl kc)] 30)).heap[w.heap.size]? = some (.cells #[.int .i64 nd.kind, .int .i64 nd.op, .int .i64 nd.num, .string ⟨nd.text.toArray⟩, .int .i64 nd.ref.row, .int .i64 nd.ref.col, .bool nd.ref.pr, .bool nd.ref.pc, .int .i64 nd.to.row, .int .i64 nd.to.col, .bool nd.to.pr, .bool nd.to.pc, .int .i64 nd.fn, (.slice ka kl kc)] 30 (0, 0)) := heap_alloc_new w _
  have b0 : Below w.heap.size w (w.alloc (.cells #[.int .i64 nd.kind, .int .i64 nd.op, .int .i64 nd.num, .string ⟨nd.text.toArray⟩, .int .i64 nd.ref.row, .int .i64 nd.ref.col, .bool nd.ref.pr, .bool nd.ref.pc, .int .i64 nd.to.row, .int .i64 nd.to.col, .bool nd.to.pr, .bool nd.to.pc, .int .i64 nd.fn, (.slice ka kl kc)] 30)) := ext_alloc (Below.refl _ _) _
  have hs1 : (w.alloc (.cells #[.int .i64 nd.kind, .int .i64 nd.op, .int .i64 nd.num, .string ⟨nd.text.toArray⟩, .int .i64 nd.ref.row, .int .i64 nd.ref.col, .bool nd.ref.pr, .bool nd.ref.pc, .int .i64 nd.to.row, .int .i64 nd.to.col, .bool nd.to.pr, .bool nd.to.pc, .int .i64 nd.fn, (.slice ka kl kc)] 30)).heap.size = w.heap.size + 1 := by simp
  generalize w.alloc (.cells #[.int .i64 nd.kind, .int .i64 nd.op, .int .i64 nd.num, .string ⟨nd.text.toArray⟩, .int .i64 nd.ref.row, .int .i64 nd.ref.col, .bool nd.ref.pr, .bool nd.ref.pc, .int .i64 nd.to.row, .int .i64 nd.to.col, .bool nd.to.pr, .bool nd.to.pc, .int .i64 nd.fn, (.slice ka kl kc)] 30) = w0 at *
  have TV0 := Lib.hid (((HTV.out.kept b0 hB).mono (Nat.le_trans hB (Nat.le_succ _))).mono (Nat.le_of_eq hs1.symm))
  have T0 := Lib.hid (HT.out.kept b0)
  have HBX := Lib.hid BX; have HB0 := Lib.hid b0
  have hlt : w.heap.size < w0.heap.size := by omega
  generalize hq : w.heap.size = q at *
  have HQ := Lib.hid hq
  clear hq
  clear BX b0 hs1
  go_wp2_with fail
  refine (begun11_any w0 T0.out).mono ?_
  rintro e w1 ⟨rfl, b1⟩
  have BX1 := Lib.hid (blk_below b1 HBX.out)
  have B1 := Lib.hid b1
  clear b1
  go_wp2_with (refine wpList_load_X rfl rfl rfl BX1.out rfl ?_)
  refine (refSize_any nd ks w1 w0.heap.size ka kl kc B1.out.size (TV0.out.kept B1.out (Nat.le_refl _))).mono ?_
  rintro e w2 ⟨rfl, b2⟩
  have BX2 := Lib.hid (blk_below b2 BX1.out)
  have B2 := Lib.hid (B1.out.trans (b2.mono B1.out.size))
  clear b2
  generalize sizeN nd ks = sz
  generalize sizeD nd ks = sd
  generalize sizeT nd ks = st
  go_wp2_with (refine wpList_load_X rfl rfl rfl BX2.out rfl ?_)
  refine (formula_any nd ks w2 w0.heap.size ka kl kc B2.out.size (TV0.out.kept B2.out (Nat.le_refl _)) (T0.out.kept B2.out)).mono ?_
  rintro e w3 ⟨he, b3⟩
  have BX3 := Lib.hid (blk_below b3 BX2.out)
  have B3 := Lib.hid (B2.out.trans (b3.mono B2.out.size))
  have hend : ∀ W, Below w0.heap.size w0 W → Below w.heap.size w W := fun W h => by rw [HQ.out]; exact HB0.out.trans (h.mono (Nat.le_of_lt hlt))
  have HEND := Lib.hid hend
  clear b3 hend
  by_cases h0 : mayE nd ks = 0
  rotate_left
  · obtain ⟨x, hx⟩ : ∃ x, x = mayE nd ks := ⟨_, rfl⟩
    generalize strB (formL nd ks) = fl at he
    rw [← hx] at he h0
    clear hx
    subst he
    have hb : (x != 0) = true := by simpa using h0
    go_wp2
    go_ret
    exact ⟨rfl, HEND.out _ B3.out⟩
  have hF : formL nd ks = 61 :: textL nd ks := by rw [formL, if_pos h0]
  rw [h0] at he
  by_cases h5 : 512 < sz
  · generalize strB (formL nd ks) = fl at he
    subst he
    go_wp2
    go_ret
    exact ⟨rfl, HEND.out _ B3.out⟩
  have hfine : Fine nd ks ∧ treeFits nd ks = true := by
    have hmay := h0
    unfold mayE at hmay
    split at hmay
    · rename_i f
      split at hmay
      · rename_i t; exact ⟨f, t⟩
      · cases hmay
    · cases hmay
  obtain ⟨⟨f1, f2, f3⟩, hfit⟩ := hfine
  simp only [treeFits, Bool.and_eq_true] at hfit
  have hocc := text_occ (h := nd) (ks := ks) hfit.1
  have hfa := hfit.2
  have hfl : (formL nd ks).length ≤ 1000000 := by
    have h1 := textL_room nd ks TV0.out.ok.num TV0.out.row.nums
    have h2 := room_fine ks hfa
    have h3 := text_bytes hfit.1
    rw [hF, List.length_cons]
    unfold roomH at h1
    omega
  obtain ⟨sL, hsL⟩ : ∃ sL, sL = formL nd ks := ⟨_, rfl⟩
  rw [← hsL] at he hfl hF
  have hss : (strB sL).size = sL.length := strB_size sL
  have HS1 := Lib.hid (show (strB sL).data.toList = sL from rfl)
  have hd1 : sL.drop 1 = textL nd ks := by rw [hF]; rfl
  have hl1 : 1 ≤ sL.length := by rw [hF]; simp
  have HO := Lib.hid (show Occ (kidsL ks) (sL.drop 1) by rw [hd1]; exact hocc)
  generalize strB sL = s at he hss HS1
  have hsz : s.size ≤ 1000000 := by omega
  have hk1 : ks.nodes ≤ 511 := by omega
  have hk2 : ks.deep ≤ 63 := by omega
  have hk3 : ks.bytes ≤ 16384 := by omega
  have HLN := Lib.hid TV0.out.len
  have hmax := TV0.out.max
  have HSS := Lib.hid hss
  have HFA := Lib.hid hfa
  clear hsL hF hd1 hocc hfit h0 f1 f2 f3 hfa hss
  subst he
  go_wp2_with fail
  go_loopw [8, 9] (fun v8 v9 wr => KRel w0 w0.heap.size sL ka kl v8 v9 wr) (fun _ v9 _ => kl - (intOf v9).toNat)
  case atStart => exact ⟨1, 0, ks, rfl, rfl, (by have := HLN.out; omega), hl1, TV0.out.row, HFA.out, hk1, hk2, hk3, HO.out |> Lib.hid, B3.out⟩
  case round =>
    obtain ⟨p, j, rest, rfl, rfl, hj, hp, row, hfa, hn1, hn2, hn3, HOC, hb⟩ := hrel
    have BXr := Lib.hid (show wr.heap[q]? = some (.cells #[.int .i64 nd.kind, .int .i64 nd.op, .int .i64 nd.num, .string ⟨nd.text.toArray⟩, .int .i64 nd.ref.row, .int .i64 nd.ref.col, .bool nd.ref.pr, .bool nd.ref.pc, .int .i64 nd.to.row, .int .i64 nd.to.col, .bool nd.to.pr, .bool nd.to.pc, .int .i64 nd.fn, (.slice ka kl kc)] 30 (0, 0)) from (hb.block q hlt).trans HBX.out)
    have c13 : wr.cell? ⟨q, 13, none⟩ = some (.slice ka kl kc) := by simp [World.cell?, BXr.out]
    have HB := Lib.hid hb
    have hbsz : w0.heap.size ≤ wr.heap.size := hb.size
    clear hb
    by_cases hjl : j < kl
    · cases rest with
      | nil => exact absurd hj (by simp only [Trees.len]; omega)
      | cons hk kk r =>
        obtain ⟨kb, ko, ja, jl, jc, rfl, hkb, nd1, tv1⟩ := row.head
        have hm := kid_may hfa hn1 hn2 hn3
        have hfr : allFits r = true := by simp only [allFits, Bool.and_eq_true] at hfa; exact hfa.2
        simp only [Trees.nodes] at hn1
        simp only [Trees.deep] at hn2
        simp only [Trees.bytes] at hn3
        simp only [Trees.len] at hj
        have HND := Lib.hid (nd1.kept HB.out hkb)
        have cf := formula_any hk kk wr w0.heap.size ja jl jc hbsz (tv1.kept HB.out (Nat.le_refl _)) (T0.out.kept HB.out)
        have hkF : formL hk kk = 61 :: textL hk kk := by rw [formL, if_pos hm]
        unfold FormPost at cf
        rw [hm, hkF] at cf
        have hocc := HOC.out
        rw [kids_cons] at hocc
        obtain ⟨tk, htk⟩ : ∃ tk, tk = textL hk kk := ⟨_, rfl⟩
        rw [← htk] at hocc cf
        have CF := Lib.hid cf
        have HOC2 := Lib.hid hocc
        have hkl : tk.length ≤ sL.length - p := by have := hocc.len; rw [List.length_drop] at this; exact this
        have ROW := Lib.hid row.2; have HFR := Lib.hid hfr
        have hr1 : r.nodes ≤ 511 := by omega
        have hr2 : r.deep ≤ 63 := by omega
        have hr3 : r.bytes ≤ 16384 := by omega
        clear row nd1 tv1 hm hfr hfa hn1 hn2 hn3 cf hkF hocc HOC htk
        go_wp2_with (refine wpList_load_nd rfl rfl rfl HND.out ?_)
        refine CF.out.mono ?_
        rintro e w4 ⟨rfl, b4⟩
        have B4 := Lib.hid (HB.out.trans (b4.mono HB.out.size))
        have c13b : w4.cell? ⟨q, 13, none⟩ = some (.slice (some ⟨kb, ko, none⟩) kl kc) := by
          have h := blk_below b4 BXr.out
          simp [World.cell?, h]
        clear b4 c13
        obtain ⟨K, hK⟩ : ∃ K, K = strB (61 :: tk) := ⟨_, rfl⟩
        rw [← hK]
        have hKs : K.size = tk.length + 1 := by rw [hK, strB_size]; rfl
        have hKx : (K.extract 1 K.size).data.toList = tk := by
          rw [Lib.extract_data, hK]
          show ((61 :: tk).drop 1).take _ = tk
          rw [List.drop_one, List.tail_cons]
          exact List.take_of_length_le (by rw [strB_size]; simp)
        have hXs : (K.extract 1 K.size).size = tk.length := by rw [Lib.size_eq, hKx]
        have HKS := Lib.hid hKs
        have hK1 : 1 ≤ K.size := by omega
        have hK2 : K.size ≤ 1000001 := by omega
        clear hK hKs
        go_upto_region 14 with (fail)
        go_wp2_with fail
        generalize K.extract 1 K.size = X at hKx hXs ⊢
        have HX := Lib.hid hKx; have HXS := Lib.hid hXs
        have hX2 : X.size ≤ 1000001 := by omega
        clear hKx hXs hkl
        go_loop [8] (fun i => ∃ p' : Nat, i = .int .i64 p' ∧ p' + X.size ≤ s.size ∧ Hid (Occ (tk :: kidsL r) (sL.drop p'))) (fun i => s.size - (intOf i).toNat)
        case atStart => exact ⟨p, rfl, (by have := HXS.out; have := HSS.out; have := HOC2.out.len; rw [List.length_drop] at this; omega), HOC2⟩
        case round =>
          obtain ⟨p', rfl, hpx, HO3⟩ := hrel
          have hcut : (s.extract p' (p' + X.size)).data.toList = (sL.drop p').take tk.length := by
            rw [Lib.extract_data, HS1.out, Nat.add_sub_cancel_left, HXS.out]
          by_cases hhit : (sL.drop p').take tk.length = tk
          · have heq : ((s.extract p' (p' + X.size)).toList == X.toList) = true := by
              rw [beq_iff_eq, ByteArray.toList_eq, ByteArray.toList_eq, hcut, HX.out, hhit]
            have HNEXT := Lib.hid (show Occ (kidsL r) (sL.drop (p' + X.size)) by
              have h := HO3.out.hit hhit
              rw [List.drop_drop] at h
              rw [HXS.out]; exact h)
            clear hcut hhit HO3
            go_wp2
            go_roundw
            case rel => exact ⟨p' + X.size, j + 1, r, by go_num, by go_num, by omega, (by have := HSS.out; omega), ROW.out, HFR.out, hr1, hr2, hr3, HNEXT, B4.out⟩
            case measure => simp [intOf]; omega
          · have heq : ((s.extract p' (p' + X.size)).toList == X.toList) = false := by
              rw [beq_eq_false_iff_ne, ByteArray.toList_eq, ByteArray.toList_eq, hcut, HX.out]; exact hhit
            have HMISS := HO3.out.miss hhit
            rw [List.drop_drop] at HMISS
            have hm2 : p' + 1 + X.size ≤ s.size := by
              have := HMISS.len; rw [List.length_drop] at this
              have := HXS.out; have := HSS.out
              have h4 : p' + X.size ≤ s.size := hpx
              by_cases hz : tk.length = 0
              · exact absurd (by have : tk = [] := List.length_eq_zero_iff.1 hz; rw [this]; rfl) hhit
              · omega
            have HM := Lib.hid HMISS
            clear hcut hhit HO3 HMISS
            go_wp2
            go_round
            case rel => exact ⟨p' + 1, by go_num, hm2, HM⟩
            case measure => simp [intOf]; omega
    · cases rest with
      | cons hk kk r => exact absurd hj (by simp only [Trees.len]; omega)
      | nil =>
        clear row hfa HOC
        go_wp2
        go_ret
        exact ⟨rfl, HEND.out _ HB.out⟩
end Go.Proofs.YtnhgeojcelegbaaDoor
