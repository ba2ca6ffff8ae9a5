/- TreeParts, of a tree that may be: an area. -/
import Derived.Test.YtkjfeakbhfkldaaTreeL3
namespace Go.Proofs.Ytkjfeakbhfkldaa
open Go.ChangeShapes Go.WideShapes Go.ChangeAt Go.RowKit

set_option maxRecDepth 100000 in
set_option maxHeartbeats 4000000 in
theorem parts_ok6 (w : World) (nd : Hd) (ks : Trees) (ka : Option Addr) (kl kc : Nat) (tv : TreeV w w.heap.size nd ks ka kl) (f : Fine nd ks) (k6 : nd.kind = 6) (hm : mayE nd ks = 0) :
    Calls Try.prog 6 #[.agg #[.int .i64 nd.kind, .int .i64 nd.op, .int .i64 nd.num, .string ⟨nd.text.toArray⟩, .int .i64 nd.ref.row, .int .i64 nd.ref.col, .bool nd.ref.pr, .bool nd.ref.pc, .int .i64 nd.to.row, .int .i64 nd.to.col, .bool nd.to.pr, .bool nd.to.pc, .int .i64 nd.fn, .slice ka kl kc]] w (TruePost w) := by
  have b0 := ext_alloc (Below.refl _ w) (.cells #[.int .i64 nd.kind, .int .i64 nd.op, .int .i64 nd.num, .string ⟨nd.text.toArray⟩, .int .i64 nd.ref.row, .int .i64 nd.ref.col, .bool nd.ref.pr, .bool nd.ref.pc, .int .i64 nd.to.row, .int .i64 nd.to.col, .bool nd.to.pr, .bool nd.to.pc, .int .i64 nd.fn, .slice ka kl kc] 29)
  have p0 : PlR w w.heap.size (.cells #[.int .i64 nd.kind, .int .i64 nd.op, .int .i64 nd.num, .string ⟨nd.text.toArray⟩, .int .i64 nd.ref.row, .int .i64 nd.ref.col, .bool nd.ref.pr, .bool nd.ref.pc, .int .i64 nd.to.row, .int .i64 nd.to.col, .bool nd.to.pr, .bool nd.to.pc, .int .i64 nd.fn, .slice ka kl kc] 29) nd nd ks ks ka ka kl kl (w.alloc (.cells #[.int .i64 nd.kind, .int .i64 nd.op, .int .i64 nd.num, .string ⟨nd.text.toArray⟩, .int .i64 nd.ref.row, .int .i64 nd.ref.col, .bool nd.ref.pr, .bool nd.ref.pc, .int .i64 nd.to.row, .int .i64 nd.to.col, .bool nd.to.pr, .bool nd.to.pc, .int .i64 nd.fn, .slice ka kl kc] 29)) :=
    ⟨Nat.le_refl _, heap_alloc_new _ _, b0, tv.kept b0 (Nat.le_refl _), tv.kept b0 (Nat.le_refl _)⟩
  have P0 := Lib.hid p0
  have e2 : (nd.kind == 2) = false := by simp [k6]
  have e5 : (nd.kind == 5) = false := by simp [k6]
  have e6 : (nd.kind == 6) = true := by simp [k6]
  have hby : nd.bytes = 0 := by simp [Hd.bytes, k6]
  have hrn : readN nd = [arOf nd.ref.row nd.ref.col nd.to.row nd.to.col] := by simp [readN, k6]
  have HRN := Lib.hid hrn
  have HF := Lib.hid (mayE_fits hm)
  clear hrn
  have f1 := f.1; have f2 := f.2.1
  have F := Lib.hid f
  have HM := Lib.hid hm; have HBY := Lib.hid hby
  have KK := Lib.hid k6
  clear hm hby f k6
  have HKL := Lib.hid tv.len; have hkm := tv.max
  clear b0 p0 tv
  go_enter Try.func6, Try.ntmps6
  go_wp2_with fail
  refine (begun_any _).mono ?_
  rintro e w1 ⟨rfl, b1⟩
  obtain ⟨c1, p1⟩ := P0.out.step b1
  have P1 := Lib.hid p1
  clear b1 p1
  go_wp2_with fail
  obtain ⟨s1, s2, s3⟩ := size_yes F.out
  rw [HBY.out] at s3
  have cS : Calls Try.prog 24 #[.agg #[.int .i64 nd.kind, .int .i64 nd.op, .int .i64 nd.num, .string ⟨nd.text.toArray⟩, .int .i64 nd.ref.row, .int .i64 nd.ref.col, .bool nd.ref.pr, .bool nd.ref.pc, .int .i64 nd.to.row, .int .i64 nd.to.col, .bool nd.to.pr, .bool nd.to.pc, .int .i64 nd.fn, .slice ka kl kc]] w1 (fun e w' => e = .returned (.tuple #[.int .i64 (1 + ks.nodes), .int .i64 (1 + ks.deep), .int .i64 ((0 : Nat) + ks.bytes)]) ∧ Below w1.heap.size w1 w') := (size_any nd ks w1 _ ka kl kc P1.out.le P1.out.t).mono fun e w' q => ⟨by have := q.1; rw [s1, s2, s3] at this; exact this, q.2⟩
  refine cS.mono ?_
  rintro e w2 ⟨rfl, b2⟩
  obtain ⟨c2, p2⟩ := P1.out.step b2
  have P2 := Lib.hid p2
  clear b2 p2 cS c1 s1 s2 s3
  go_wp2_with fail
  have cM : Calls Try.prog 23 #[.agg #[.int .i64 nd.kind, .int .i64 nd.op, .int .i64 nd.num, .string ⟨nd.text.toArray⟩, .int .i64 nd.ref.row, .int .i64 nd.ref.col, .bool nd.ref.pr, .bool nd.ref.pc, .int .i64 nd.to.row, .int .i64 nd.to.col, .bool nd.to.pr, .bool nd.to.pc, .int .i64 nd.fn, .slice ka kl kc]] w2 (fun e w' => e = .returned (.int .i64 0) ∧ Below w2.heap.size w2 w') := (may_any nd ks w2 _ ka kl kc P2.out.le P2.out.t).mono fun e w' q => ⟨by have := q.1; rw [HM.out] at this; exact this, q.2⟩
  refine cM.mono ?_
  rintro e w3 ⟨rfl, b3⟩
  obtain ⟨c3, p3⟩ := P2.out.step b3
  have P3 := Lib.hid p3
  clear b3 p3 cM c2
  go_wp2_with fail
  refine (reads_any nd ks w3 _ ka kl kc P3.out.le P3.out.t).mono ?_
  rintro e w4 ⟨v4, rfl, b4, a4⟩
  rw [HM.out]
  unfold ReadsAns at a4
  rw [if_pos HM.out] at a4
  obtain ⟨la, lc, rfl, ar, -⟩ := a4.at_
  obtain ⟨hcap, hcm, -⟩ := a4.cap
  obtain ⟨c4, p4⟩ := P3.out.step b4
  have P4 := Lib.hid p4
  have AR := Lib.hid ar
  have R4 := Lib.hid (p4.t.row)
  have hlm := ar.1
  have hz4 := p4.lt
  clear b4 p4 c3 a4 ar
  have hl1 : (readsT nd ks).length = 1 + (readsL ks).length := by unfold readsT; rw [HRN.out]; simp; omega
  have C4 := Lib.hid c4
  go_wp2_with fail
  go_loopw [7, 8, 9, 12, 13, 14, 15, 16, 17, 18] (fun nn dd tt at_ i _ _ _ _ _ wr => PtRel nd ks kl w.heap.size ka (readsT nd ks) true w4 wr nn dd tt at_ i) (fun _ _ _ _ i _ _ _ _ _ _ => kl - (intOf i).toNat)
  case atStart =>
    exact ⟨0, 1, 0, 0, ks, readN nd, rfl, rfl, rfl, rfl, by rw [HRN.out]; rfl, by have := HKL.out; omega, R4.out, Below.refl _ _, Nat.le_refl _, Lib.hid rfl, Lib.hid (by simp), Lib.hid (by rw [HBY.out]), Lib.hid rfl, HF⟩
  case round =>
    obtain ⟨j, N, D, T, rest, dn, rfl, rfl, rfl, rfl, rfl, hj, hrow, hb, hN, hNN, hDD, hTT, hg⟩ := hrel
    have hsz := hb.size
    have cb : ∀ o, wr.cell? ⟨w.heap.size, o, none⟩ = _ := fun o => (hb.cell (p := ⟨w.heap.size, o, none⟩) hz4).trans (C4.out o)
    have hltb : w.heap.size < wr.heap.size := by omega
    by_cases hlt : j < kl
    · obtain ⟨h', k', r', rfl⟩ := trees_cons (rest := rest) (by omega)
      obtain ⟨b1, off, ka', kl', kc', rfl, hb1, N1, tv1⟩ := hrow.head
      obtain ⟨hl1', c0, c1, c2, c3, c4', c5, c6, c7, c8, c9, c10, c11, c12, c13, d5, d6, d7, d9, d10, d11⟩ := N1.facts
      have fk := kid_fine F.out hNN.out hN hDD.out hTT.out
      obtain ⟨u1, u2, u3⟩ := size_yes fk
      have HN1 := Lib.hid N1; have T1 := Lib.hid tv1; have HRow := Lib.hid hrow.2
      have HB := Lib.hid hb
      have FK := Lib.hid fk
      clear d5 d6 d7 d9 d10 d11 N1 tv1 hrow hb fk
      have cS : Calls Try.prog 24 #[.agg #[.int .i64 h'.kind, .int .i64 h'.op, .int .i64 h'.num, .string ⟨h'.text.toArray⟩, .int .i64 h'.ref.row, .int .i64 h'.ref.col, .bool h'.ref.pr, .bool h'.ref.pc, .int .i64 h'.to.row, .int .i64 h'.to.col, .bool h'.to.pr, .bool h'.to.pc, .int .i64 h'.fn, .slice ka' kl' kc']] wr (fun e w' => e = .returned (.tuple #[.int .i64 (1 + k'.nodes), .int .i64 (1 + k'.deep), .int .i64 (h'.bytes + k'.bytes)]) ∧ Below wr.heap.size wr w') := (size_any h' k' wr w.heap.size ka' kl' kc' (by omega) T1.out).mono fun e w' q => ⟨by have := q.1; rw [u1, u2, u3] at this; exact this, q.2⟩
      have CS := Lib.hid cS
      have lim : N + (1 + k'.nodes) ≤ 512 ∧ T + (h'.bytes + k'.bytes) ≤ 16384 ∧ D ≤ 64 ∧ 1 + k'.deep ≤ 64 := by
        have q1 := hNN.out; have q2 := hDD.out; have q3 := hTT.out; obtain ⟨g1, g2, g3⟩ := F.out
        simp only [Trees.nodes, Trees.deep, Trees.bytes] at q1 q2 q3
        omega
      obtain ⟨lim1, lim2, lim3, lim4⟩ := lim
      clear cS u1 u2 u3
      go_wp2_with fail
      refine CS.out.mono ?_
      rintro e w5 ⟨rfl, b5⟩
      have hz5 := b5.size
      have HB5 := Lib.hid (HB.out.trans (b5.mono hsz))
      have nx : PNext ks nd r' (N + (1 + k'.nodes)) (max D (1 + k'.deep)) (T + (h'.bytes + k'.bytes)) := ⟨by rw [← hNN.out]; simp only [Trees.nodes]; omega, by rw [← hDD.out]; simp only [Trees.deep]; omega, by rw [← hTT.out]; simp only [Trees.bytes]; omega⟩
      have NX := Lib.hid nx
      clear c0 c1 c2 c3 c4' c5 c6 c7 c8 c9 c10 c11 c12 c13 cb nx
      obtain ⟨HL, HA⟩ := hg
      obtain ⟨mk, ha'⟩ := mayE_kid HA.out FK.out
      have ll : dn.length + ((readsT h' k').length + (readsL r').length) = (readsT nd ks).length := by rw [HL.out]; simp [readsL, readsT]; omega
      have cb : ∀ o, w5.cell? ⟨w.heap.size, o, none⟩ = _ := fun o => (HB5.out.cell (p := ⟨w.heap.size, o, none⟩) hz4).trans (C4.out o)
      have n5 := HN1.out.kept (b5.mono (by omega : w.heap.size ≤ _)) hb1
      obtain ⟨hl5, c0, c1, c2, c3, c4', c5, c6, c7, c8, c9, c10, c11, c12, c13, d5, d6, d7, d9, d10, d11⟩ := n5.facts
      have HN5 := Lib.hid n5
      have T5 := Lib.hid (T1.out.kept (b5.mono (by omega)) (Nat.le_refl _))
      have R5 := Lib.hid (HRow.out.kept (b5.mono (by omega)) (Nat.le_refl _))
      have MK := Lib.hid mk; have HA' := Lib.hid ha'; have LL := Lib.hid ll
      clear b5 mk ha' ll d5 d6 d7 d9 d10 d11 n5
      go_wp2_with fail
      all_goals
       refine (reads_any h' k' w5 w.heap.size ka' kl' kc' (by omega) T5.out).mono ?_
       rintro e w6 ⟨v6, rfl, b6, a6⟩
       rw [MK.out]
       unfold ReadsAns at a6
       rw [if_pos MK.out] at a6
       obtain ⟨ma, mc, rfl, am, -⟩ := a6.at_
       have hz6 := b6.size
       have HB6 := Lib.hid (HB5.out.trans (b6.mono (by omega)))
       have AM := Lib.hid am
       have R6 := Lib.hid (R5.out.kept (b6.mono (by omega)) (Nat.le_refl _))
       have T6 := Lib.hid (T5.out.kept (b6.mono (by omega)) (Nat.le_refl _))
       have n6 := HN5.out.kept (b6.mono (by omega : w.heap.size ≤ _)) hb1
       clear c0 c1 c2 c3 c4' c5 c6 c7 c8 c9 c10 c11 c12 c13 cb
       obtain ⟨hl6, c0, c1, c2, c3, c4', c5, c6, c7, c8, c9, c10, c11, c12, c13, d5, d6, d7, d9, d10, d11⟩ := n6.facts
       have cb : ∀ o, w6.cell? ⟨w.heap.size, o, none⟩ = _ := fun o => (HB6.out.cell (p := ⟨w.heap.size, o, none⟩) hz4).trans (C4.out o)
       clear b6 a6 am n6 d5 d6 d7 d9 d10 d11
       go_wp2_with fail
       have cM : Calls Try.prog 23 #[.agg #[.int .i64 h'.kind, .int .i64 h'.op, .int .i64 h'.num, .string ⟨h'.text.toArray⟩, .int .i64 h'.ref.row, .int .i64 h'.ref.col, .bool h'.ref.pr, .bool h'.ref.pc, .int .i64 h'.to.row, .int .i64 h'.to.col, .bool h'.to.pr, .bool h'.to.pc, .int .i64 h'.fn, .slice ka' kl' kc']] w6 (fun e w' => e = .returned (.int .i64 0) ∧ Below w6.heap.size w6 w') := (may_any h' k' w6 w.heap.size ka' kl' kc' (by omega) T6.out).mono fun e w' q => ⟨by have := q.1; rw [MK.out] at this; exact this, q.2⟩
       refine cM.mono ?_
       rintro e w7 ⟨rfl, b7⟩
       have hz7 := b7.size
       have HB7 := Lib.hid (HB6.out.trans (b7.mono (by omega)))
       have AM7 := Lib.hid (AM.out.kept b7 (Nat.le_refl _))
       have AL7 := Lib.hid (AR.out.kept HB7.out (Nat.le_refl _))
       have R7 := Lib.hid (R6.out.kept (b7.mono (by omega)) (Nat.le_refl _))
       clear b7 cM cb c0 c1 c2 c3 c4' c5 c6 c7 c8 c9 c10 c11 c12 c13
       have hlm7 := AM7.out.1
       have l1 : dn.length + (readsT h' k').length ≤ (readsT nd ks).length := by have := LL.out; omega
       have l2 : (dn.length : Int) + (readsT h' k').length ≤ (readsT nd ks).length := by omega
       rcases Nat.lt_or_eq_of_le (Nat.le_trans (Nat.le_trans (Nat.le_add_right _ _) l1) hcap : dn.length ≤ lc) with z | z
       rotate_left
       subst z
       rotate_left
       all_goals go_wp2_with fail
       all_goals
        refine (areas_any (readsT h' k') (readsT h' k') w7 w4.heap.size w6.heap.size _ ma _ mc ?_ AM7.out (by omega) (by omega)).mono ?_
        · first
            | (have q := AL7.out; rw [HL.out, readsL, ← List.append_assoc (readN h')] at q; exact q.sub')
            | exact .of_nil (by omega)
        rintro e w8 ⟨rfl, b8⟩
        have HB8 := Lib.hid (HB7.out.trans (b8.mono (by omega)))
        have R8 := Lib.hid (R7.out.kept (b8.mono (by omega)) (Nat.le_refl _))
        clear b8
        go_wp2
        exact ⟨⟨j + 1, N + (1 + k'.nodes), max D (1 + k'.deep), T + (h'.bytes + k'.bytes), r', dn ++ readsT h' k', by go_num, by go_num, congrArg (Value.int .i64) (by omega), by go_num, congrArg (Value.int .i64) (by rw [List.length_append]; omega), by simp only [Trees.len] at hj; omega, R8.out, HB8.out, by omega, Lib.hid NX.out.n, Lib.hid NX.out.d, Lib.hid NX.out.t, Lib.hid (by rw [HL.out, readsL, readsT]; simp only [List.append_assoc]), HA'⟩, by simp [intOf]; omega⟩
    · have hz : rest.len = 0 := by omega
      obtain rfl := trees_nil hz
      have q1 := hNN.out; have q2 := hDD.out; have q3 := hTT.out
      simp only [Trees.nodes, Trees.deep, Trees.bytes, Nat.add_zero, Nat.max_zero] at q1 q2 q3
      rw [HBY.out] at q3
      subst q1 q2 q3
      have q4 := hg.1.out
      rw [readsL, List.append_nil] at q4
      have q5 : dn.length = 1 + (readsL ks).length := by rw [← q4]; exact hl1
      clear hg q4
      have HB := Lib.hid (P4.out.bel.trans (hb.mono (by omega)))
      clear hb hrow
      go_wp2
      go_ret
      exact ⟨ret_bool (by simp), HB.out⟩
end Go.Proofs.Ytkjfeakbhfkldaa
