/- SpotThere: a place, and a reference, written and read is itself. -/
import Derived.Test.YtnhgeojcelegbaaDoorSpL
import Derived.Test.YtnhgeojcelegbaaDoorSpR
import Derived.Deep.Cut
namespace Go.Proofs.YtnhgeojcelegbaaDoor
open Go.RowKit Go.Lib

theorem strB_list (l : List UInt8) : (strB l).data.toList = l := by simp [strB]
theorem drewN_b {a b : World} (h : Below a.heap.size a b) (n : Nat) : Below a.heap.size a (b.drewN n) := ⟨h.os, h.tape, h.output, h.size, h.block⟩
def cnt36 (l : List UInt8) : Nat := l.count 36
theorem count_snoc (l : List UInt8) (k : Nat) (c : UInt8) (h : l[k]? = some c) : cnt36 (l.take (k + 1)) = cnt36 (l.take k) + if c = 36 then 1 else 0 := by
  unfold cnt36
  rw [List.take_add_one, h, List.count_append]
  simp [List.count_cons]
set_option maxHeartbeats 1000000 in
theorem dollars_any (s : ByteArray) (w : World) (hs : s.size ≤ 140737488355328) : Calls Tryd.prog 25 #[.string s] w fun e w' => e = .returned (.int .i64 ((cnt36 s.data.toList : Nat) : Int)) ∧ w = w' := by
  go_enter Tryd.func25, Tryd.ntmps25
  go_wp2
  go_loop [3, 4] (fun n i => ∃ (k m : Nat), i = .int .i64 k ∧ n = .int .i64 m ∧ k ≤ s.size ∧ m ≤ k ∧ Hid (cnt36 (s.data.toList.take k) = m)) (fun _ i => s.size - (intOf i).toNat)
  case atStart => exact ⟨0, 0, rfl, rfl, Nat.zero_le _, Nat.le_refl _, Lib.hid rfl⟩
  case round =>
    obtain ⟨k, m, rfl, rfl, hk, hm, H⟩ := hrel
    by_cases hlt : k < s.size
    · have hg : s.data.toList[k]? = some s[k] := by rw [List.getElem?_eq_getElem (by simpa using hlt)]; rfl
      have hc := count_snoc _ _ _ hg
      have HC := Lib.hid hc
      clear hg hc
      by_cases h36 : s[k] = 36
      · have hb : ((s[k].toNat : Int) == 36) = true := by rw [h36]; rfl
        have HH := Lib.hid h36
        clear h36
        go_wp2
        go_round
        case rel => exact ⟨k + 1, m + 1, by go_num, by go_num, by omega, by omega, Lib.hid (by rw [HC.out, H.out, if_pos HH.out])⟩
        case measure => simp [intOf]; omega
      · have hb : ((s[k].toNat : Int) == 36) = false := by
          rw [beq_eq_false_iff_ne]
          intro e
          exact h36 (UInt8.toNat_inj.1 (by show _ = 36; omega))
        have HH := Lib.hid h36
        clear h36
        go_wp2
        go_round
        case rel => exact ⟨k + 1, m, by go_num, rfl, by omega, by omega, Lib.hid (by rw [HC.out, H.out, if_neg HH.out]; rfl)⟩
        case measure => simp [intOf]; omega
    · go_wp2
      go_ret
      refine ⟨?_, rfl⟩
      have := H.out
      rw [List.take_of_length_le (by rw [← Lib.size_eq]; omega)] at this
      rw [this]; rfl
theorem keepC {N : Nat} {A : Array Value} {W W' : World} (b : Below W.heap.size W W') (h : N < W.heap.size) (c : ∀ o, W.cell? ⟨N, o, none⟩ = A[o]?) : ∀ o, W'.cell? ⟨N, o, none⟩ = A[o]? := fun o => (b.cell (p := ⟨N, o, none⟩) h).trans (c o)
theorem keepA {N : Nat} {A : Array Value} {W : World} (O : Obj) (h : N < W.heap.size) (c : ∀ o, W.cell? ⟨N, o, none⟩ = A[o]?) : ∀ o, (W.alloc O).cell? ⟨N, o, none⟩ = A[o]? := fun o => (World.cell?_alloc_past _ _ _ h).trans (c o)
theorem newA {A : Array Value} {T : TypeId} (W : World) : ∀ o, (W.alloc (.cells A T)).cell? ⟨W.heap.size, o, none⟩ = A[o]? := fun _ => World.cell?_alloc_at _ _ _ _ rfl
set_option maxRecDepth 100000 in
set_option maxHeartbeats 8000000 in
theorem spotThere_any (row col : Int) (pr pc : Bool) (w : World) (L : LaidW w) : Calls Tryd.prog 6 #[.agg #[.int .i64 row, .int .i64 col, .bool pr, .bool pc]] w (TruePost w) := by
  have B0 := Lib.hid (ext_alloc (Below.refl _ w) (.cells #[.int .i64 row, .int .i64 col, .bool pr, .bool pc] 28))
  have HL := Lib.hid L
  clear L
  go_enter Tryd.func6, Tryd.ntmps6
  go_wp2_with fail
  refine (begun2_any _ (HL.out.kept B0.out)).mono ?_
  rintro e w1 ⟨rfl, b1⟩
  have z1 : w.heap.size < w1.heap.size := (kept_block b1).1
  have a1 := keepC b1 (by simp) (newA (A := #[.int .i64 row, .int .i64 col, .bool pr, .bool pc]) (T := 28) w)
  have B1 := Lib.hid (B0.out.trans (b1.mono (by simp)))
  clear b1
  have B1a := Lib.hid (ext_alloc B1.out (.cells #[.int .i64 row, .int .i64 col] 39))
  have a1a := keepA (.cells #[.int .i64 row, .int .i64 col] 39) z1 a1
  go_wp2_with fail
  refine (spText_any row col _ (HL.out.kept B1a.out)).mono ?_
  rintro e w2 ⟨rfl, b2⟩
  have z2 : w1.heap.size < w2.heap.size := (kept_block b2).1
  have a2 := keepC b2 (by simp; omega) a1a
  have c2 := keepC b2 (by simp) (newA (A := #[.int .i64 row, .int .i64 col]) (T := 39) w1)
  have B2 := Lib.hid (B1a.out.trans (b2.mono (by simp; omega)))
  clear b2 a1 a1a
  go_wp2_with fail
  refine (refText_any ⟨row, col, pr, pc⟩ _ (HL.out.kept B2.out)).mono ?_
  rintro e w3 ⟨rfl, b3⟩
  have z3 := b3.size
  have a3 := keepC b3 (by omega) a2
  have c3 := keepC b3 (by omega) c2
  have B3 := Lib.hid (B2.out.trans (b3.mono (by omega)))
  clear b3 a2 c2
  go_wp2_with fail
  refine (spMay_any row col _).mono ?_
  rintro e w4 ⟨rfl, b4⟩
  have z4 := b4.size
  have a4 := keepC b4 (by omega) a3
  have c4 := keepC b4 (by omega) c3
  have B4 := Lib.hid (B3.out.trans (b4.mono (by omega)))
  clear b4 a3 c3
  obtain ⟨b, hb⟩ : ∃ b, placeB ⟨row, col, false, false⟩ = b := ⟨_, rfl⟩
  have hb2 : placeB ⟨row, col, pr, pc⟩ = b := hb
  cases b
  · have es : refTextL ⟨row, col, false, false⟩ = [] := by rw [refTextL, hb]; rfl
    have et : refTextL ⟨row, col, pr, pc⟩ = [] := by rw [refTextL, hb2]; rfl
    rw [hb, es, et, show refTextE ⟨row, col, false, false⟩ = 10 by rw [refTextE, hb]; rfl, show refTextE ⟨row, col, pr, pc⟩ = 10 by rw [refTextE, hb2]; rfl, show strB [] = (⟨#[]⟩ : ByteArray) from rfl]
    have hout : row < 0 ∨ 65535 < row ∨ col < 0 ∨ 701 < col := by simp [placeB] at hb; omega
    clear hb hb2 es et
    rcases hout with h | h | h | h
    all_goals
      go_wp2
      all_goals
        go_ret
        exact ⟨rfl, B4.out⟩
  · have es : refTextE ⟨row, col, false, false⟩ = 0 := by rw [refTextE, hb]; rfl
    have et : refTextE ⟨row, col, pr, pc⟩ = 0 := by rw [refTextE, hb2]; rfl
    rw [hb, es, et]
    have hS := refAns_text hb
    have hT := refAns_text hb2
    have sS := spotAns_text hb
    have sT := spotAns_text hb2
    have dT := dollars_text hb2
    simp only [Bool.or_self, Bool.false_eq_true, if_false] at sS
    obtain ⟨LS, hLS⟩ : ∃ LS, LS = refTextL ⟨row, col, false, false⟩ := ⟨_, rfl⟩
    obtain ⟨LT, hLT⟩ : ∃ LT, LT = refTextL ⟨row, col, pr, pc⟩ := ⟨_, rfl⟩
    rw [← hLS] at hS sS
    rw [← hLT] at hT sT dT
    simp only [← hLS] at dT
    rw [← hLS, ← hLT]
    obtain ⟨vS, hvS⟩ : ∃ vS : ByteArray, vS = strB LS := ⟨_, rfl⟩
    obtain ⟨vT, hvT⟩ : ∃ vT : ByteArray, vT = strB LT := ⟨_, rfl⟩
    rw [← hvS, ← hvT]
    have lS : vS.data.toList = LS := by rw [hvS, strB_list]
    have lT : vT.data.toList = LT := by rw [hvT, strB_list]
    have gS : vS.size = LS.length := by rw [Lib.size_eq, lS]
    have gT : vT.size = LT.length := by rw [Lib.size_eq, lT]
    have hp : 0 ≤ row ∧ row < 65536 ∧ 0 ≤ col ∧ col < 702 := by simp [placeB] at hb; omega
    have hz : 1 ≤ LS.length ∧ LS.length ≤ 100 := by
      rw [hLS, (refText_parts hb).1]
      have h1 := lettersL_len col
      have h2 := decDigits_len 5 (row + 1).toNat (by simp; omega)
      have h3 := List.length_pos_iff.2 (lettersL_facts hp.2.2.1 hp.2.2.2).2.2
      simp only [pinL, List.length_append, List.length_nil, Bool.false_eq_true, if_false]; omega
    have HTS := Lib.hid (show (vT.size : Int) = vS.size + (((pinL pc).length + (pinL pr).length : Nat) : Int) by have := dT.2.1; omega)
    have zS : vS.size ≤ 100 := by omega
    have zT : vT.size ≤ 102 := by have := pinL_len pc; have := pinL_len pr; have := HTS.out; omega
    have zT0 : 0 < vT.size := by have := HTS.out; omega
    have HS := Lib.hid hS; have HT := Lib.hid hT; have SS := Lib.hid sS; have ST := Lib.hid sT; have DT := Lib.hid dT
    have LSq := Lib.hid lS; have LTq := Lib.hid lT; have HLS := Lib.hid hLS; have HVS := Lib.hid hvS; have HB := Lib.hid hb
    clear hS hT sS sT dT lS lT gS gT hz hLS hLT hvS hvT es et hb hb2 hp
    go_wp2_with fail
    refine (spRead_any vS w4 (HL.out.kept B4.out) (by omega)).mono ?_
    rintro e w5 ⟨he, b5⟩
    rw [LSq.out, SS.out] at he
    subst he
    have z5 := b5.size
    have a5 := keepA (.cells #[.int .i64 row, .int .i64 col] 39) (by first | omega | (simp; done) | (simp; omega)) (keepC b5 (by first | omega | (simp; done) | (simp; omega)) a4)
    have c5 := keepA (.cells #[.int .i64 row, .int .i64 col] 39) (by first | omega | (simp; done) | (simp; omega)) (keepC b5 (by first | omega | (simp; done) | (simp; omega)) c4)
    have d5 := newA (A := #[.int .i64 row, .int .i64 col]) (T := 39) w5
    have B5 := Lib.hid (ext_alloc (B4.out.trans (b5.mono (by first | omega | (simp; done) | (simp; omega)))) (.cells #[.int .i64 row, .int .i64 col] 39))
    clear b5 a4 c4
    go_wp2_with fail
    refine (readRef_any vT _ (HL.out.kept B5.out) (by omega)).mono ?_
    rintro e w6 ⟨he, b6⟩
    rw [LTq.out, HT.out] at he
    simp only [RefVal] at he
    subst he
    have z6 : w5.heap.size < w6.heap.size := (kept_block b6).1
    have a6 := keepA (.cells #[.int .i64 row, .int .i64 col, .bool pr, .bool pc] 28) (by first | omega | (simp; done) | (simp; omega)) (keepC b6 (by first | omega | (simp; done) | (simp; omega)) a5)
    have c6 := keepA (.cells #[.int .i64 row, .int .i64 col, .bool pr, .bool pc] 28) (by first | omega | (simp; done) | (simp; omega)) (keepC b6 (by first | omega | (simp; done) | (simp; omega)) c5)
    have d6 := keepA (.cells #[.int .i64 row, .int .i64 col, .bool pr, .bool pc] 28) (by first | omega | (simp; done) | (simp; omega)) (keepC b6 (by first | omega | (simp; done) | (simp; omega)) d5)
    have q6 := newA (A := #[.int .i64 row, .int .i64 col, .bool pr, .bool pc]) (T := 28) w6
    have B6 := Lib.hid (ext_alloc (B5.out.trans (b6.mono (by first | omega | (simp; done) | (simp; omega)))) (.cells #[.int .i64 row, .int .i64 col, .bool pr, .bool pc] 28))
    have hlen : ((LT.length : Nat) : Int) = vT.size := by rw [Lib.size_eq, LTq.out]
    rw [hlen]
    clear b6 a5 c5 d5 hlen
    go_upto_region 13 with (fail)
    have hidx : (((vT[0]'zT0).toNat : Int) == 36) = pc := by
      have h1 : vT.data.toList[0]? = some (vT[0]'zT0) := by rw [List.getElem?_eq_getElem (by simpa using zT0)]; rfl
      rw [LTq.out, ← List.head?_eq_getElem?] at h1
      have h2 := DT.out.2.2
      rw [h1] at h2
      cases hpc : pc
      · rw [hpc] at h2
        rw [beq_eq_false_iff_ne]
        intro e
        have : vT[0]'zT0 = 36 := UInt8.toNat_inj.1 (by show _ = 36; omega)
        rw [this] at h2
        simp at h2
      · rw [hpc] at h2
        have : vT[0]'zT0 = 36 := by have := h2.2 rfl; exact Option.some.inj this
        rw [this]; rfl
    have hcnt : cnt36 vT.data.toList = (pinL pc).length + (pinL pr).length := by rw [LTq.out]; exact DT.out.1
    have HIX := Lib.hid hidx
    have HCN := Lib.hid hcnt
    clear hidx hcnt
    have B6a := Lib.hid (ext_alloc B6.out (.cells #[.int .i64 row, .int .i64 col, .bool false, .bool false] 28))
    have z6a : w6.heap.size < (w6.alloc (.cells #[.int .i64 row, .int .i64 col, .bool pr, .bool pc] 28)).heap.size := by simp
    have a7 := keepA (.cells #[.int .i64 row, .int .i64 col, .bool false, .bool false] 28) (by first | omega | (simp; done) | (simp; omega)) a6
    have CR := Lib.hid (refText_any ⟨row, col, false, false⟩ _ (HL.out.kept B6a.out))
    have es : refTextE ⟨row, col, false, false⟩ = 0 := by rw [refTextE, HB.out]; rfl
    have ES := Lib.hid es
    clear es
    cases pr <;> cases pc
    · go_wp2_with fail
      refine CR.out.mono ?_
      rintro e w7 ⟨he, b7⟩
      rw [ES.out, ← HLS.out, ← HVS.out] at he
      subst he
      have z7 : w.heap.size < w7.heap.size := Nat.lt_of_lt_of_le (show w.heap.size < ((w6.alloc (.cells #[.int .i64 row, .int .i64 col, .bool false, .bool false] 28)).alloc (.cells #[.int .i64 row, .int .i64 col, .bool false, .bool false] 28)).heap.size by simp; omega) b7.size
      have a8 := keepC b7 (by first | omega | (simp; done) | (simp; omega)) a7
      have B7 := Lib.hid (B6a.out.trans (b7.mono B6a.out.size))
      clear b7 a7
      go_wp2_with fail
      refine (spRead_any vT w7 (HL.out.kept B7.out) (by omega)).mono ?_
      rintro e w8 ⟨he, b8⟩
      rw [LTq.out, ST.out] at he
      simp only [Bool.or_self, Bool.false_eq_true, if_false] at he
      subst he
      have z9 : w.heap.size < w8.heap.size := Nat.lt_of_lt_of_le z7 b8.size
      have a9 := keepC b8 z7 a8
      have a10 := fun (O : Obj) => keepA (W := w8) O z9 a9
      have hss : (vS.toList == vS.toList) = true := beq_self_eq_true _
      have B8 := Lib.hid (B7.out.trans (b8.mono B7.out.size))
      clear b8 a8 a6 c6 d6 q6 CR
      have D : ∀ W, Calls Tryd.prog 25 #[.string vT] W fun e w' => e = .returned (.int .i64 ((cnt36 vT.data.toList : Nat) : Int)) ∧ w' = W := fun W => (dollars_any vT W (by omega)).mono fun e w' h => ⟨h.1, h.2.symm⟩
      rw [HCN.out] at D
      have CD := Lib.hid D
      clear D
      have hix := HIX.out
      have hts : (vT.size : Int) = vS.size + 0 := HTS.out.trans rfl
      have hcm : ((vT.size : Int) == (vS.size : Int)) = true := by rw [beq_iff_eq]; omega
      have hcm2 : ((vT.size : Int) == (vS.size : Int) + 0) = true := by rw [beq_iff_eq]; omega
      have hw0 : IntKind.i64.wrap (vS.size : Int) = (vS.size : Int) := IntWalk.i64_in _ (by omega)
      have hw1 : IntKind.i64.wrap ((vS.size : Int) + 0) = (vS.size : Int) + 0 := IntWalk.i64_in _ (by omega)
      clear hts
      go_wp2_with fail
      go_quiet ((go_at_call 25; exact Calls.quiet_of_same (CD.out _)))
      have BX := Lib.hid (ext_alloc B8.out (.cells #[.int .i64 row, .int .i64 col] 39))
      go_wp2
      go_ret
      exact ⟨rfl, drewN_b BX.out _⟩
    · go_wp2_with fail
      refine CR.out.mono ?_
      rintro e w7 ⟨he, b7⟩
      rw [ES.out, ← HLS.out, ← HVS.out] at he
      subst he
      have z7 : w.heap.size < w7.heap.size := Nat.lt_of_lt_of_le (show w.heap.size < ((w6.alloc (.cells #[.int .i64 row, .int .i64 col, .bool false, .bool true] 28)).alloc (.cells #[.int .i64 row, .int .i64 col, .bool false, .bool false] 28)).heap.size by simp; omega) b7.size
      have a8 := keepC b7 (by first | omega | (simp; done) | (simp; omega)) a7
      have B7 := Lib.hid (B6a.out.trans (b7.mono B6a.out.size))
      clear b7 a7
      go_wp2_with fail
      refine (spRead_any vT w7 (HL.out.kept B7.out) (by omega)).mono ?_
      rintro e w8 ⟨he, b8⟩
      rw [LTq.out, ST.out] at he
      simp only [Bool.true_or, if_true] at he
      subst he
      have z9 : w.heap.size < w8.heap.size := Nat.lt_of_lt_of_le z7 b8.size
      have a9 := keepC b8 z7 a8
      have a10 := fun (O : Obj) => keepA (W := w8) O z9 a9
      have hss : (vS.toList == vS.toList) = true := beq_self_eq_true _
      have B8 := Lib.hid (B7.out.trans (b8.mono B7.out.size))
      clear b8 a8 a6 c6 d6 q6 CR
      have D : ∀ W, Calls Tryd.prog 25 #[.string vT] W fun e w' => e = .returned (.int .i64 ((cnt36 vT.data.toList : Nat) : Int)) ∧ w' = W := fun W => (dollars_any vT W (by omega)).mono fun e w' h => ⟨h.1, h.2.symm⟩
      rw [HCN.out] at D
      have CD := Lib.hid D
      clear D
      have hix := HIX.out
      have hts : (vT.size : Int) = vS.size + 1 := HTS.out.trans rfl
      have hcm : ((vT.size : Int) == (vS.size : Int) + 1) = true := by rw [beq_iff_eq]; exact hts
      have hw1 : IntKind.i64.wrap ((vS.size : Int) + 1) = (vS.size : Int) + 1 := IntWalk.i64_in _ (by omega)
      clear hts
      go_wp2_with fail
      go_quiet ((go_at_call 25; exact Calls.quiet_of_same (CD.out _)))
      have BX := Lib.hid (ext_alloc B8.out (.cells #[.int .i64 0, .int .i64 0] 39))
      go_wp2
      go_ret
      exact ⟨rfl, drewN_b BX.out _⟩
    · go_wp2_with fail
      refine CR.out.mono ?_
      rintro e w7 ⟨he, b7⟩
      rw [ES.out, ← HLS.out, ← HVS.out] at he
      subst he
      have z7 : w.heap.size < w7.heap.size := Nat.lt_of_lt_of_le (show w.heap.size < ((w6.alloc (.cells #[.int .i64 row, .int .i64 col, .bool true, .bool false] 28)).alloc (.cells #[.int .i64 row, .int .i64 col, .bool false, .bool false] 28)).heap.size by simp; omega) b7.size
      have a8 := keepC b7 (by first | omega | (simp; done) | (simp; omega)) a7
      have B7 := Lib.hid (B6a.out.trans (b7.mono B6a.out.size))
      clear b7 a7
      go_wp2_with fail
      refine (spRead_any vT w7 (HL.out.kept B7.out) (by omega)).mono ?_
      rintro e w8 ⟨he, b8⟩
      rw [LTq.out, ST.out] at he
      simp only [Bool.or_true, if_true] at he
      subst he
      have z9 : w.heap.size < w8.heap.size := Nat.lt_of_lt_of_le z7 b8.size
      have a9 := keepC b8 z7 a8
      have a10 := fun (O : Obj) => keepA (W := w8) O z9 a9
      have hss : (vS.toList == vS.toList) = true := beq_self_eq_true _
      have B8 := Lib.hid (B7.out.trans (b8.mono B7.out.size))
      clear b8 a8 a6 c6 d6 q6 CR
      have D : ∀ W, Calls Tryd.prog 25 #[.string vT] W fun e w' => e = .returned (.int .i64 ((cnt36 vT.data.toList : Nat) : Int)) ∧ w' = W := fun W => (dollars_any vT W (by omega)).mono fun e w' h => ⟨h.1, h.2.symm⟩
      rw [HCN.out] at D
      have CD := Lib.hid D
      clear D
      have hix := HIX.out
      have hts : (vT.size : Int) = vS.size + 1 := HTS.out.trans rfl
      have hcm : ((vT.size : Int) == (vS.size : Int) + 1) = true := by rw [beq_iff_eq]; exact hts
      have hw1 : IntKind.i64.wrap ((vS.size : Int) + 1) = (vS.size : Int) + 1 := IntWalk.i64_in _ (by omega)
      clear hts
      go_wp2_with fail
      go_quiet ((go_at_call 25; exact Calls.quiet_of_same (CD.out _)))
      have BX := Lib.hid (ext_alloc B8.out (.cells #[.int .i64 0, .int .i64 0] 39))
      go_wp2
      go_ret
      exact ⟨rfl, drewN_b BX.out _⟩
    · go_wp2_with fail
      refine CR.out.mono ?_
      rintro e w7 ⟨he, b7⟩
      rw [ES.out, ← HLS.out, ← HVS.out] at he
      subst he
      have z7 : w.heap.size < w7.heap.size := Nat.lt_of_lt_of_le (show w.heap.size < ((w6.alloc (.cells #[.int .i64 row, .int .i64 col, .bool true, .bool true] 28)).alloc (.cells #[.int .i64 row, .int .i64 col, .bool false, .bool false] 28)).heap.size by simp; omega) b7.size
      have a8 := keepC b7 (by first | omega | (simp; done) | (simp; omega)) a7
      have B7 := Lib.hid (B6a.out.trans (b7.mono B6a.out.size))
      clear b7 a7
      go_wp2_with fail
      refine (spRead_any vT w7 (HL.out.kept B7.out) (by omega)).mono ?_
      rintro e w8 ⟨he, b8⟩
      rw [LTq.out, ST.out] at he
      simp only [Bool.or_self, if_true] at he
      subst he
      have z9 : w.heap.size < w8.heap.size := Nat.lt_of_lt_of_le z7 b8.size
      have a9 := keepC b8 z7 a8
      have a10 := fun (O : Obj) => keepA (W := w8) O z9 a9
      have hss : (vS.toList == vS.toList) = true := beq_self_eq_true _
      have B8 := Lib.hid (B7.out.trans (b8.mono B7.out.size))
      clear b8 a8 a6 c6 d6 q6 CR
      have D : ∀ W, Calls Tryd.prog 25 #[.string vT] W fun e w' => e = .returned (.int .i64 ((cnt36 vT.data.toList : Nat) : Int)) ∧ w' = W := fun W => (dollars_any vT W (by omega)).mono fun e w' h => ⟨h.1, h.2.symm⟩
      rw [HCN.out] at D
      have CD := Lib.hid D
      clear D
      have hix := HIX.out
      have hts : (vT.size : Int) = vS.size + 2 := HTS.out.trans rfl
      have hcm : ((vT.size : Int) == (vS.size : Int) + 2) = true := by rw [beq_iff_eq]; exact hts
      have hw1 : IntKind.i64.wrap ((vS.size : Int) + 2) = (vS.size : Int) + 2 := IntWalk.i64_in _ (by omega)
      clear hts
      go_wp2_with fail
      go_quiet ((go_at_call 25; exact Calls.quiet_of_same (CD.out _)))
      have BX := Lib.hid (ext_alloc B8.out (.cells #[.int .i64 0, .int .i64 0] 39))
      go_wp2
      go_ret
      exact ⟨rfl, drewN_b BX.out _⟩
end Go.Proofs.YtnhgeojcelegbaaDoor
