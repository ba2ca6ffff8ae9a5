/- LexPlaces: a text that is words. -/
import Derived.Test.YtikahfnlflhbfaaDoorLxPk
import Derived.IntWalk
namespace Go.Proofs.YtikahfnlflhbfaaDoor
open Go.RowKit Go.Lib

set_option maxRecDepth 1000000 in
set_option maxHeartbeats 16000000 in
theorem lexPlaces_ok (s : ByteArray) (w : World) (L : LaidX w) (hmax : s.size ≤ 9223372036854775807) (ws : List WordL) (HA : Hid (cutL s.data.toList = ⟨ws, 0, 0⟩)) : Calls Tryd.prog 4 #[.string s] w (TruePost w) := by
  have HL := Lib.hid L
  have hlen : s.data.toList.length = s.size := (Lib.size_eq s).symm
  have HLN := Lib.hid hlen
  clear L hlen
  go_enter Tryd.func4, Tryd.ntmps4
  go_wp2_with (go_at_call 5; refine (begun8_any _ HL.out).mono ?_; rintro e w1 ⟨rfl, b1⟩)
  have HL1 := Lib.hid (HL.out.kept b1)
  have B1 := Lib.hid b1
  have C2 := Lib.hid (cut_const HA.out hmax w1 HL1.out)
  clear b1
  refine (C2.out).mono ?_
  rintro e w2 ⟨v2, rfl, b2, r2⟩
  obtain ⟨a2, kc2, rfl, A2, -⟩ := r2.at_
  have B2 := Lib.hid (B1.out.trans (b2.mono B1.out.size))
  have HA2 := Lib.hid A2
  have HL2 := Lib.hid (HL1.out.kept b2)
  clear b2 r2 A2 C2
  have hch := (cutL_ok HA.out).2
  have HCH := Lib.hid hch
  have hws := HA2.out.1
  clear hch
  go_wp2_with fail
  go_loopw [9, 10] (fun ev iv wr => PRel s.data.toList ws w2 ev iv wr) (fun _ iv _ => ws.length - (intOf iv).toNat)
  case atStart => exact ⟨0, 0, ws, rfl, rfl, Nat.zero_le _, Nat.zero_le _, Lib.hid rfl, HCH, Lib.hid (Below.refl _ _)⟩
  case round =>
    obtain ⟨k, e, rest, rfl, rfl, hk, hel, HR, HC, HB2⟩ := hrel
    rw [HLN.out] at hel
    by_cases hlt : k < ws.length
    · obtain ⟨x, rest', hrest⟩ : ∃ x r, rest = x :: r := by
        cases rest with
        | nil =>
          have := congrArg List.length HR.out
          rw [List.length_drop] at this
          simp at this; omega
        | cons x r => exact ⟨x, r, rfl⟩
      subst hrest
      obtain ⟨a, n, h1, h2, h3, h4, h5, h6, h7⟩ := HC.out
      obtain ⟨hx, hdr⟩ := drop_step HR.out
      obtain ⟨b, off, rfl, -, hbz, c0, c1, c2⟩ := (HA2.out.kept HB2.out (Nat.le_refl _)).2 k x hx
      obtain ⟨kd, tx, at_⟩ := x
      simp only at h1 h4 c0 c1 c2
      subst h1
      rw [HLN.out] at h5
      have hfc := word_facts h4
      have hk1 := hfc.1
      have hk2 := hfc.2.1
      have HFC := Lib.hid hfc
      have HR2 : Hid (ws.drop (k + 1) = rest') := Lib.hid hdr
      have HC2 : Hid (Chain s.data.toList (a + n) rest') := Lib.hid h7
      have H3 : Hid (∀ (j : Nat) (hj : j < s.size), e ≤ j → j < a → blankB s[j] = true) := Lib.hid fun j hj g1 g2 => h3 j _ g1 g2 (get8 hj)
      obtain ⟨T, hT⟩ : ∃ T, T = strB tx := ⟨_, rfl⟩
      rw [← hT] at c1
      have HT := Lib.hid hT
      have hal : a < s.size := by omega
      have HBA : Hid (Below w2.heap.size w2 (wr.alloc (.cells #[.int .i64 kd, .string T, .int .i64 a] 30))) := Lib.hid (HB2.out.alloc HB2.out.size _)
      have z1 : decide (a < e) = false := by simp; omega
      have z2 : decide ((a : Int) < (e : Int)) = false := by simp; omega
      have z3 : decide (s.size ≤ a) = false := by simp; omega
      have z4 : decide ((s.size : Int) ≤ (a : Int)) = false := by simp; omega
      have z5 : decide (kd < 1) = false := by simp; omega
      have z6 : decide (7 < kd) = false := by simp; omega
      clear hfc hdr h7 h3 hT hx h4
      go_wp2_with fail
      clear z1 z2 z3 z4 z5 z6
      go_loop [12] (fun kv => ∃ j : Nat, kv = .int .i64 j ∧ e ≤ j ∧ j ≤ a) (fun kv => a - (intOf kv).toNat)
      case atStart => exact ⟨e, rfl, Nat.le_refl _, h2⟩
      case round =>
        obtain ⟨j, rfl, hj1, hj2⟩ := hrel
        by_cases hja : j < a
        · have hjs : j < s.size := by omega
          have HB := Lib.hid (H3.out j hjs hj1 hja)
          go_wp2_with (go_at_call 9; refine (lawBlank8_any _ _ HB _).mono ?_; rintro e w' ⟨rfl, rfl⟩)
          go_round
          case rel => exact ⟨j + 1, by go_num, by omega, by omega⟩
          case measure => simp [intOf]; omega
        · obtain rfl : a = j := by omega
          clear hja
          go_upto_region 25 with (fail)
          have hkk : kd = 1 ∨ kd = 2 ∨ kd = 3 ∨ kd = 4 ∨ kd = 5 ∨ kd = 6 ∨ kd = 7 := by omega
          clear hk1 hk2
          rcases hkk with rfl | rfl | rfl | rfl | rfl | rfl | rfl
          · have HL5 : Hid (∀ hj : a + n - 1 < s.size, blankB s[a + n - 1] = false) := Lib.hid fun hj => by
              obtain ⟨c, hc, hb⟩ := HFC.out.2.2.2.2.2.1 rfl
              rw [show a + (n - 1) = a + n - 1 by omega, get8 hj] at hc
              rw [Option.some.inj hc]; exact hb
            have HW : Hid (∀ y, ws[k + 1]? = some y → (wr.alloc (.cells #[.int .i64 1, .string T, .int .i64 a] 30)).cell? ⟨b, off + (k + 1) * 3 + 2, none⟩ = some (.int .i64 y.at_)) := Lib.hid fun y hyk => by
              obtain ⟨b', off', e', -, -, -, -, d2⟩ := (HA2.out.kept HB2.out (Nat.le_refl _)).2 (k + 1) y hyk
              simp only [Option.some.injEq, Addr.mk.injEq, and_true] at e'
              obtain ⟨rfl, rfl⟩ := e'
              exact (World.cell?_alloc_past _ _ _ hbz).trans d2
            have BX : Hid (∀ o, (wr.alloc (.cells #[.int .i64 1, .string T, .int .i64 a] 30)).cell? ⟨wr.heap.size, o, none⟩ = (#[.int .i64 1, .string T, .int .i64 (a : Int)] : Array Value)[o]?) := Lib.hid (blk_at8 (heap_alloc_new wr _))
            go_upto_if 225 with (fail)
            refine lp_c1 (k := k) (T := T) (b := b) (off := off) (a := a) (n := n) HLN hmax hws hlt HR2 HC2 h5 h6 HL5 BX HW (Lib.hid ?_)
            intros
            go_wp2
            go_roundw
            case rel => exact ⟨k + 1, a + n, rest', by go_num, rfl, by omega, by rw [HLN.out]; omega, HR2, HC2, HBA⟩
            case measure => simp [intOf]; omega
          · have HL5 : Hid (∀ hj : a + n - 1 < s.size, s[a + n - 1] = 34) := Lib.hid fun hj => by
              have hc := (HFC.out.2.2.2.2.2.2 rfl).1
              rw [show a + (n - 1) = a + n - 1 by omega, get8 hj] at hc
              exact Option.some.inj hc
            have HW : Hid (∀ y, ws[k + 1]? = some y → (wr.alloc (.cells #[.int .i64 2, .string T, .int .i64 a] 30)).cell? ⟨b, off + (k + 1) * 3 + 2, none⟩ = some (.int .i64 y.at_)) := Lib.hid fun y hyk => by
              obtain ⟨b', off', e', -, -, -, -, d2⟩ := (HA2.out.kept HB2.out (Nat.le_refl _)).2 (k + 1) y hyk
              simp only [Option.some.injEq, Addr.mk.injEq, and_true] at e'
              obtain ⟨rfl, rfl⟩ := e'
              exact (World.cell?_alloc_past _ _ _ hbz).trans d2
            have BX : Hid (∀ o, (wr.alloc (.cells #[.int .i64 2, .string T, .int .i64 a] 30)).cell? ⟨wr.heap.size, o, none⟩ = (#[.int .i64 2, .string T, .int .i64 (a : Int)] : Array Value)[o]?) := Lib.hid (blk_at8 (heap_alloc_new wr _))
            go_upto_if 225 with (fail)
            refine lp_c2 (k := k) (T := T) (b := b) (off := off) (a := a) (n := n) HLN hmax hws hlt HR2 HC2 h5 h6 HL5 BX HW (Lib.hid ?_)
            intros
            go_wp2
            go_roundw
            case rel => exact ⟨k + 1, a + n, rest', by go_num, rfl, by omega, by rw [HLN.out]; omega, HR2, HC2, HBA⟩
            case measure => simp [intOf]; omega
          · obtain ⟨g1, g2⟩ := HFC.out.2.2.1 (by decide)
            have HTT : Hid ((s.extract a (a + n)).toList = T.toList) := Lib.hid (by rw [Lib.toList_data, ext_list, show a + n - a = n by omega, ← g1, HT.out, strB_toList])
            have hTn : T.size = n := by rw [HT.out, strB_size]; exact g2
            subst hTn
            clear g1 g2
            have q1 : IntKind.i64.wrap ((a : Int) + (T.size : Int)) = (a : Int) + (T.size : Int) := IntWalk.i64_in _ (by omega)
            have q2 : 0 ≤ (a : Int) + (T.size : Int) := by omega
            have q3 : ((a : Int) + (T.size : Int)).toNat = a + T.size := by omega
            have q4 : ¬ ((s.size : Int) < (a : Int) + (T.size : Int)) := by omega
            have q5 : ((s.extract a (a + T.size)).toList == T.toList) = true := by rw [HTT.out]; simp
            go_upto_region 26 with (fail)
            go_quiet (fail)
            have HBD := Lib.hid (ext_draws8 HBA.out nq)
            clear q4 q5
            go_wp2
            go_roundw
            case rel => exact ⟨k + 1, a + T.size, rest', by go_num, by go_num, by omega, by rw [HLN.out]; omega, HR2, HC2, HBD⟩
            case measure => simp [intOf]; omega
          · have g2 := HFC.out.2.2.2.1 (by decide)
            have hTn : T.size = n := by rw [HT.out, strB_size]; exact g2
            have g40 := HFC.out.2.2.2.2.1
            subst hTn
            clear g2
            have q1 : IntKind.i64.wrap ((a : Int) + (T.size : Int)) = (a : Int) + (T.size : Int) := IntWalk.i64_in _ (by omega)
            have q2 : 0 ≤ (a : Int) + (T.size : Int) := by omega
            have q3 : ((a : Int) + (T.size : Int)).toNat = a + T.size := by omega
            have h40 := g40 rfl
            obtain ⟨y, r, hy, hya⟩ := chain_next HC2.out h40 (by decide)
            have hHR2 := HR2.out
            rw [hy] at hHR2
            obtain ⟨hyk, -⟩ := drop_step hHR2
            have hk1 : k + 1 < ws.length := (List.getElem?_eq_some_iff.1 hyk).1
            have hsz40 : a + T.size < s.size := by rw [← HLN.out]; exact (List.getElem?_eq_some_iff.1 h40).1
            have hb40 : s[a + T.size] = 40 := by rw [get8 hsz40] at h40; exact Option.some.inj h40
            have w1 : Hid (((s[a + T.size].toNat : Int) != 40) = false) := Lib.hid (by rw [hb40]; rfl)
            obtain ⟨b', off', e', -, -, -, -, d2⟩ := (HA2.out.kept HB2.out (Nat.le_refl _)).2 (k + 1) y hyk
            simp only [Option.some.injEq, Addr.mk.injEq, and_true] at e'
            obtain ⟨rfl, rfl⟩ := e'
            rw [hya] at d2
            have D2 : Hid ((wr.alloc (.cells #[.int .i64 4, .string T, .int .i64 a] 30)).cell? ⟨b, off + (k + 1) * 3 + 2, none⟩ = some (.int .i64 ((a + T.size : Nat) : Int))) := Lib.hid ((World.cell?_alloc_past _ _ _ hbz).trans d2)
            have BX : Hid (∀ o, (wr.alloc (.cells #[.int .i64 4, .string T, .int .i64 a] 30)).cell? ⟨wr.heap.size, o, none⟩ = (#[.int .i64 4, .string T, .int .i64 (a : Int)] : Array Value)[o]?) := Lib.hid (blk_at8 (heap_alloc_new wr _))
            clear hHR2 hyk h40 hb40 g40 d2
            go_upto_region 31 with (fail)
            refine lp_r31 (k := k) (T := T) (b := b) (off := off) (a := a) hmax hws hk1 hsz40 w1.out BX D2.out (Lib.hid ?_)
            intros
            go_wp2
            go_roundw
            case rel => exact ⟨k + 1, a + T.size, rest', by go_num, by go_num, by omega, by rw [HLN.out]; omega, HR2, HC2, HBA⟩
            case measure => simp [intOf]; omega
          · have g2 := HFC.out.2.2.2.1 (by decide)
            have hTn : T.size = n := by rw [HT.out, strB_size]; exact g2
            have g40 := HFC.out.2.2.2.2.1
            subst hTn
            clear g2
            have q1 : IntKind.i64.wrap ((a : Int) + (T.size : Int)) = (a : Int) + (T.size : Int) := IntWalk.i64_in _ (by omega)
            have q2 : 0 ≤ (a : Int) + (T.size : Int) := by omega
            have q3 : ((a : Int) + (T.size : Int)).toNat = a + T.size := by omega
            clear g40
            go_wp2
            go_roundw
            case rel => exact ⟨k + 1, a + T.size, rest', by go_num, by go_num, by omega, by rw [HLN.out]; omega, HR2, HC2, HBA⟩
            case measure => simp [intOf]; omega
          · obtain ⟨g1, g2⟩ := HFC.out.2.2.1 (by decide)
            have HTT : Hid ((s.extract a (a + n)).toList = T.toList) := Lib.hid (by rw [Lib.toList_data, ext_list, show a + n - a = n by omega, ← g1, HT.out, strB_toList])
            have hTn : T.size = n := by rw [HT.out, strB_size]; exact g2
            subst hTn
            clear g1 g2
            have q1 : IntKind.i64.wrap ((a : Int) + (T.size : Int)) = (a : Int) + (T.size : Int) := IntWalk.i64_in _ (by omega)
            have q2 : 0 ≤ (a : Int) + (T.size : Int) := by omega
            have q3 : ((a : Int) + (T.size : Int)).toNat = a + T.size := by omega
            have q4 : ¬ ((s.size : Int) < (a : Int) + (T.size : Int)) := by omega
            have q5 : ((s.extract a (a + T.size)).toList == T.toList) = true := by rw [HTT.out]; simp
            go_upto_region 26 with (fail)
            go_quiet (fail)
            have HBD := Lib.hid (ext_draws8 HBA.out nq)
            clear q4 q5
            go_wp2
            go_roundw
            case rel => exact ⟨k + 1, a + T.size, rest', by go_num, by go_num, by omega, by rw [HLN.out]; omega, HR2, HC2, HBD⟩
            case measure => simp [intOf]; omega
          · obtain ⟨g1, g2⟩ := HFC.out.2.2.1 (by decide)
            have HTT : Hid ((s.extract a (a + n)).toList = T.toList) := Lib.hid (by rw [Lib.toList_data, ext_list, show a + n - a = n by omega, ← g1, HT.out, strB_toList])
            have hTn : T.size = n := by rw [HT.out, strB_size]; exact g2
            subst hTn
            clear g1 g2
            have q1 : IntKind.i64.wrap ((a : Int) + (T.size : Int)) = (a : Int) + (T.size : Int) := IntWalk.i64_in _ (by omega)
            have q2 : 0 ≤ (a : Int) + (T.size : Int) := by omega
            have q3 : ((a : Int) + (T.size : Int)).toNat = a + T.size := by omega
            have q4 : ¬ ((s.size : Int) < (a : Int) + (T.size : Int)) := by omega
            have q5 : ((s.extract a (a + T.size)).toList == T.toList) = true := by rw [HTT.out]; simp
            go_upto_region 26 with (fail)
            go_quiet (fail)
            have HBD := Lib.hid (ext_draws8 HBA.out nq)
            clear q4 q5
            go_wp2
            go_roundw
            case rel => exact ⟨k + 1, a + T.size, rest', by go_num, by go_num, by omega, by rw [HLN.out]; omega, HR2, HC2, HBD⟩
            case measure => simp [intOf]; omega
    · go_wp2
      go_ret
      exact ⟨rfl, B2.out.trans (HB2.out.mono B2.out.size)⟩
theorem lexPlaces_any (s : ByteArray) (w : World) (L : LaidX w) (hmax : s.size ≤ 9223372036854775807) : Calls Tryd.prog 4 #[.string s] w (TruePost w) := by
  obtain ⟨⟨ws, nx, er⟩, hA⟩ : ∃ A, cutL s.data.toList = A := ⟨_, rfl⟩
  by_cases he : er = 0
  · subst he
    obtain ⟨rfl, -⟩ := cutL_ok hA
    exact lexPlaces_ok s w L hmax ws (Lib.hid hA)
  · exact lexPlaces_bad s w L hmax ws nx er he (Lib.hid hA)
end Go.Proofs.YtikahfnlflhbfaaDoor
