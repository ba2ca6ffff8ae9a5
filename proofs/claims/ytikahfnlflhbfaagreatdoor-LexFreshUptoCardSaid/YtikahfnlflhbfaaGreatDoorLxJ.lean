/- A formula's words: the errors' names. -/
import Derived.Test.YtikahfnlflhbfaaGreatDoorLxI
namespace Go.Proofs.YtikahfnlflhbfaaGreatDoor
open Go.RowKit Go.Lib

theorem pre_take (r t : List UInt8) : hasPrefix r t = decide (r.take t.length = t) := by
  unfold hasPrefix
  rw [Bool.eq_iff_iff, List.isPrefixOf_iff_prefix, decide_eq_true_eq, List.prefix_iff_eq_take]
  exact eq_comm
theorem ext_tail (s : ByteArray) (p : Nat) : (s.extract p s.size).data.toList = s.data.toList.drop p := by
  rw [Lib.extract_data, List.take_of_length_le (by rw [List.length_drop, ← Lib.size_eq]; omega)]
theorem hash_at {r u : List UInt8} (hu : u ∈ errTab) (h : hasPrefix r u = true) : oneL r = ⟨6, u, u.length, 0⟩ := by
  rw [pre_take, decide_eq_true_eq] at h
  have e : r = u ++ r.drop u.length := by conv => lhs; rw [← List.take_append_drop u.length r, h]
  have hW : WordOK 6 u u (r.drop u.length) := Or.inr (Or.inr (Or.inr (Or.inr (Or.inr (Or.inl ⟨rfl, hu, rfl⟩)))))
  have := one_mk hW
  rw [← e] at this
  exact this
theorem hash_none {r : List UInt8} (h : ∀ t ∈ errTab, hasPrefix (35 :: r) t = false) : oneL (35 :: r) = noneL 21 := by
  rw [one_hash]
  refine listed_none fun t ht e => ?_
  have := h t ht
  rw [pre_take, decide_eq_false_iff_not] at this
  exact this e
def noErr (r : List UInt8) (k : Nat) : Prop := ∀ t ∈ errTab.take k, hasPrefix r t = false
theorem noErr_succ {r : List UInt8} {k : Nat} {t : List UInt8} (h : noErr r k) (ht : errTab[k]? = some t) (hb : hasPrefix r t = false) : noErr r (k + 1) := by
  intro x hx
  rw [List.take_add_one, ht] at hx
  rcases List.mem_append.1 hx with q | q
  · exact h x q
  · simp at q; subst q; exact hb
set_option maxRecDepth 100000 in
set_option maxHeartbeats 4000000 in
theorem lxWord_hash (C : Nat) (s : ByteArray) (ws : List WordL) (p : Nat) (w : World) (hS : CutS C s ws w) (hp : p < s.size) (hs : s.size ≤ 65535) (hn : ws.length ≤ 100000) (h35 : s[p] = 35) :
    Calls Tryz.prog 14 #[.pointer (some ⟨C, 0, none⟩), .int .i64 p, .int .i32 35] w (WordPost C s ws w p (oneL (s.data.toList.drop p))) := by
  have HS := Lib.hid hS
  have hdr : s.data.toList.drop p = 35 :: s.data.toList.drop (p + 1) := by rw [drop_byte hp, h35]
  have HDR := Lib.hid hdr
  have c0 := hS.cells
  have hC : C < w.heap.size := by have := hS.lt; omega
  have CH : Hid (∀ (t : ByteArray) (b : Bool), Hid (hasPrefix (s.data.toList.drop p) t.data.toList = b) → ∀ W : World, Calls Tryz.prog 25 #[.string (s.extract p s.size), .string t] W fun e w' => e = .returned (.bool b) ∧ W = w') := Lib.hid fun t b hb W => (Tryz.strings_HasPrefix (s.extract p s.size) t W).mono fun _ _ ⟨h1, h2⟩ => ⟨by rw [h1, ext_tail, hb.out], h2.symm⟩
  have HLB : Hid (letterI 35 = false) := Lib.hid (by decide)
  have HDB : Hid (digitI 35 = false) := Lib.hid (by decide)
  clear hS h35 hdr
  go_enter Tryz.func14, Tryz.ntmps14
  go_wp2_with fail
  refine wp_scope_jumps 0 (fun a' w' => w' = w.alloc (.cells #[.string ⟨#[35, 78, 65, 77, 69, 63]⟩, .string ⟨#[35, 78, 85, 77, 33]⟩, .string ⟨#[35, 82, 69, 70, 33]⟩, .string ⟨#[35, 86, 65, 76, 85, 69, 33]⟩, .string ⟨#[35, 68, 73, 86, 47, 48, 33]⟩, .string ⟨#[35, 78, 47, 65]⟩] 9) ∧ oneL (s.data.toList.drop p) = noneL 21 ∧ a'.tmps.size = 118 ∧ a'.defers = []) (fun _ _ => 0) rfl ?first ?pass
  case first =>
    go_wp2_with (first | (go_at_call 22; refine (lxLetter_is _ _ HLB _).mono ?_; rintro e w' ⟨rfl, rfl⟩) | (go_at_call 21; refine (lxDigit_is _ _ HDB _).mono ?_; rintro e w' ⟨rfl, rfl⟩) | (go_at_call 25; refine (CH.out _ _ HB _).mono ?_; rintro e w' ⟨rfl, rfl⟩))
    go_loop [9, 49] (fun _ i => ∃ k : Nat, i = .int .i64 k ∧ k ≤ 6 ∧ Hid (noErr (s.data.toList.drop p) k)) (fun _ i => 6 - (intOf i).toNat)
    case atStart => exact ⟨0, rfl, by omega, Lib.hid (fun t ht => by simp at ht)⟩
    case round =>
      obtain ⟨k, rfl, hk, HN⟩ := hrel
      have hkk : k = 0 ∨ k = 1 ∨ k = 2 ∨ k = 3 ∨ k = 4 ∨ k = 5 ∨ k = 6 := by omega
      rcases hkk with rfl | rfl | rfl | rfl | rfl | rfl | rfl
      · obtain ⟨b, hb⟩ : ∃ b, hasPrefix (s.data.toList.drop p) [35, 78, 65, 77, 69, 63] = b := ⟨_, rfl⟩
        have HB : Hid (hasPrefix (s.data.toList.drop p) (⟨#[35, 78, 65, 77, 69, 63]⟩ : ByteArray).data.toList = b) := Lib.hid hb
        clear hb
        cases b
        · go_wp2_with (first | (go_at_call 22; refine (lxLetter_is _ _ HLB _).mono ?_; rintro e w' ⟨rfl, rfl⟩) | (go_at_call 21; refine (lxDigit_is _ _ HDB _).mono ?_; rintro e w' ⟨rfl, rfl⟩) | (go_at_call 25; refine (CH.out _ _ HB _).mono ?_; rintro e w' ⟨rfl, rfl⟩))
          go_round
          case rel => exact ⟨1, rfl, by omega, Lib.hid (noErr_succ HN.out (t := [35, 78, 65, 77, 69, 63]) rfl HB.out)⟩
          case measure => simp [intOf]
        · go_wp2_with (first | (go_at_call 22; refine (lxLetter_is _ _ HLB _).mono ?_; rintro e w' ⟨rfl, rfl⟩) | (go_at_call 21; refine (lxDigit_is _ _ HDB _).mono ?_; rintro e w' ⟨rfl, rfl⟩) | (go_at_call 25; refine (CH.out _ _ HB _).mono ?_; rintro e w' ⟨rfl, rfl⟩))
          refine (lxPut_any C s ws ⟨6, [35, 78, 65, 77, 69, 63], p⟩ _ _ (HS.out.kept (ext_alloc (Below.refl _ _) _)) hn).mono ?_
          rintro e w6 ⟨rfl, h1, h2⟩
          go_wp2
          rw [jump_ret]
          go_ret2
          have hg := hash_at (r := s.data.toList.drop p) (u := [35, 78, 65, 77, 69, 63]) (by decide) HB.out
          rw [hg]
          exact word_put rfl (by simp) (ext_alloc (Below.refl _ _) _) HS.out.lt h1 h2
      · obtain ⟨b, hb⟩ : ∃ b, hasPrefix (s.data.toList.drop p) [35, 78, 85, 77, 33] = b := ⟨_, rfl⟩
        have HB : Hid (hasPrefix (s.data.toList.drop p) (⟨#[35, 78, 85, 77, 33]⟩ : ByteArray).data.toList = b) := Lib.hid hb
        clear hb
        cases b
        · go_wp2_with (first | (go_at_call 22; refine (lxLetter_is _ _ HLB _).mono ?_; rintro e w' ⟨rfl, rfl⟩) | (go_at_call 21; refine (lxDigit_is _ _ HDB _).mono ?_; rintro e w' ⟨rfl, rfl⟩) | (go_at_call 25; refine (CH.out _ _ HB _).mono ?_; rintro e w' ⟨rfl, rfl⟩))
          go_round
          case rel => exact ⟨2, rfl, by omega, Lib.hid (noErr_succ HN.out (t := [35, 78, 85, 77, 33]) rfl HB.out)⟩
          case measure => simp [intOf]
        · go_wp2_with (first | (go_at_call 22; refine (lxLetter_is _ _ HLB _).mono ?_; rintro e w' ⟨rfl, rfl⟩) | (go_at_call 21; refine (lxDigit_is _ _ HDB _).mono ?_; rintro e w' ⟨rfl, rfl⟩) | (go_at_call 25; refine (CH.out _ _ HB _).mono ?_; rintro e w' ⟨rfl, rfl⟩))
          refine (lxPut_any C s ws ⟨6, [35, 78, 85, 77, 33], p⟩ _ _ (HS.out.kept (ext_alloc (Below.refl _ _) _)) hn).mono ?_
          rintro e w6 ⟨rfl, h1, h2⟩
          go_wp2
          rw [jump_ret]
          go_ret2
          have hg := hash_at (r := s.data.toList.drop p) (u := [35, 78, 85, 77, 33]) (by decide) HB.out
          rw [hg]
          exact word_put rfl (by simp) (ext_alloc (Below.refl _ _) _) HS.out.lt h1 h2
      · obtain ⟨b, hb⟩ : ∃ b, hasPrefix (s.data.toList.drop p) [35, 82, 69, 70, 33] = b := ⟨_, rfl⟩
        have HB : Hid (hasPrefix (s.data.toList.drop p) (⟨#[35, 82, 69, 70, 33]⟩ : ByteArray).data.toList = b) := Lib.hid hb
        clear hb
        cases b
        · go_wp2_with (first | (go_at_call 22; refine (lxLetter_is _ _ HLB _).mono ?_; rintro e w' ⟨rfl, rfl⟩) | (go_at_call 21; refine (lxDigit_is _ _ HDB _).mono ?_; rintro e w' ⟨rfl, rfl⟩) | (go_at_call 25; refine (CH.out _ _ HB _).mono ?_; rintro e w' ⟨rfl, rfl⟩))
          go_round
          case rel => exact ⟨3, rfl, by omega, Lib.hid (noErr_succ HN.out (t := [35, 82, 69, 70, 33]) rfl HB.out)⟩
          case measure => simp [intOf]
        · go_wp2_with (first | (go_at_call 22; refine (lxLetter_is _ _ HLB _).mono ?_; rintro e w' ⟨rfl, rfl⟩) | (go_at_call 21; refine (lxDigit_is _ _ HDB _).mono ?_; rintro e w' ⟨rfl, rfl⟩) | (go_at_call 25; refine (CH.out _ _ HB _).mono ?_; rintro e w' ⟨rfl, rfl⟩))
          refine (lxPut_any C s ws ⟨6, [35, 82, 69, 70, 33], p⟩ _ _ (HS.out.kept (ext_alloc (Below.refl _ _) _)) hn).mono ?_
          rintro e w6 ⟨rfl, h1, h2⟩
          go_wp2
          rw [jump_ret]
          go_ret2
          have hg := hash_at (r := s.data.toList.drop p) (u := [35, 82, 69, 70, 33]) (by decide) HB.out
          rw [hg]
          exact word_put rfl (by simp) (ext_alloc (Below.refl _ _) _) HS.out.lt h1 h2
      · obtain ⟨b, hb⟩ : ∃ b, hasPrefix (s.data.toList.drop p) [35, 86, 65, 76, 85, 69, 33] = b := ⟨_, rfl⟩
        have HB : Hid (hasPrefix (s.data.toList.drop p) (⟨#[35, 86, 65, 76, 85, 69, 33]⟩ : ByteArray).data.toList = b) := Lib.hid hb
        clear hb
        cases b
        · go_wp2_with (first | (go_at_call 22; refine (lxLetter_is _ _ HLB _).mono ?_; rintro e w' ⟨rfl, rfl⟩) | (go_at_call 21; refine (lxDigit_is _ _ HDB _).mono ?_; rintro e w' ⟨rfl, rfl⟩) | (go_at_call 25; refine (CH.out _ _ HB _).mono ?_; rintro e w' ⟨rfl, rfl⟩))
          go_round
          case rel => exact ⟨4, rfl, by omega, Lib.hid (noErr_succ HN.out (t := [35, 86, 65, 76, 85, 69, 33]) rfl HB.out)⟩
          case measure => simp [intOf]
        · go_wp2_with (first | (go_at_call 22; refine (lxLetter_is _ _ HLB _).mono ?_; rintro e w' ⟨rfl, rfl⟩) | (go_at_call 21; refine (lxDigit_is _ _ HDB _).mono ?_; rintro e w' ⟨rfl, rfl⟩) | (go_at_call 25; refine (CH.out _ _ HB _).mono ?_; rintro e w' ⟨rfl, rfl⟩))
          refine (lxPut_any C s ws ⟨6, [35, 86, 65, 76, 85, 69, 33], p⟩ _ _ (HS.out.kept (ext_alloc (Below.refl _ _) _)) hn).mono ?_
          rintro e w6 ⟨rfl, h1, h2⟩
          go_wp2
          rw [jump_ret]
          go_ret2
          have hg := hash_at (r := s.data.toList.drop p) (u := [35, 86, 65, 76, 85, 69, 33]) (by decide) HB.out
          rw [hg]
          exact word_put rfl (by simp) (ext_alloc (Below.refl _ _) _) HS.out.lt h1 h2
      · obtain ⟨b, hb⟩ : ∃ b, hasPrefix (s.data.toList.drop p) [35, 68, 73, 86, 47, 48, 33] = b := ⟨_, rfl⟩
        have HB : Hid (hasPrefix (s.data.toList.drop p) (⟨#[35, 68, 73, 86, 47, 48, 33]⟩ : ByteArray).data.toList = b) := Lib.hid hb
        clear hb
        cases b
        · go_wp2_with (first | (go_at_call 22; refine (lxLetter_is _ _ HLB _).mono ?_; rintro e w' ⟨rfl, rfl⟩) | (go_at_call 21; refine (lxDigit_is _ _ HDB _).mono ?_; rintro e w' ⟨rfl, rfl⟩) | (go_at_call 25; refine (CH.out _ _ HB _).mono ?_; rintro e w' ⟨rfl, rfl⟩))
          go_round
          case rel => exact ⟨5, rfl, by omega, Lib.hid (noErr_succ HN.out (t := [35, 68, 73, 86, 47, 48, 33]) rfl HB.out)⟩
          case measure => simp [intOf]
        · go_wp2_with (first | (go_at_call 22; refine (lxLetter_is _ _ HLB _).mono ?_; rintro e w' ⟨rfl, rfl⟩) | (go_at_call 21; refine (lxDigit_is _ _ HDB _).mono ?_; rintro e w' ⟨rfl, rfl⟩) | (go_at_call 25; refine (CH.out _ _ HB _).mono ?_; rintro e w' ⟨rfl, rfl⟩))
          refine (lxPut_any C s ws ⟨6, [35, 68, 73, 86, 47, 48, 33], p⟩ _ _ (HS.out.kept (ext_alloc (Below.refl _ _) _)) hn).mono ?_
          rintro e w6 ⟨rfl, h1, h2⟩
          go_wp2
          rw [jump_ret]
          go_ret2
          have hg := hash_at (r := s.data.toList.drop p) (u := [35, 68, 73, 86, 47, 48, 33]) (by decide) HB.out
          rw [hg]
          exact word_put rfl (by simp) (ext_alloc (Below.refl _ _) _) HS.out.lt h1 h2
      · obtain ⟨b, hb⟩ : ∃ b, hasPrefix (s.data.toList.drop p) [35, 78, 47, 65] = b := ⟨_, rfl⟩
        have HB : Hid (hasPrefix (s.data.toList.drop p) (⟨#[35, 78, 47, 65]⟩ : ByteArray).data.toList = b) := Lib.hid hb
        clear hb
        cases b
        · go_wp2_with (first | (go_at_call 22; refine (lxLetter_is _ _ HLB _).mono ?_; rintro e w' ⟨rfl, rfl⟩) | (go_at_call 21; refine (lxDigit_is _ _ HDB _).mono ?_; rintro e w' ⟨rfl, rfl⟩) | (go_at_call 25; refine (CH.out _ _ HB _).mono ?_; rintro e w' ⟨rfl, rfl⟩))
          go_round
          case rel => exact ⟨6, rfl, by omega, Lib.hid (noErr_succ HN.out (t := [35, 78, 47, 65]) rfl HB.out)⟩
          case measure => simp [intOf]
        · go_wp2_with (first | (go_at_call 22; refine (lxLetter_is _ _ HLB _).mono ?_; rintro e w' ⟨rfl, rfl⟩) | (go_at_call 21; refine (lxDigit_is _ _ HDB _).mono ?_; rintro e w' ⟨rfl, rfl⟩) | (go_at_call 25; refine (CH.out _ _ HB _).mono ?_; rintro e w' ⟨rfl, rfl⟩))
          refine (lxPut_any C s ws ⟨6, [35, 78, 47, 65], p⟩ _ _ (HS.out.kept (ext_alloc (Below.refl _ _) _)) hn).mono ?_
          rintro e w6 ⟨rfl, h1, h2⟩
          go_wp2
          rw [jump_ret]
          go_ret2
          have hg := hash_at (r := s.data.toList.drop p) (u := [35, 78, 47, 65]) (by decide) HB.out
          rw [hg]
          exact word_put rfl (by simp) (ext_alloc (Below.refl _ _) _) HS.out.lt h1 h2
      · go_wp2
        go_step3
        refine ⟨rfl, rfl, ?_, rfl, rfl⟩
        rw [HDR.out]
        refine hash_none ?_
        rw [← HDR.out]
        exact HN.out
  case pass =>
    rintro ⟨tm, df⟩ w1 ⟨rfl, HNN, hsz, hdf⟩
    simp only at hsz hdf
    subst hdf
    have HNN := Lib.hid HNN
    go_wp2
    rw [jump_ret]
    go_ret2
    have g6 : ((tm.setIfInBounds 6 (Value.int IntKind.i64 0)).setIfInBounds 7 (Value.int IntKind.i64 21))[6]? = some (Value.int IntKind.i64 0) := by
      simp [hsz]
    have g7 : ((tm.setIfInBounds 6 (Value.int IntKind.i64 0)).setIfInBounds 7 (Value.int IntKind.i64 21))[7]? = some (Value.int IntKind.i64 21) := by
      simp [hsz]
    simp only [Array.getD_eq_getD_getElem?, g6, g7, Option.getD_some]
    rw [HNN.out]
    exact word_err (g := noneL 21) (e := 21) rfl (by decide) (ext_alloc (Below.refl _ _) _) HS.out
end Go.Proofs.YtikahfnlflhbfaaGreatDoor
