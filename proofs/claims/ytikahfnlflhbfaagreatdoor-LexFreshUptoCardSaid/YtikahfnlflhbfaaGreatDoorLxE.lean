/- A formula's words: are all of a text's bytes of a kind; a text in capitals. -/
import Derived.Test.YtikahfnlflhbfaaGreatDoorLxA
import Derived.Test.YtikahfnlflhbfaaGreatDoorLxSe
namespace Go.Proofs.YtikahfnlflhbfaaGreatDoor
open Go.RowKit Go.Lib

theorem strE_facts {s : ByteArray} (h : 0 < s.size) : s.toList.isEmpty = false ∧ (s.toList == []) = false ∧ ¬ (s.toList = []) := by
  have : s.toList.length = s.size := by rw [Lib.toList_data, ← Lib.size_eq]
  cases hs : s.toList with
  | nil => rw [hs] at this; simp at this; omega
  | cons c r => simp
set_option maxHeartbeats 1000000 in
theorem lxOnly_dig (s : ByteArray) (w : World) (h0 : 0 < s.size) (ha : Hid (∀ (j : Nat) (c : UInt8), s.data.toList[j]? = some c → c.toNat < 128)) (b : Bool) (hb : Hid (s.data.toList.all digB = b)) :
    Calls Tryz.prog 35 #[.string s, .func (.func 21) #[] #[]] w fun e w' => e = .returned (.bool b) ∧ Below w.heap.size w w' := by
  obtain ⟨f1, f2, f3⟩ := strE_facts h0
  have BA : Hid (∀ k, Below w.heap.size w (w.iter s k)) := Lib.hid fun k => ext_alloc (Below.refl _ _) _
  go_enter Tryz.func35, Tryz.ntmps35
  go_wp2
  go_loopw [] (fun wr => ∃ k : Nat, wr = w.iter s k ∧ k ≤ s.size ∧ Hid ((s.data.toList.take k).all digB = true)) (fun wr => s.size - wr.iterPos w.heap.size)
  case atStart => exact ⟨0, rfl, Nat.zero_le _, Lib.hid rfl⟩
  case round =>
    obtain ⟨k, rfl, hk, H⟩ := hrel
    by_cases hp : k < s.size
    · have hg : s.data.toList[k]? = some s[k] := by rw [List.getElem?_eq_getElem (by simpa using hp)]; rfl
      have HG := Lib.hid hg
      have h128 := ha.out k _ hg
      obtain ⟨y, hy⟩ : ∃ y : Int, y = (s[k].toNat : Int) := ⟨_, rfl⟩
      have hnx : ∀ ty, (Instr.next (.pointer (some ⟨w.heap.size, 0, none⟩)) true ty).run Tryz.prog (w.iter s k) = .ok (.tuple #[.bool true, .int .i64 k, .int .i32 y]) (w.iter s (k + 1)) := fun ty => by rw [hy]; exact run_next_ascii (P := Tryz.prog) w s k ty hp h128
      obtain ⟨d, hd⟩ : ∃ d, digB s[k] = d := ⟨_, rfl⟩
      have HD : Hid (digitI y = d) := Lib.hid (by rw [hy, digitI_of, hd])
      have HDD := Lib.hid hd
      clear hg hd hy h128
      cases d
      · go_wp2_with (go_at_call 21; refine (lxDigit_is _ _ HD _).mono ?_; rintro e w' ⟨rfl, rfl⟩)
        go_ret
        have hq : b = false := by
          rw [← hb.out, List.all_eq_false]
          exact ⟨_, List.mem_of_getElem? HG.out, by rw [HDD.out]; simp⟩
        exact ⟨by rw [hq]; rfl, BA.out _⟩
      · go_wp2_with (go_at_call 21; refine (lxDigit_is _ _ HD _).mono ?_; rintro e w' ⟨rfl, rfl⟩)
        go_roundw
        case rel => exact ⟨k + 1, rfl, by omega, Lib.hid (by rw [List.take_add_one, HG.out]; simp [H.out, HDD.out])⟩
        case measure => simp; omega
    · have hnx : ∀ ty, (Instr.next (.pointer (some ⟨w.heap.size, 0, none⟩)) true ty).run Tryz.prog (w.iter s k) = _ := fun ty => run_next_end w s k ty hp
      have hq : b = true := by
        rw [← hb.out, ← H.out, List.take_of_length_le (by rw [← Lib.size_eq]; omega)]
      go_wp2
      go_ret
      exact ⟨by rw [hq]; rfl, BA.out _⟩
theorem lxAln_is (r : Int) (b : Bool) (hb : Hid (alnI r = b)) (w : World) : Calls Tryz.prog 38 #[.int .i32 r] w fun e w' => e = .returned (.bool b) ∧ w = w' := by rw [← hb.out]; exact lxAln_any r w
set_option maxHeartbeats 1000000 in
theorem lxOnly_aln (s : ByteArray) (w : World) (h0 : 0 < s.size) (ha : Hid (∀ (j : Nat) (c : UInt8), s.data.toList[j]? = some c → c.toNat < 128)) (b : Bool) (hb : Hid (s.data.toList.all alnB = b)) :
    Calls Tryz.prog 35 #[.string s, .func (.func 38) #[] #[]] w fun e w' => e = .returned (.bool b) ∧ Below w.heap.size w w' := by
  obtain ⟨f1, f2, f3⟩ := strE_facts h0
  have BA : Hid (∀ k, Below w.heap.size w (w.iter s k)) := Lib.hid fun k => ext_alloc (Below.refl _ _) _
  go_enter Tryz.func35, Tryz.ntmps35
  go_wp2
  go_loopw [] (fun wr => ∃ k : Nat, wr = w.iter s k ∧ k ≤ s.size ∧ Hid ((s.data.toList.take k).all alnB = true)) (fun wr => s.size - wr.iterPos w.heap.size)
  case atStart => exact ⟨0, rfl, Nat.zero_le _, Lib.hid rfl⟩
  case round =>
    obtain ⟨k, rfl, hk, H⟩ := hrel
    by_cases hp : k < s.size
    · have hg : s.data.toList[k]? = some s[k] := by rw [List.getElem?_eq_getElem (by simpa using hp)]; rfl
      have HG := Lib.hid hg
      have h128 := ha.out k _ hg
      obtain ⟨y, hy⟩ : ∃ y : Int, y = (s[k].toNat : Int) := ⟨_, rfl⟩
      have hnx : ∀ ty, (Instr.next (.pointer (some ⟨w.heap.size, 0, none⟩)) true ty).run Tryz.prog (w.iter s k) = .ok (.tuple #[.bool true, .int .i64 k, .int .i32 y]) (w.iter s (k + 1)) := fun ty => by rw [hy]; exact run_next_ascii (P := Tryz.prog) w s k ty hp h128
      obtain ⟨d, hd⟩ : ∃ d, alnB s[k] = d := ⟨_, rfl⟩
      have HD : Hid (alnI y = d) := Lib.hid (by rw [hy, alnI_of, hd])
      have HDD := Lib.hid hd
      clear hg hd hy h128
      cases d
      · go_wp2_with (go_at_call 38; refine (lxAln_is _ _ HD _).mono ?_; rintro e w' ⟨rfl, rfl⟩)
        go_ret
        have hq : b = false := by
          rw [← hb.out, List.all_eq_false]
          exact ⟨_, List.mem_of_getElem? HG.out, by rw [HDD.out]; simp⟩
        exact ⟨by rw [hq]; rfl, BA.out _⟩
      · go_wp2_with (go_at_call 38; refine (lxAln_is _ _ HD _).mono ?_; rintro e w' ⟨rfl, rfl⟩)
        go_roundw
        case rel => exact ⟨k + 1, rfl, by omega, Lib.hid (by rw [List.take_add_one, HG.out]; simp [H.out, HDD.out])⟩
        case measure => simp; omega
    · have hnx : ∀ ty, (Instr.next (.pointer (some ⟨w.heap.size, 0, none⟩)) true ty).run Tryz.prog (w.iter s k) = _ := fun ty => run_next_end w s k ty hp
      have hq : b = true := by
        rw [← hb.out, ← H.out, List.take_of_length_le (by rw [← Lib.size_eq]; omega)]
      go_wp2
      go_ret
      exact ⟨by rw [hq]; rfl, BA.out _⟩

/-- What the library's variables hold, those of runes too. -/
structure LaidX (w : World) : Prop where
  lw : LaidW w
  u8 : Lib.Utf8Tabs 1 2 w
theorem cell_lt8 {w : World} {a : Addr} {v : Value} (h : w.cell? a = some v) : a.block < w.heap.size := by
  unfold World.cell? at h
  split at h
  · rename_i q
    exact (Array.getElem?_eq_some_iff.1 q).1
  · cases h
theorem LaidX.kept {w w' : World} (h : LaidX w) (hb : Below w.heap.size w w') : LaidX w' := by
  refine ⟨h.lw.kept hb, fun c hc => ?_, fun i hi => ⟨?_, ?_⟩⟩
  · have q := h.u8.1 c hc
    exact (hb.cell (p := ⟨_, c, none⟩) (cell_lt8 q)).trans q
  · have q := (h.u8.2 i hi).1
    exact (hb.cell (p := ⟨_, 2 * i, none⟩) (cell_lt8 q)).trans q
  · have q := (h.u8.2 i hi).2
    exact (hb.cell (p := ⟨_, 2 * i + 1, none⟩) (cell_lt8 q)).trans q
theorem up_byte {c : UInt8} (h : c.toNat < 128) : (upI (c.toNat : Int)).toNat.toUInt8 = upperB c ∧ 0 ≤ upI (c.toNat : Int) ∧ upI (c.toNat : Int) < 128 := by
  unfold upI smallI
  by_cases q : 97 ≤ c.toNat ∧ c.toNat ≤ 122
  · have hl : letB c = true := by simp only [letB, Bool.or_eq_true, Bool.and_eq_true, decide_eq_true_eq]; omega
    have h3 := (letN_of hl).2.2
    have e : (decide ((97 : Int) ≤ (c.toNat : Int)) && decide ((c.toNat : Int) ≤ 122)) = true := by simp; omega
    rw [e]
    simp only [if_true]
    refine ⟨?_, by omega, by omega⟩
    apply UInt8.toNat_inj.1
    unfold letN at h3
    rw [if_neg (by omega), if_pos q] at h3
    have h4 : (upperB c).toNat = c.toNat - 32 := by omega
    have h5 : ((c.toNat : Int) - 32).toNat = c.toNat - 32 := by omega
    rw [h4, h5]
    simp; omega
  · have e : (decide ((97 : Int) ≤ (c.toNat : Int)) && decide ((c.toNat : Int) ≤ 122)) = false := by
      rw [Bool.and_eq_false_iff]; simp only [decide_eq_false_iff_not]; omega
    rw [e]
    simp only [Bool.false_eq_true, if_false]
    refine ⟨?_, by omega, by omega⟩
    rw [upper_no8 q]
    simp
theorem mapD_cap : ∀ (l : List UInt8), (∀ c ∈ l, c.toNat < 128) → mapD upI l = capL8 l
  | [], _ => rfl
  | c :: r, h => by
    have hc := h c List.mem_cons_self
    have hd : decodeL (c :: r) = (c.toNat, 1) := by
      rw [decodeL_N]
      unfold decodeN
      simp only [List.getD_cons_zero]
      rw [if_pos hc]
    obtain ⟨h1, h2, h3⟩ := up_byte hc
    rw [mapD_step upI _ (by simp), hd]
    simp only
    rw [if_pos h2, List.drop_succ_cons, List.drop_zero, mapD_cap r (fun d hd => h d (List.mem_cons_of_mem _ hd))]
    unfold encodeRune
    rw [encodeRuneZ_one h2 (by omega)]
    simp only [List.map_cons, List.map_nil, capL8, h1]
    rfl
theorem lxCapital_any (s : ByteArray) (w : World) (L : LaidX w) (hs : s.size ≤ 65535) (ha : ∀ c ∈ s.data.toList, c.toNat < 128) :
    Calls Tryz.prog 34 #[.string s] w fun e w' => e = .returned (.string (strB (capL8 s.data.toList))) ∧ Below w.heap.size w w' := by
  have e := mapD_cap s.data.toList ha
  have hf : MapAtRunes Tryz.prog 45 #[] upI w := fun W x hx hb => (lxUp_any x W).mono fun _ _ ⟨he, hw⟩ => ⟨he, 0, hw ▸ rfl⟩
  have hk := Tryz.strings_Map_runes 45 #[] (enters_of Tryz.func45 (by kernel_rfl) rfl) upI s w (by omega) hf (fun x hx => by unfold upI; split <;> rename_i q <;> (try (simp [smallI] at q)) <;> omega) L.u8
  rw [e] at hk
  have HK := Lib.hid hk
  clear e hf hk L ha
  go_enter Tryz.func34, Tryz.ntmps34
  go_wp2_with (go_at_call 44; refine (HK.out).mono ?_; rintro e w' ⟨rfl, hb⟩)
  go_ret
  exact ⟨rfl, hb⟩
end Go.Proofs.YtikahfnlflhbfaaGreatDoor
