/- A formula's words: the word at a place, by its first rune. -/
import Derived.Test.YtikahfnlflhbfaaGreatDoorLxH
import Derived.Test.YtikahfnlflhbfaaGreatDoorLxR
import Derived.Laws.RangeAny
import Derived.ScopeJumps
import Derived.WalkMore
namespace Go.Proofs.YtikahfnlflhbfaaGreatDoor
open Go.RowKit Go.Lib

theorem jump_ret {l : Nat} {J : Act → World → Prop} {Q : Exit → Act → World → Prop} {a : Act} {w : World} : Exit.jump l J Q .ret a w = Q .ret a w := rfl
def opB (c : UInt8) : Bool := [40, 41, 44, 58, 94, 42, 47, 43, 45, 38, 61, 60, 62, 37].contains c
theorem drop_byte {s : ByteArray} {p : Nat} (hp : p < s.size) : s.data.toList.drop p = s[p] :: s.data.toList.drop (p + 1) := by
  rw [List.drop_eq_getElem_cons (by rw [← Lib.size_eq]; exact hp)]
  have e := get8 hp
  rw [List.getElem?_eq_getElem (by rw [← Lib.size_eq]; exact hp)] at e
  rw [Option.some.inj e]
theorem listed_none {r : List UInt8} {k : Int} {ts : List (List UInt8)} (h : ∀ t ∈ ts, r.take t.length ≠ t) : listedL r k ts (noneL 21) = noneL 21 := by
  rcases (listed_spec r k ts (noneL 21)).1 with e | ⟨t, ht, hm, -⟩
  · exact e
  · exact absurd hm (h t ht)
theorem one_none {c : UInt8} {r : List UInt8} (hi : inB c = false) (h34 : c ≠ 34) (h35 : c ≠ 35) (ho : opB c = false) : oneL (c :: r) = noneL 21 := by
  have hi' := hi
  unfold inB at hi'
  simp only [Bool.or_eq_false_iff, beq_eq_false_iff_ne] at hi'
  obtain ⟨⟨⟨h1, h2⟩, h3⟩, h4⟩ := hi'
  unfold oneL
  simp only
  rw [if_neg (by simp [h2]), if_neg h34, if_neg (by simp [h1, h3, h4]), if_neg h35]
  refine listed_none fun t ht e => ?_
  have hh := (by decide : ∀ t ∈ opTab, ∃ d, t.head? = some d ∧ opB d = true) t ht
  obtain ⟨d, hd, hb⟩ := hh
  cases t with
  | nil => cases hd
  | cons x t =>
    simp at hd; subst hd
    simp only [List.length_cons, List.take_succ_cons] at e
    injection e with e1 e2
    rw [← e1, ho] at hb; cases hb
theorem one_op {c : UInt8} {r : List UInt8} (ho : opB c = true) (h60 : c = 60 → r.head? ≠ some 62 ∧ r.head? ≠ some 61) (h62 : c = 62 → r.head? ≠ some 61) : oneL (c :: r) = ⟨7, [c], 1, 0⟩ := by
  have hm : [c] ∈ opTab := by
    unfold opB at ho
    rw [List.contains_iff_mem] at ho
    exact (by decide : ∀ x ∈ ([40, 41, 44, 58, 94, 42, 47, 43, 45, 38, 61, 60, 62, 37] : List UInt8), [x] ∈ opTab) c ho
  have h : WordOK 7 [c] [c] r := Or.inr (Or.inr (Or.inr (Or.inr (Or.inr (Or.inr ⟨rfl, hm, rfl, fun e => h60 (by simpa using e), fun e => h62 (by simpa using e)⟩)))))
  have := one_mk h
  rw [List.singleton_append] at this
  exact this
theorem one_two {a b : UInt8} {r : List UInt8} (h : [a, b] ∈ opTab) : oneL (a :: b :: r) = ⟨7, [a, b], 2, 0⟩ := by
  have hne : [a, b] ≠ [60] ∧ [a, b] ≠ [62] := by simp
  have h : WordOK 7 [a, b] [a, b] r := Or.inr (Or.inr (Or.inr (Or.inr (Or.inr (Or.inr ⟨rfl, h, rfl, fun e => absurd e hne.1, fun e => absurd e hne.2⟩)))))
  exact one_mk h
theorem one_run {c : UInt8} {r : List UInt8} (hi : inB c = true) : oneL (c :: r) = if digB c = true then numberL (c :: r) else namedL (c :: r) := by
  by_cases hd : digB c = true
  · rw [if_pos hd]; unfold oneL; simp only [hd, if_true]
  · rw [if_neg hd, oneL_named hi (by simpa using hd)]
theorem one_quote (r : List UInt8) : oneL (34 :: r) = textL8 (34 :: r) := by
  unfold oneL
  simp only
  rw [if_neg (by decide), if_pos trivial]
theorem one_hash (r : List UInt8) : oneL (35 :: r) = listedL (35 :: r) 6 errTab (noneL 21) := by
  unfold oneL
  simp only
  rw [if_neg (by decide), if_neg (by decide), if_neg (by decide), if_pos trivial]
theorem index_op (c : UInt8) : decide (0 ≤ indexByte [40, 41, 44, 58, 94, 42, 47, 43, 45, 38, 61, 60, 62, 37] c) = opB c := by
  have h : ∀ x : Fin 256, decide (0 ≤ indexByte [40, 41, 44, 58, 94, 42, 47, 43, 45, 38, 61, 60, 62, 37] (UInt8.ofNat x.val)) = opB (UInt8.ofNat x.val) := by decide +kernel
  have := h ⟨c.toNat, c.toNat_lt⟩
  simpa using this
set_option maxRecDepth 100000 in
set_option maxHeartbeats 4000000 in
theorem lxWord_high (C : Nat) (s : ByteArray) (ws : List WordL) (p : Nat) (w : World) (hS : CutS C s ws w) (y : Int) (hy : 126 < y) (h1 : Hid (oneL (s.data.toList.drop p) = noneL 21)) :
    Calls Tryz.prog 14 #[.pointer (some ⟨C, 0, none⟩), .int .i64 p, .int .i32 y] w (WordPost C s ws w p (oneL (s.data.toList.drop p))) := by
  have HS := Lib.hid hS
  rw [h1.out]
  clear hS h1
  cases h : y == 65533
  all_goals
    go_enter Tryz.func14, Tryz.ntmps14
    go_wp2_with fail
    refine wp_scope_jumps 0 (fun a' w' => w' = w ∧ a'.tmps.size = 118 ∧ a'.defers = []) (fun _ _ => 0) rfl ?first ?pass
    case first =>
      go_wp2
      go_step3
      exact ⟨rfl, rfl, rfl, rfl⟩
    case pass =>
      rintro ⟨tm, df⟩ w ⟨rfl, hsz, hdf⟩
      simp only at hsz hdf
      subst hdf
      go_wp2
      rw [jump_ret]
      go_ret2
      have g6 : ((tm.setIfInBounds 6 (Value.int IntKind.i64 0)).setIfInBounds 7 (Value.int IntKind.i64 21))[6]? = some (Value.int IntKind.i64 0) := by
        simp [hsz]
      have g7 : ((tm.setIfInBounds 6 (Value.int IntKind.i64 0)).setIfInBounds 7 (Value.int IntKind.i64 21))[7]? = some (Value.int IntKind.i64 21) := by
        simp [hsz]
      simp only [Array.getD_eq_getD_getElem?, g6, g7, Option.getD_some]
      exact word_err (g := noneL 21) (e := 21) rfl (by decide) (Below.refl _ _) HS.out
set_option maxRecDepth 100000 in
set_option maxHeartbeats 4000000 in
theorem lxWord_run (C : Nat) (s : ByteArray) (ws : List WordL) (p : Nat) (w : World) (hS : CutS C s ws w) (hp : p < s.size) (hs : s.size ≤ 65535) (hn : ws.length ≤ 100000) (L : LaidX w) (y : Int) (hy : Hid (y = (s[p].toNat : Int))) (hi : inB s[p] = true) :
    Calls Tryz.prog 14 #[.pointer (some ⟨C, 0, none⟩), .int .i64 p, .int .i32 y] w (WordPost C s ws w p (oneL (s.data.toList.drop p))) := by
  obtain ⟨d, hd⟩ : ∃ d, digB s[p] = d := ⟨_, rfl⟩
  have CR : Hid (Calls Tryz.prog 23 #[.pointer (some ⟨C, 0, none⟩), .int .i64 p, .int .i32 y] w (WordPost C s ws w p (oneL (s.data.toList.drop p)))) := Lib.hid (by
    rw [drop_byte hp, one_run hi, ← drop_byte hp, hd]
    cases d
    · rw [if_neg (by simp)]; exact lxRun_named C s ws p y w hS L hp hs hn hy hi hd
    · rw [if_pos rfl]; exact lxRun_num C s ws p y w hS L hp hs hn hy hi hd)
  have hlt := (in_lt8 hi).1
  have hy0 : y < 127 := by
    have h127 : s[p] ≠ 127 := by intro e; rw [e] at hi; exact absurd hi (by decide)
    have : s[p].toNat ≠ 127 := fun e => h127 (UInt8.toNat_inj.1 e)
    have := hy.out; omega
  have hy1 : (y == 65533) = false := by rw [beq_eq_false_iff_ne]; omega
  have hy2 : ¬ 126 < y := by omega
  have HI : Hid (withinI y = true) := Lib.hid (by rw [hy.out, withinI_of, hi])
  obtain ⟨lb, hlb⟩ : ∃ b, letterI y = b := ⟨_, rfl⟩
  obtain ⟨db, hdb⟩ : ∃ b, digitI y = b := ⟨_, rfl⟩
  obtain ⟨ab, hab⟩ : ∃ b, (y == 36) = b := ⟨_, rfl⟩
  obtain ⟨ub, hub⟩ : ∃ b, (y == 95) = b := ⟨_, rfl⟩
  have hor : (lb || db || ab || ub) = true := by rw [← hlb, ← hdb, ← hab, ← hub]; exact HI.out
  have HLB := Lib.hid hlb; have HDB := Lib.hid hdb
  clear hd hlt hS L hi hlb hdb HI
  go_enter Tryz.func14, Tryz.ntmps14
  go_wp2_with fail
  refine wp_scope_straight ?_
  go_upto_region 2 with (fail)
  go_cut [30] from 31 (fun v W => v = .bool true ∧ W = w)
  case first =>
    cases db <;> cases lb <;> cases ab <;> cases ub
    all_goals first
      | (exact absurd hor (by decide))
      | (go_wp2_with (first | (go_at_call 22; refine (lxLetter_is _ _ HLB _).mono ?_; rintro e w' ⟨rfl, rfl⟩) | (go_at_call 21; refine (lxDigit_is _ _ HDB _).mono ?_; rintro e w' ⟨rfl, rfl⟩))
         go_meet
         case rel => exact ⟨rfl, rfl⟩)
  case rest =>
    obtain ⟨rfl, hwc⟩ := hcut
    obtain rfl := hwc.symm
    go_wp2_with fail
    refine (CR.out).mono ?_
    rintro e w' hw
    unfold WordPost at hw
    split at hw
    · rename_i hg
      obtain ⟨rfl, h1, h2⟩ := hw
      have HG := Lib.hid hg; have H1 := Lib.hid h1; have H2 := Lib.hid h2
      clear hg h1 h2 hab hub hor
      go_wp2
      rw [Exit.noGoto_ret]; go_ret2
      unfold WordPost
      rw [if_pos HG.out]
      exact ⟨rfl, H1.out, H2.out⟩
    · rename_i hg
      obtain ⟨rfl, h1, h2⟩ := hw
      have HG := Lib.hid hg; have H1 := Lib.hid h1; have H2 := Lib.hid h2
      clear hg h1 h2 hab hub hor
      go_wp2
      rw [Exit.noGoto_ret]; go_ret2
      unfold WordPost
      rw [if_neg HG.out]
      exact ⟨rfl, H1.out, H2.out⟩
set_option maxRecDepth 100000 in
set_option maxHeartbeats 4000000 in
theorem lxWord_quote (C : Nat) (s : ByteArray) (ws : List WordL) (p : Nat) (w : World) (hS : CutS C s ws w) (hp : p < s.size) (hs : s.size ≤ 65535) (hn : ws.length ≤ 100000) (h34 : s[p] = 34) :
    Calls Tryz.prog 14 #[.pointer (some ⟨C, 0, none⟩), .int .i64 p, .int .i32 34] w (WordPost C s ws w p (oneL (s.data.toList.drop p))) := by
  have CR : Hid (Calls Tryz.prog 24 #[.pointer (some ⟨C, 0, none⟩), .int .i64 p] w (WordPost C s ws w p (oneL (s.data.toList.drop p)))) := Lib.hid (by
    have e : oneL (s.data.toList.drop p) = textL8 (s.data.toList.drop p) := by rw [drop_byte hp, h34, one_quote]
    rw [e]
    exact lxText_any C s ws p w hS hp hs hn)
  have HLB : Hid (letterI 34 = false) := Lib.hid (by decide)
  have HDB : Hid (digitI 34 = false) := Lib.hid (by decide)
  clear hS h34
  go_enter Tryz.func14, Tryz.ntmps14
  go_wp2_with fail
  refine wp_scope_straight ?_
  go_wp2_with (first | (go_at_call 22; refine (lxLetter_is _ _ HLB _).mono ?_; rintro e w' ⟨rfl, rfl⟩) | (go_at_call 21; refine (lxDigit_is _ _ HDB _).mono ?_; rintro e w' ⟨rfl, rfl⟩))
  refine (CR.out).mono ?_
  rintro e w' hw
  unfold WordPost at hw
  split at hw
  · rename_i hg
    obtain ⟨rfl, h1, h2⟩ := hw
    have HG := Lib.hid hg; have H1 := Lib.hid h1; have H2 := Lib.hid h2
    clear hg h1 h2
    go_wp2
    rw [Exit.noGoto_ret]; go_ret2
    unfold WordPost
    rw [if_pos HG.out]
    exact ⟨rfl, H1.out, H2.out⟩
  · rename_i hg
    obtain ⟨rfl, h1, h2⟩ := hw
    have HG := Lib.hid hg; have H1 := Lib.hid h1; have H2 := Lib.hid h2
    clear hg h1 h2
    go_wp2
    rw [Exit.noGoto_ret]; go_ret2
    unfold WordPost
    rw [if_neg HG.out]
    exact ⟨rfl, H1.out, H2.out⟩
set_option maxRecDepth 100000 in
set_option maxHeartbeats 4000000 in
theorem lxWord_sign (C : Nat) (s : ByteArray) (ws : List WordL) (p : Nat) (w : World) (hS : CutS C s ws w) (hp : p < s.size) (hs : s.size ≤ 65535) (hn : ws.length ≤ 100000) (y : Int) (hy : Hid (y = (s[p].toNat : Int))) (hi : inB s[p] = false) (h127 : y ≤ 126) (h34 : s[p] ≠ 34) (h35 : s[p] ≠ 35) (h60 : s[p] ≠ 60) (h62 : s[p] ≠ 62) :
    Calls Tryz.prog 14 #[.pointer (some ⟨C, 0, none⟩), .int .i64 p, .int .i32 y] w (WordPost C s ws w p (oneL (s.data.toList.drop p))) := by
  have HS := Lib.hid hS
  obtain ⟨o, ho⟩ : ∃ o, opB s[p] = o := ⟨_, rfl⟩
  have hone : oneL (s.data.toList.drop p) = if o then ⟨7, [s[p]], 1, 0⟩ else noneL 21 := by
    rw [drop_byte hp]
    cases o
    · exact one_none hi h34 h35 ho
    · exact one_op ho (fun e => absurd e h60) (fun e => absurd e h62)
  have hyn := hy.out
  have hb := s[p].toNat_lt
  have ne : ∀ d : UInt8, s[p] ≠ d → (y == (d.toNat : Int)) = false := fun d hd => by
    rw [beq_eq_false_iff_ne]; intro e; exact hd (UInt8.toNat_inj.1 (by omega))
  have e1 : (y == 65533) = false := by rw [beq_eq_false_iff_ne]; omega
  have e2 : ¬ 126 < y := by omega
  have e3 : (y == 34) = false := ne 34 h34
  have e4 : (y == 35) = false := ne 35 h35
  have e5 : (y == 60) = false := ne 60 h60
  have e6 : (y == 62) = false := ne 62 h62
  have hw := withinI_of s[p]
  rw [← hyn, hi] at hw
  unfold withinI at hw
  simp only [Bool.or_eq_false_iff] at hw
  obtain ⟨⟨⟨w1, w2⟩, w3⟩, w4⟩ := hw
  have HLB := Lib.hid w1; have HDB := Lib.hid w2
  have hy0 : 0 ≤ y := by omega
  have hyb : y.toNat.toUInt8 = s[p] := by rw [hyn]; simp
  have CO : Hid (Calls Tryz.prog 27 #[.string ⟨#[40, 41, 44, 58, 94, 42, 47, 43, 45, 38, 61, 60, 62, 37]⟩, .int .i32 y] w fun e w' => e = .returned (.bool o) ∧ w = w') := Lib.hid (by
    have q := index_op s[p]
    rw [ho, ← hyb] at q
    refine (Tryz.strings_ContainsRune_ascii ⟨#[40, 41, 44, 58, 94, 42, 47, 43, 45, 38, 61, 60, 62, 37]⟩ y w hy0 (by omega)).mono ?_
    rintro e w' ⟨rfl, rfl⟩
    exact ⟨congrArg (fun b => Ending.returned (.bool b)) q, rfl⟩)
  have HE : Hid (Utf8.encode y = strB [s[p]]) := Lib.hid (by
    rw [encode_low hy0 (by omega), ← hyb]; rfl)
  have HO := Lib.hid hone
  clear hS hone hyn hb ne hyb w1 w2 hi h34 h35 h60 h62 ho
  rw [HO.out]
  go_enter Tryz.func14, Tryz.ntmps14
  go_wp2_with fail
  refine wp_scope_straight ?_
  cases o
  · go_wp2_with (first | (go_at_call 22; refine (lxLetter_is _ _ HLB _).mono ?_; rintro e w' ⟨rfl, rfl⟩) | (go_at_call 21; refine (lxDigit_is _ _ HDB _).mono ?_; rintro e w' ⟨rfl, rfl⟩) | (go_at_call 27; refine (CO.out).mono ?_; rintro e w' ⟨rfl, rfl⟩))
    go_step3
    go_wp2
    rw [Exit.noGoto_ret]; go_ret2
    exact word_err rfl (by decide) (Below.refl _ _) HS.out
  · go_wp2_with (first | (go_at_call 22; refine (lxLetter_is _ _ HLB _).mono ?_; rintro e w' ⟨rfl, rfl⟩) | (go_at_call 21; refine (lxDigit_is _ _ HDB _).mono ?_; rintro e w' ⟨rfl, rfl⟩) | (go_at_call 27; refine (CO.out).mono ?_; rintro e w' ⟨rfl, rfl⟩))
    rw [HE.out]
    refine (lxPut_any C s ws ⟨7, [s[p]], p⟩ _ w HS.out hn).mono ?_
    rintro e w6 ⟨rfl, h1, h2⟩
    go_wp2
    rw [Exit.noGoto_ret]; go_ret2
    exact word_put rfl (by simp) (Below.refl _ _) HS.out.lt h1 h2
end Go.Proofs.YtikahfnlflhbfaaGreatDoor
