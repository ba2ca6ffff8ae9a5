/- The document's own answer for words: the word at a place. -/
import Derived.Test.YtikahfnlflhbfaaGreatDoorLzJ
import Derived.Test.YtikahfnlflhbfaaGreatDoorLxI
namespace Go.Proofs.YtikahfnlflhbfaaGreatDoor
open Go.RowKit Go.Lib

theorem got_open (p : Nat) (g : GotL) : ∃ k t n e, GotV p g = .agg #[.int .i64 k, .string t, .int .i64 0, .int .i64 n, .int .i64 e] := ⟨_, _, _, _, rfl⟩
theorem texts_lie {w : World} {A : Array Value} {T : TypeId} {ts : List (List UInt8)} (h : A = (ts.map fun t => Value.string (strB t)).toArray) : TextsAt w.heap.size ts (w.alloc (.cells A T)) := by
  intro j t e
  rw [nwA (A := A) (T := T) w j, h]
  simp [e]
theorem one_other {c : UInt8} {r : List UInt8} (hd : digB c = false) (h34 : (c == 34) = false) (hi : (letB c || c == 36 || c == 95) = false) (h35 : (c == 35) = false) : oneL (c :: r) = listedL (c :: r) 7 opTab (noneL 21) := by
  unfold oneL
  simp only
  rw [if_neg (by simp [hd]), if_neg (by simpa using h34), if_neg (by simpa [and_assoc] using hi), if_neg (by simpa using h35)]
set_option maxRecDepth 100000 in
set_option maxHeartbeats 4000000 in
theorem rf8One_any (s : ByteArray) (p : Nat) (w : World) (hp : p < s.size) (hs : s.size ≤ 65535) : Calls Tryz.prog 12 #[.string s, .int .i64 p] w (GotPost p (oneL (s.data.toList.drop p)) w) := by
  have K0 : ∀ o, (w.alloc (.cells #[.int .i64 0, .string ⟨#[]⟩, .int .i64 0, .int .i64 0, .int .i64 0] 38)).cell? ⟨w.heap.size, o, none⟩ = (#[.int .i64 0, .string ⟨#[]⟩, .int .i64 0, .int .i64 0, .int .i64 0] : Array Value)[o]? := nwA (A := #[.int .i64 0, .string ⟨#[]⟩, .int .i64 0, .int .i64 0, .int .i64 0]) (T := 38) w
  have F0 : ∀ o, (w.alloc (.cells #[.int .i64 0, .string ⟨#[]⟩, .int .i64 0, .int .i64 0, .int .i64 0] 38)).frozen? ⟨w.heap.size, o, none⟩ = false := fun o => World.frozen?_alloc_at _ _ _ _ rfl
  have B0 : Below w.heap.size w (w.alloc (.cells #[.int .i64 0, .string ⟨#[]⟩, .int .i64 0, .int .i64 0, .int .i64 0] 38)) := ext_alloc (Below.refl _ _) _
  have HK := Lib.hid K0; have HF := Lib.hid F0; have HB := Lib.hid B0
  have hdr := drop_byte hp
  have HDR := Lib.hid hdr
  obtain ⟨db, hdb⟩ : ∃ b, digB s[p] = b := ⟨_, rfl⟩
  obtain ⟨lb, hlb⟩ : ∃ b, letB s[p] = b := ⟨_, rfl⟩
  obtain ⟨qb, hqb⟩ : ∃ b, (s[p] == 34) = b := ⟨_, rfl⟩
  obtain ⟨ab, hab⟩ : ∃ b, (s[p] == 36) = b := ⟨_, rfl⟩
  obtain ⟨ub, hub⟩ : ∃ b, (s[p] == 95) = b := ⟨_, rfl⟩
  obtain ⟨nb, hnb⟩ : ∃ b, (s[p] == 35) = b := ⟨_, rfl⟩
  have HD := Lib.hid hdb; have HL := Lib.hid hlb; have HQ := Lib.hid hqb; have HA := Lib.hid hab; have HU := Lib.hid hub; have HN := Lib.hid hnb
  have a34 : ((s[p].toNat : Int) == 34) = qb := by rw [← hqb]; exact byte_is (n := 34) (by decide)
  have a36 : ((s[p].toNat : Int) == 36) = ab := by rw [← hab]; exact byte_is (n := 36) (by decide)
  have a95 : ((s[p].toNat : Int) == 95) = ub := by rw [← hub]; exact byte_is (n := 95) (by decide)
  have a35 : ((s[p].toNat : Int) == 35) = nb := by rw [← hnb]; exact byte_is (n := 35) (by decide)
  clear hdb hlb hqb hab hub hnb hdr K0 F0 B0
  cases db
  · cases qb
    · go_enter Tryz.func12, Tryz.ntmps12
      go_upto_region 6 with (go_at_call 15; refine (rf8Digit_is _ _ HD _).mono ?_; rintro e w' ⟨rfl, rfl⟩)
      go_cut [21] from 22 (fun v W => v = .bool (lb || ab || ub) ∧ W = w.alloc (.cells #[.int .i64 0, .string ⟨#[]⟩, .int .i64 0, .int .i64 0, .int .i64 0] 38))
      case first =>
        cases lb <;> cases ab <;> cases ub
        all_goals
          go_wp2_with (go_at_call 18; refine (rf8Letter_is _ _ HL _).mono ?_; rintro e w' ⟨rfl, rfl⟩)
          go_meet
          case rel => exact ⟨rfl, rfl⟩
      case rest =>
        obtain ⟨rfl, hwc⟩ := hcut
        obtain rfl := hwc.symm
        cases ho : (lb || ab || ub)
        · have HO2 := Lib.hid ho
          clear ho
          cases nb
          · have HO : Hid (oneL (s.data.toList.drop p) = listedL (s.data.toList.drop p) 7 opTab (noneL 21)) := Lib.hid (by
              rw [HDR.out]
              exact one_other HD.out HQ.out (by rw [HL.out, HA.out, HU.out]; exact HO2.out) HN.out)
            go_wp2_with fail
            have hsz : (w.alloc (.cells #[.int .i64 0, .string ⟨#[]⟩, .int .i64 0, .int .i64 0, .int .i64 0] 38)).heap.size = w.heap.size + 1 := by simp
            refine (rf8Listed_any s p (w.heap.size + 1) opTab 7 _ (by omega) hs (by simp) (by rw [← hsz]; exact texts_lie rfl) (by decide) (by decide)).mono ?_
            rintro e w2 ⟨rfl, b2⟩
            obtain ⟨vk, vt, vn, ve, hv⟩ := got_open p (listedL (s.data.toList.drop p) 7 opTab (noneL 21))
            rw [hv]
            have HV : Hid (GotV p (oneL (s.data.toList.drop p)) = .agg #[.int .i64 vk, .string vt, .int .i64 0, .int .i64 vn, .int .i64 ve]) := Lib.hid (by rw [HO.out]; exact hv)
            clear hv hsz
            have z2 : w.heap.size < w2.heap.size := Nat.lt_of_lt_of_le (by simp; omega) b2.size
            have k2 : ∀ o, w2.cell? ⟨w.heap.size, o, none⟩ = (#[.int .i64 0, .string ⟨#[]⟩, .int .i64 0, .int .i64 0, .int .i64 0] : Array Value)[o]? := kpC b2 (by simp; omega) (kpA _ (by simp) HK.out)
            have f2 : ∀ o, w2.frozen? ⟨w.heap.size, o, none⟩ = false := fun o => (b2.frozen (p := ⟨w.heap.size, o, none⟩) (by simp; omega)).trans ((World.frozen?_alloc_past _ _ _ (by simp)).trans (HF.out o))
            have B2 := Lib.hid ((ext_alloc HB.out _).trans (b2.mono (by simp; omega)))
            clear b2
            go_wp2_with fail
            exact bodyPost_ret (v := .agg #[.int .i64 vk, .string vt, .int .i64 0, .int .i64 vn, .int .i64 ve]) (by simp [results, Tryz.results12, go_sem, k2]) rfl ⟨by rw [HV.out], (by repeat (first | (with_reducible exact B2.out) | (with_reducible refine Below.setCell ?_ (by exact Nat.le_refl _) _)))⟩
          · have HO : Hid (oneL (s.data.toList.drop p) = listedL (s.data.toList.drop p) 6 errTab (noneL 21)) := Lib.hid (by
              have h35 : s[p] = 35 := by simpa using HN.out
              rw [HDR.out, h35]; exact one_hash _)
            go_wp2_with fail
            have hsz : (w.alloc (.cells #[.int .i64 0, .string ⟨#[]⟩, .int .i64 0, .int .i64 0, .int .i64 0] 38)).heap.size = w.heap.size + 1 := by simp
            refine (rf8Listed_any s p (w.heap.size + 1) errTab 6 _ (by omega) hs (by simp) (by rw [← hsz]; exact texts_lie rfl) (by decide) (by decide)).mono ?_
            rintro e w2 ⟨rfl, b2⟩
            obtain ⟨vk, vt, vn, ve, hv⟩ := got_open p (listedL (s.data.toList.drop p) 6 errTab (noneL 21))
            rw [hv]
            have HV : Hid (GotV p (oneL (s.data.toList.drop p)) = .agg #[.int .i64 vk, .string vt, .int .i64 0, .int .i64 vn, .int .i64 ve]) := Lib.hid (by rw [HO.out]; exact hv)
            clear hv hsz
            have z2 : w.heap.size < w2.heap.size := Nat.lt_of_lt_of_le (by simp; omega) b2.size
            have k2 : ∀ o, w2.cell? ⟨w.heap.size, o, none⟩ = (#[.int .i64 0, .string ⟨#[]⟩, .int .i64 0, .int .i64 0, .int .i64 0] : Array Value)[o]? := kpC b2 (by simp; omega) (kpA _ (by simp) HK.out)
            have f2 : ∀ o, w2.frozen? ⟨w.heap.size, o, none⟩ = false := fun o => (b2.frozen (p := ⟨w.heap.size, o, none⟩) (by simp; omega)).trans ((World.frozen?_alloc_past _ _ _ (by simp)).trans (HF.out o))
            have B2 := Lib.hid ((ext_alloc HB.out _).trans (b2.mono (by simp; omega)))
            clear b2
            go_wp2_with fail
            exact bodyPost_ret (v := .agg #[.int .i64 vk, .string vt, .int .i64 0, .int .i64 vn, .int .i64 ve]) (by simp [results, Tryz.results12, go_sem, k2]) rfl ⟨by rw [HV.out], (by repeat (first | (with_reducible exact B2.out) | (with_reducible refine Below.setCell ?_ (by exact Nat.le_refl _) _)))⟩
        · have hin : inB s[p] = true := by
            unfold inB
            rw [HL.out, HD.out, HA.out, HU.out, Bool.or_false]; exact ho
          have HO : Hid (oneL (s.data.toList.drop p) = namedL (s.data.toList.drop p)) := Lib.hid (by
            rw [HDR.out, one_run hin, HD.out, if_neg (by simp)])
          clear ho
          have K0 := HK.out; have F0 := HF.out; have B0 := HB.out
          go_wp2_with fail
          refine (rf8Named_any s p _ hp hs hin).mono ?_
          rintro e w2 ⟨rfl, b2⟩
          obtain ⟨vk, vt, vn, ve, hv⟩ := got_open p (namedL (s.data.toList.drop p))
          rw [hv]
          have HV : Hid (GotV p (oneL (s.data.toList.drop p)) = .agg #[.int .i64 vk, .string vt, .int .i64 0, .int .i64 vn, .int .i64 ve]) := Lib.hid (by rw [HO.out]; exact hv)
          clear hv
          have z2 : w.heap.size < w2.heap.size := Nat.lt_of_lt_of_le (by simp) b2.size
          have k2 : ∀ o, w2.cell? ⟨w.heap.size, o, none⟩ = (#[.int .i64 0, .string ⟨#[]⟩, .int .i64 0, .int .i64 0, .int .i64 0] : Array Value)[o]? := kpC b2 (by simp) K0
          have f2 : ∀ o, w2.frozen? ⟨w.heap.size, o, none⟩ = false := fun o => (b2.frozen (p := ⟨w.heap.size, o, none⟩) (by simp)).trans (F0 o)
          have B2 := Lib.hid (B0.trans (b2.mono (by simp)))
          clear b2
          clear K0 F0 B0
          go_wp2_with fail
          exact bodyPost_ret (v := .agg #[.int .i64 vk, .string vt, .int .i64 0, .int .i64 vn, .int .i64 ve]) (by simp [results, Tryz.results12, go_sem, k2]) rfl ⟨by rw [HV.out], (by repeat (first | (with_reducible exact B2.out) | (with_reducible refine Below.setCell ?_ (by exact Nat.le_refl _) _)))⟩
    · go_enter Tryz.func12, Tryz.ntmps12
      have HO : Hid (oneL (s.data.toList.drop p) = textL8 (s.data.toList.drop p)) := Lib.hid (by
        have h34 : s[p] = 34 := by simpa using HQ.out
        rw [HDR.out, h34]; exact one_quote _)
      go_upto_region 5 with (go_at_call 15; refine (rf8Digit_is _ _ HD _).mono ?_; rintro e w' ⟨rfl, rfl⟩)
      have K0 := HK.out; have F0 := HF.out; have B0 := HB.out
      go_wp2_with fail
      refine (rf8Text_any s p _ hp hs).mono ?_
      rintro e w2 ⟨rfl, b2⟩
      obtain ⟨vk, vt, vn, ve, hv⟩ := got_open p (textL8 (s.data.toList.drop p))
      rw [hv]
      have HV : Hid (GotV p (oneL (s.data.toList.drop p)) = .agg #[.int .i64 vk, .string vt, .int .i64 0, .int .i64 vn, .int .i64 ve]) := Lib.hid (by rw [HO.out]; exact hv)
      clear hv
      have z2 : w.heap.size < w2.heap.size := Nat.lt_of_lt_of_le (by simp) b2.size
      have k2 : ∀ o, w2.cell? ⟨w.heap.size, o, none⟩ = (#[.int .i64 0, .string ⟨#[]⟩, .int .i64 0, .int .i64 0, .int .i64 0] : Array Value)[o]? := kpC b2 (by simp) K0
      have f2 : ∀ o, w2.frozen? ⟨w.heap.size, o, none⟩ = false := fun o => (b2.frozen (p := ⟨w.heap.size, o, none⟩) (by simp)).trans (F0 o)
      have B2 := Lib.hid (B0.trans (b2.mono (by simp)))
      clear b2
      clear K0 F0 B0
      go_wp2_with fail
      exact bodyPost_ret (v := .agg #[.int .i64 vk, .string vt, .int .i64 0, .int .i64 vn, .int .i64 ve]) (by simp [results, Tryz.results12, go_sem, k2]) rfl ⟨by rw [HV.out], (by repeat (first | (with_reducible exact B2.out) | (with_reducible refine Below.setCell ?_ (by exact Nat.le_refl _) _)))⟩
  · go_enter Tryz.func12, Tryz.ntmps12
    have hin : inB s[p] = true := inB_of (.inl HD.out)
    have HO : Hid (oneL (s.data.toList.drop p) = numberL (s.data.toList.drop p)) := Lib.hid (by
      rw [HDR.out, one_run hin, HD.out, if_pos rfl])
    have K0 := HK.out; have F0 := HF.out; have B0 := HB.out
    go_upto_region 3 with (go_at_call 15; refine (rf8Digit_is _ _ HD _).mono ?_; rintro e w' ⟨rfl, rfl⟩)
    go_wp2_with fail
    refine (rf8Number_any s p _ hp hs HD.out).mono ?_
    rintro e w2 ⟨rfl, b2⟩
    obtain ⟨vk, vt, vn, ve, hv⟩ := got_open p (numberL (s.data.toList.drop p))
    rw [hv]
    have HV : Hid (GotV p (oneL (s.data.toList.drop p)) = .agg #[.int .i64 vk, .string vt, .int .i64 0, .int .i64 vn, .int .i64 ve]) := Lib.hid (by rw [HO.out]; exact hv)
    clear hv
    have z2 : w.heap.size < w2.heap.size := Nat.lt_of_lt_of_le (by simp) b2.size
    have k2 : ∀ o, w2.cell? ⟨w.heap.size, o, none⟩ = (#[.int .i64 0, .string ⟨#[]⟩, .int .i64 0, .int .i64 0, .int .i64 0] : Array Value)[o]? := kpC b2 (by simp) K0
    have f2 : ∀ o, w2.frozen? ⟨w.heap.size, o, none⟩ = false := fun o => (b2.frozen (p := ⟨w.heap.size, o, none⟩) (by simp)).trans (F0 o)
    have B2 := Lib.hid (B0.trans (b2.mono (by simp)))
    clear b2
    clear K0 F0 B0
    go_wp2_with fail
    exact bodyPost_ret (v := .agg #[.int .i64 vk, .string vt, .int .i64 0, .int .i64 vn, .int .i64 ve]) (by simp [results, Tryz.results12, go_sem, k2]) rfl ⟨by rw [HV.out], (by repeat (first | (with_reducible exact B2.out) | (with_reducible refine Below.setCell ?_ (by exact Nat.le_refl _) _)))⟩
end Go.Proofs.YtikahfnlflhbfaaGreatDoor
