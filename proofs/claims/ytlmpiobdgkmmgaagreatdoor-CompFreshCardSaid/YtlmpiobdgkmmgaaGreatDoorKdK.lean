/- Code: Text. -/
import Derived.Shelf.Strings.Builder1
import Derived.Shelf.Strings.BuilderF
import Derived.Shelf.Strings.BuilderK
import Derived.Test.YtlmpiobdgkmmgaaGreatDoorProg
import Derived.Test.YtlmpiobdgkmmgaaGreatDoorCdSh
import Derived.Test.YtlmpiobdgkmmgaaGreatDoorKdB
import Derived.Lib.ItoaLen
import Derived.Test.YtlmpiobdgkmmgaaGreatDoorKdJ
set_option maxRecDepth 1000000
set_option maxHeartbeats 16000000
namespace Go.Proofs
open Go.Shelf
def Tryz.laysBk_ren : Go.Shelf.Ren := ⟨fun | 166 => 50 | 167 => 54 | 240 => 95 | 276 => 119 | n => n, fun | 0 => 0 | 3 => 3 | 4 => 4 | 5 => 5 | 9 => 9 | 20 => 20 | 37 => 98 | 70 => 97 | 72 => 100 | 75 => 102 | 80 => 109 | 164 => 142 | 76 => 103 | n => n, fun | n => n⟩
theorem Tryz.laysBk166 : Go.Proofs.Lays.n166 Tryz.prog Tryz.laysBk_ren := {
 mixed := by kernel_rfl
 f166 := Tryz.func50.trans (congrArg some (by kernel_rfl))
 f240 := Tryz.func95.trans (congrArg some (by kernel_rfl))
 f276 := Tryz.func119.trans (congrArg some (by kernel_rfl))
 t0 := Tryz.underlying0
 a0 := Tryz.isAgg0
 z0 := Tryz.sizeOf0
 v0 := Tryz.zeroValue0
 t3 := Tryz.underlying3
 a3 := Tryz.isAgg3
 z3 := Tryz.sizeOf3
 v3 := Tryz.zeroValue3
 t4 := Tryz.underlying4
 a4 := Tryz.isAgg4
 z4 := Tryz.sizeOf4
 v4 := Tryz.zeroValue4
 t9 := Tryz.underlying9
 a9 := Tryz.isAgg9
 z9 := Tryz.sizeOf9
 v9 := Tryz.zeroValue9
 t20 := Tryz.underlying20
 a20 := Tryz.isAgg20
 z20 := Tryz.sizeOf20
 v20 := Tryz.zeroValue20
 t37 := Tryz.underlying98
 a37 := Tryz.isAgg98
 z37 := Tryz.sizeOf98
 v37 := Tryz.zeroValue98
 t70 := Tryz.underlying97
 a70 := Tryz.isAgg97
 z70 := Tryz.sizeOf97
 v70 := Tryz.zeroValue97
 t72 := Tryz.underlying100
 a72 := Tryz.isAgg100
 z72 := Tryz.sizeOf100
 v72 := Tryz.zeroValue100
 t75 := Tryz.underlying102
 a75 := Tryz.isAgg102
 z75 := Tryz.sizeOf102
 v75 := Tryz.zeroValue102
 t164 := Tryz.underlying142
 a164 := Tryz.isAgg142
 z164 := Tryz.sizeOf142
 v164 := Tryz.zeroValue142
}
theorem Tryz.laysBk167 : Go.Proofs.Lays.n167 Tryz.prog Tryz.laysBk_ren := {
 mixed := by kernel_rfl
 f167 := Tryz.func54.trans (congrArg some (by kernel_rfl))
 f240 := Tryz.func95.trans (congrArg some (by kernel_rfl))
 f276 := Tryz.func119.trans (congrArg some (by kernel_rfl))
 t0 := Tryz.underlying0
 a0 := Tryz.isAgg0
 z0 := Tryz.sizeOf0
 v0 := Tryz.zeroValue0
 t4 := Tryz.underlying4
 a4 := Tryz.isAgg4
 z4 := Tryz.sizeOf4
 v4 := Tryz.zeroValue4
 t5 := Tryz.underlying5
 a5 := Tryz.isAgg5
 z5 := Tryz.sizeOf5
 v5 := Tryz.zeroValue5
 t9 := Tryz.underlying9
 a9 := Tryz.isAgg9
 z9 := Tryz.sizeOf9
 v9 := Tryz.zeroValue9
 t20 := Tryz.underlying20
 a20 := Tryz.isAgg20
 z20 := Tryz.sizeOf20
 v20 := Tryz.zeroValue20
 t37 := Tryz.underlying98
 a37 := Tryz.isAgg98
 z37 := Tryz.sizeOf98
 v37 := Tryz.zeroValue98
 t70 := Tryz.underlying97
 a70 := Tryz.isAgg97
 z70 := Tryz.sizeOf97
 v70 := Tryz.zeroValue97
 t72 := Tryz.underlying100
 a72 := Tryz.isAgg100
 z72 := Tryz.sizeOf100
 v72 := Tryz.zeroValue100
 t75 := Tryz.underlying102
 a75 := Tryz.isAgg102
 z75 := Tryz.sizeOf102
 v75 := Tryz.zeroValue102
 t164 := Tryz.underlying142
 a164 := Tryz.isAgg142
 z164 := Tryz.sizeOf142
 v164 := Tryz.zeroValue142
}
theorem Tryz.Builder_Extra_Bk : Builder.Extra Tryz.prog Tryz.laysBk_ren where
 sizeBuilder := by kernel_rfl
 liesBuilder := by kernel_rfl
 t5 := Tryz.underlying5
 a5 := Tryz.isAgg5
 z5 := Tryz.sizeOf5
 v5 := Tryz.zeroValue5
 infoByte := by kernel_rfl
 cellsByte := by kernel_rfl
 sizeByte := by kernel_rfl
 neB5 := by decide
open Go.RowKit in
theorem Tryz.bldByte (B b : Nat) (bs : List Value) (c : Int) (w : World) (h : Lib.IsBuilderF 100 5 B b bs w) (hlen : bs.length + 1 ≤ 140737488355328) (hBw : B ≤ w.heap.size) :
 Calls Tryz.prog 54 #[.pointer (some ⟨b, 0, none⟩), .int .u8 c] w fun e w' => e = .returned .nilIface ∧ (Lib.BuilderAtF 100 5 B b (.pointer (some ⟨b, 0, none⟩)) (bs ++ [.int .u8 c]) w' ∧ Below B w w' ∧ Lib.OthersKept 5 (some b) w w') := Any.Builder_WriteByte_k Tryz.laysBk167 Tryz.Builder_Extra_Bk B b bs c w h hlen hBw
open Go.RowKit in
theorem Tryz.bldString (B b : Nat) (bs : List Value) (s : ByteArray) (w : World) (h : Lib.IsBuilderF 100 5 B b bs w) (hlen : bs.length + s.size ≤ 140737488355328) (hBw : B ≤ w.heap.size) :
 Calls Tryz.prog 50 #[.pointer (some ⟨b, 0, none⟩), .string s] w fun e w' => e = .returned (.tuple #[.int .i64 s.size, .nilIface]) ∧ (Lib.BuilderAtF 100 5 B b (.pointer (some ⟨b, 0, none⟩)) (bs ++ Lib.strCells s) w' ∧ Below B w w' ∧ Lib.OthersKept 5 (some b) w w') := Any.Builder_WriteString_k Tryz.laysBk166 Tryz.Builder_Extra_Bk B b bs s w h hlen hBw
end Go.Proofs
namespace Go.Proofs.YtlmpiobdgkmmgaaGreatDoor
open Go.RowKit Go.Lib
theorem varC_kept {P : Program} {w w' : World} {n : String} {cs : Array Value} (hb : Below w.heap.size w w') (h : w.var? P n = some cs) : w'.var? P n = some cs := by
 unfold World.var? at h ⊢
 cases hg : P.globalNamed n with
 | none => rw [hg] at h; exact h
 | some g =>
  rw [hg] at h
  simp only [Option.bind_some] at h ⊢
  have hlt : g < w.heap.size := by
   rcases Nat.lt_or_ge g w.heap.size with q | q
   ·exact q
   ·rw [Array.getElem?_eq_none q] at h; cases h
  rw [hb.block g hlt]
  exact h
def NumW (w : World) (n : Int) : Prop := (0 ≤ n ∧ n < 100) ∨ (Lib.TabIs Tryz.prog w "internal/strconv.uint64pow10" .u64 Lib.pow10Tab ∧ -9223372036854775808 ≤ n ∧ n ≤ 9223372036854775807)
theorem NumW.kept {w w' : World} {n : Int} (h : NumW w n) (hb : Below w.heap.size w w') : NumW w' n := h.imp id fun q => ⟨varC_kept hb q.1, q.2⟩
theorem grow_below (w : World) (k : Nat) (os : Array Obj) : Below w.heap.size w (Sort.grow (w.drewN k) os) := by
 refine ⟨rfl, rfl, rfl, by simp [Sort.grow], fun j hj => ?_⟩
 show (w.heap ++ os)[j]? = _
 rw [Array.getElem?_append_left hj]
theorem itoa_small (n : Int) (h : 0 ≤ n) : itoa n = decDigits n.toNat := by unfold itoa; rw [if_neg (by omega)]
theorem itoaC_any (n : Int) (w : World) (h : NumW w n) : Calls Tryz.prog 53 #[.int .i64 n] w fun e w' => e = .returned (.string ⟨(itoa n).toArray⟩) ∧ Below w.heap.size w w' := by
 rcases h with ⟨h0, h1⟩ | ⟨ht, h0, h1⟩
 ·obtain ⟨k, rfl⟩ : ∃ k : Nat, n = (k : Int) := ⟨n.toNat, by omega⟩
  refine (Tryz.strconv_Itoa_small k (by omega) w).mono ?_
  rintro e w' ⟨rfl, rfl⟩
  exact ⟨by rw [itoa_small _ h0, Int.toNat_natCast], Below.refl _ _⟩
 ·refine (Tryz.strconv_Itoa n h0 h1 w ht).mono ?_
  rintro e w' ⟨rfl, k, os, rfl⟩
  exact ⟨rfl, grow_below w k os⟩
theorem fmtC_any (n : Int) (w : World) (h : NumW w n) : Calls Tryz.prog 96 #[.int .i64 n, .int .i64 10] w fun e w' => e = .returned (.string ⟨(itoa n).toArray⟩) ∧ Below w.heap.size w w' := by
 rcases h with ⟨h0, h1⟩ | ⟨ht, h0, h1⟩
 ·obtain ⟨k, rfl⟩ : ∃ k : Nat, n = (k : Int) := ⟨n.toNat, by omega⟩
  refine (Tryz.strconv_FormatInt_10_small k (by omega) w).mono ?_
  rintro e w' ⟨rfl, rfl⟩
  exact ⟨by rw [itoa_small _ h0, Int.toNat_natCast], Below.refl _ _⟩
 ·refine (Tryz.strconv_FormatInt_10 n h0 h1 w ht).mono ?_
  rintro e w' ⟨rfl, k, os, rfl⟩
  exact ⟨rfl, grow_below w k os⟩
def hexD (k : Nat) : UInt8 := [48, 49, 50, 51, 52, 53, 54, 55, 56, 57, 97, 98, 99, 100, 101, 102].getD k 0
def chrL (c : UInt8) : List UInt8 := if c = 34 ∨ c = 92 then [92, c] else if 32 ≤ c.toNat ∧ c.toNat ≤ 126 then [c] else [92, 120, hexD (c.toNat / 16), hexD (c.toNat % 16)]
def quotedL (l : List UInt8) : List UInt8 := 34 :: (l.flatMap chrL ++ [34])
def Bd (nb : Nat) (bs : List UInt8) (w : World) : Prop := Lib.IsBuilderF 100 5 nb nb (byteCells bs) w
theorem byteC_app (a b : List UInt8) : byteCells (a ++ b) = byteCells a ++ byteCells b := by simp [byteCells]
theorem byteC_len (a : List UInt8) : (byteCells a).length = a.length := by simp [byteCells]
theorem bdB_any (nb : Nat) (bs : List UInt8) (c : UInt8) (w : World) (h : Bd nb bs w) (hl : bs.length ≤ 100000000000) (hn : nb ≤ w.heap.size) :
 Calls Tryz.prog 54 #[.pointer (some ⟨nb, 0, none⟩), .int .u8 (c.toNat : Int)] w fun e w' => e = .returned .nilIface ∧ Bd nb (bs ++ [c]) w' ∧ Below nb w w' ∧ Lib.OthersKept 5 (some nb) w w' := by
 refine (Tryz.bldByte nb nb (byteCells bs) (c.toNat : Int) w h (by rw [byteC_len]; omega) hn).mono ?_
 rintro e w' ⟨rfl, h1, h2, h3⟩
 refine ⟨rfl, ?_, h2, h3⟩
 unfold Bd
 rw [byteC_app]
 exact .inr h1
theorem bdK_any (nb : Nat) (bs : List UInt8) (c : UInt8) (k : Int) (w : World) (hk : (c.toNat : Int) = k) (h : Bd nb bs w) (hl : bs.length ≤ 100000000000) (hn : nb ≤ w.heap.size) :
 Calls Tryz.prog 54 #[.pointer (some ⟨nb, 0, none⟩), .int .u8 k] w fun e w' => e = .returned .nilIface ∧ Bd nb (bs ++ [c]) w' ∧ Below nb w w' ∧ Lib.OthersKept 5 (some nb) w w' := by
 subst hk
 exact bdB_any nb bs c w h hl hn
theorem chrL_len (c : UInt8) : (chrL c).length ≤ 4 := by
 unfold chrL
 split
 ·simp
 ·split <;> simp
theorem quoted_len (l : List UInt8) : (l.flatMap chrL).length ≤ 4 * l.length := by
 induction l with
 | nil => simp
 | cons c r ih =>
  have := chrL_len c
  rw [List.flatMap_cons, List.length_append, List.length_cons]
  omega
theorem hexT_at (m : Nat) (h : m < 16) (h2 : m < (⟨#[48, 49, 50, 51, 52, 53, 54, 55, 56, 57, 97, 98, 99, 100, 101, 102]⟩ : ByteArray).size) : (⟨#[48, 49, 50, 51, 52, 53, 54, 55, 56, 57, 97, 98, 99, 100, 101, 102]⟩ : ByteArray)[m]'h2 = hexD m := by
 obtain rfl | rfl | rfl | rfl | rfl | rfl | rfl | rfl | rfl | rfl | rfl | rfl | rfl | rfl | rfl | rfl : m = 0 ∨ m = 1 ∨ m = 2 ∨ m = 3 ∨ m = 4 ∨ m = 5 ∨ m = 6 ∨ m = 7 ∨ m = 8 ∨ m = 9 ∨ m = 10 ∨ m = 11 ∨ m = 12 ∨ m = 13 ∨ m = 14 ∨ m = 15 := by omega
 all_goals rfl
theorem bdS_any (nb : Nat) (bs s : List UInt8) (w : World) (h : Bd nb bs w) (hl : bs.length + s.length ≤ 100000000000) (hn : nb ≤ w.heap.size) :
 Calls Tryz.prog 50 #[.pointer (some ⟨nb, 0, none⟩), .string ⟨s.toArray⟩] w fun e w' => (∃ v, e = .returned (.tuple #[.int .i64 v, .nilIface])) ∧ Bd nb (bs ++ s) w' ∧ Below nb w w' ∧ Lib.OthersKept 5 (some nb) w w' := by
 refine (Tryz.bldString nb nb (byteCells bs) ⟨s.toArray⟩ w h (by rw [byteC_len]; show bs.length + s.toArray.size ≤ _; rw [List.size_toArray]; omega) hn).mono ?_
 rintro e w' ⟨rfl, h1, h2, h3⟩
 refine ⟨⟨_, rfl⟩, ?_, h2, h3⟩
 unfold Bd
 rw [byteC_app]
 exact .inr h1
theorem Bd.fresh (w : World) : Bd w.heap.size [] (w.alloc (.cells #[.pointer none, .slice none 0 0] 100)) := Lib.IsBuilderF.of (Lib.fresh_isBuilder 100 5 w)
theorem quoted_any (l : List UInt8) (W : World) (hl : l.length ≤ 1000000000) : Calls Tryz.prog 97 #[.string ⟨l.toArray⟩] W fun e w' => e = .returned (.string ⟨(quotedL l).toArray⟩) ∧ Below W.heap.size W w' := by
 obtain ⟨n, hn⟩ : ∃ n, l.length = n := ⟨_, rfl⟩
 have HN := Lib.hid hn
 rw [hn] at hl
 have hsz : (⟨l.toArray⟩ : ByteArray).size = n := by show l.toArray.size = n; rw [List.size_toArray, hn]
 have HB0 := Lib.hid (Bd.fresh W)
 have B0 := Lib.hid (ext_alloc (Below.refl W.heap.size W) (.cells #[.pointer none, .slice none 0 0] 100))
 clear hn
 go_enter Tryz.func97, Tryz.ntmps97
 go_upto_region 2 with (fail)
 have hz0 : W.heap.size < (W.alloc (.cells #[.pointer none, .slice none 0 0] 100)).heap.size := by simp
 generalize W.alloc (.cells #[.pointer none, .slice none 0 0] 100) = w0 at HB0 B0 hz0 ⊢
 go_wp2_with fail
 refine (bdB_any W.heap.size [] 34 w0 HB0.out (by simp) (by omega)).mono ?_
 rintro e w1 ⟨rfl, h1, b1, -⟩
 have HB1 : Hid (Bd W.heap.size (34 :: (l.take 0).flatMap chrL) w1) := Lib.hid h1
 have B1 := Lib.hid (B0.out.trans b1)
 clear h1 b1 HB0 hz0
 go_wp2_with fail
 go_loopw [4] (fun iv wr => ∃ j : Nat, iv = .int .i64 (j : Int) ∧ j ≤ n ∧ Hid (Bd W.heap.size (34 :: (l.take j).flatMap chrL) wr) ∧ Hid (Below W.heap.size W wr)) (fun iv _ => n - (RowKit.intOf iv).toNat)
 case atStart => exact ⟨0, rfl, Nat.zero_le _, HB1, B1⟩
 case round =>
  clear HB1 B1
  obtain ⟨j, rfl, hj, HB, HW⟩ := hrel
  by_cases hjl : j < n
  ·obtain ⟨c, hc⟩ : ∃ c, l[j]? = some c := ⟨_, List.getElem?_eq_getElem (by have := HN.out; omega)⟩
   have hjs : j < (⟨l.toArray⟩ : ByteArray).size := by omega
   have hx : (⟨l.toArray⟩ : ByteArray)[j]'hjs = c := by
    obtain ⟨h1, e⟩ := List.getElem?_eq_some_iff.1 hc
    rw [← e]; rfl
   have HT : Hid ((l.take (j + 1)).flatMap chrL = (l.take j).flatMap chrL ++ chrL c) := Lib.hid (by rw [List.take_add_one, hc]; simp)
   have HLB : Hid ((34 :: (l.take j).flatMap chrL).length ≤ 10000000000) := Lib.hid (by
    have := quoted_len (l.take j)
    have h2 : (l.take j).length ≤ n := by rw [List.length_take]; omega
    simp only [List.length_cons]
    omega)
   obtain ⟨k, hk⟩ : ∃ k : Nat, c.toNat = k := ⟨_, rfl⟩
   have hk2 : k < 256 := by rw [← hk]; exact c.toNat_lt
   have HK := Lib.hid hk
   go_upto_region 10 with (fail)
   obtain ⟨bs, hbs⟩ : ∃ bs, 34 :: (l.take j).flatMap chrL = bs := ⟨_, rfl⟩
   rw [hbs] at HB HLB
   have HBS := Lib.hid hbs
   clear hx hk hc hjs hbs
   by_cases q : k = 34 ∨ k = 92
   ·have HCH : Hid (chrL c = [92, c]) := Lib.hid (by
     unfold chrL
     rw [if_pos]
     rcases q with q | q
     ·left; apply UInt8.toNat_inj.1; rw [HK.out, q]; rfl
     ·right; apply UInt8.toNat_inj.1; rw [HK.out, q]; rfl)
    rcases q with rfl | rfl
    ·go_wp2_with fail
     refine (bdK_any W.heap.size bs 92 92 wr (by rfl) HB.out (by have := HLB.out; simp; omega) HW.out.size).mono ?_
     rintro e wy ⟨rfl, h1, b1, -⟩
     have HB := Lib.hid h1
     have HW := Lib.hid (HW.out.trans b1)
     clear h1 b1
     go_wp2_with fail
     refine (bdK_any W.heap.size (bs ++ [92]) c 34 wy (by rw [HK.out]; rfl) HB.out (by have := HLB.out; simp; omega) HW.out.size).mono ?_
     rintro e wz ⟨rfl, h1, b1, -⟩
     have HB := Lib.hid h1
     have HW := Lib.hid (HW.out.trans b1)
     clear h1 b1
     have HB : Hid (Bd W.heap.size (34 :: (l.take (j + 1)).flatMap chrL) wz) := Lib.hid (by
      rw [HT.out, HCH.out, ← List.cons_append, HBS.out]
      have := HB.out
      rw [List.append_assoc] at this
      exact this)
     clear HT HCH HBS HLB HK
     go_wp2
     exact ⟨⟨j + 1, by go_num, by omega, HB, HW⟩, by simp [RowKit.intOf]; omega⟩
    ·go_wp2_with fail
     refine (bdK_any W.heap.size bs 92 92 wr (by rfl) HB.out (by have := HLB.out; simp; omega) HW.out.size).mono ?_
     rintro e wy ⟨rfl, h1, b1, -⟩
     have HB := Lib.hid h1
     have HW := Lib.hid (HW.out.trans b1)
     clear h1 b1
     go_wp2_with fail
     refine (bdK_any W.heap.size (bs ++ [92]) c 92 wy (by rw [HK.out]; rfl) HB.out (by have := HLB.out; simp; omega) HW.out.size).mono ?_
     rintro e wz ⟨rfl, h1, b1, -⟩
     have HB := Lib.hid h1
     have HW := Lib.hid (HW.out.trans b1)
     clear h1 b1
     have HB : Hid (Bd W.heap.size (34 :: (l.take (j + 1)).flatMap chrL) wz) := Lib.hid (by
      rw [HT.out, HCH.out, ← List.cons_append, HBS.out]
      have := HB.out
      rw [List.append_assoc] at this
      exact this)
     clear HT HCH HBS HLB HK
     go_wp2
     exact ⟨⟨j + 1, by go_num, by omega, HB, HW⟩, by simp [RowKit.intOf]; omega⟩
   ·have q1d : decide ((k : Int) = 34) = false := decide_eq_false (by omega)
    have q2d : decide ((k : Int) = 92) = false := decide_eq_false (by omega)
    have q1b : ((k : Int) == 34) = false := by simpa using (by omega : ¬ (k : Int) = 34)
    have q2b : ((k : Int) == 92) = false := by simpa using (by omega : ¬ (k : Int) = 92)
    have hc1 : ¬ (c = 34 ∨ c = 92) := fun h => by
     rcases h with h | h
     ·exact q (.inl (by rw [← HK.out, h]; rfl))
     ·exact q (.inr (by rw [← HK.out, h]; rfl))
    by_cases q3 : 32 ≤ k ∧ k ≤ 126
    ·have HCH : Hid (chrL c = [c]) := Lib.hid (by
      unfold chrL
      rw [if_neg hc1, if_pos (by rw [HK.out]; exact q3)])
     obtain ⟨q4, q5⟩ := q3
     clear hc1 q
     go_wp2_with fail
     refine (bdK_any W.heap.size bs c k wr (by rw [HK.out]) HB.out (by have := HLB.out; simp; omega) HW.out.size).mono ?_
     rintro e wz ⟨rfl, h1, b1, -⟩
     have HB := Lib.hid h1
     have HW := Lib.hid (HW.out.trans b1)
     clear h1 b1
     have HB : Hid (Bd W.heap.size (34 :: (l.take (j + 1)).flatMap chrL) wz) := Lib.hid (by
      rw [HT.out, HCH.out, ← List.cons_append, HBS.out]
      have := HB.out
      skip
      exact this)
     clear HT HCH HBS HLB HK
     go_wp2
     exact ⟨⟨j + 1, by go_num, by omega, HB, HW⟩, by simp [RowKit.intOf]; omega⟩
    ·have HCH : Hid (chrL c = [92, 120, hexD (k / 16), hexD (k % 16)]) := Lib.hid (by
      unfold chrL
      rw [if_neg hc1, if_neg (by rw [HK.out]; exact q3), HK.out])
     clear hc1 q
     by_cases q4 : 32 ≤ k
     ·have q5 : 126 < k := by omega
      clear q3
      go_wp2_with fail
      refine (bdS_any W.heap.size bs [92, 120] wr HB.out (by have := HLB.out; simp; omega) HW.out.size).mono ?_
      rintro e wx ⟨⟨vx, rfl⟩, h1, b1, -⟩
      have HB := Lib.hid h1
      have HW := Lib.hid (HW.out.trans b1)
      clear h1 b1
      go_wp2_with fail
      refine (bdK_any W.heap.size (bs ++ [92, 120]) (hexD (k / 16)) _ wx (by rw [hexT_at _ (by omega)]) HB.out (by have := HLB.out; simp; omega) HW.out.size).mono ?_
      rintro e wy ⟨rfl, h1, b1, -⟩
      have HB := Lib.hid h1
      have HW := Lib.hid (HW.out.trans b1)
      clear h1 b1
      go_wp2_with fail
      refine (bdK_any W.heap.size (bs ++ [92, 120] ++ [hexD (k / 16)]) (hexD (k % 16)) _ wy (by rw [hexT_at _ (by omega)]) HB.out (by have := HLB.out; simp; omega) HW.out.size).mono ?_
      rintro e wz ⟨rfl, h1, b1, -⟩
      have HB := Lib.hid h1
      have HW := Lib.hid (HW.out.trans b1)
      clear h1 b1
      have HB : Hid (Bd W.heap.size (34 :: (l.take (j + 1)).flatMap chrL) wz) := Lib.hid (by
       rw [HT.out, HCH.out, ← List.cons_append, HBS.out]
       have := HB.out
       simp only [List.append_assoc, List.cons_append, List.nil_append] at this
       exact this)
      clear HT HCH HBS HLB HK
      go_wp2
      exact ⟨⟨j + 1, by go_num, by omega, HB, HW⟩, by simp [RowKit.intOf]; omega⟩
     ·clear q3
      go_wp2_with fail
      refine (bdS_any W.heap.size bs [92, 120] wr HB.out (by have := HLB.out; simp; omega) HW.out.size).mono ?_
      rintro e wx ⟨⟨vx, rfl⟩, h1, b1, -⟩
      have HB := Lib.hid h1
      have HW := Lib.hid (HW.out.trans b1)
      clear h1 b1
      go_wp2_with fail
      refine (bdK_any W.heap.size (bs ++ [92, 120]) (hexD (k / 16)) _ wx (by rw [hexT_at _ (by omega)]) HB.out (by have := HLB.out; simp; omega) HW.out.size).mono ?_
      rintro e wy ⟨rfl, h1, b1, -⟩
      have HB := Lib.hid h1
      have HW := Lib.hid (HW.out.trans b1)
      clear h1 b1
      go_wp2_with fail
      refine (bdK_any W.heap.size (bs ++ [92, 120] ++ [hexD (k / 16)]) (hexD (k % 16)) _ wy (by rw [hexT_at _ (by omega)]) HB.out (by have := HLB.out; simp; omega) HW.out.size).mono ?_
      rintro e wz ⟨rfl, h1, b1, -⟩
      have HB := Lib.hid h1
      have HW := Lib.hid (HW.out.trans b1)
      clear h1 b1
      have HB : Hid (Bd W.heap.size (34 :: (l.take (j + 1)).flatMap chrL) wz) := Lib.hid (by
       rw [HT.out, HCH.out, ← List.cons_append, HBS.out]
       have := HB.out
       simp only [List.append_assoc, List.cons_append, List.nil_append] at this
       exact this)
      clear HT HCH HBS HLB HK
      go_wp2
      exact ⟨⟨j + 1, by go_num, by omega, HB, HW⟩, by simp [RowKit.intOf]; omega⟩
  ·have hjn : j = n := by omega
   have HQ : Hid (Bd W.heap.size (34 :: l.flatMap chrL) wr) := Lib.hid (by
    have := HB.out
    rwa [List.take_of_length_le (by have := HN.out; omega)] at this)
   have HLB : Hid ((34 :: l.flatMap chrL).length ≤ 10000000000) := Lib.hid (by
    have := quoted_len l
    have h2 := HN.out
    simp only [List.length_cons]
    omega)
   clear HB hjl hj
   rw [hjn]
   clear hjn
   go_wp2_with fail
   refine (bdB_any W.heap.size _ 34 wr HQ.out (by have := HLB.out; omega) HW.out.size).mono ?_
   rintro e w8 ⟨rfl, h1, b1, -⟩
   have HB8 := Lib.hid h1
   have HW8 := Lib.hid (HW.out.trans b1)
   clear h1 b1
   go_wp2_with fail
   refine (Tryz.Builder_String_any_k W.heap.size W.heap.size _ w8 HB8.out HW8.out.size).mono ?_
   rintro e w9 ⟨rfl, -, b9, -⟩
   go_wp2_with fail
   go_ret
   exact ⟨rfl, HW8.out.trans b9⟩
theorem NumW.len {w : World} {n : Int} (h : NumW w n) : (itoa n).length ≤ 21 := by
 rcases h with ⟨h0, h1⟩ | ⟨-, h0, h1⟩
 ·exact itoa_length_le n (by omega) (by omega)
 ·exact itoa_length_le n h0 h1
def constL (v : PV) : List UInt8 := if v.kind = 1 then [99, 111, 110, 115, 116, 32, 105, 32] ++ itoa v.num else if v.kind = 2 then [99, 111, 110, 115, 116, 32, 98, 32] ++ itoa v.num else if v.kind = 4 then [99, 111, 110, 115, 116, 32, 101, 32] ++ itoa v.num else [99, 111, 110, 115, 116, 32, 116, 32] ++ quotedL v.text
theorem cat_str (a b : List UInt8) : (⟨a.toArray⟩ : ByteArray) ++ ⟨b.toArray⟩ = ⟨(a ++ b).toArray⟩ := by
 apply ByteArray.ext
 simp
theorem constant_any (k n : Int) (t : List UInt8) (W : World) (hN : NumW W n) (ht : t.length ≤ 1000000000) : Calls Tryz.prog 51 #[.agg #[.int .i64 k, .int .i64 n, .string ⟨t.toArray⟩]] W fun e w' => e = .returned (.string ⟨(constL ⟨k, n, t⟩).toArray⟩) ∧ Below W.heap.size W w' := by
 have HNW := Lib.hid (hN.kept (ext_alloc (Below.refl W.heap.size W) (.cells #[.int .i64 k, .int .i64 n, .string ⟨t.toArray⟩] 54)))
 have HC : ∀ r, constL ⟨k, n, t⟩ = r → Hid (constL ⟨k, n, t⟩ = r) := fun r h => Lib.hid h
 have B0 := Lib.hid (ext_alloc (Below.refl W.heap.size W) (.cells #[.int .i64 k, .int .i64 n, .string ⟨t.toArray⟩] 54))
 clear hN
 by_cases k1 : k = 1
 ·subst k1
  have HR := HC ([99, 111, 110, 115, 116, 32, 105, 32] ++ itoa n) (by simp [constL])
  clear HC
  go_enter Tryz.func51, Tryz.ntmps51
  have hln := HNW.out.len
  go_wp2_with fail
  refine (fmtC_any n _ HNW.out).mono ?_
  rintro e w1 ⟨rfl, b1⟩
  obtain ⟨zb, cb⟩ := kept_block b1
  have cb0 := cb 0
  have cb2 := cb 2
  simp only [List.getElem?_toArray, List.getElem?_cons_zero, List.getElem?_cons_succ] at cb0 cb2
  have B1 := Lib.hid (ext_trans B0.out b1)
  clear cb b1
  go_wp2
  all_goals first
   | (exfalso; omega)
   | (go_ret; exact ⟨by rw [HR.out, ← cat_str]; rfl, B1.out⟩)
 by_cases k2 : k = 2
 ·subst k2
  have HR := HC ([99, 111, 110, 115, 116, 32, 98, 32] ++ itoa n) (by simp [constL])
  clear HC
  go_enter Tryz.func51, Tryz.ntmps51
  have hln := HNW.out.len
  go_wp2_with fail
  refine (fmtC_any n _ HNW.out).mono ?_
  rintro e w1 ⟨rfl, b1⟩
  obtain ⟨zb, cb⟩ := kept_block b1
  have cb0 := cb 0
  have cb2 := cb 2
  simp only [List.getElem?_toArray, List.getElem?_cons_zero, List.getElem?_cons_succ] at cb0 cb2
  have B1 := Lib.hid (ext_trans B0.out b1)
  clear cb b1
  go_wp2
  all_goals first
   | (exfalso; omega)
   | (go_ret; exact ⟨by rw [HR.out, ← cat_str]; rfl, B1.out⟩)
 by_cases k4 : k = 4
 ·subst k4
  have HR := HC ([99, 111, 110, 115, 116, 32, 101, 32] ++ itoa n) (by simp [constL])
  clear HC
  go_enter Tryz.func51, Tryz.ntmps51
  have hln := HNW.out.len
  go_wp2_with fail
  refine (fmtC_any n _ HNW.out).mono ?_
  rintro e w1 ⟨rfl, b1⟩
  obtain ⟨zb, cb⟩ := kept_block b1
  have cb0 := cb 0
  have cb2 := cb 2
  simp only [List.getElem?_toArray, List.getElem?_cons_zero, List.getElem?_cons_succ] at cb0 cb2
  have B1 := Lib.hid (ext_trans B0.out b1)
  clear cb b1
  go_wp2
  all_goals first
   | (exfalso; omega)
   | (go_ret; exact ⟨by rw [HR.out, ← cat_str]; rfl, B1.out⟩)
 have hlq : (quotedL t).length ≤ 10000000000 := by
  have := quoted_len t
  unfold quotedL
  simp only [List.length_cons, List.length_append, List.length_nil]
  omega
 have HR := HC ([99, 111, 110, 115, 116, 32, 116, 32] ++ quotedL t) (by unfold constL; simp only; rw [if_neg k1, if_neg k2, if_neg k4])
 clear HC
 go_enter Tryz.func51, Tryz.ntmps51
 have hln := HNW.out.len
 go_wp2_with fail
 refine (fmtC_any n _ HNW.out).mono ?_
 rintro e w1 ⟨rfl, b1⟩
 obtain ⟨zb, cb⟩ := kept_block b1
 have cb0 := cb 0
 have cb2 := cb 2
 simp only [List.getElem?_toArray, List.getElem?_cons_zero, List.getElem?_cons_succ] at cb0 cb2
 have B1 := Lib.hid (ext_trans B0.out b1)
 clear cb b1
 go_wp2_with fail
 refine (quoted_any t _ ht).mono ?_
 rintro e w2 ⟨rfl, b2⟩
 go_wp2
 all_goals first
  | (exfalso; omega)
  | (go_ret; exact ⟨by rw [HR.out, ← cat_str]; rfl, ext_trans B1.out b2⟩)
end Go.Proofs.YtlmpiobdgkmmgaaGreatDoor
namespace Go.Proofs.YtlmpiobdgkmmgaaGreatDoor
open Go.RowKit Go.Lib
def nameL (o : Int) : List UInt8 := [[], [99, 111, 110, 115, 116], [102, 101, 116, 99, 104], [97, 114, 101, 97], [117, 110], [98, 105, 110], [99, 97, 108, 108], [101, 114, 114], [105, 102], [111, 107], [99, 104, 111, 111, 115, 101], [109, 97, 116, 99, 104], [100, 114, 111, 112], [106, 117, 109, 112], [104, 101, 114, 101], [112, 108, 97, 99, 101], [111, 110, 101], [105, 110, 100, 105, 114, 101, 99, 116], [111, 102, 102, 115, 101, 116], [105, 110, 100, 101, 120], [119, 97, 108, 107]].getD o.toNat []
theorem nameL_len (o : Int) : (nameL o).length ≤ 8 := by
 unfold nameL
 by_cases h : o.toNat < 21
 ·have : ∀ q : Fin 21, (([[], [99, 111, 110, 115, 116], [102, 101, 116, 99, 104], [97, 114, 101, 97], [117, 110], [98, 105, 110], [99, 97, 108, 108], [101, 114, 114], [105, 102], [111, 107], [99, 104, 111, 111, 115, 101], [109, 97, 116, 99, 104], [100, 114, 111, 112], [106, 117, 109, 112], [104, 101, 114, 101], [112, 108, 97, 99, 101], [111, 110, 101], [105, 110, 100, 105, 114, 101, 99, 116], [111, 102, 102, 115, 101, 116], [105, 110, 100, 101, 120], [119, 97, 108, 107]] : List (List UInt8)).getD q.val []).length ≤ 8 := by decide
  exact this ⟨o.toNat, h⟩
 ·rw [List.getD_eq_getElem?_getD, List.getElem?_eq_none (Nat.le_of_not_lt h)]; simp
def numsI (p : PI) : List Int := [p.a, p.b, p.c, p.d].take (usesI p.op) ++ p.t
def numL (n : Int) : List UInt8 := 32 :: itoa n
def insL (p : PI) : List UInt8 := [100, 111, 46] ++ nameL p.op ++ (numsI p).flatMap numL ++ [10]
def consL (cs : List PV) : List UInt8 := cs.flatMap fun v => constL v ++ [10]
def codeTxt8 (ps : List PI) (cs : List PV) : List UInt8 := consL cs ++ ps.flatMap insL
def textC (ps : List PI) (cs : List PV) : List UInt8 × Int := if mayC ps cs ≠ 0 then ([], mayC ps cs) else if 1048576 < (codeTxt8 ps cs).length then ([], 2) else (codeTxt8 ps cs, 0)
theorem CodeA.kept {W W' : World} {b : Nat} {vI vC : Value} {ps : List PI} {cs : List PV} (h : CodeA W b vI vC ps cs) (k : Below b W W') : CodeA W' b vI vC ps cs := by
 obtain ⟨a, cap, e, r⟩ := h.iI
 refine ⟨⟨a, cap, e, fun h0 => ?_⟩, h.cC.kept fun g hg => k.block g hg, h.wf, h.nI, h.nC, h.long⟩
 obtain ⟨g, off, e1, q⟩ := r h0
 exact ⟨g, off, e1, fun i p hp => by
  obtain ⟨tv, ip⟩ := q i p hp
  exact ⟨tv, ip.kept fun g hg => k.block g hg⟩⟩
theorem may_not {ps : List PI} {cs : List PV} (h : mayC ps cs = 0) : ¬ LongC ps cs ∧ ConOk cs ∧ FormOk ps cs := by
 have h1 : ¬ LongC ps cs := fun q => by rw [mayC_long q] at h; cases h
 have h2 : ConOk cs := fun i c hi => by
  by_cases q : okV c = false ∨ c.kind = 0
  ·rw [mayC_con h1 hi q] at h; cases h
  ·refine ⟨?_, fun e => q (.inr e)⟩
   cases hq : okV c
   ·exact absurd (.inl hq) q
   ·rfl
 refine ⟨h1, h2, fun i p hi => ?_⟩
 cases hq : formedI cs p (i : Int) (ps.length : Int)
 ·rw [mayC_form h1 h2 hi hq] at h; cases h
 ·rfl
theorem may_out {ps : List PI} {cs : List PV} (h : mayC ps cs = 0) : ps.length ≤ 8192 ∧ cs.length ≤ 1024 ∧ longS ps ≤ 8192 := by
 have := (may_not h).1
 unfold LongC at this
 omega
theorem may_out2 {ps : List PI} {cs : List PV} (h : mayC ps cs = 0) : (∀ (i : Nat) (c : PV), cs[i]? = some c → c.text.length ≤ 32767) ∧ ∀ (i : Nat) (p : PI), ps[i]? = some p → 1 ≤ p.op ∧ p.op ≤ 20 := by
 obtain ⟨h1, h2, h3⟩ := may_not h
 refine ⟨fun i c hi => ?_, fun i p hi => (formed_out (h3 i p hi)).1⟩
 have := (h2 i c hi).1
 unfold okV at this
 split at this
 ·simp at this; simp [this.2]
 ·split at this
  ·simp at this; simp [this]
  ·split at this
   ·simp at this; simp [this.2]
   ·split at this
    ·simp at this; omega
    ·split at this
     ·simp at this; simp [this.2]
     ·cases this
theorem Bd.below {nb : Nat} {bs : List UInt8} {w w' : World} (h : Bd nb bs w) (b : Below w.heap.size w w') : Bd nb bs w' := by
 have hg : w.grownBy w' none := ⟨b.os, b.tape, b.output, b.size, fun k hk _ => b.block k hk⟩
 have key : ∀ p, Lib.BuilderAtF 100 5 nb nb p (byteCells bs) w → Lib.BuilderAtF 100 5 nb nb p (byteCells bs) w' := fun p q => by
  obtain ⟨h1, v, h2, h3, h4⟩ := q
  refine ⟨h1, v, (b.block _ (lt_of_block h2)).trans h2, World.ownsRowF.kept h3 hg ?_, h4⟩
  cases hv : v.ownBlock
  ·exact .inl rfl
  ·exact .inr (by simp)
 exact Or.imp (key _) (key _) h
theorem constL_len {k n : Int} {t : List UInt8} {w : World} (h : NumW w n) (ht : t.length ≤ 32767) : (constL ⟨k, n, t⟩).length ≤ 200000 := by
 have h1 := h.len
 have h2 := quoted_len t
 unfold constL quotedL
 simp only
 split
 ·simp only [List.length_append, List.length_cons, List.length_nil]; omega
 ·split
  ·simp only [List.length_append, List.length_cons, List.length_nil]; omega
  ·split
   ·simp only [List.length_append, List.length_cons, List.length_nil]; omega
   ·simp only [List.length_append, List.length_cons, List.length_nil]; omega
theorem consL_step {cs : List PV} {j : Nat} {c : PV} (h : cs[j]? = some c) : consL (cs.take (j + 1)) = consL (cs.take j) ++ (constL c ++ [10]) := by
 unfold consL
 rw [List.take_add_one, h]
 simp
theorem consL_le (cs : List PV) (j : Nat) : (consL (cs.take j)).length ≤ (consL cs).length := by
 have : consL cs = consL (cs.take j) ++ consL (cs.drop j) := by
  unfold consL
  rw [← List.flatMap_append, List.take_append_drop]
 rw [this, List.length_append]
 omega
theorem bd_grown {nb gi : Nat} {bs : List UInt8} {w w' : World} {c : Array Value} {fz : Nat × Nat} (h : Bd nb bs w) (g : w.grownBy w' (some gi)) (hgi : w.heap[gi]? = some (.cells c 3 fz)) : Bd nb bs w' := by
 have key : ∀ p, Lib.BuilderAtF 100 5 nb nb p (byteCells bs) w → Lib.BuilderAtF 100 5 nb nb p (byteCells bs) w' := fun p q => by
  obtain ⟨h1, v, h2, h3, h4⟩ := q
  have n1 : nb ≠ gi := fun e => by rw [e, hgi] at h2; injection h2 with h2; injection h2 with _ h5; exact absurd h5 (by decide)
  refine ⟨h1, v, (g.block _ (lt_of_block h2) (fun e => n1 (Option.some.inj e))).trans h2, World.ownsRowF.kept h3 g ?_, h4⟩
  cases hv : v.ownBlock with
  | none => exact .inl rfl
  | some k =>
   refine .inr fun e => ?_
   obtain ⟨c2, fz2, h6⟩ := Lib.ownsRowF_kind h3 k hv
   have : k = gi := Option.some.inj e
   rw [this, hgi] at h6
   injection h6 with h6
   injection h6 with _ h7
   exact absurd h7 (by decide)
 exact Or.imp (key _) (key _) h
theorem own_others {nb n : Nat} {bs : List UInt8} {v : Value} {xs : List Value} {w w' : World} (h : w.ownsRow nb 3 1 v n xs) (hb : Bd nb bs w) (o : Lib.OthersKept 5 (some nb) w w') : w'.ownsRow nb 3 1 v n xs := by
 rcases h.2 with ⟨e1, h0⟩ | ⟨g, cap, cur, e1, hbg, hg, r⟩
 ·exact ⟨h.1, .inl ⟨e1, h0⟩⟩
 ·refine ⟨h.1, .inr ⟨g, cap, cur, e1, hbg, o _ _ hg (fun e => ?_) (fun c fz e => ?_), r⟩⟩
  ·have e2 : g = nb := Option.some.inj e
   subst e2
   have key : ∀ p, Lib.BuilderAtF 100 5 g g p (byteCells bs) w → False := fun p q => by
    obtain ⟨-, v9, h2, -, -⟩ := q
    rw [hg] at h2
    injection h2 with h2
    injection h2 with _ h5
    exact absurd h5 (by decide)
   exact Or.elim hb (key _) (key _)
  ·injection e with _ h2
   exact absurd h2 (by decide)
theorem nums_len : ∀ l : List Int, (∀ n ∈ l, (itoa n).length ≤ 21) → (l.flatMap numL).length ≤ 22 * l.length
 | [], _ => by simp
 | n :: r, hl => by
  have h1 := hl n (by simp)
  have h2 := nums_len r (fun m hm => hl m (by simp [hm]))
  rw [List.flatMap_cons, List.length_append, List.length_cons]
  unfold numL at h2 ⊢
  rw [List.length_cons]
  omega
theorem insL_len {p : PI} (h : ∀ n ∈ numsI p, (itoa n).length ≤ 21) : (insL p).length ≤ 120 + 22 * p.t.length := by
 have key : ∀ l : List Int, (∀ n ∈ l, (itoa n).length ≤ 21) → (l.flatMap numL).length ≤ 22 * l.length := by
  intro l
  induction l with
  | nil => simp
  | cons n r ih =>
   intro hl
   have h1 := hl n (by simp)
   have h2 := ih (fun m hm => hl m (by simp [hm]))
   rw [List.flatMap_cons, List.length_append, List.length_cons]
   unfold numL at h2 ⊢
   rw [List.length_cons]
   omega
 have h1 := key _ h
 have h2 : (numsI p).length ≤ 4 + p.t.length := by
  unfold numsI
  rw [List.length_append, List.length_take]
  simp only [List.length_cons, List.length_nil]
  omega
 have h3 := nameL_len p.op
 unfold insL
 simp only [List.length_append, List.length_cons, List.length_nil]
 omega
theorem insLs_len : ∀ ps : List PI, (∀ p ∈ ps, ∀ n ∈ numsI p, (itoa n).length ≤ 21) → (ps.flatMap insL).length ≤ 120 * ps.length + 22 * longS ps
 | [], _ => by simp
 | p :: r, h => by
  have h1 := insL_len (h p (by simp))
  have h2 := insLs_len r (fun q hq => h q (by simp [hq]))
  rw [List.flatMap_cons, List.length_append, List.length_cons]
  have h3 : longS (p :: r) = p.t.length + longS r := by simp [longS]
  omega
theorem inV_app (a b : List Int) : inV (a ++ b) = inV a ++ inV b := by simp [inV]
theorem uses_le (k : Nat) (h : k ≤ 20) : usesI (k : Int) ≤ 4 := by
 have : ∀ q : Fin 21, usesI (q.val : Int) ≤ 4 := by decide
 exact this ⟨k, by omega⟩
theorem rowV_form (Bc : Nat) (T : Nat → Nat × Nat) (k : Nat) (h1 : 1 ≤ k) (h2 : k ≤ 20) : ∃ gf sf gc sc, rowV Bc T k = .agg #[.string ⟨(nameL (k : Int)).toArray⟩, .int .i64 (usesI (k : Int) : Int), .func (.func gf) #[] gc, .func (.func sf) #[] sc] := by
 obtain rfl | rfl | rfl | rfl | rfl | rfl | rfl | rfl | rfl | rfl | rfl | rfl | rfl | rfl | rfl | rfl | rfl | rfl | rfl | rfl : k = 1 ∨ k = 2 ∨ k = 3 ∨ k = 4 ∨ k = 5 ∨ k = 6 ∨ k = 7 ∨ k = 8 ∨ k = 9 ∨ k = 10 ∨ k = 11 ∨ k = 12 ∨ k = 13 ∨ k = 14 ∨ k = 15 ∨ k = 16 ∨ k = 17 ∨ k = 18 ∨ k = 19 ∨ k = 20 := by omega
 all_goals exact ⟨_, _, _, _, rfl⟩
def NumsW (W : World) (ps : List PI) (cs : List PV) : Prop := (∀ c ∈ cs, NumW W c.num) ∧ ∀ p ∈ ps, ∀ n ∈ numsI p, NumW W n
theorem codeText_any {b : Nat} {vI vC : Value} {ps : List PI} {cs : List PV} (W : World) (h : CodeA W b vI vC ps cs) (hb : b ≤ W.heap.size) (hN : NumsW W ps cs) :
 Calls Tryz.prog 20 #[.agg #[vI, vC]] W fun e w' => e = .returned (.tuple #[.string ⟨(textC ps cs).1.toArray⟩, .int .i64 (textC ps cs).2]) ∧ Below W.heap.size W w' := by
 obtain ⟨ia, ik, rfl, -⟩ := id h.iI
 obtain ⟨ca, ck, rfl, -⟩ := id h.cC
 have HNUM := Lib.hid hN
 have HTX : ∀ r, textC ps cs = r → Hid (textC ps cs = r) := fun r h => Lib.hid h
 have B0 : Below W.heap.size W (W.alloc (.cells #[.slice ia ps.length ik, .slice ca cs.length ck] 27)) := ext_alloc (Below.refl W.heap.size W) _
 have HH0 := Lib.hid (h.kept (B0.mono hb))
 have HK := Lib.hid h
 obtain ⟨ni, hni⟩ : ∃ ni, ps.length = ni := ⟨_, rfl⟩
 obtain ⟨nc, hnc⟩ : ∃ nc, cs.length = nc := ⟨_, rfl⟩
 have hzz : (W.alloc (.cells #[.slice ia ps.length ik, .slice ca cs.length ck] 27)).heap.size = W.heap.size + 1 := by simp
 rw [hni, hnc] at HH0 HK B0 hzz ⊢
 have HNI := Lib.hid hni; have HNC := Lib.hid hnc
 have CB0 : Hid ((W.alloc (.cells #[.slice ia ni ik, .slice ca nc ck] 27)).cell? ⟨W.heap.size, 0, none⟩ = some (.slice ia ni ik)) := Lib.hid (by rw [World.cell?_alloc_at _ _ _ _ rfl]; rfl)
 have CB1 : Hid ((W.alloc (.cells #[.slice ia ni ik, .slice ca nc ck] 27)).cell? ⟨W.heap.size, 1, none⟩ = some (.slice ca nc ck)) := Lib.hid (by rw [World.cell?_alloc_at _ _ _ _ rfl]; rfl)
 have BW0 := Lib.hid B0
 clear h hN hni hnc B0
 go_enter Tryz.func20, Tryz.ntmps20
 go_upto_region 1 with (fail)
 generalize W.alloc (.cells #[.slice ia ni ik, .slice ca nc ck] 27) = w0 at CB0 CB1 BW0 HH0 hzz ⊢
 have cb0 := CB0.out
 have cb1 := CB1.out
 have hz0 : W.heap.size < w0.heap.size := by omega
 have HZ0 := Lib.hid hzz
 clear hzz
 go_wp2_with fail
 refine (codeMay_any w0 HH0.out (by omega)).mono ?_
 rintro e w1 ⟨rfl, b1⟩
 obtain ⟨m, hm⟩ : ∃ m, mayC ps cs = m := ⟨_, rfl⟩
 rw [hm]
 have HM := Lib.hid hm
 clear hm
 by_cases h0 : m = 0
 ·subst h0
  have cb0 := (b1.cell (p := ⟨W.heap.size, 0, none⟩) hz0).trans cb0
  have cb1 := (b1.cell (p := ⟨W.heap.size, 1, none⟩) hz0).trans cb1
  have HH1 := Lib.hid (HH0.out.kept (b1.mono (by omega : b ≤ w0.heap.size)))
  have hz1 : W.heap.size < w1.heap.size := Nat.lt_of_lt_of_le hz0 b1.size
  have BW1 := Lib.hid (BW0.out.trans (b1.mono (Nat.le_of_lt hz0)))
  have hout := may_out HM.out
  rw [HNI.out, HNC.out] at hout
  obtain ⟨hl1, hl2, hl3⟩ := hout
  have HOUT := Lib.hid (may_out2 HM.out)
  clear hz0 b1 HH0
  go_wp2_with fail
  refine (rows_any9 (bc := b) (cs := cs) (.slice ca nc ck) w1 HH1.out.cC).mono ?_
  rintro e w2 ⟨Mx, Bc, T, rfl, hr, b2⟩
  have cb0 := (b2.cell (p := ⟨W.heap.size, 0, none⟩) hz1).trans cb0
  have cb1 := (b2.cell (p := ⟨W.heap.size, 1, none⟩) hz1).trans cb1
  have HR2 := Lib.hid hr
  have HH2 := Lib.hid (HH1.out.kept (b2.mono (by omega : b ≤ w1.heap.size)))
  have BW2 := Lib.hid (BW1.out.trans (b2.mono (Nat.le_of_lt hz1)))
  have hz2 : W.heap.size < w2.heap.size := Nat.lt_of_lt_of_le hz1 b2.size
  have HBD := Lib.hid (Bd.fresh w2)
  have BA : Below w2.heap.size w2 (w2.alloc (.cells #[.pointer none, .slice none 0 0] 100)) := ext_alloc (Below.refl _ _) _
  have BA9 := Lib.hid BA
  clear hr b2 HH1 hz1 BW1
  go_upto_region 6 with (fail)
  have hzn : w2.heap.size < (w2.alloc (.cells #[.pointer none, .slice none 0 0] 100)).heap.size := by simp
  generalize w2.alloc (.cells #[.pointer none, .slice none 0 0] 100) = w3 at HBD BA BA9 hzn ⊢
  obtain ⟨nb, hnb⟩ : ∃ nb, w2.heap.size = nb := ⟨_, rfl⟩
  have cb0 := (BA.cell (p := ⟨W.heap.size, 0, none⟩) hz2).trans cb0
  have cb1 := (BA.cell (p := ⟨W.heap.size, 1, none⟩) hz2).trans cb1
  have CB0 := Lib.hid cb0
  have CB1 := Lib.hid cb1
  have HH3 := Lib.hid (HH2.out.kept (BA.mono (by omega : b ≤ w2.heap.size)))
  have HR3 : Hid (RowsA (fun g => g < nb) w3 Mx Bc T (.slice ca nc ck)) := Lib.hid (by
   rw [← hnb]
   exact (HR2.out.kept (Q' := fun g => g < w2.heap.size) (fun g _ hg => hg) (fun _ _ _ => rfl) (Nat.le_refl _)).kept (fun _ q _ => q) (fun g q _ => BA.block g q) BA.size)
  have BW3 := Lib.hid (BW2.out.trans (BA.mono (Nat.le_of_lt hz2)))
  rw [hnb] at HBD BA9 hzn hz2 ⊢
  have hnW : W.heap.size < nb := hz2
  clear BA hnb HH2 HR2 BA9 BW2
  go_wp2_with fail
  go_loopw [25] (fun iv wr => ∃ j : Nat, iv = .int .i64 (j : Int) ∧ j ≤ nc ∧ Hid (Bd nb (consL (cs.take j)) wr) ∧ Hid ((consL (cs.take j)).length ≤ 1048576) ∧ Hid (Below nb w3 wr)) (fun iv _ => nc - (RowKit.intOf iv).toNat)
  case atStart => exact ⟨0, rfl, Nat.zero_le _, HBD, Lib.hid (by simp [consL]), Lib.hid (Below.refl _ _)⟩
  case round =>
   clear HBD
   obtain ⟨j, rfl, hj, HB, HLE, HW⟩ := hrel
   by_cases hjl : j < nc
   ·obtain ⟨⟨ck9, cn9, ct9⟩, hc⟩ : ∃ c, cs[j]? = some c := ⟨_, List.getElem?_eq_getElem (by have := HNC.out; omega)⟩
    obtain ⟨ca', ck', e1, rc⟩ := (HH3.out.kept (HW.out.mono (by omega : b ≤ nb))).cC
    rw [HNC.out] at e1 rc
    simp only [Value.slice.injEq, true_and] at e1
    obtain ⟨rfl, rfl⟩ := e1
    obtain ⟨G, off, rfl, hG, rc⟩ := rc (by omega)
    obtain ⟨c0, c1, c2⟩ := rc j _ hc
    simp only at c0 c1 c2
    have hzr : w3.heap.size ≤ wr.heap.size := HW.out.size
    have BA : Below wr.heap.size wr (wr.alloc (.cells #[.int .i64 ck9, .int .i64 cn9, .string ⟨ct9.toArray⟩] 54)) := ext_alloc (Below.refl _ _) _
    have BWA := Lib.hid ((BW3.out.trans (HW.out.mono (Nat.le_of_lt hnW))).trans (BA.mono (by have := BW3.out.size; omega)))
    have HNM := Lib.hid ((HNUM.out.1 _ (List.mem_of_getElem? hc)).kept BWA.out)
    have htl := HOUT.out.1 j _ hc
    simp only at htl
    have HBA := Lib.hid (HB.out.below BA)
    have HWA := Lib.hid (HW.out.trans (BA.mono (by omega)))
    have HC := Lib.hid hc
    have hln := constL_len (k := ck9) HNM.out htl
    have BA9 := Lib.hid BA
    clear rc hc BA HB cb0 cb1
    go_wp2_with (refine load_con c0 c1 c2 rfl rfl rfl ?_)
    refine (constant_any ck9 cn9 ct9 _ HNM.out (by omega)).mono ?_
    rintro e w4 ⟨rfl, b4⟩
    have HB4 := Lib.hid (HBA.out.below b4)
    have HW4 := Lib.hid (HWA.out.trans (b4.mono (by have := BA9.out.size; omega)))
    obtain ⟨ln, hlnE⟩ : ∃ ln, constL ⟨ck9, cn9, ct9⟩ = ln := ⟨_, rfl⟩
    rw [hlnE] at hln ⊢
    have HLNE := Lib.hid hlnE
    clear hlnE b4 HBA HWA
    go_wp2_with fail
    all_goals first
     | (exfalso; omega)
     | skip
    rw [show (⟨ln.toArray⟩ : ByteArray) ++ ⟨#[10]⟩ = ⟨(ln ++ [10]).toArray⟩ from cat_str ln [10]]
    refine (bdS_any nb _ (ln ++ [10]) w4 HB4.out (by have := HLE.out; simp; omega) (by have := HW4.out.size; omega)).mono ?_
    rintro e w5 ⟨⟨v5, rfl⟩, hb5, b5, -⟩
    have HT : Hid (consL (cs.take (j + 1)) = consL (cs.take j) ++ (ln ++ [10])) := Lib.hid (by rw [consL_step HC.out, HLNE.out])
    rw [← HT.out] at hb5
    have HB5 := Lib.hid hb5
    have HW5 := Lib.hid (HW4.out.trans b5)
    clear hb5 b5 HB4
    obtain ⟨tot, htot⟩ : ∃ tot, (consL (cs.take (j + 1))).length = tot := ⟨_, rfl⟩
    have HTOT := Lib.hid htot
    have htb : tot ≤ 2000000 := by
     have := HLE.out
     rw [← htot, HT.out, List.length_append, List.length_append]
     simp
     omega
    clear htot
    go_wp2_with fail
    refine (Tryz.Builder_Len_f nb nb _ w5 HB5.out).mono ?_
    rintro e w6 ⟨rfl, rfl⟩
    rw [byteC_len, HTOT.out]
    by_cases h9 : 1048576 < tot
    ·have HR := HTX ([], 2) (by
      unfold textC
      rw [HM.out, if_neg (by simp), if_pos]
      have := consL_le cs (j + 1)
      unfold codeTxt8
      rw [List.length_append]
      have := HTOT.out
      omega)
     clear HTX
     go_wp2
     go_ret2
     exact ⟨by rw [HR.out]; rfl, BW3.out.trans (HW5.out.mono (Nat.le_of_lt hnW))⟩
    ·have HLE2 : Hid ((consL (cs.take (j + 1))).length ≤ 1048576) := Lib.hid (by rw [HTOT.out]; omega)
     clear HLE HT
     go_wp2
     exact ⟨⟨j + 1, by go_num, by omega, HB5, HLE2, HW5⟩, by simp [RowKit.intOf]; omega⟩
   ·have hjn : j = nc := by omega
    have HBC : Hid (Bd nb (consL cs) wr) := Lib.hid (by
     have := HB.out
     rwa [List.take_of_length_le (by have := HNC.out; omega)] at this)
    have HLC : Hid ((consL cs).length ≤ 1048576) := Lib.hid (by
     have := HLE.out
     rwa [List.take_of_length_le (by have := HNC.out; omega)] at this)
    have cb0 := (HW.out.cell (p := ⟨W.heap.size, 0, none⟩) hnW).trans CB0.out
    have hzb : W.heap.size < wr.heap.size := by have := HW.out.size; omega
    rw [hjn]
    clear HB HLE hjl hj hjn
    go_wp2_with fail
    go_loopw [39] (fun iv wx => ∃ i : Nat, iv = .int .i64 (i : Int) ∧ i ≤ ni ∧ Hid (Bd nb (consL cs ++ (ps.take i).flatMap insL) wx) ∧ Hid (Below nb w3 wx)) (fun iv _ => ni - (RowKit.intOf iv).toNat)
    case atStart => exact ⟨0, rfl, Nat.zero_le _, Lib.hid (by simpa using HBC.out), HW⟩
    case round =>
     clear HBC HW
     obtain ⟨i, rfl, hi, HB, HW⟩ := hrel
     have cb0 := (HW.out.cell (p := ⟨W.heap.size, 0, none⟩) hnW).trans CB0.out
     have hzb : W.heap.size < wr.heap.size := by have := HW.out.size; omega
     have HTL : Hid ((consL cs ++ (ps.take i).flatMap insL).length ≤ 3000000) := Lib.hid (by
      rw [List.length_append]
      have h1 := HLC.out
      have h2 := insLs_len (ps.take i) (fun p hp n hn => (HNUM.out.2 p (List.mem_of_mem_take hp) n hn).len)
      have h3 := longS_le ps i
      have h4 : (ps.take i).length ≤ 8192 := by rw [List.length_take]; omega
      omega)
     by_cases hil : i < ni
     ·obtain ⟨p, hp⟩ : ∃ p, ps[i]? = some p := ⟨_, List.getElem?_eq_getElem (by have := HNI.out; omega)⟩
      obtain ⟨ia', ik', e1, ri⟩ := (HH3.out.kept (HW.out.mono (by omega : b ≤ nb))).iI
      rw [HNI.out] at e1 ri
      simp only [Value.slice.injEq, true_and] at e1
      obtain ⟨rfl, rfl⟩ := e1
      obtain ⟨G, off, rfl, ri2⟩ := ri (by omega)
      obtain ⟨tv, ip⟩ := ri2 i p hp
      obtain ⟨ta, tk, rfl, -⟩ := id ip.t
      obtain ⟨hop1, hop2⟩ := HOUT.out.2 i p hp
      obtain ⟨k, hk⟩ : ∃ k : Nat, p.op = (k : Int) := ⟨p.op.toNat, by omega⟩
      obtain ⟨gf, sf, gc, sc, hrow⟩ := rowV_form Bc T k (by omega) (by omega)
      have hrm := (HR3.out.kept (Q' := fun g => g < nb) (W' := wr) (fun _ q _ => q) (fun g q hg => HW.out.block g q) HW.out.size).own
      have hlk := look_row hrm false k (by omega) (by omega)
      rw [hrow] at hlk
      have c0 := ip.c0
      rw [hk] at c0
      have IP := Lib.hid ip
      have HP := Lib.hid hp
      have HKK := Lib.hid hk
      have hu4 : usesI (k : Int) ≤ 4 := uses_le k (by omega)
      have hnl := nameL_len (k : Int)
      obtain ⟨un, hun⟩ : ∃ un, usesI (k : Int) = un := ⟨_, rfl⟩
      obtain ⟨nm, hnm⟩ : ∃ nm, nameL (k : Int) = nm := ⟨_, rfl⟩
      rw [hun] at hlk hu4
      rw [hnm] at hlk hnl
      have HUN := Lib.hid hun; have HNM := Lib.hid hnm
      have HWB : Hid (∀ g, g < b → (wr.alloc (.cells #[.string ⟨nm.toArray⟩, .int .i64 (un : Int), .func (.func gf) #[] gc, .func (.func sf) #[] sc] 88)).heap[g]? = wr.heap[g]?) := Lib.hid fun g hg => Below.heap_alloc _ _ _ (by have := HW.out.size; omega)
      have hGw : G < wr.heap.size := by have := IP.out.lt; have := HW.out.size; omega
      clear ri ri2 ip hp hk hrow hrm hun hnm
      have BA : Below wr.heap.size wr (wr.alloc (.cells #[.string ⟨nm.toArray⟩, .int .i64 (un : Int), .func (.func gf) #[] gc, .func (.func sf) #[] sc] 88)) := ext_alloc (Below.refl _ _) _
      have HB4 := Lib.hid (HB.out.below BA)
      have HW4 := Lib.hid (HW.out.trans (BA.mono (by have := HW.out.size; omega)))
      have HE4 : Hid ((wr.alloc (.cells #[.string ⟨nm.toArray⟩, .int .i64 (un : Int), .func (.func gf) #[] gc, .func (.func sf) #[] sc] 88)).heap[wr.heap.size]? = some (.cells #[.string ⟨nm.toArray⟩, .int .i64 (un : Int), .func (.func gf) #[] gc, .func (.func sf) #[] sc] 88 (0, 0))) := Lib.hid (heap_alloc_new wr _)
      have hz4 : (wr.alloc (.cells #[.string ⟨nm.toArray⟩, .int .i64 (un : Int), .func (.func gf) #[] gc, .func (.func sf) #[] sc] 88)).heap.size = wr.heap.size + 1 := by simp
      clear BA HB
      go_wp2_with fail
      all_goals first
       | (exfalso; omega)
       | skip
      rw [show (⟨#[100, 111, 46]⟩ : ByteArray) ++ ⟨nm.toArray⟩ = ⟨([100, 111, 46] ++ nm).toArray⟩ from cat_str [100, 111, 46] nm]
      generalize wr.alloc (.cells #[.string ⟨nm.toArray⟩, .int .i64 (un : Int), .func (.func gf) #[] gc, .func (.func sf) #[] sc] 88) = w4 at HB4 HW4 HE4 HWB hz4 ⊢
      refine (bdS_any nb _ ([100, 111, 46] ++ nm) w4 HB4.out (by have := HTL.out; simp only [List.length_append, List.length_cons, List.length_nil] at this ⊢; omega) (by have := HW4.out.size; omega)).mono ?_
      rintro e w5 ⟨⟨v5, rfl⟩, hb5, b5, ho5⟩
      have HB5 := Lib.hid hb5
      have HW5 := Lib.hid (HW4.out.trans b5)
      have hE5 : w5.heap[wr.heap.size]? = _ := ho5 _ _ HE4.out (by intro e; have : wr.heap.size = nb := Option.some.inj e; have := HW.out.size; omega) (by intro c fz e; injection e with _ h2; exact absurd h2 (by decide))
      have ce : w5.cell? ⟨wr.heap.size, 1, none⟩ = some (.int .i64 (un : Int)) := by simp only [World.cell?, hE5]; rfl
      have HIP5 := Lib.hid (IP.out.kept fun g hg => (b5.block g (by omega)).trans (HWB.out g hg))
      obtain ⟨xa, hxa⟩ : ∃ xa, p.a = xa := ⟨_, rfl⟩
      obtain ⟨xb, hxb⟩ : ∃ xb, p.b = xb := ⟨_, rfl⟩
      obtain ⟨xc, hxc⟩ : ∃ xc, p.c = xc := ⟨_, rfl⟩
      obtain ⟨xd, hxd⟩ : ∃ xd, p.d = xd := ⟨_, rfl⟩
      obtain ⟨tl, htl⟩ : ∃ tl, p.t = tl := ⟨_, rfl⟩
      obtain ⟨nt, hnt⟩ : ∃ nt, tl.length = nt := ⟨_, rfl⟩
      have c1 := HIP5.out.c1; have c2 := HIP5.out.c2; have c3 := HIP5.out.c3; have c4 := HIP5.out.c4; have c5 := HIP5.out.c5
      have hit := HIP5.out.t
      rw [hxa] at c1
      rw [hxb] at c2
      rw [hxc] at c3
      rw [hxd] at c4
      rw [htl, hnt] at c5
      rw [htl, hnt] at hit
      have HIT := Lib.hid hit
      have HNT := Lib.hid hnt
      have htle : nt ≤ 8192 := by
       have h1 := longS_mem (List.mem_of_getElem? HP.out)
       rw [htl, hnt] at h1
       omega
      obtain ⟨nl, hnl9⟩ : ∃ nl, numsI p = nl := ⟨_, rfl⟩
      have HNL : Hid ([xa, xb, xc, xd].take un ++ tl = nl) := Lib.hid (by
       rw [← hnl9, ← hxa, ← hxb, ← hxc, ← hxd, ← htl, ← HUN.out, ← HKK.out]
       rfl)
      have HNN := Lib.hid hnl9
      have hG5 : G < w5.heap.size := by have := HIP5.out.lt; have := HW5.out.size; omega
      have hE5z : wr.heap.size < w5.heap.size := lt_of_block hE5
      clear hb5 b5 ho5 hE5 HB4 HW4 HE4 hz4 hit hxa hxb hxc hxd htl hnt hnl9 HIP5 c0 hlk
      go_upto_region 19 with (fail)
      refine wp_region_noPanic ?_
      refine wp_region_held_drew (S := fun w => w.heap[G]? = w5.heap[G]? ∧ w.heap[wr.heap.size]? = w5.heap[wr.heap.size]?) (by kernel_rfl) ⟨rfl, rfl⟩ (fun hS1 => ?_)
      have HBd := Lib.hid (HB5.out.below (Below.refl _ w5).drew)
      have HWd := Lib.hid (HW5.out.drew)
      have HWn : Hid (nb ≤ w5.drew.heap.size) := Lib.hid (by have := HW5.out.size; exact Nat.le_trans (Nat.le_of_lt hzn) this)
      have HBB : Hid (b ≤ w5.drew.heap.size) := Lib.hid (by have := HWn.out; omega)
      have HIT : Hid (InsT w5.drew b (.slice ta nt tk) tl) := HIT
      have hGd : G < w5.drew.heap.size := hG5
      have hEd : wr.heap.size < w5.drew.heap.size := hE5z
      generalize hwd : w5.drew = wd at HBd HWd HWn HBB HIT hGd hEd hS1 ⊢
      clear hwd
      refine wpV 0 ⟨some 56, .move (.tmp 10), 80, "text.go:65", #[], none⟩ (.pointer (some ⟨G, off + i * 6, none⟩)) hS1 ?_
      try simp only [Act.put, List.setIfInBounds_toArray, List.set_cons_zero, List.set_cons_succ]
      refine wpV 1 ⟨some 57, .nilCheck (.tmp 56), 0, "text.go:65", #[⟨0, .data⟩], none⟩ (.pointer (some ⟨G, off + i * 6, none⟩)) hS1 ?_
      try simp only [Act.put, List.setIfInBounds_toArray, List.set_cons_zero, List.set_cons_succ]
      refine wpV 2 ⟨some 58, .fieldAddr 47 (.tmp 57) 1, 0, "text.go:65", #[⟨1, .data⟩], none⟩ (.pointer (some ⟨G, off + i * 6 + 1, none⟩)) hS1 ?_
      try simp only [Act.put, List.setIfInBounds_toArray, List.set_cons_zero, List.set_cons_succ]
      refine wpT 3 ⟨some 59, .load 3 (.tmp 58), 3, "text.go:65", #[⟨2, .data⟩], none⟩ (.int .i64 xa) (Or.inl ⟨by rfl, fun W hW => by have e := (World.cell?_of_block (a := ⟨G, off + i * 6 + 1, none⟩) hW.1).trans c1; go_simp; done⟩) hS1 ?_
      try simp only [Act.put, List.setIfInBounds_toArray, List.set_cons_zero, List.set_cons_succ]
      refine wpV 4 ⟨some 60, .move (.tmp 10), 80, "text.go:65", #[], none⟩ (.pointer (some ⟨G, off + i * 6, none⟩)) hS1 ?_
      try simp only [Act.put, List.setIfInBounds_toArray, List.set_cons_zero, List.set_cons_succ]
      refine wpV 5 ⟨some 61, .nilCheck (.tmp 60), 0, "text.go:65", #[⟨4, .data⟩], none⟩ (.pointer (some ⟨G, off + i * 6, none⟩)) hS1 ?_
      try simp only [Act.put, List.setIfInBounds_toArray, List.set_cons_zero, List.set_cons_succ]
      refine wpV 6 ⟨some 62, .fieldAddr 47 (.tmp 61) 2, 0, "text.go:65", #[⟨5, .data⟩], none⟩ (.pointer (some ⟨G, off + i * 6 + 2, none⟩)) hS1 ?_
      try simp only [Act.put, List.setIfInBounds_toArray, List.set_cons_zero, List.set_cons_succ]
      refine wpT 7 ⟨some 63, .load 3 (.tmp 62), 3, "text.go:65", #[⟨6, .data⟩], none⟩ (.int .i64 xb) (Or.inl ⟨by rfl, fun W hW => by have e := (World.cell?_of_block (a := ⟨G, off + i * 6 + 2, none⟩) hW.1).trans c2; go_simp; done⟩) hS1 ?_
      try simp only [Act.put, List.setIfInBounds_toArray, List.set_cons_zero, List.set_cons_succ]
      refine wpV 8 ⟨some 64, .move (.tmp 10), 80, "text.go:65", #[], none⟩ (.pointer (some ⟨G, off + i * 6, none⟩)) hS1 ?_
      try simp only [Act.put, List.setIfInBounds_toArray, List.set_cons_zero, List.set_cons_succ]
      refine wpV 9 ⟨some 65, .nilCheck (.tmp 64), 0, "text.go:65", #[⟨8, .data⟩], none⟩ (.pointer (some ⟨G, off + i * 6, none⟩)) hS1 ?_
      try simp only [Act.put, List.setIfInBounds_toArray, List.set_cons_zero, List.set_cons_succ]
      refine wpV 10 ⟨some 66, .fieldAddr 47 (.tmp 65) 3, 0, "text.go:65", #[⟨9, .data⟩], none⟩ (.pointer (some ⟨G, off + i * 6 + 3, none⟩)) hS1 ?_
      try simp only [Act.put, List.setIfInBounds_toArray, List.set_cons_zero, List.set_cons_succ]
      refine wpT 11 ⟨some 67, .load 3 (.tmp 66), 3, "text.go:65", #[⟨10, .data⟩], none⟩ (.int .i64 xc) (Or.inl ⟨by rfl, fun W hW => by have e := (World.cell?_of_block (a := ⟨G, off + i * 6 + 3, none⟩) hW.1).trans c3; go_simp; done⟩) hS1 ?_
      try simp only [Act.put, List.setIfInBounds_toArray, List.set_cons_zero, List.set_cons_succ]
      refine wpV 12 ⟨some 68, .move (.tmp 10), 80, "text.go:65", #[], none⟩ (.pointer (some ⟨G, off + i * 6, none⟩)) hS1 ?_
      try simp only [Act.put, List.setIfInBounds_toArray, List.set_cons_zero, List.set_cons_succ]
      refine wpV 13 ⟨some 69, .nilCheck (.tmp 68), 0, "text.go:65", #[⟨12, .data⟩], none⟩ (.pointer (some ⟨G, off + i * 6, none⟩)) hS1 ?_
      try simp only [Act.put, List.setIfInBounds_toArray, List.set_cons_zero, List.set_cons_succ]
      refine wpV 14 ⟨some 70, .fieldAddr 47 (.tmp 69) 4, 0, "text.go:65", #[⟨13, .data⟩], none⟩ (.pointer (some ⟨G, off + i * 6 + 4, none⟩)) hS1 ?_
      try simp only [Act.put, List.setIfInBounds_toArray, List.set_cons_zero, List.set_cons_succ]
      refine wpT 15 ⟨some 71, .load 3 (.tmp 70), 3, "text.go:65", #[⟨14, .data⟩], none⟩ (.int .i64 xd) (Or.inl ⟨by rfl, fun W hW => by have e := (World.cell?_of_block (a := ⟨G, off + i * 6 + 4, none⟩) hW.1).trans c4; go_simp; done⟩) hS1 ?_
      try simp only [Act.put, List.setIfInBounds_toArray, List.set_cons_zero, List.set_cons_succ]
      refine wpV 17 ⟨some 73, .fieldAddr 88 (.tmp 11) 1, 0, "text.go:65", #[], none⟩ (.pointer (some ⟨wr.heap.size, 1, none⟩)) hS1 ?_
      try simp only [Act.put, List.setIfInBounds_toArray, List.set_cons_zero, List.set_cons_succ]
      refine wpT 18 ⟨some 74, .load 3 (.tmp 73), 3, "text.go:65", #[⟨17, .data⟩], none⟩ (.int .i64 (un : Int)) (Or.inl ⟨by rfl, fun W hW => by have e := (World.cell?_of_block (a := ⟨wr.heap.size, 1, none⟩) hW.2).trans ce; go_simp; done⟩) hS1 ?_
      try simp only [Act.put, List.setIfInBounds_toArray, List.set_cons_zero, List.set_cons_succ]
      refine wpV 20 ⟨some 76, .move (.tmp 10), 80, "text.go:65", #[], none⟩ (.pointer (some ⟨G, off + i * 6, none⟩)) hS1 ?_
      try simp only [Act.put, List.setIfInBounds_toArray, List.set_cons_zero, List.set_cons_succ]
      refine wpV 21 ⟨some 77, .nilCheck (.tmp 76), 0, "text.go:65", #[⟨20, .data⟩], none⟩ (.pointer (some ⟨G, off + i * 6, none⟩)) hS1 ?_
      try simp only [Act.put, List.setIfInBounds_toArray, List.set_cons_zero, List.set_cons_succ]
      refine wpV 22 ⟨some 78, .fieldAddr 47 (.tmp 77) 5, 0, "text.go:65", #[⟨21, .data⟩], none⟩ (.pointer (some ⟨G, off + i * 6 + 5, none⟩)) hS1 ?_
      try simp only [Act.put, List.setIfInBounds_toArray, List.set_cons_zero, List.set_cons_succ]
      refine wpT 23 ⟨some 79, .load 45 (.tmp 78), 45, "text.go:65", #[⟨22, .data⟩], none⟩ (.slice ta nt tk) (Or.inl ⟨by rfl, fun W hW => by have e := (World.cell?_of_block (a := ⟨G, off + i * 6 + 5, none⟩) hW.1).trans c5; go_simp; done⟩) hS1 ?_
      try simp only [Act.put, List.setIfInBounds_toArray, List.set_cons_zero, List.set_cons_succ]
      refine wpV 26 ⟨some 82, .move (.const (Go.Value.int Go.IntKind.i64 0)), 3, "text.go:65", #[], none⟩ (.int .i64 0) hS1 ?_
      try simp only [Act.put, List.setIfInBounds_toArray, List.set_cons_zero, List.set_cons_succ]
      refine wpAnyH_ready (rs := [16]) (by kernel_rfl) (by simp) ?_
      refine AllReadyH.cons (o := ⟨some 72, .buildSlice 45 4 #[(0, .tmp 59), (1, .tmp 63), (2, .tmp 67), (3, .tmp 71)], 45, "text.go:65", #[⟨3, .data⟩, ⟨7, .data⟩, ⟨11, .data⟩, ⟨15, .data⟩], none⟩) rfl (fun K hK => ?_) ?_
      ·refine wantedC (by rfl) ?_
       go_simp
       have b4 := ext_alloc (Below.refl wd.heap.size wd) (.cells #[.int .i64 xa, .int .i64 xb, .int .i64 xc, .int .i64 xd] 3)
       have ROW : Hid ((wd.alloc (.cells #[.int .i64 xa, .int .i64 xb, .int .i64 xc, .int .i64 xd] 3)).ownsRow nb 3 1 (.slice (some ⟨wd.heap.size, 0, none⟩) un 4) un (inV ([xa, xb, xc, xd].take un))) := Lib.hid ⟨by simp [inV]; omega, .inr ⟨_, 4, #[.int .i64 xa, .int .i64 xb, .int .i64 xc, .int .i64 xd], rfl, HWn.out, heap_alloc_new wd _, hu4, by unfold maxLen; omega, rfl, by rw [Nat.mul_one, inV, List.map_take]; rfl⟩⟩
       have hS2 : (wd.alloc (.cells #[.int .i64 xa, .int .i64 xb, .int .i64 xc, .int .i64 xd] 3)).heap[G]? = w5.heap[G]? ∧ (wd.alloc (.cells #[.int .i64 xa, .int .i64 xb, .int .i64 xc, .int .i64 xd] 3)).heap[wr.heap.size]? = w5.heap[wr.heap.size]? := ⟨(b4.block G hGd).trans hS1.1, (b4.block _ hEd).trans hS1.2⟩
       have HBd := Lib.hid (HBd.out.below b4)
       have HWd := Lib.hid (HWd.out.trans (b4.mono HWn.out))
       have HIT := Lib.hid (HIT.out.below b4 HBB.out)
       have HWn := Lib.hid (Nat.le_trans HWn.out b4.size)
       have hG2 : G < (wd.alloc (.cells #[.int .i64 xa, .int .i64 xb, .int .i64 xc, .int .i64 xd] 3)).heap.size := Nat.lt_of_lt_of_le hGd b4.size
       have hE2 : wr.heap.size < (wd.alloc (.cells #[.int .i64 xa, .int .i64 xb, .int .i64 xc, .int .i64 xd] 3)).heap.size := Nat.lt_of_lt_of_le hEd b4.size
       have hne9 : wd.heap.size ≠ wr.heap.size := by omega
       have hne8 : wd.heap.size ≠ G := by omega
       clear b4
       refine hK.out _ _ hS2 (fun hS1 => ?_)
       clear hK K hS2
       obtain ⟨gi, hgi⟩ : ∃ gi, wd.heap.size = gi := ⟨_, rfl⟩
       rw [hgi] at ROW hne9 hne8 ⊢
       have HGI : Hid ((wd.alloc (.cells #[.int .i64 xa, .int .i64 xb, .int .i64 xc, .int .i64 xd] 3)).heap[gi]? = some (.cells #[.int .i64 xa, .int .i64 xb, .int .i64 xc, .int .i64 xd] 3 (0, 0))) := Lib.hid (by rw [← hgi]; exact heap_alloc_new wd _)
       generalize wd.alloc (.cells #[.int .i64 xa, .int .i64 xb, .int .i64 xc, .int .i64 xd] 3) = w7 at ROW HBd HWd HIT HWn HGI hG2 hE2 hS1 ⊢
       clear hgi
       try simp only [Act.put, List.setIfInBounds_toArray, List.set_cons_zero, List.set_cons_succ]
       refine wpT 19 ⟨some 75, .slice 45 (.tmp 72) none (some (.tmp 74)) none, 45, "text.go:65", #[⟨16, .data⟩, ⟨18, .data⟩], none⟩ (.slice (some ⟨gi, 0, none⟩) un 4) (Or.inl ⟨by rfl, fun W hW => by first | (go_simp; done) | (go_simp; with_reducible rfl) | (go_simp; intro h9; exfalso; omega)⟩) hS1 ?_
       try simp only [Act.put, List.setIfInBounds_toArray, List.set_cons_zero, List.set_cons_succ]
       refine wpAnyH_ready (rs := [24]) (by kernel_rfl) (by simp) ?_
       refine AllReadyH.cons (o := ⟨some 80, .call { callee := .builtin .append, args := #[.tmp 75, .tmp 79], argTypes := #[45, 45] }, 45, "text.go:65", #[⟨19, .data⟩, ⟨23, .data⟩], none⟩) rfl (fun K hK => ?_) ?_
       ·refine wantedC (by rfl) ?_
        refine wp_append_in _ _ 45 rfl Tryz.underlying45 nb _ un (inV ([xa, xb, xc, xd].take un)) rfl ROW.out _ tl rfl HIT.out (by rw [HNT.out]; omega) HWn.out ?_
        rintro v8 w8 o8 g8
        have hS2 : w8.heap[G]? = w5.heap[G]? ∧ w8.heap[wr.heap.size]? = w5.heap[wr.heap.size]? := ⟨(g8.block G hG2 (fun e => by have : G = gi := Option.some.inj e; omega)).trans hS1.1, (g8.block _ hE2 (fun e => by have : wr.heap.size = gi := Option.some.inj e; omega)).trans hS1.2⟩
        have HW8 := Lib.hid (HWd.out.grown g8 HWn.out (fun k hk => (World.ownsRow.lt ROW.out k hk).1))
        have HR8 : Hid (w8.ownsRow nb 3 1 v8 (un + nt) (inV nl)) := Lib.hid (by
         have := o8
         rw [HNT.out, ← inV_app, HNL.out] at this
         exact this)
        have HB8 := Lib.hid (bd_grown HBd.out g8 HGI.out)
        have hv8 : ∃ va vk, v8 = .slice va (un + nt) vk := by
         rcases HR8.out.2 with ⟨e, h9⟩ | ⟨g, c, cur, e, -⟩
         ·exact ⟨none, 0, by rw [e, h9]⟩
         ·exact ⟨_, _, e⟩
        obtain ⟨va, vk, rfl⟩ := hv8
        clear o8 g8
        refine hK.out _ _ hS2 (fun hS1 => ?_)
        clear hK K hS2
        try simp only [Act.put, List.setIfInBounds_toArray, List.set_cons_zero, List.set_cons_succ]
        refine wpV 25 ⟨some 81, .call { callee := .builtin .len, args := #[.tmp 80], argTypes := #[45] }, 3, "text.go:65", #[⟨24, .data⟩], none⟩ (.int .i64 ((un + nt : Nat) : Int)) hS1 ?_
        try simp only [Act.put, List.setIfInBounds_toArray, List.set_cons_zero, List.set_cons_succ]
        refine wpAnyH_done (by kernel_rfl) ?_ _
        refine NoPanic.normal ?_
        obtain ⟨Bs, hBs⟩ : ∃ Bs, consL cs ++ (ps.take i).flatMap insL ++ ([100, 111, 46] ++ nm) = Bs := ⟨_, rfl⟩
        obtain ⟨ln, hln⟩ : ∃ ln, un + nt = ln := ⟨_, rfl⟩
        have HNLN : Hid (nl.length = ln) := Lib.hid (by rw [← HNL.out, List.length_append, List.length_take, HNT.out]; simp only [List.length_cons, List.length_nil]; omega)
        have hlnb : ln ≤ 8196 := by omega
        have HBSL : Hid (Bs.length ≤ 3000011) := Lib.hid (by
         rw [← hBs, List.length_append]
         have := HTL.out
         simp only [List.length_append, List.length_cons, List.length_nil] at this ⊢
         omega)
        rw [hBs] at HB8
        rw [hln] at HR8 ⊢
        have HBS := Lib.hid hBs
        clear hBs hln HBd HWd HIT HWn HGI ROW hS1 hG2 hE2 hne8 hne9 c1 c2 c3 c4 c5 ce hGd hEd HBB HB5 HTL HWB
        go_wp2_with fail
        go_loopw [82] (fun iv wx => ∃ j : Nat, iv = .int .i64 (j : Int) ∧ j ≤ ln ∧ Hid (Bd nb (Bs ++ (nl.take j).flatMap numL) wx) ∧ Hid (wx.ownsRow nb 3 1 (.slice va ln vk) ln (inV nl)) ∧ Hid (Below nb w3 wx)) (fun iv _ => ln - (RowKit.intOf iv).toNat)
        case atStart => exact ⟨0, rfl, Nat.zero_le _, Lib.hid (by simpa using HB8.out), HR8, HW8⟩
        case round =>
         clear HB8 HR8 HW8
         obtain ⟨j, rfl, hj, HBj, HRj, HWj⟩ := hrel
         have HBL : Hid ((Bs ++ (nl.take j).flatMap numL).length ≤ 4000000) := Lib.hid (by
          have h1 := nums_len (nl.take j) (fun n hn => (HNUM.out.2 p (List.mem_of_getElem? HP.out) n (by rw [HNN.out]; exact List.mem_of_mem_take hn)).len)
          have h2 : (nl.take j).length ≤ 8196 := by rw [List.length_take]; omega
          have := HBSL.out
          rw [List.length_append]
          omega)
         by_cases hjl : j < ln
         ·obtain ⟨x, hx⟩ : ∃ x, nl[j]? = some x := ⟨_, List.getElem?_eq_getElem (by have := HNLN.out; omega)⟩
          obtain ⟨g, c, e2, hbg, hgl⟩ := own_formC HRj.out (by omega : 0 < ln)
          simp only [Value.slice.injEq, true_and] at e2
          obtain ⟨rfl, rfl⟩ := e2
          have cx : wr.cell? ⟨g, j, none⟩ = some (.int .i64 x) := by
           have := World.ownsRow.cells HRj.out (g := g) rfl j (.int .i64 x) (by simp [inV, hx])
           rw [← this]
           congr 1
           simp [Addr.add]
          have NW := Lib.hid ((HNUM.out.2 p (List.mem_of_getElem? HP.out) x (by rw [HNN.out]; exact List.mem_of_getElem? hx)).kept (BW3.out.trans (HWj.out.mono (Nat.le_of_lt hnW))))
          have hix := NW.out.len
          have HT9 : Hid ((nl.take (j + 1)).flatMap numL = (nl.take j).flatMap numL ++ ([32] ++ itoa x)) := Lib.hid (by rw [List.take_add_one, hx]; simp [numL])
          clear hx
          go_wp2_with fail
          refine (itoaC_any x wr NW.out).mono ?_
          rintro e w9 ⟨rfl, b9⟩
          have HB9 := Lib.hid (HBj.out.below b9)
          have HR9 := Lib.hid (World.ownsRow.belowZ HRj.out b9)
          have HW9 := Lib.hid (HWj.out.trans (b9.mono (by have := HWj.out.size; omega)))
          obtain ⟨il, hil9⟩ : ∃ il, itoa x = il := ⟨_, rfl⟩
          rw [hil9] at HT9 hix ⊢
          clear b9 HBj HRj HWj hil9 cx
          go_wp2_with fail
          all_goals first
           | (exfalso; omega)
           | skip
          rw [show (⟨#[32]⟩ : ByteArray) ++ ⟨il.toArray⟩ = ⟨([32] ++ il).toArray⟩ from cat_str [32] il]
          refine (bdS_any nb _ ([32] ++ il) w9 HB9.out (by have := HBL.out; simp only [List.length_append, List.length_cons, List.length_nil] at this ⊢; omega) (by have := HW9.out.size; omega)).mono ?_
          rintro e w10 ⟨⟨v10, rfl⟩, hb10, b10, ho10⟩
          have HBX : Hid (Bd nb (Bs ++ (nl.take (j + 1)).flatMap numL) w10) := Lib.hid (by rw [HT9.out, ← List.append_assoc]; exact hb10)
          have HRX := Lib.hid (own_others HR9.out HB9.out ho10)
          have HWX := Lib.hid (HW9.out.trans b10)
          clear hb10 b10 ho10 HB9 HR9 HW9 HT9
          go_wp2
          exact ⟨⟨j + 1, by go_num, by omega, HBX, HRX, HWX⟩, by simp [RowKit.intOf]; omega⟩
         ·have hjn : j = ln := by omega
          have HBY : Hid (Bd nb (Bs ++ nl.flatMap numL) wr) := Lib.hid (by
           have := HBj.out
           rwa [List.take_of_length_le (by have := HNLN.out; omega)] at this)
          have HBL2 : Hid ((Bs ++ nl.flatMap numL).length ≤ 4000000) := Lib.hid (by
           have := HBL.out
           rwa [List.take_of_length_le (by have := HNLN.out; omega)] at this)
          rw [hjn]
          clear HBj HRj hjl hj hjn HBL
          go_wp2_with fail
          refine (bdB_any nb _ 10 wr HBY.out (by have := HBL2.out; omega) (by have := HWj.out.size; omega)).mono ?_
          rintro e w10 ⟨rfl, hb10, b10, -⟩
          have HBZ : Hid (Bd nb (consL cs ++ (ps.take (i + 1)).flatMap insL) w10) := Lib.hid (by
           have hs : (ps.take (i + 1)).flatMap insL = (ps.take i).flatMap insL ++ insL p := by rw [List.take_add_one, HP.out]; simp
           have hi9 : insL p = [100, 111, 46] ++ nm ++ nl.flatMap numL ++ [10] := by unfold insL; rw [HNN.out, HKK.out, HNM.out]
           rw [hs, hi9]
           have := hb10
           rw [← HBS.out] at this
           simpa only [List.append_assoc] using this)
          have HWZ := Lib.hid (HWj.out.trans b10)
          clear hb10 b10 HBY HWj
          go_wp2
          exact ⟨⟨i + 1, by go_num, by omega, HBZ, HWZ⟩, by simp [RowKit.intOf]; omega⟩
       exact AllReadyH.nil
      exact AllReadyH.nil
     ·have hin : i = ni := by omega
      have HBT : Hid (Bd nb (codeTxt8 ps cs) wr) := Lib.hid (by
       have := HB.out
       rw [List.take_of_length_le (by have := HNI.out; omega)] at this
       exact this)
      obtain ⟨tot, htot⟩ : ∃ tot, (codeTxt8 ps cs).length = tot := ⟨_, rfl⟩
      have HTOT := Lib.hid htot
      have htb : tot ≤ 3000000 := by
       have := HTL.out
       rw [List.take_of_length_le (by have := HNI.out; omega)] at this
       rw [← htot]
       exact this
      rw [hin]
      clear HB htot hil hi hin
      go_wp2_with fail
      refine (Tryz.Builder_Len_f nb nb _ wr HBT.out).mono ?_
      rintro e w6 ⟨rfl, rfl⟩
      rw [byteC_len, HTOT.out]
      by_cases h9 : 1048576 < tot
      ·have HR := HTX ([], 2) (by
        unfold textC
        rw [HM.out, if_neg (by simp), if_pos (by rw [HTOT.out]; exact h9)])
       clear HTX
       go_wp2
       go_ret2
       exact ⟨by rw [HR.out]; rfl, BW3.out.trans (HW.out.mono (Nat.le_of_lt hnW))⟩
      ·have HR := HTX (codeTxt8 ps cs, 0) (by
        unfold textC
        rw [HM.out, if_neg (by simp), if_neg (by rw [HTOT.out]; exact h9)])
       clear HTX
       go_wp2_with fail
       refine (Tryz.Builder_String_any_k nb nb _ w6 HBT.out (by have := HW.out.size; omega)).mono ?_
       rintro e w7 ⟨rfl, -, b7, -⟩
       go_wp2_with fail
       go_ret2
       exact ⟨by rw [HR.out]; rfl, BW3.out.trans ((HW.out.trans b7).mono (Nat.le_of_lt hnW))⟩
 ·have HR := HTX ([], m) (by unfold textC; rw [HM.out, if_pos h0])
  have h0b : (m == 0) = false := by simpa using h0
  clear HTX
  go_wp2_with fail
  go_ret2
  exact ⟨by rw [HR.out]; rfl, BW0.out.trans (b1.mono (by omega))⟩
end Go.Proofs.YtlmpiobdgkmmgaaGreatDoor
