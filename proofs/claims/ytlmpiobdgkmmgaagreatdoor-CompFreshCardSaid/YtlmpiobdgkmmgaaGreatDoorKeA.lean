/- Law 17: begun, Eq. -/
import Derived.Test.YtlmpiobdgkmmgaaGreatDoorKcP
import Derived.Test.YtlmpiobdgkmmgaaGreatDoorKdK
set_option maxRecDepth 1000000
set_option maxHeartbeats 16000000
namespace Go.Proofs.YtlmpiobdgkmmgaaGreatDoor
open Go.RowKit Go.Lib
theorem TRow.insT {b N c b' : Nat} {cl : Nat → Nat} {W : World} {t : Value} {xs : List Int} (h : TRow b N cl c W t xs) (hb : N ≤ b') : InsT W b' t xs := by
 rcases h with ⟨rfl, rfl⟩ | ⟨g, cap, cur, rfl, h1, h2, h3, h4, h5, h6, h7⟩
 ·exact ⟨none, 0, rfl, fun q => absurd q (by simp)⟩
 ·refine ⟨_, _, rfl, fun _ => ⟨g, 0, rfl, by omega, fun i x hx => ?_⟩⟩
  simp only [World.cell?, h4]
  rw [Nat.zero_add]
  exact h7 i x hx
theorem CodeV.toA {b b' : Nat} {W : World} {vI vC : Value} {ps : List PI} {cs : List PV} (h : CodeV b W vI vC ps cs) (hb : W.heap.size ≤ b') (wf : ∀ p ∈ ps, (Lit.int .i64 p.op).wf = true) (nI : ps.length ≤ 1000000000) (nC : cs.length ≤ 1000000000) (long : longS ps ≤ 1000000000000000) : CodeA W b' vI vC ps cs := by
 obtain ⟨cl, ts, h1, h2, h3, h4⟩ := h
 refine ⟨?_, ?_, wf, nI, nC, long⟩
 ·rcases h2.own.2 with ⟨e, h0⟩ | ⟨g, cap, cur, e, hbg, hg, r⟩
  ·exact ⟨none, 0, by rw [e, h0], fun q => absurd q (by omega)⟩
  ·refine ⟨_, cap, e, fun _ => ⟨g, 0, rfl, fun i p hp => ?_⟩⟩
   have hi := (List.getElem?_eq_some_iff.1 hp).1
   obtain ⟨t, ht⟩ : ∃ t, ts[i]? = some t := ⟨ts[i]'(by omega), List.getElem?_eq_getElem (by omega)⟩
   have hlt : g < b' := Nat.lt_of_lt_of_le (lt_of_block hg) hb
   have c : ∀ j, j < 6 → W.cell? ⟨g, 0 + i * 6 + j, none⟩ = (insV p t)[j]? := fun j hj => by
    rw [Nat.zero_add, ← insC_get ps ts i j p t hp ht hj]
    have o := h2.own
    rw [e] at o
    exact own_cell o _ (by rw [insC_len ps ts h1]; omega)
   exact ⟨t, hlt, c 0 (by omega), c 1 (by omega), c 2 (by omega), c 3 (by omega), c 4 (by omega), c 5 (by omega), (h4 i p t hp ht).insT hb⟩
 ·rcases h3.own.2 with ⟨e, h0⟩ | ⟨g, cap, cur, e, hbg, hg, r⟩
  ·exact ⟨none, 0, by rw [e, h0], fun q => absurd q (by omega)⟩
  ·refine ⟨_, cap, e, fun _ => ⟨g, 0, rfl, Nat.lt_of_lt_of_le (lt_of_block hg) hb, fun i v hv => ?_⟩⟩
   have hi := (List.getElem?_eq_some_iff.1 hv).1
   have c : ∀ j, j < 3 → W.cell? ⟨g, 0 + i * 3 + j, none⟩ = (conV v)[j]? := fun j hj => by
    rw [Nat.zero_add, ← conC_get cs i j v hv hj]
    have o := h3.own
    rw [e] at o
    exact own_cell o _ (by rw [conC_len cs]; omega)
   exact ⟨c 0 (by omega), c 1 (by omega), c 2 (by omega)⟩
theorem CodeV.slices {b : Nat} {W : World} {vI vC : Value} {ps : List PI} {cs : List PV} (h : CodeV b W vI vC ps cs) : ∃ a1 k1 a2 k2, vI = .slice a1 ps.length k1 ∧ vC = .slice a2 cs.length k2 := by
 obtain ⟨cl, ts, h1, h2, h3, h4⟩ := h
 obtain ⟨a1, k1, e1⟩ := h2.own.slice9
 obtain ⟨a2, k2, e2⟩ := h3.own.slice9
 exact ⟨a1, k1, a2, k2, e1, e2⟩
theorem box_at {w : World} {b : Nat} {T : TypeId} {fr : Nat × Nat} {h : Hd} {kv : Value} (hb : w.heap[b]? = some (.cells (h.vals kv).toArray T fr)) : NodeAt w b 0 h kv := by
 refine ⟨(Array.getElem?_eq_some_iff.1 hb).1, fun j v hj => ?_⟩
 simp only [World.cell?, hb, Nat.zero_add, List.getElem?_toArray]
 exact hj
theorem i64c0 : I64 0 := ⟨by decide, by decide⟩
def numH (n : Int) : Hd := ⟨1, 0, n, [], .zero, .zero, 0⟩
def refH9 : Hd := ⟨5, 0, 0, [], .zero, .zero, 0⟩
def binH (op : Int) : Hd := ⟨8, op, 0, [], .zero, .zero, 0⟩
theorem numH_ok {n : Int} (h : I64 n) : (numH n).ok := ⟨by simp [numH], ⟨by show (-9223372036854775808 : Int) ≤ 1; decide, by show (1 : Int) ≤ 9223372036854775807; decide⟩, i64c0, h, i64c0, i64c0, i64c0, i64c0, i64c0⟩
theorem refH9_ok : refH9.ok := ⟨by simp [refH9], ⟨by show (-9223372036854775808 : Int) ≤ 5; decide, by show (5 : Int) ≤ 9223372036854775807; decide⟩, i64c0, i64c0, i64c0, i64c0, i64c0, i64c0, i64c0⟩
theorem binH_ok {n : Int} (h : I64 n) : (binH n).ok := ⟨by simp [binH], ⟨by show (-9223372036854775808 : Int) ≤ 8; decide, by show (8 : Int) ≤ 9223372036854775807; decide⟩, h, i64c0, i64c0, i64c0, i64c0, i64c0, i64c0⟩
theorem num_tree {n : Int} (h : I64 n) (w : World) : TreeV w w.heap.size (numH n) .nil none 0 := ⟨rfl, by omega, numH_ok h, trivial⟩
def bgKs : Trees := .cons (numH 1) .nil (.cons refH9 .nil .nil)
theorem bg_tree {w : World} {b : Nat} (hb : w.heap[b]? = some (.cells #[.int .i64 (numH 1).kind, .int .i64 (numH 1).op, .int .i64 (numH 1).num, .string ⟨(numH 1).text.toArray⟩, .int .i64 (numH 1).ref.row, .int .i64 (numH 1).ref.col, .bool (numH 1).ref.pr, .bool (numH 1).ref.pc, .int .i64 (numH 1).to.row, .int .i64 (numH 1).to.col, .bool (numH 1).to.pr, .bool (numH 1).to.pc, .int .i64 (numH 1).fn, .slice none 0 0, .int .i64 refH9.kind, .int .i64 refH9.op, .int .i64 refH9.num, .string ⟨refH9.text.toArray⟩, .int .i64 refH9.ref.row, .int .i64 refH9.ref.col, .bool refH9.ref.pr, .bool refH9.ref.pc, .int .i64 refH9.to.row, .int .i64 refH9.to.col, .bool refH9.to.pr, .bool refH9.to.pc, .int .i64 refH9.fn, .slice none 0 0] 34 (0, 0))) : TreeV w w.heap.size (binH 4) bgKs (some ⟨b, 0, none⟩) 2 := by
 have lt : b < w.heap.size := (Array.getElem?_eq_some_iff.1 hb).1
 have c : ∀ o, w.cell? ⟨b, o, none⟩ = (#[.int .i64 (numH 1).kind, .int .i64 (numH 1).op, .int .i64 (numH 1).num, .string ⟨(numH 1).text.toArray⟩, .int .i64 (numH 1).ref.row, .int .i64 (numH 1).ref.col, .bool (numH 1).ref.pr, .bool (numH 1).ref.pc, .int .i64 (numH 1).to.row, .int .i64 (numH 1).to.col, .bool (numH 1).to.pr, .bool (numH 1).to.pc, .int .i64 (numH 1).fn, .slice none 0 0, .int .i64 refH9.kind, .int .i64 refH9.op, .int .i64 refH9.num, .string ⟨refH9.text.toArray⟩, .int .i64 refH9.ref.row, .int .i64 refH9.ref.col, .bool refH9.ref.pr, .bool refH9.ref.pc, .int .i64 refH9.to.row, .int .i64 refH9.to.col, .bool refH9.to.pr, .bool refH9.to.pc, .int .i64 refH9.fn, .slice none 0 0] : Array Value)[o]? := fun o => by simp [World.cell?, hb]
 refine ⟨rfl, by omega, binH_ok (by simp [I64]), ⟨⟨b, 0, none, 0, 0, rfl, lt, ⟨lt, fun j v hj => ?_⟩, rfl, by omega, numH_ok (by simp [I64]), trivial⟩, ⟨b, 0, none, 0, 0, rfl, lt, ⟨lt, fun j v hj => ?_⟩, rfl, by omega, refH9_ok, trivial⟩, trivial⟩⟩
 ·have hl := (List.getElem?_eq_some_iff.1 hj).1
  have hl : j < 14 := by simpa [Hd.vals] using hl
  rw [c, ← hj]
  match j, hl with
  | 0, _ => rfl
  | 1, _ => rfl
  | 2, _ => rfl
  | 3, _ => rfl
  | 4, _ => rfl
  | 5, _ => rfl
  | 6, _ => rfl
  | 7, _ => rfl
  | 8, _ => rfl
  | 9, _ => rfl
  | 10, _ => rfl
  | 11, _ => rfl
  | 12, _ => rfl
  | 13, _ => rfl
 ·have hl := (List.getElem?_eq_some_iff.1 hj).1
  have hl : j < 14 := by simpa [Hd.vals] using hl
  rw [c, ← hj]
  match j, hl with
  | 0, _ => rfl
  | 1, _ => rfl
  | 2, _ => rfl
  | 3, _ => rfl
  | 4, _ => rfl
  | 5, _ => rfl
  | 6, _ => rfl
  | 7, _ => rfl
  | 8, _ => rfl
  | 9, _ => rfl
  | 10, _ => rfl
  | 11, _ => rfl
  | 12, _ => rfl
  | 13, _ => rfl
def bgI : List PI := [⟨1, 0, 0, 0, 0, []⟩, ⟨7, 4, 0, 0, 0, []⟩, ⟨2, 0, 0, 0, 0, []⟩, ⟨5, 4, 0, 0, 0, []⟩]
def bgC : List PV := [⟨1, 1, []⟩]
theorem bg_code : mayE (binH 4) bgKs = 0 ∧ codeT (binH 4) bgKs = (bgI, bgC) := ⟨by kernel_rfl, by kernel_rfl⟩
theorem bg_not : mayE (numH (-1)) .nil = 22 ∧ codeT (numH (-1)) .nil = ([], []) := ⟨by kernel_rfl, by kernel_rfl⟩
theorem itoa1 (n : Nat) (h : n < 10) : itoa n = [UInt8.ofNat (48 + n)] := by
 unfold itoa
 rw [if_neg (by omega), Int.toNat_natCast, decDigits, dif_pos h]
theorem bg_text : textC bgI bgC = ([99, 111, 110, 115, 116, 32, 105, 32, 49, 10, 100, 111, 46, 99, 111, 110, 115, 116, 32, 48, 10, 100, 111, 46, 101, 114, 114, 32, 52, 32, 48, 10, 100, 111, 46, 102, 101, 116, 99, 104, 32, 48, 32, 48, 10, 100, 111, 46, 98, 105, 110, 32, 52, 10], 0) := by
 have h : mayC bgI bgC = 0 := by kernel_rfl
 have e0 := itoa1 0 (by omega); have e1 := itoa1 1 (by omega); have e4 := itoa1 4 (by omega)
 simp only [Int.cast_ofNat_Int] at e0 e1 e4
 have e : codeTxt8 bgI bgC = [99, 111, 110, 115, 116, 32, 105, 32, 49, 10, 100, 111, 46, 99, 111, 110, 115, 116, 32, 48, 10, 100, 111, 46, 101, 114, 114, 32, 52, 32, 48, 10, 100, 111, 46, 102, 101, 116, 99, 104, 32, 48, 32, 48, 10, 100, 111, 46, 98, 105, 110, 32, 52, 10] := by
  simp [codeTxt8, consL, constL, insL, nameL, numsI, numL, usesI, bgI, bgC, e0, e1, e4]
 unfold textC
 rw [if_neg (by rw [h]; decide), e, if_neg (by decide)]
theorem bg_nums (w : World) : NumsW w bgI bgC := by
 refine ⟨fun c hc => .inl ?_, fun p hp n hn => .inl ?_⟩
 ·simp [bgC] at hc
  subst hc
  decide
 ·simp [bgI] at hp
  rcases hp with rfl | rfl | rfl | rfl <;> simp [numsI, usesI] at hn <;> omega
def Begun9 (w : World) (e : Ending) (w' : World) : Prop := e = .returned (.bool true) ∧ Below w.heap.size w w'
theorem begun17_any (w : World) : Calls Tryz.prog 7 #[] w (Begun9 w) := by
 have B0 := Lib.hid (Below.refl w.heap.size w)
 go_enter Tryz.func7, Tryz.ntmps7
 go_upto_region 1 with (fail)
 go_upto_region 2 with (fail)
 obtain ⟨w2, hw2⟩ : ∃ w2, w2 = (w.alloc (.cells #[.int .i64 1, .int .i64 0, .int .i64 1, .string ⟨#[]⟩, .int .i64 0, .int .i64 0, .bool false, .bool false, .int .i64 0, .int .i64 0, .bool false, .bool false, .int .i64 0, .slice none 0 0, .int .i64 5, .int .i64 0, .int .i64 0, .string ⟨#[]⟩, .int .i64 0, .int .i64 0, .bool false, .bool false, .int .i64 0, .int .i64 0, .bool false, .bool false, .int .i64 0, .slice none 0 0] 34)).alloc (.cells #[.int .i64 8, .int .i64 4, .int .i64 0, .string ⟨#[]⟩, .int .i64 0, .int .i64 0, .bool false, .bool false, .int .i64 0, .int .i64 0, .bool false, .bool false, .int .i64 0, .slice (some ⟨w.heap.size, 0, none⟩) 2 2] 34) := ⟨_, rfl⟩
 rw [← hw2]
 have hb2 : w2.heap[w.heap.size]? = some (.cells #[.int .i64 (numH 1).kind, .int .i64 (numH 1).op, .int .i64 (numH 1).num, .string ⟨(numH 1).text.toArray⟩, .int .i64 (numH 1).ref.row, .int .i64 (numH 1).ref.col, .bool (numH 1).ref.pr, .bool (numH 1).ref.pc, .int .i64 (numH 1).to.row, .int .i64 (numH 1).to.col, .bool (numH 1).to.pr, .bool (numH 1).to.pc, .int .i64 (numH 1).fn, .slice none 0 0, .int .i64 refH9.kind, .int .i64 refH9.op, .int .i64 refH9.num, .string ⟨refH9.text.toArray⟩, .int .i64 refH9.ref.row, .int .i64 refH9.ref.col, .bool refH9.ref.pr, .bool refH9.ref.pc, .int .i64 refH9.to.row, .int .i64 refH9.to.col, .bool refH9.to.pr, .bool refH9.to.pc, .int .i64 refH9.fn, .slice none 0 0] 34 (0, 0)) := by
  rw [hw2, Below.heap_alloc _ _ _ (by simp)]
  exact heap_alloc_new _ _
 have hn2 : NodeAt w2 (w.heap.size + 1) 0 (binH 4) (.slice (some ⟨w.heap.size, 0, none⟩) 2 2) := box_at (T := 34) (fr := (0, 0)) (by rw [hw2]; have := heap_alloc_new (w.alloc (.cells #[.int .i64 1, .int .i64 0, .int .i64 1, .string ⟨#[]⟩, .int .i64 0, .int .i64 0, .bool false, .bool false, .int .i64 0, .int .i64 0, .bool false, .bool false, .int .i64 0, .slice none 0 0, .int .i64 5, .int .i64 0, .int .i64 0, .string ⟨#[]⟩, .int .i64 0, .int .i64 0, .bool false, .bool false, .int .i64 0, .int .i64 0, .bool false, .bool false, .int .i64 0, .slice none 0 0] 34)) (.cells #[.int .i64 8, .int .i64 4, .int .i64 0, .string ⟨#[]⟩, .int .i64 0, .int .i64 0, .bool false, .bool false, .int .i64 0, .int .i64 0, .bool false, .bool false, .int .i64 0, .slice (some ⟨w.heap.size, 0, none⟩) 2 2] 34); rw [show ∀ o : Obj, (w.alloc o).heap.size = w.heap.size + 1 from fun o => by simp] at this; exact this)
 have be2 : Below w.heap.size w w2 := by rw [hw2]; exact ext_alloc (ext_alloc (Below.refl _ _) _) _
 have T2 := Lib.hid (bg_tree hb2)
 have N2 := Lib.hid hn2; have B2 := Lib.hid be2
 have hz2 : w.heap.size + 1 < w2.heap.size := by rw [hw2]; simp
 clear hw2 hb2 hn2 be2 B0
 go_wp2_with (refine cpLoad N2.out rfl rfl rfl ?_)
 refine (formula_code (binH 4) bgKs w2 w2.heap.size (some ⟨w.heap.size, 0, none⟩) 2 2 (Nat.le_refl _) T2.out).mono ?_
 rintro e w3 ⟨vI, vC, rfl, c3, b3⟩
 rw [bg_code.1]
 rw [bg_code.2] at c3
 obtain ⟨a1, k1, a2, k2, rfl, rfl⟩ := c3.slices
 have C3 := Lib.hid c3
 have B3 := Lib.hid (B2.out.trans (b3.mono B2.out.size))
 clear c3 b3 N2 T2 B2
 go_upto_region 3 with (fail)
 have h4 := ext_alloc (Below.refl w3.heap.size w3) (.cells #[.slice a1 bgI.length k1, .slice a2 bgC.length k2] 27)
 have A4 := Lib.hid ((C3.out.toA (Nat.le_refl _) (fun p hp => by simp [bgI] at hp; rcases hp with rfl | rfl | rfl | rfl <;> rfl) (by decide) (by decide) (by decide)).kept h4)
 have B4 := Lib.hid (B3.out.trans (h4.mono B3.out.size))
 clear h4
 go_wp2_with fail
 refine (codeText_any _ A4.out (by simp) (bg_nums _)).mono ?_
 rintro e w5 ⟨he, b5⟩
 rw [bg_text, show (⟨([99, 111, 110, 115, 116, 32, 105, 32, 49, 10, 100, 111, 46, 99, 111, 110, 115, 116, 32, 48, 10, 100, 111, 46, 101, 114, 114, 32, 52, 32, 48, 10, 100, 111, 46, 102, 101, 116, 99, 104, 32, 48, 32, 48, 10, 100, 111, 46, 98, 105, 110, 32, 52, 10] : List UInt8).toArray⟩ : ByteArray) = ⟨#[99, 111, 110, 115, 116, 32, 105, 32, 49, 10, 100, 111, 46, 99, 111, 110, 115, 116, 32, 48, 10, 100, 111, 46, 101, 114, 114, 32, 52, 32, 48, 10, 100, 111, 46, 102, 101, 116, 99, 104, 32, 48, 32, 48, 10, 100, 111, 46, 98, 105, 110, 32, 52, 10]⟩ from rfl] at he
 subst he
 have B5 := Lib.hid (B4.out.trans (b5.mono B4.out.size))
 clear b5 A4 B4 C3
 go_wp2_with fail
 refine (formula_code (numH (-1)) .nil w5 w5.heap.size none 0 0 (Nat.le_refl _) (num_tree (n := -1) (by simp [I64]) w5)).mono ?_
 rintro e w6 ⟨vI, vC, rfl, c6, b6⟩
 rw [bg_not.1]
 rw [bg_not.2] at c6
 obtain ⟨a3, k3, a4, k4, rfl, rfl⟩ := c6.slices
 have B6 := Lib.hid (B5.out.trans (b6.mono B5.out.size))
 clear b6 c6
 go_wp2
 go_ret
 exact ⟨rfl, ext_alloc B6.out _⟩
end Go.Proofs.YtlmpiobdgkmmgaaGreatDoor
namespace Go.Proofs.YtlmpiobdgkmmgaaGreatDoor
open Go.RowKit Go.Lib
theorem below_drewN {b n : Nat} {w w' : World} (h : Below b w w') : Below b w (w'.drewN n) := ⟨h.os, h.tape, h.output, h.size, h.block⟩
theorem bytes_inj9 {a b : List UInt8} (h : (⟨a.toArray⟩ : ByteArray) = ⟨b.toArray⟩) : a = b := by
 have := congrArg (fun x : ByteArray => x.data.toList) h
 simpa using this
theorem bytes_toList9 (l : List UInt8) : (⟨l.toArray⟩ : ByteArray).toList = l := by rw [Lib.toList_data]
@[go_sem ↓ high] theorem run_neq_con (k n k' n' : Int) (t t' : List UInt8) (w : World) :
 (binOp .neq 54 (.agg #[.int .i64 k, .int .i64 n, .string ⟨t.toArray⟩]) (.agg #[.int .i64 k', .int .i64 n', .string ⟨t'.toArray⟩])).run Tryz.prog w = .ok (.bool (!decide ((⟨k, n, t⟩ : PV) = ⟨k', n', t'⟩))) w := by
 simp only [PV.mk.injEq]
 by_cases h1 : k = k' <;> by_cases h2 : n = n' <;> by_cases h3 : t = t' <;> simp [go_sem, h1, h2, h3]
def EqB (ps : List PI) (cs : List PV) (qs : List PI) (ds : List PV) : Bool := decide (ps = qs) && decide (cs = ds)
theorem EqB_no1 {ps qs : List PI} {cs ds : List PV} (h : ps ≠ qs) : EqB ps cs qs ds = false := by simp [EqB, h]
theorem EqB_no2 {ps qs : List PI} {cs ds : List PV} (h : cs ≠ ds) : EqB ps cs qs ds = false := by simp [EqB, h]
theorem EqB_yes {ps qs : List PI} {cs ds : List PV} (h : ps = qs) (k : cs = ds) : EqB ps cs qs ds = true := by simp [EqB, h, k]
theorem EqB_self (ps : List PI) (cs : List PV) : EqB ps cs ps cs = true := EqB_yes rfl rfl
theorem take_all {α : Type} {l m : List α} {n j : Nat} (h : l.take j = m.take j) (h1 : l.length = n) (h2 : m.length = n) (hj : ¬ j < n) : l = m := by
 rwa [List.take_of_length_le (by omega), List.take_of_length_le (by omega)] at h
theorem take_more {α : Type} {l m : List α} {x : α} {j : Nat} (h : l.take j = m.take j) (h1 : l[j]? = some x) (h2 : m[j]? = some x) : l.take (j + 1) = m.take (j + 1) := by
 rw [List.take_add_one, List.take_add_one, h, h1, h2]
noncomputable def eqR (n : Nat) : Code := (regionB n ((Tryz.f10.body.map regionsB).getD [])).getD .skip
noncomputable def eqL (i : Nat) : Code := (((Tryz.f10.body.map loopsB).getD [])[i]?).getD .skip
theorem eq_r12 {Q : Exit → Act → World → Prop} {W : World} {X Y n1 n2 tk uk : Nat} {ta ua : Option Addr} {xo xa xb xc xd yo ya yb yc yd : Int} {u0 u1 u2 u3 u4 u5 u6 u9 u10 u11 u12 u13 u14 u15 u16 u17 u18 u19 u20 u21 u22 u23 u24 u25 u26 u27 u28 u29 u30 u31 u32 u33 u34 u35 u36 u37 u38 u39 u40 u41 u42 u43 u44 u45 u46 u47 u48 u49 u50 u51 u52 u53 u54 u55 u56 u57 u58 u59 u60 u61 u62 u63 u64 u65 u66 u67 u68 u69 u70 u71 u72 u73 u74 u75 u76 u77 u78 u79 u80 u81 u82 u83 u84 u85 u86 u87 u88 u89 u90 u91 u92 u93 u94 u95 u96 u97 u98 u99 u100 u101 u102 u103 u104 u105 u106 u107 u108 u109 u110 u111 u112 u113 u114 u115 u116 u117 u118 u119 u120 : Value} (kX0 : W.cell? ⟨X, 0, none⟩ = some (.int .i64 xo)) (kY0 : W.cell? ⟨Y, 0, none⟩ = some (.int .i64 yo)) (kX1 : W.cell? ⟨X, 1, none⟩ = some (.int .i64 xa)) (kY1 : W.cell? ⟨Y, 1, none⟩ = some (.int .i64 ya)) (kX2 : W.cell? ⟨X, 2, none⟩ = some (.int .i64 xb)) (kY2 : W.cell? ⟨Y, 2, none⟩ = some (.int .i64 yb)) (kX3 : W.cell? ⟨X, 3, none⟩ = some (.int .i64 xc)) (kY3 : W.cell? ⟨Y, 3, none⟩ = some (.int .i64 yc)) (kX4 : W.cell? ⟨X, 4, none⟩ = some (.int .i64 xd)) (kY4 : W.cell? ⟨Y, 4, none⟩ = some (.int .i64 yd)) (kX5 : W.cell? ⟨X, 5, none⟩ = some (.slice ta n1 tk)) (kY5 : W.cell? ⟨Y, 5, none⟩ = some (.slice ua n2 uk)) (_lX : X < W.heap.size) (_lY : Y < W.heap.size) (_hn1 : n1 ≤ 1000000000000000) (hn2 : n2 ≤ 1000000000000000)
 (hexit : Hid (∀ (v61 v62 v63 v64 v65 v66 v67 v68 v69 v70 v71 v72 v73 v74 v75 v76 v77 v78 v79 v80 v81 v82 v83 v84 v85 v86 v87 v88 v89 v90 v91 v92 v93 v94 v95 v96 v97 v98 v99 v100 v101 : Value) (r : Bool), (r = false → xo = yo ∧ xa = ya ∧ xb = yb ∧ xc = yc ∧ xd = yd ∧ n1 = n2) → (r = true → ¬ (xo = yo ∧ xa = ya ∧ xb = yb ∧ xc = yc ∧ xd = yd ∧ n1 = n2)) → Q .normal ⟨List.toArray (u0 :: u1 :: u2 :: u3 :: u4 :: u5 :: u6 :: .pointer (some ⟨X, 0, none⟩) :: .pointer (some ⟨Y, 0, none⟩) :: u9 :: u10 :: u11 :: u12 :: u13 :: u14 :: u15 :: u16 :: u17 :: u18 :: u19 :: u20 :: u21 :: u22 :: u23 :: u24 :: u25 :: u26 :: u27 :: u28 :: u29 :: u30 :: u31 :: u32 :: u33 :: u34 :: u35 :: u36 :: u37 :: u38 :: u39 :: u40 :: u41 :: u42 :: u43 :: u44 :: u45 :: u46 :: u47 :: u48 :: u49 :: u50 :: u51 :: u52 :: u53 :: u54 :: u55 :: u56 :: u57 :: u58 :: u59 :: u60 :: v61 :: v62 :: v63 :: v64 :: v65 :: v66 :: v67 :: v68 :: v69 :: v70 :: v71 :: v72 :: v73 :: v74 :: v75 :: v76 :: v77 :: v78 :: v79 :: v80 :: v81 :: v82 :: v83 :: v84 :: v85 :: v86 :: v87 :: v88 :: v89 :: v90 :: v91 :: v92 :: v93 :: v94 :: v95 :: v96 :: v97 :: v98 :: v99 :: v100 :: v101 :: (.bool r) :: u103 :: u104 :: u105 :: u106 :: u107 :: u108 :: u109 :: u110 :: u111 :: u112 :: u113 :: u114 :: u115 :: u116 :: u117 :: u118 :: u119 :: u120 :: []), []⟩ W)) :
 Code.wp Tryz.prog (eqR 12) Q ⟨List.toArray (u0 :: u1 :: u2 :: u3 :: u4 :: u5 :: u6 :: .pointer (some ⟨X, 0, none⟩) :: .pointer (some ⟨Y, 0, none⟩) :: u9 :: u10 :: u11 :: u12 :: u13 :: u14 :: u15 :: u16 :: u17 :: u18 :: u19 :: u20 :: u21 :: u22 :: u23 :: u24 :: u25 :: u26 :: u27 :: u28 :: u29 :: u30 :: u31 :: u32 :: u33 :: u34 :: u35 :: u36 :: u37 :: u38 :: u39 :: u40 :: u41 :: u42 :: u43 :: u44 :: u45 :: u46 :: u47 :: u48 :: u49 :: u50 :: u51 :: u52 :: u53 :: u54 :: u55 :: u56 :: u57 :: u58 :: u59 :: u60 :: u61 :: u62 :: u63 :: u64 :: u65 :: u66 :: u67 :: u68 :: u69 :: u70 :: u71 :: u72 :: u73 :: u74 :: u75 :: u76 :: u77 :: u78 :: u79 :: u80 :: u81 :: u82 :: u83 :: u84 :: u85 :: u86 :: u87 :: u88 :: u89 :: u90 :: u91 :: u92 :: u93 :: u94 :: u95 :: u96 :: u97 :: u98 :: u99 :: u100 :: u101 :: u102 :: u103 :: u104 :: u105 :: u106 :: u107 :: u108 :: u109 :: u110 :: u111 :: u112 :: u113 :: u114 :: u115 :: u116 :: u117 :: u118 :: u119 :: u120 :: []), []⟩ W := by
 conv => arg 2; whnf
 by_cases hn : xo = yo
 ·subst hn
  by_cases hn : xa = ya
  ·subst hn
   by_cases hn : xb = yb
   ·subst hn
    by_cases hn : xc = yc
    ·subst hn
     by_cases hn : xd = yd
     ·subst hn
      by_cases hn : n1 = n2
      ·subst hn
       go_wp2
       exact hexit.out _ _ _ _ _ _ _ _ _ _ _ _ _ _ _ _ _ _ _ _ _ _ _ _ _ _ _ _ _ _ _ _ _ _ _ _ _ _ _ _ _  false (fun _ => by simp) (fun q => by cases q)
      ·have nh : ¬ (n1 : Int) = (n2 : Int) := by omega
       have nd : decide ((n1 : Int) = (n2 : Int)) = false := decide_eq_false nh
       have nb : ((n1 : Int) == (n2 : Int)) = false := by rw [beq_eq_false_iff_ne]; exact nh
       have nn : ((n1 : Int) != (n2 : Int)) = true := by rw [bne_iff_ne]; exact nh
       go_wp2
       exact hexit.out _ _ _ _ _ _ _ _ _ _ _ _ _ _ _ _ _ _ _ _ _ _ _ _ _ _ _ _ _ _ _ _ _ _ _ _ _ _ _ _ _  true (fun q => by cases q) (fun _ q => hn q.2.2.2.2.2)
     ·have nh : ¬ xd = yd := hn
      have nd : decide (xd = yd) = false := decide_eq_false hn
      have nb : (xd == yd) = false := by rw [beq_eq_false_iff_ne]; exact hn
      have nn : (xd != yd) = true := by rw [bne_iff_ne]; exact hn
      go_wp2
      exact hexit.out _ _ _ _ _ _ _ _ _ _ _ _ _ _ _ _ _ _ _ _ _ _ _ _ _ _ _ _ _ _ _ _ _ _ _ _ _ _ _ _ _  true (fun q => by cases q) (fun _ q => hn (by simp only [q]))
    ·have nh : ¬ xc = yc := hn
     have nd : decide (xc = yc) = false := decide_eq_false hn
     have nb : (xc == yc) = false := by rw [beq_eq_false_iff_ne]; exact hn
     have nn : (xc != yc) = true := by rw [bne_iff_ne]; exact hn
     go_wp2
     exact hexit.out _ _ _ _ _ _ _ _ _ _ _ _ _ _ _ _ _ _ _ _ _ _ _ _ _ _ _ _ _ _ _ _ _ _ _ _ _ _ _ _ _  true (fun q => by cases q) (fun _ q => hn (by simp only [q]))
   ·have nh : ¬ xb = yb := hn
    have nd : decide (xb = yb) = false := decide_eq_false hn
    have nb : (xb == yb) = false := by rw [beq_eq_false_iff_ne]; exact hn
    have nn : (xb != yb) = true := by rw [bne_iff_ne]; exact hn
    go_wp2
    exact hexit.out _ _ _ _ _ _ _ _ _ _ _ _ _ _ _ _ _ _ _ _ _ _ _ _ _ _ _ _ _ _ _ _ _ _ _ _ _ _ _ _ _  true (fun q => by cases q) (fun _ q => hn (by simp only [q]))
  ·have nh : ¬ xa = ya := hn
   have nd : decide (xa = ya) = false := decide_eq_false hn
   have nb : (xa == ya) = false := by rw [beq_eq_false_iff_ne]; exact hn
   have nn : (xa != ya) = true := by rw [bne_iff_ne]; exact hn
   go_wp2
   exact hexit.out _ _ _ _ _ _ _ _ _ _ _ _ _ _ _ _ _ _ _ _ _ _ _ _ _ _ _ _ _ _ _ _ _ _ _ _ _ _ _ _ _  true (fun q => by cases q) (fun _ q => hn (by simp only [q]))
 ·have nh : ¬ xo = yo := hn
  have nd : decide (xo = yo) = false := decide_eq_false hn
  have nb : (xo == yo) = false := by rw [beq_eq_false_iff_ne]; exact hn
  have nn : (xo != yo) = true := by rw [bne_iff_ne]; exact hn
  go_wp2
  exact hexit.out _ _ _ _ _ _ _ _ _ _ _ _ _ _ _ _ _ _ _ _ _ _ _ _ _ _ _ _ _ _ _ _ _ _ _ _ _ _ _ _ _  true (fun q => by cases q) (fun _ q => hn (by simp only [q]))
theorem eq_l2 {Q : Exit → Act → World → Prop} {W : World} {X Y n1 b b' tk uk : Nat} {ta ua : Option Addr} {xt yt : List Int} {u0 u1 u2 u3 u4 u5 u6 u10 u11 u12 u13 u14 u15 u16 u17 u18 u19 u20 u21 u22 u23 u24 u25 u26 u27 u28 u29 u30 u31 u32 u33 u34 u35 u36 u37 u38 u39 u40 u41 u42 u43 u44 u45 u46 u47 u48 u49 u50 u51 u52 u53 u54 u55 u56 u57 u58 u59 u60 u61 u62 u63 u64 u65 u66 u67 u68 u69 u70 u71 u72 u73 u74 u75 u76 u77 u78 u79 u80 u81 u82 u83 u84 u85 u86 u87 u88 u89 u90 u91 u92 u93 u94 u95 u96 u97 u98 u99 u100 u101 u102 u103 u104 u105 u106 u107 u108 u109 u110 u111 u112 u113 u114 u115 u116 u117 u118 u119 u120 : Value}
 (kX5 : W.cell? ⟨X, 5, none⟩ = some (.slice ta n1 tk)) (kY5 : W.cell? ⟨Y, 5, none⟩ = some (.slice ua n1 uk)) (lX : X < W.heap.size) (lY : Y < W.heap.size) (HN1 : Hid (xt.length = n1)) (HN2 : Hid (yt.length = n1)) (hn : n1 ≤ 1000000000000000)
 (P1 : Hid (InsT W b (.slice ta n1 tk) xt)) (P2 : Hid (InsT W b' (.slice ua n1 uk) yt)) (hb : b ≤ W.heap.size) (hb' : b' ≤ W.heap.size)
 (hexit : Hid (∀ (v4 v9 v103 v104 v105 v106 v107 v108 v109 v110 v111 v112 v113 v114 v115 v116 v117 v118 v119 v120 : Value) (w' : World), xt = yt → Below W.heap.size W w' → Q (.exit 4) ⟨List.toArray (u0 :: u1 :: u2 :: u3 :: v4 :: u5 :: u6 :: .pointer (some ⟨X, 0, none⟩) :: .pointer (some ⟨Y, 0, none⟩) :: v9 :: u10 :: u11 :: u12 :: u13 :: u14 :: u15 :: u16 :: u17 :: u18 :: u19 :: u20 :: u21 :: u22 :: u23 :: u24 :: u25 :: u26 :: u27 :: u28 :: u29 :: u30 :: u31 :: u32 :: u33 :: u34 :: u35 :: u36 :: u37 :: u38 :: u39 :: u40 :: u41 :: u42 :: u43 :: u44 :: u45 :: u46 :: u47 :: u48 :: u49 :: u50 :: u51 :: u52 :: u53 :: u54 :: u55 :: u56 :: u57 :: u58 :: u59 :: u60 :: u61 :: u62 :: u63 :: u64 :: u65 :: u66 :: u67 :: u68 :: u69 :: u70 :: u71 :: u72 :: u73 :: u74 :: u75 :: u76 :: u77 :: u78 :: u79 :: u80 :: u81 :: u82 :: u83 :: u84 :: u85 :: u86 :: u87 :: u88 :: u89 :: u90 :: u91 :: u92 :: u93 :: u94 :: u95 :: u96 :: u97 :: u98 :: u99 :: u100 :: u101 :: u102 :: v103 :: v104 :: v105 :: v106 :: v107 :: v108 :: v109 :: v110 :: v111 :: v112 :: v113 :: v114 :: v115 :: v116 :: v117 :: v118 :: v119 :: v120 :: []), []⟩ w'))
 (hret : Hid (∀ (v9 v103 v104 v105 v106 v107 v108 v109 v110 v111 v112 v113 v114 v115 v116 v117 v118 v119 v120 : Value) (w' : World), xt ≠ yt → Below W.heap.size W w' → Q .ret ⟨List.toArray (u0 :: u1 :: u2 :: u3 :: (.bool false) :: u5 :: u6 :: .pointer (some ⟨X, 0, none⟩) :: .pointer (some ⟨Y, 0, none⟩) :: v9 :: u10 :: u11 :: u12 :: u13 :: u14 :: u15 :: u16 :: u17 :: u18 :: u19 :: u20 :: u21 :: u22 :: u23 :: u24 :: u25 :: u26 :: u27 :: u28 :: u29 :: u30 :: u31 :: u32 :: u33 :: u34 :: u35 :: u36 :: u37 :: u38 :: u39 :: u40 :: u41 :: u42 :: u43 :: u44 :: u45 :: u46 :: u47 :: u48 :: u49 :: u50 :: u51 :: u52 :: u53 :: u54 :: u55 :: u56 :: u57 :: u58 :: u59 :: u60 :: u61 :: u62 :: u63 :: u64 :: u65 :: u66 :: u67 :: u68 :: u69 :: u70 :: u71 :: u72 :: u73 :: u74 :: u75 :: u76 :: u77 :: u78 :: u79 :: u80 :: u81 :: u82 :: u83 :: u84 :: u85 :: u86 :: u87 :: u88 :: u89 :: u90 :: u91 :: u92 :: u93 :: u94 :: u95 :: u96 :: u97 :: u98 :: u99 :: u100 :: u101 :: u102 :: v103 :: v104 :: v105 :: v106 :: v107 :: v108 :: v109 :: v110 :: v111 :: v112 :: v113 :: v114 :: v115 :: v116 :: v117 :: v118 :: v119 :: v120 :: []), []⟩ w')) :
 Code.wp Tryz.prog (Code.loop (eqL 2)) Q ⟨List.toArray (u0 :: u1 :: u2 :: u3 :: u4 :: u5 :: u6 :: .pointer (some ⟨X, 0, none⟩) :: .pointer (some ⟨Y, 0, none⟩) :: (.int .i64 ((0 : Nat) : Int)) :: u10 :: u11 :: u12 :: u13 :: u14 :: u15 :: u16 :: u17 :: u18 :: u19 :: u20 :: u21 :: u22 :: u23 :: u24 :: u25 :: u26 :: u27 :: u28 :: u29 :: u30 :: u31 :: u32 :: u33 :: u34 :: u35 :: u36 :: u37 :: u38 :: u39 :: u40 :: u41 :: u42 :: u43 :: u44 :: u45 :: u46 :: u47 :: u48 :: u49 :: u50 :: u51 :: u52 :: u53 :: u54 :: u55 :: u56 :: u57 :: u58 :: u59 :: u60 :: u61 :: u62 :: u63 :: u64 :: u65 :: u66 :: u67 :: u68 :: u69 :: u70 :: u71 :: u72 :: u73 :: u74 :: u75 :: u76 :: u77 :: u78 :: u79 :: u80 :: u81 :: u82 :: u83 :: u84 :: u85 :: u86 :: u87 :: u88 :: u89 :: u90 :: u91 :: u92 :: u93 :: u94 :: u95 :: u96 :: u97 :: u98 :: u99 :: u100 :: u101 :: u102 :: u103 :: u104 :: u105 :: u106 :: u107 :: u108 :: u109 :: u110 :: u111 :: u112 :: u113 :: u114 :: u115 :: u116 :: u117 :: u118 :: u119 :: u120 :: []), []⟩ W := by
 conv => arg 2; arg 1; whnf
 go_loopw [9] (fun kv wr => ∃ k : Nat, kv = .int .i64 (k : Int) ∧ k ≤ n1 ∧ Hid (xt.take k = yt.take k) ∧ Hid (Below W.heap.size W wr)) (fun kv _ => n1 - (RowKit.intOf kv).toNat)
 case atStart => exact ⟨0, rfl, Nat.zero_le _, Lib.hid rfl, Lib.hid (Below.refl _ _)⟩
 case round =>
  obtain ⟨k, rfl, hk, hTT, HB4⟩ := hrel
  have f5 := HB4.out.cell (p := ⟨X, 5, none⟩) (by show X < _; omega)
  have f6 := HB4.out.cell (p := ⟨Y, 5, none⟩) (by show Y < _; omega)
  rw [kX5] at f5
  rw [kY5] at f6
  have l5 : X < wr.heap.size := by have := HB4.out.size; omega
  have l6 : Y < wr.heap.size := by have := HB4.out.size; omega
  by_cases hk2 : k < n1
  ·obtain ⟨u, hu⟩ : ∃ u, xt[k]? = some u := ⟨_, List.getElem?_eq_getElem (by have := HN1.out; omega)⟩
   obtain ⟨v, hv⟩ : ∃ v, yt[k]? = some v := ⟨_, List.getElem?_eq_getElem (by have := HN2.out; omega)⟩
   have i1 := (P1.out.kept (W' := wr) fun g hg => (HB4.out.block g (by omega)))
   have i2 := (P2.out.kept (W' := wr) fun g hg => (HB4.out.block g (by omega)))
   obtain ⟨_, _, e7, i1⟩ := i1
   obtain ⟨_, _, e8, i2⟩ := i2
   simp only [Value.slice.injEq] at e7 e8
   obtain ⟨rfl, -, rfl⟩ := e7
   obtain ⟨rfl, -, rfl⟩ := e8
   obtain ⟨h1, p1, rfl, m1, i1⟩ := i1 (by have := HN1.out; omega)
   obtain ⟨h2, p2, rfl, m2, i2⟩ := i2 (by have := HN2.out; omega)
   have q1 := i1 k u hu
   have q2 := i2 k v hv
   have v1 : h1 < wr.heap.size := by have := HB4.out.size; omega
   have v2 : h2 < wr.heap.size := by have := HB4.out.size; omega
   have HU := Lib.hid hu; have HV := Lib.hid hv
   clear hu hv i1 i2 P1 P2
   by_cases e : u = v
   ·subst e
    go_wp2_with fail
    go_quiet (fail)
    go_wp2
    exact ⟨⟨k + 1, by go_num, by omega, Lib.hid (take_more hTT.out HU.out HV.out), Lib.hid (below_drewN HB4.out)⟩, by simp [RowKit.intOf]; omega⟩
   ·have HNE : Hid (xt ≠ yt) := Lib.hid fun q => e (by
     have h1 := HU.out
     rw [q, HV.out] at h1
     exact (Option.some.inj h1).symm)
    have nd : decide (u = v) = false := decide_eq_false e
    have nb : (u == v) = false := by rw [beq_eq_false_iff_ne]; exact e
    have nn : (u != v) = true := by rw [bne_iff_ne]; exact e
    go_wp2_with fail
    go_quiet (fail)
    go_wp2
    exact hret.out _ _ _ _ _ _ _ _ _ _ _ _ _ _ _ _ _ _ _ _ HNE.out (below_drewN HB4.out)
  ·have HTT : Hid (xt = yt) := Lib.hid (take_all hTT.out HN1.out HN2.out hk2)
   clear hTT
   go_wp2
   exact hexit.out _ _ _ _ _ _ _ _ _ _ _ _ _ _ _ _ _ _ _ _ _ HTT.out HB4.out
end Go.Proofs.YtlmpiobdgkmmgaaGreatDoor
namespace Go.Proofs.YtlmpiobdgkmmgaaGreatDoor
open Go.RowKit Go.Lib
theorem longS_one {ps : List PI} {i : Nat} {p : PI} (h : ps[i]? = some p) : p.t.length ≤ longS ps := by
 have h1 := longS_step h
 have h2 := longS_le ps (i + 1)
 omega
theorem eq17_any {b b' : Nat} {vI vC wI wC : Value} {ps qs : List PI} {cs ds : List PV} (W : World) (h : CodeA W b vI vC ps cs) (h' : CodeA W b' wI wC qs ds) (hb : b ≤ W.heap.size) (hb' : b' ≤ W.heap.size) :
 Calls Tryz.prog 10 #[.agg #[vI, vC], .agg #[wI, wC]] W fun e w' => e = .returned (.bool (EqB ps cs qs ds)) ∧ Below W.heap.size W w' := by
 obtain ⟨ia, ik, rfl, rI⟩ := id h.iI
 obtain ⟨ca, ck, rfl, rC⟩ := id h.cC
 obtain ⟨ja, jk, rfl, sI⟩ := id h'.iI
 obtain ⟨da, dk, rfl, sC⟩ := id h'.cC
 have hN := h.nI; have hNC := h.nC; have hM := h'.nI; have hMC := h'.nC
 have HLP := Lib.hid h.long; have HLQ := Lib.hid h'.long
 have HRI := Lib.hid rI; have HRC := Lib.hid rC; have HSI := Lib.hid sI; have HSC := Lib.hid sC
 have HE : ∀ r : Bool, EqB ps cs qs ds = r → Hid (EqB ps cs qs ds = r) := fun r h => Lib.hid h
 obtain ⟨ni, hni⟩ : ∃ ni, ps.length = ni := ⟨_, rfl⟩
 obtain ⟨nc, hnc⟩ : ∃ nc, cs.length = nc := ⟨_, rfl⟩
 obtain ⟨mi, hmi⟩ : ∃ mi, qs.length = mi := ⟨_, rfl⟩
 obtain ⟨mc, hmc⟩ : ∃ mc, ds.length = mc := ⟨_, rfl⟩
 rw [hni] at hN HRI ⊢
 rw [hnc] at hNC HRC ⊢
 rw [hmi] at hM HSI ⊢
 rw [hmc] at hMC HSC ⊢
 have HNI := Lib.hid hni; have HNC := Lib.hid hnc; have HMI := Lib.hid hmi; have HMC := Lib.hid hmc
 obtain ⟨w0, hw0⟩ : ∃ w0, w0 = (W.alloc (.cells #[.slice ia ni ik, .slice ca nc ck] 27)).alloc (.cells #[.slice ja mi jk, .slice da mc dk] 27) := ⟨_, rfl⟩
 have CB0 : Hid (w0.cell? ⟨W.heap.size, 0, none⟩ = some (.slice ia ni ik)) := Lib.hid (by rw [hw0, World.cell?_alloc_past _ _ _ (by simp), World.cell?_alloc_at _ _ _ _ rfl]; rfl)
 have CB1 : Hid (w0.cell? ⟨W.heap.size, 1, none⟩ = some (.slice ca nc ck)) := Lib.hid (by rw [hw0, World.cell?_alloc_past _ _ _ (by simp), World.cell?_alloc_at _ _ _ _ rfl]; rfl)
 have CB2 : Hid (w0.cell? ⟨W.heap.size + 1, 0, none⟩ = some (.slice ja mi jk)) := Lib.hid (by rw [hw0, World.cell?_alloc_at _ _ _ _ (by simp)]; rfl)
 have CB3 : Hid (w0.cell? ⟨W.heap.size + 1, 1, none⟩ = some (.slice da mc dk)) := Lib.hid (by rw [hw0, World.cell?_alloc_at _ _ _ _ (by simp)]; rfl)
 have BW0 : Hid (Below W.heap.size W w0) := Lib.hid (by rw [hw0]; exact ext_alloc (ext_alloc (Below.refl _ _) _) _)
 have hW : w0.heap.size = W.heap.size + 2 := by rw [hw0]; simp
 have HW := Lib.hid hW
 clear h h' rI rC sI sC hni hnc hmi hmc hW
 go_enter Tryz.func10, Tryz.ntmps10
 go_upto_region 1 with (fail)
 rw [← hw0]
 have HW0 := Lib.hid hw0
 clear hw0
 have cb0 := CB0.out; have cb1 := CB1.out; have cb2 := CB2.out; have cb3 := CB3.out
 have hz0 : W.heap.size < w0.heap.size := by have := HW.out; omega
 have hz1 : W.heap.size + 1 < w0.heap.size := by have := HW.out; omega
 by_cases q1 : ni = mi
 ·subst q1
  by_cases q2 : nc = mc
  ·subst q2
   go_wp2_with fail
   go_loopw [5] (fun iv wr => ∃ j : Nat, iv = .int .i64 (j : Int) ∧ j ≤ nc ∧ Hid (cs.take j = ds.take j) ∧ Hid (Below (W.heap.size + 2) w0 wr)) (fun iv _ => nc - (RowKit.intOf iv).toNat)
   case atStart => exact ⟨0, rfl, Nat.zero_le _, Lib.hid rfl, Lib.hid (Below.refl _ _)⟩
   case round =>
    obtain ⟨j, rfl, hj, hT, HB1⟩ := hrel
    obtain ⟨w1, hw1⟩ : ∃ w1, wr = w1 := ⟨_, rfl⟩
    rw [hw1] at HB1 ⊢
    clear hw1 wr
    have e0 := HB1.out.cell (p := ⟨W.heap.size, 0, none⟩) (by show W.heap.size < _; omega)
    have e1 := HB1.out.cell (p := ⟨W.heap.size, 1, none⟩) (by show W.heap.size < _; omega)
    have e2 := HB1.out.cell (p := ⟨W.heap.size + 1, 0, none⟩) (by show W.heap.size + 1 < _; omega)
    have e3 := HB1.out.cell (p := ⟨W.heap.size + 1, 1, none⟩) (by show W.heap.size + 1 < _; omega)
    rw [cb0] at e0
    rw [cb1] at e1
    rw [cb2] at e2
    rw [cb3] at e3
    have y0 : W.heap.size < w1.heap.size := by have := HB1.out.size; omega
    have y1 : W.heap.size + 1 < w1.heap.size := by have := HB1.out.size; omega
    have BW1 : Hid (Below W.heap.size W w1) := Lib.hid (BW0.out.trans (HB1.out.mono (by omega)))
    have hw1 : W.heap.size + 2 ≤ w1.heap.size := by have := HB1.out.size; have := HW.out; omega
    clear cb0 cb1 cb2 cb3
    by_cases hlt : j < nc
    ·obtain ⟨x, hx⟩ : ∃ x, cs[j]? = some x := ⟨_, List.getElem?_eq_getElem (by have := HNC.out; omega)⟩
     obtain ⟨y, hy⟩ : ∃ y, ds[j]? = some y := ⟨_, List.getElem?_eq_getElem (by have := HMC.out; omega)⟩
     obtain ⟨g1, o1, rfl, l1, r1⟩ := HRC.out (by omega)
     obtain ⟨g2, o2, rfl, l2, r2⟩ := HSC.out (by omega)
     obtain ⟨c0, c1, c2⟩ := r1 j x hx
     obtain ⟨d0, d1, d2⟩ := r2 j y hy
     rw [← BW1.out.cell (p := ⟨g1, _, none⟩) (by show g1 < _; omega)] at c0 c1 c2
     rw [← BW1.out.cell (p := ⟨g2, _, none⟩) (by show g2 < _; omega)] at d0 d1 d2
     have hg1 : g1 < w1.heap.size := by omega
     have hg2 : g2 < w1.heap.size := by omega
     have HX := Lib.hid hx; have HY := Lib.hid hy
     clear hx hy r1 r2
     obtain ⟨xk, xn, xt⟩ := x
     obtain ⟨yk, yn, yt⟩ := y
     by_cases e : (⟨xk, xn, xt⟩ : PV) = ⟨yk, yn, yt⟩
     ·injection e with e1 e2 e3
      subst e1 e2 e3
      go_wp2_with fail
      go_quiet (fail)
      go_wp2
      exact ⟨⟨j + 1, by go_num, by omega, Lib.hid (take_more hT.out HX.out HY.out), Lib.hid (below_drewN HB1.out)⟩, by simp [RowKit.intOf]; omega⟩
     ·have HR := HE false (EqB_no2 fun q => e (by have h1 := HX.out; have h2 := HY.out; rw [q, h2] at h1; exact (Option.some.inj h1).symm))
      go_wp2_with fail
      go_quiet (fail)
      go_wp2
      go_ret
      exact ⟨by rw [HR.out]; rfl, below_drewN BW1.out⟩
    ·have HCD : Hid (cs = ds) := Lib.hid (take_all hT.out HNC.out HMC.out hlt)
     clear hT
     go_wp2_with fail
     go_loopw [6] (fun iv wr => ∃ i : Nat, iv = .int .i64 (i : Int) ∧ i ≤ ni ∧ Hid (ps.take i = qs.take i) ∧ Hid (Below (W.heap.size + 2) w1 wr)) (fun iv _ => ni - (RowKit.intOf iv).toNat)
     case atStart => exact ⟨0, rfl, Nat.zero_le _, Lib.hid rfl, Lib.hid (Below.refl _ _)⟩
     case round =>
      obtain ⟨i, rfl, hi, hP, HBW⟩ := hrel
      obtain ⟨wq, hwq⟩ : ∃ wq, wr = wq := ⟨_, rfl⟩
      rw [hwq] at HBW ⊢
      clear hwq wr
      have f0 := HBW.out.cell (p := ⟨W.heap.size, 0, none⟩) (by show W.heap.size < _; omega)
      have f2 := HBW.out.cell (p := ⟨W.heap.size + 1, 0, none⟩) (by show W.heap.size + 1 < _; omega)
      rw [e0] at f0
      rw [e2] at f2
      have z0 : W.heap.size < wq.heap.size := by have := HBW.out.size; omega
      have z1 : W.heap.size + 1 < wq.heap.size := by have := HBW.out.size; omega
      by_cases hlt2 : i < ni
      ·obtain ⟨x, hx⟩ : ∃ x, ps[i]? = some x := ⟨_, List.getElem?_eq_getElem (by have := HNI.out; omega)⟩
       obtain ⟨y, hy⟩ : ∃ y, qs[i]? = some y := ⟨_, List.getElem?_eq_getElem (by have := HMI.out; omega)⟩
       obtain ⟨g1, o1, rfl, r1⟩ := HRI.out (by omega)
       obtain ⟨g2, o2, rfl, r2⟩ := HSI.out (by omega)
       obtain ⟨t1, p1⟩ := r1 i x hx
       obtain ⟨t2, p2⟩ := r2 i y hy
       have p1 := p1.kept (W' := wq) fun g hg => (HBW.out.block g (by omega)).trans (BW1.out.block g (by omega))
       have p2 := p2.kept (W' := wq) fun g hg => (HBW.out.block g (by omega)).trans (BW1.out.block g (by omega))
       have c0 := p1.c0; have c1 := p1.c1; have c2 := p1.c2; have c3 := p1.c3; have c4 := p1.c4; have c5 := p1.c5
       have d0 := p2.c0; have d1 := p2.c1; have d2 := p2.c2; have d3 := p2.c3; have d4 := p2.c4; have d5 := p2.c5
       have hg1 : g1 < wq.heap.size := by have := p1.lt; omega
       have hg2 : g2 < wq.heap.size := by have := p2.lt; omega
       have P1 := Lib.hid p1; have P2 := Lib.hid p2
       have HX := Lib.hid hx; have HY := Lib.hid hy
       obtain ⟨ta, tk, rfl, -⟩ := id p1.t
       obtain ⟨ua, uk, rfl, -⟩ := id p2.t
       clear hx hy r1 r2 p1 p2
       obtain ⟨xo, xa, xb, xc, xd, xt⟩ := x
       obtain ⟨yo, ya, yb, yc, yd, yt⟩ := y
       obtain ⟨n1, hn1⟩ : ∃ n1, xt.length = n1 := ⟨_, rfl⟩
       obtain ⟨n2, hn2⟩ : ∃ n2, yt.length = n2 := ⟨_, rfl⟩
       simp only at c0 c1 c2 c3 c4 c5 d0 d1 d2 d3 d4 d5
       rw [hn1] at c5; rw [hn2] at d5
       have HN1 := Lib.hid hn1; have HN2 := Lib.hid hn2
       have hb1 : n1 ≤ 1000000000000000 := by have h1 := longS_one HX.out; have h2 := HLP.out; have h3 := HN1.out; simp only at h1; omega
       have hb2 : n2 ≤ 1000000000000000 := by have h1 := longS_one HY.out; have h2 := HLQ.out; have h3 := HN2.out; simp only at h1; omega
       clear hn1 hn2 e0 e2
       have e0 := f0; have e2 := f2
       clear f0 f2
       go_wp2_with fail
       go_region
       ·obtain ⟨w3, hw3⟩ : ∃ w3, w3 = ((wq.alloc (.cells #[.int .i64 xo, .int .i64 xa, .int .i64 xb, .int .i64 xc, .int .i64 xd, .slice ta n1 tk] 47)).alloc (.cells #[.int .i64 yo, .int .i64 ya, .int .i64 yb, .int .i64 yc, .int .i64 yd, .slice ua n2 uk] 47)).drew := ⟨_, rfl⟩
        rw [← hw3]
        have bA : w3.heap[wq.heap.size]? = some (.cells #[.int .i64 xo, .int .i64 xa, .int .i64 xb, .int .i64 xc, .int .i64 xd, .slice ta n1 tk] 47 (0, 0)) := by
         rw [hw3, show ∀ w : World, w.drew.heap = w.heap from fun _ => rfl, Below.heap_alloc _ _ _ (by simp)]
         exact heap_alloc_new _ _
        have bB : w3.heap[wq.heap.size + 1]? = some (.cells #[.int .i64 yo, .int .i64 ya, .int .i64 yb, .int .i64 yc, .int .i64 yd, .slice ua n2 uk] 47 (0, 0)) := by
         have := heap_alloc_new (wq.alloc (.cells #[.int .i64 xo, .int .i64 xa, .int .i64 xb, .int .i64 xc, .int .i64 xd, .slice ta n1 tk] 47)) (.cells #[.int .i64 yo, .int .i64 ya, .int .i64 yb, .int .i64 yc, .int .i64 yd, .slice ua n2 uk] 47)
         rw [show ∀ o : Obj, (wq.alloc o).heap.size = wq.heap.size + 1 from fun o => by simp] at this
         rw [hw3]; exact this
        have HB3 : Hid (Below wq.heap.size wq w3) := Lib.hid (by rw [hw3]; exact (ext_alloc (ext_alloc (Below.refl _ _) _) _).drew)
        clear hw3
        have kA := cells_of_block bA
        have kB := cells_of_block bB
        have lA := lt_of_block bA
        have lB := lt_of_block bB
        have BW3 : Hid (Below W.heap.size W w3) := Lib.hid (BW1.out.trans ((HBW.out.mono (by omega)).trans (HB3.out.mono (by have := HBW.out.size; omega))))
        have HBW3 : Hid (Below (W.heap.size + 2) w1 w3) := Lib.hid (HBW.out.trans (HB3.out.mono (by have := HBW.out.size; omega)))
        have HNE : Hid ((⟨xo, xa, xb, xc, xd, xt⟩ : PI) ≠ ⟨yo, ya, yb, yc, yd, yt⟩ → EqB ps cs qs ds = false) := Lib.hid fun ne => EqB_no1 fun q => ne (by have h1 := HX.out; have h2 := HY.out; rw [q, h2] at h1; exact (Option.some.inj h1).symm)
        have I1 : Hid (InsT w3 b (.slice ta n1 tk) xt) := Lib.hid (by have := P1.out.t.kept (W' := w3) fun g hg => HB3.out.block g (by have := HBW.out.size; omega); rwa [HN1.out] at this)
        have I2 : Hid (InsT w3 b' (.slice ua n2 uk) yt) := Lib.hid (by have := P2.out.t.kept (W' := w3) fun g hg => HB3.out.block g (by have := HBW.out.size; omega); rwa [HN2.out] at this)
        have hz3 : wq.heap.size ≤ w3.heap.size := HB3.out.size
        have hz4 : W.heap.size + 2 ≤ w3.heap.size := by have := HBW.out.size; omega
        clear bA bB HB3 e0 e2 z0 z1 c0 c1 c2 c3 c4 c5 d0 d1 d2 d3 d4 d5 hg1 hg2
        go_upto_region 12 with (fail)
        refine eq_r12 (X := wq.heap.size) (Y := wq.heap.size + 1) (kA 0) (kB 0) (kA 1) (kB 1) (kA 2) (kB 2) (kA 3) (kB 3) (kA 4) (kB 4) (kA 5) (kB 5) lA lB hb1 hb2 (Lib.hid ?_)
        intro v61 v62 v63 v64 v65 v66 v67 v68 v69 v70 v71 v72 v73 v74 v75 v76 v77 v78 v79 v80 v81 v82 v83 v84 v85 v86 v87 v88 v89 v90 v91 v92 v93 v94 v95 v96 v97 v98 v99 v100 v101 r r0 r1
        cases r with
        | true =>
         have HR := HE false (HNE.out fun q => by
          injection q with q1 q2 q3 q4 q5 q6
          exact r1 rfl ⟨q1, q2, q3, q4, q5, by rw [← HN1.out, ← HN2.out, q6]⟩)
         clear r0 r1 kA kB
         go_wp2
         go_ret
         exact ⟨by rw [HR.out]; rfl, BW3.out⟩
        | false =>
         obtain ⟨rfl, rfl, rfl, rfl, rfl, rfl⟩ := r0 rfl
         have HKA := Lib.hid (kA 5); have HKB := Lib.hid (kB 5)
         clear r0 r1 kA kB
         go_wp2_with fail
         refine eq_l2 (X := wq.heap.size) (Y := wq.heap.size + 1) HKA.out HKB.out lA lB HN1 HN2 hb1 I1 I2 (by omega) (by omega) (Lib.hid ?_) (Lib.hid ?_)
         ·intro v4 v9 v103 v104 v105 v106 v107 v108 v109 v110 v111 v112 v113 v114 v115 v116 v117 v118 v119 v120 w4 ht bb
          have HXY : Hid (ps.take (i + 1) = qs.take (i + 1)) := Lib.hid (take_more hP.out HX.out (by rw [HY.out, ht]))
          have HB5 : Hid (Below (W.heap.size + 2) w1 w4) := Lib.hid (HBW3.out.trans (bb.mono hz4))
          clear ht bb
          go_wp2
          exact ⟨⟨i + 1, by go_num, by omega, HXY, HB5⟩, by simp [RowKit.intOf]; omega⟩
         ·intro v9 v103 v104 v105 v106 v107 v108 v109 v110 v111 v112 v113 v114 v115 v116 v117 v118 v119 v120 w4 ht bb
          have HR := HE false (HNE.out fun q => ht (by injection q))
          have HB5 : Hid (Below W.heap.size W w4) := Lib.hid (BW3.out.trans (bb.mono BW3.out.size))
          clear ht bb
          go_wp2
          go_ret
          exact ⟨by rw [HR.out]; rfl, HB5.out⟩
       ·obtain ⟨w3, hw3⟩ : ∃ w3, w3 = ((wq.alloc (.cells #[.int .i64 yo, .int .i64 ya, .int .i64 yb, .int .i64 yc, .int .i64 yd, .slice ua n2 uk] 47)).alloc (.cells #[.int .i64 xo, .int .i64 xa, .int .i64 xb, .int .i64 xc, .int .i64 xd, .slice ta n1 tk] 47)).drew := ⟨_, rfl⟩
        rw [← hw3]
        have bA : w3.heap[wq.heap.size]? = some (.cells #[.int .i64 yo, .int .i64 ya, .int .i64 yb, .int .i64 yc, .int .i64 yd, .slice ua n2 uk] 47 (0, 0)) := by
         rw [hw3, show ∀ w : World, w.drew.heap = w.heap from fun _ => rfl, Below.heap_alloc _ _ _ (by simp)]
         exact heap_alloc_new _ _
        have bB : w3.heap[wq.heap.size + 1]? = some (.cells #[.int .i64 xo, .int .i64 xa, .int .i64 xb, .int .i64 xc, .int .i64 xd, .slice ta n1 tk] 47 (0, 0)) := by
         have := heap_alloc_new (wq.alloc (.cells #[.int .i64 yo, .int .i64 ya, .int .i64 yb, .int .i64 yc, .int .i64 yd, .slice ua n2 uk] 47)) (.cells #[.int .i64 xo, .int .i64 xa, .int .i64 xb, .int .i64 xc, .int .i64 xd, .slice ta n1 tk] 47)
         rw [show ∀ o : Obj, (wq.alloc o).heap.size = wq.heap.size + 1 from fun o => by simp] at this
         rw [hw3]; exact this
        have HB3 : Hid (Below wq.heap.size wq w3) := Lib.hid (by rw [hw3]; exact (ext_alloc (ext_alloc (Below.refl _ _) _) _).drew)
        clear hw3
        have kA := cells_of_block bA
        have kB := cells_of_block bB
        have lA := lt_of_block bA
        have lB := lt_of_block bB
        have BW3 : Hid (Below W.heap.size W w3) := Lib.hid (BW1.out.trans ((HBW.out.mono (by omega)).trans (HB3.out.mono (by have := HBW.out.size; omega))))
        have HBW3 : Hid (Below (W.heap.size + 2) w1 w3) := Lib.hid (HBW.out.trans (HB3.out.mono (by have := HBW.out.size; omega)))
        have HNE : Hid ((⟨xo, xa, xb, xc, xd, xt⟩ : PI) ≠ ⟨yo, ya, yb, yc, yd, yt⟩ → EqB ps cs qs ds = false) := Lib.hid fun ne => EqB_no1 fun q => ne (by have h1 := HX.out; have h2 := HY.out; rw [q, h2] at h1; exact (Option.some.inj h1).symm)
        have I1 : Hid (InsT w3 b (.slice ta n1 tk) xt) := Lib.hid (by have := P1.out.t.kept (W' := w3) fun g hg => HB3.out.block g (by have := HBW.out.size; omega); rwa [HN1.out] at this)
        have I2 : Hid (InsT w3 b' (.slice ua n2 uk) yt) := Lib.hid (by have := P2.out.t.kept (W' := w3) fun g hg => HB3.out.block g (by have := HBW.out.size; omega); rwa [HN2.out] at this)
        have hz3 : wq.heap.size ≤ w3.heap.size := HB3.out.size
        have hz4 : W.heap.size + 2 ≤ w3.heap.size := by have := HBW.out.size; omega
        clear bA bB HB3 e0 e2 z0 z1 c0 c1 c2 c3 c4 c5 d0 d1 d2 d3 d4 d5 hg1 hg2
        go_upto_region 12 with (fail)
        refine eq_r12 (X := wq.heap.size + 1) (Y := wq.heap.size) (kB 0) (kA 0) (kB 1) (kA 1) (kB 2) (kA 2) (kB 3) (kA 3) (kB 4) (kA 4) (kB 5) (kA 5) lB lA hb1 hb2 (Lib.hid ?_)
        intro v61 v62 v63 v64 v65 v66 v67 v68 v69 v70 v71 v72 v73 v74 v75 v76 v77 v78 v79 v80 v81 v82 v83 v84 v85 v86 v87 v88 v89 v90 v91 v92 v93 v94 v95 v96 v97 v98 v99 v100 v101 r r0 r1
        cases r with
        | true =>
         have HR := HE false (HNE.out fun q => by
          injection q with q1 q2 q3 q4 q5 q6
          exact r1 rfl ⟨q1, q2, q3, q4, q5, by rw [← HN1.out, ← HN2.out, q6]⟩)
         clear r0 r1 kA kB
         go_wp2
         go_ret
         exact ⟨by rw [HR.out]; rfl, BW3.out⟩
        | false =>
         obtain ⟨rfl, rfl, rfl, rfl, rfl, rfl⟩ := r0 rfl
         have HKA := Lib.hid (kB 5); have HKB := Lib.hid (kA 5)
         clear r0 r1 kA kB
         go_wp2_with fail
         refine eq_l2 (X := wq.heap.size + 1) (Y := wq.heap.size) HKA.out HKB.out lB lA HN1 HN2 hb1 I1 I2 (by omega) (by omega) (Lib.hid ?_) (Lib.hid ?_)
         ·intro v4 v9 v103 v104 v105 v106 v107 v108 v109 v110 v111 v112 v113 v114 v115 v116 v117 v118 v119 v120 w4 ht bb
          have HXY : Hid (ps.take (i + 1) = qs.take (i + 1)) := Lib.hid (take_more hP.out HX.out (by rw [HY.out, ht]))
          have HB5 : Hid (Below (W.heap.size + 2) w1 w4) := Lib.hid (HBW3.out.trans (bb.mono hz4))
          clear ht bb
          go_wp2
          exact ⟨⟨i + 1, by go_num, by omega, HXY, HB5⟩, by simp [RowKit.intOf]; omega⟩
         ·intro v9 v103 v104 v105 v106 v107 v108 v109 v110 v111 v112 v113 v114 v115 v116 v117 v118 v119 v120 w4 ht bb
          have HR := HE false (HNE.out fun q => ht (by injection q))
          have HB5 : Hid (Below W.heap.size W w4) := Lib.hid (BW3.out.trans (bb.mono BW3.out.size))
          clear ht bb
          go_wp2
          go_ret
          exact ⟨by rw [HR.out]; rfl, HB5.out⟩
      ·have HR := HE true (EqB_yes (take_all hP.out HNI.out HMI.out hlt2) HCD.out)
       have BB : Hid (Below W.heap.size W wq) := Lib.hid (BW1.out.trans (HBW.out.mono (by omega)))
       go_wp2
       go_ret
       exact ⟨by rw [HR.out]; rfl, BB.out⟩
  ·have HR := HE false (EqB_no2 fun q => q2 (by rw [← HNC.out, ← HMC.out, q]))
   have n1 : ((nc : Int) == (mc : Int)) = false := by rw [beq_eq_false_iff_ne]; omega
   have n2 : decide ((nc : Int) = (mc : Int)) = false := decide_eq_false (by omega)
   go_wp2
   go_ret
   exact ⟨by rw [HR.out]; rfl, BW0.out⟩
 ·have HR := HE false (EqB_no1 fun q => q1 (by rw [← HNI.out, ← HMI.out, q]))
  have n1 : ((ni : Int) == (mi : Int)) = false := by rw [beq_eq_false_iff_ne]; omega
  have n2 : decide ((ni : Int) = (mi : Int)) = false := decide_eq_false (by omega)
  go_wp2
  go_ret
  exact ⟨by rw [HR.out]; rfl, BW0.out⟩
end Go.Proofs.YtlmpiobdgkmmgaaGreatDoor
