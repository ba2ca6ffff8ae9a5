/- print.Formula's from; its lay, kinds 1 to 6. -/
import Derived.Test.YtnhgeojcelegbaaDoorPrA
import Derived.StillTailTactics
namespace Go.Proofs.YtnhgeojcelegbaaDoor
open Go.RowKit Go.Lib

theorem prStrB {w0 wa W : World} {N : Ns} {bs : List UInt8} (s : ByteArray) (h : PrW w0 N wa bs W) (hl : bs.length + s.size ≤ 1099511627776) : Calls Tryd.prog 38 #[.pointer (some ⟨N.n5, 0, none⟩), .string s] W fun e w' => (∃ v, e = .returned v) ∧ PrW w0 N wa (bs ++ s.data.toList) w' :=
  (Tryd.Builder_WriteString_k w0.heap.size N.n5 (byteCells bs) s W h.bld (by rw [byteCells_length]; omega) h.bel.size).mono fun e w' ⟨he, hb, bel, k⟩ => ⟨⟨_, he⟩, h.write rfl hb bel k⟩
theorem PrW.d6 {w0 wa W : World} {N : Ns} {bs : List UInt8} (h : PrW w0 N wa bs W) : W.cell? ⟨N.n6, 0, none⟩ = some (.map (some N.m)) := by simp [World.cell?, h.c6]
theorem PrW.d7 {w0 wa W : World} {N : Ns} {bs : List UInt8} (h : PrW w0 N wa bs W) : W.cell? ⟨N.n7, 0, none⟩ = some (.func (.func 36) #[] #[.pointer (some ⟨N.n6, 0, none⟩)]) := by simp [World.cell?, h.c7, levV]
theorem PrW.d8 {w0 wa W : World} {N : Ns} {bs : List UInt8} (h : PrW w0 N wa bs W) : W.cell? ⟨N.n8, 0, none⟩ = some (.func (.func 37) #[] #[.pointer (some ⟨N.n5, 0, none⟩)]) := by simp [World.cell?, h.c8, refV]
theorem PrW.d9 {w0 wa W : World} {N : Ns} {bs : List UInt8} (h : PrW w0 N wa bs W) : W.cell? ⟨N.n9, 0, none⟩ = some (.func (.func 40) #[] #[.pointer (some ⟨N.n5, 0, none⟩), .pointer (some ⟨N.n8, 0, none⟩), .pointer (some ⟨N.n10, 0, none⟩), .pointer (some ⟨N.n6, 0, none⟩), .pointer (some ⟨N.n9, 0, none⟩)]) := by simp [World.cell?, h.c9, layV]
theorem PrW.d10 {w0 wa W : World} {N : Ns} {bs : List UInt8} (h : PrW w0 N wa bs W) : W.cell? ⟨N.n10, 0, none⟩ = some (.func (.func 39) #[] #[.pointer (some ⟨N.n7, 0, none⟩), .pointer (some ⟨N.n9, 0, none⟩), .pointer (some ⟨N.n5, 0, none⟩)]) := by simp [World.cell?, h.c10, fromV]
/-- What laying a node does. -/
def LayS (w0 : World) (N : Ns) (h : Hd) (ks : Trees) : Prop :=
  ∀ (W wa : World) (bs : List UInt8) (b off : Nat) (ka : Option Addr) (kl kc : Nat), b < w0.heap.size → NodeAt w0 b off h (.slice ka kl kc) → TreeV w0 w0.heap.size h ks ka kl → PrW w0 N wa bs W → bs.length + roomH h ks ≤ 274877906944 → h.bytes + ks.bytes ≤ 16384 → treeFits h ks = true →
    Calls Tryd.prog 40 #[.pointer (some ⟨b, off, none⟩), .pointer (some ⟨N.n5, 0, none⟩), .pointer (some ⟨N.n8, 0, none⟩), .pointer (some ⟨N.n10, 0, none⟩), .pointer (some ⟨N.n6, 0, none⟩), .pointer (some ⟨N.n9, 0, none⟩)] W (LayP w0 N wa (bs ++ textL h ks))
theorem treeFits_op {h : Hd} {ks : Trees} (f : treeFits h ks = true) (k : h.kind = 8) : 1 ≤ h.op ∧ h.op ≤ 12 := by
  simp only [treeFits, Bool.and_eq_true] at f
  obtain ⟨a, b, c⟩ := (good_of f.1).2.2.2.2.1 k
  exact ⟨a, b⟩
set_option maxRecDepth 100000 in
set_option maxHeartbeats 2000000 in
theorem from_any {w0 : World} {N : Ns} {h : Hd} {ks : Trees} (S : LayS w0 N h ks) (n : Int) (W wa : World) (bs : List UInt8) (b off : Nat) (ka : Option Addr) (kl kc : Nat) (hb : b < w0.heap.size) (nd : NodeAt w0 b off h (.slice ka kl kc)) (tv : TreeV w0 w0.heap.size h ks ka kl) (P : PrW w0 N wa bs W) (hl : bs.length + 10 + roomH h ks ≤ 274877906944) (hy : h.bytes + ks.bytes ≤ 16384) (hf : treeFits h ks = true) (hlen : (textL h ks).length ≤ roomH h ks) :
    Calls Tryd.prog 39 #[.pointer (some ⟨b, off, none⟩), .int .i64 n, .pointer (some ⟨N.n7, 0, none⟩), .pointer (some ⟨N.n9, 0, none⟩), .pointer (some ⟨N.n5, 0, none⟩)] W (LayP w0 N wa (bs ++ fromL (h, textL h ks) n)) := by
  have d7 := P.d7
  have cl := level_any h W N b off _ (nd.kept P.bel hb) P.c6 P.map (treeFits_op hf)
  have HP := Lib.hid P
  have lay := fun W' bs' (P' : PrW w0 N wa bs' W') (hl' : bs'.length + roomH h ks ≤ 274877906944) => S W' wa bs' b off ka kl kc hb nd tv P' hl' hy hf
  have LAY := Lib.hid lay
  obtain ⟨x, hx⟩ : ∃ x, levH h = x := ⟨_, rfl⟩
  obtain ⟨t, ht⟩ : ∃ t, textL h ks = t := ⟨_, rfl⟩
  rw [hx] at cl
  rw [ht] at hlen
  have hF : fromL (h, textL h ks) n = if n ≤ x then t else [40] ++ t ++ [41] := by rw [fromL, hx, ht]
  rw [hF]
  have HTX := Lib.hid ht
  clear hF hx ht S nd tv P lay hy hf
  have hW : ∀ k, Below W.heap.size W (W.drewN k) := fun k => ext_drewN (Below.refl _ _) k
  have HW := Lib.hid hW
  clear hW
  by_cases q : n ≤ x
  · rw [if_pos q]
    go_enter Tryd.func39, Tryd.ntmps39
    go_wp2_with fail
    refine cl.mono ?_
    rintro e w1 ⟨rfl, k, rfl⟩
    have P1 := Lib.hid (HP.out.below (HW.out k))
    generalize W.drewN k = W1 at P1 ⊢
    have d9 := P1.out.d9
    clear cl d7
    go_wp2_with fail
    refine (LAY.out W1 bs P1.out (by omega)).mono ?_
    rintro e w2 ⟨rfl, P2⟩
    rw [HTX.out] at P2
    have H2 := Lib.hid P2
    clear P2
    go_wp2
    exact bodyPost_ret (v := .tuple #[]) (by simp [results, Tryd.results39, go_sem]) rfl ⟨rfl, H2.out⟩
  · rw [if_neg q]
    go_enter Tryd.func39, Tryd.ntmps39
    go_wp2_with fail
    refine cl.mono ?_
    rintro e w1 ⟨rfl, k, rfl⟩
    have P1 := Lib.hid (HP.out.below (HW.out k))
    generalize W.drewN k = W1 at P1 ⊢
    clear cl d7
    go_wp2_with fail
    refine (prByte 40 P1.out (by omega)).mono ?_
    rintro e w2 ⟨rfl, P2⟩
    have d9b := P2.d9
    have H2 := Lib.hid P2
    clear P2
    go_wp2_with fail
    refine (LAY.out w2 (bs ++ [40]) H2.out (by simp; omega)).mono ?_
    rintro e w3 ⟨rfl, P3⟩
    rw [HTX.out] at P3
    have H3 := Lib.hid P3
    clear P3
    go_wp2_with fail
    refine (prByte 41 H3.out (by simp; omega)).mono ?_
    rintro e w4 ⟨rfl, P4⟩
    rw [show bs ++ [40] ++ t ++ [41] = bs ++ ([40] ++ t ++ [41]) by simp] at P4
    have H4 := Lib.hid P4
    clear P4
    go_wp2
    exact bodyPost_ret (v := .tuple #[]) (by simp [results, Tryd.results39, go_sem]) rfl ⟨rfl, H4.out⟩
theorem itoa_len {n : Int} (h : I64 n) : (itoa n).length ≤ 30 := by
  have e := h.1; have e2 := h.2
  unfold itoa
  split
  · have := decDigits_len 19 n.natAbs (by simp; omega)
    simp only [List.length_cons]; omega
  · have := decDigits_len 19 n.toNat (by simp; omega)
    omega
set_option maxRecDepth 100000 in
set_option maxHeartbeats 2000000 in
theorem lay_k1 {w0 : World} {N : Ns} (T : TabW w0) (op num : Int) (text : List UInt8) (ref tr : RefT) (fn : Int) (ks : Trees) : LayS w0 N ⟨1, op, num, text, ref, tr, fn⟩ ks := by
  intro W wa bs b off ka kl kc hb nd tv P hl hy hf
  have HT := Lib.hid T
  have hg := good_of (h := ⟨1, op, num, text, ref, tr, fn⟩) (n := ks.len) (by simp only [treeFits, Bool.and_eq_true] at hf; exact hf.1)
  simp only at hg
  have f := (nd.kept P.bel hb).facts
  have c0 := f.c0
  have c2 := f.c2
  have inum := tv.ok.num
  simp only at c2 inum
  have HP := Lib.hid P
  have hbW : b < W.heap.size := Nat.lt_of_lt_of_le hb P.bel.size
  clear P f T
  have HI := Lib.hid inum
  have hil := itoa_len inum
  clear hg hf hy tv nd hb inum
  go_enter Tryd.func40, Tryd.ntmps40
  go_wp2_with fail
  refine (wholeText_any num W (HT.out.kept HP.out.bel) HI.out).mono ?_
  rintro e w2 ⟨rfl, b2⟩
  have P2 := Lib.hid (HP.out.below b2)
  clear b2
  go_wp2_with fail
  refine (prStrB _ P2.out (by rw [strB_size]; simp only [roomH] at hl; omega)).mono ?_
  rintro e w9 ⟨⟨v9, rfl⟩, P9⟩
  have P3 := Lib.hid P9
  clear P9
  go_wp2
  exact bodyPost_ret (v := .tuple #[]) (by simp [results, Tryd.results40, go_sem]) rfl ⟨rfl, P3.out⟩
set_option maxRecDepth 100000 in
set_option maxHeartbeats 2000000 in
theorem lay_k2 {w0 : World} {N : Ns} (T : TabW w0) (op num : Int) (text : List UInt8) (ref tr : RefT) (fn : Int) (ks : Trees) : LayS w0 N ⟨2, op, num, text, ref, tr, fn⟩ ks := by
  intro W wa bs b off ka kl kc hb nd tv P hl hy hf
  have HT := Lib.hid T
  have hg := good_of (h := ⟨2, op, num, text, ref, tr, fn⟩) (n := ks.len) (by simp only [treeFits, Bool.and_eq_true] at hf; exact hf.1)
  simp only at hg
  have f := (nd.kept P.bel hb).facts
  have c0 := f.c0
  have c3 := f.c3
  simp only at c3
  have HP := Lib.hid P
  have hbW : b < W.heap.size := Nat.lt_of_lt_of_le hb P.bel.size
  clear P f T
  have hs : text.length ≤ 16384 := by simp only [Hd.bytes, if_true] at hy; omega
  obtain ⟨s, hs1⟩ : ∃ s : ByteArray, s = ⟨text.toArray⟩ := ⟨_, rfl⟩
  have hs2 : s.size ≤ 16384 := by rw [hs1, Lib.size_eq]; simpa using hs
  have hdq := dupQ_len text
  have hdt : s.data.toList = text := by rw [hs1]
  rw [← hs1] at c3
  have HD := Lib.hid hdt
  have hl2 : bs.length + 200 + 2 * text.length ≤ 274877906944 := by simp only [roomH] at hl; omega
  clear hg hf hy tv nd hb hs1 hdt hl
  go_enter Tryd.func40, Tryd.ntmps40
  go_wp2_with fail
  refine (replaceQ_any s W (HT.out.kept HP.out.bel) (by omega)).mono ?_
  rintro e w2 ⟨rfl, b2⟩
  rw [HD.out]
  have P2 := Lib.hid (HP.out.below b2)
  clear b2
  obtain ⟨t, ht⟩ : ∃ t, t = strB (dupQ text) := ⟨_, rfl⟩
  have tz : t.size ≤ 40000 := by rw [ht, strB_size]; omega
  have q1 : (9223372036854775807 < 1 + t.size) = False := eq_false (by omega)
  have q2 : (9223372036854775807 < 1 + t.size + 1) = False := eq_false (by omega)
  rw [← ht]
  have HTT := Lib.hid ht
  clear ht
  go_wp2_with fail
  refine (prStrB _ P2.out (by simp only [ByteArray.size_append]; show bs.length + (1 + t.size + 1) ≤ _; omega)).mono ?_
  rintro e w9 ⟨⟨v9, rfl⟩, P9⟩
  have P3 := Lib.hid P9
  clear P9
  go_wp2
  exact bodyPost_ret (v := .tuple #[]) (by simp [results, Tryd.results40, go_sem]) rfl ⟨rfl, by
    have h := P3.out
    rw [HTT.out, show ((⟨#[34]⟩ : ByteArray) ++ strB (dupQ text) ++ ⟨#[34]⟩) = strB ([34] ++ dupQ text ++ [34]) from by rw [← strB_app, ← strB_app]; rfl] at h
    exact h⟩
set_option maxRecDepth 100000 in
set_option maxHeartbeats 2000000 in
theorem lay_k3 {w0 : World} {N : Ns} (T : TabW w0) (op num : Int) (text : List UInt8) (ref tr : RefT) (fn : Int) (ks : Trees) : LayS w0 N ⟨3, op, num, text, ref, tr, fn⟩ ks := by
  intro W wa bs b off ka kl kc hb nd tv P hl hy hf
  have HT := Lib.hid T
  have hg := good_of (h := ⟨3, op, num, text, ref, tr, fn⟩) (n := ks.len) (by simp only [treeFits, Bool.and_eq_true] at hf; exact hf.1)
  simp only at hg
  have f := (nd.kept P.bel hb).facts
  have c0 := f.c0
  have c2 := f.c2
  simp only at c2
  have HP := Lib.hid P
  have hbW : b < W.heap.size := Nat.lt_of_lt_of_le hb P.bel.size
  clear P f T
  have hl2 : bs.length + 200 ≤ 274877906944 := by simp only [roomH] at hl; omega
  have hn := hg.2.1 trivial
  clear hg hf hy tv nd hb hl
  rcases hn with rfl | rfl
  all_goals
    go_enter Tryd.func40, Tryd.ntmps40
    go_wp2_with fail
    refine (prStrB _ (HP.out.alloc _) (by first | exact Nat.le_trans (Nat.add_le_add_left (by decide : ByteArray.size ⟨#[70, 65, 76, 83, 69]⟩ ≤ 5) _) (by omega) | exact Nat.le_trans (Nat.add_le_add_left (by decide : ByteArray.size ⟨#[84, 82, 85, 69]⟩ ≤ 5) _) (by omega))).mono ?_
    rintro e w9 ⟨⟨v9, rfl⟩, P9⟩
    have P3 := Lib.hid P9
    clear P9
    go_wp2
    exact bodyPost_ret (v := .tuple #[]) (by simp [results, Tryd.results40, go_sem]) rfl ⟨rfl, P3.out⟩
set_option maxRecDepth 100000 in
set_option maxHeartbeats 2000000 in
theorem lay_k4 {w0 : World} {N : Ns} (T : TabW w0) (op num : Int) (text : List UInt8) (ref tr : RefT) (fn : Int) (ks : Trees) : LayS w0 N ⟨4, op, num, text, ref, tr, fn⟩ ks := by
  intro W wa bs b off ka kl kc hb nd tv P hl hy hf
  have HT := Lib.hid T
  have hg := good_of (h := ⟨4, op, num, text, ref, tr, fn⟩) (n := ks.len) (by simp only [treeFits, Bool.and_eq_true] at hf; exact hf.1)
  simp only at hg
  have f := (nd.kept P.bel hb).facts
  have c0 := f.c0
  have c2 := f.c2
  simp only at c2
  have HP := Lib.hid P
  have hbW : b < W.heap.size := Nat.lt_of_lt_of_le hb P.bel.size
  clear P f T
  have hl2 : bs.length + 200 ≤ 274877906944 := by simp only [roomH] at hl; omega
  obtain ⟨hn1, hn2⟩ := hg.2.2.1 trivial
  have he := errL_len num
  clear hg hf hy tv nd hb hl
  go_enter Tryd.func40, Tryd.ntmps40
  go_wp2_with fail
  refine (errors_any num W hn1 hn2).mono ?_
  rintro e w2 ⟨rfl, b2⟩
  have P2 := Lib.hid (HP.out.below b2)
  clear b2
  go_wp2_with fail
  refine (prStrB _ P2.out (by rw [strB_size]; omega)).mono ?_
  rintro e w9 ⟨⟨v9, rfl⟩, P9⟩
  have P3 := Lib.hid P9
  clear P9
  go_wp2
  exact bodyPost_ret (v := .tuple #[]) (by simp [results, Tryd.results40, go_sem]) rfl ⟨rfl, P3.out⟩
end Go.Proofs.YtnhgeojcelegbaaDoor
