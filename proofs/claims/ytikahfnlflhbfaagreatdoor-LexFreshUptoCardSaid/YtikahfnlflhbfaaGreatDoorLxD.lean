/- A formula's words: a text between quotes. -/
import Derived.Test.YtikahfnlflhbfaaGreatDoorLxC
import Derived.Laws.IdiomStrings
namespace Go.Proofs.YtikahfnlflhbfaaGreatDoor
open Go.RowKit Go.Lib

def bytes8 (l : List UInt8) : List Value := l.map fun b => Value.int .u8 (b.toNat : Int)
theorem bytes8_app (a b : List UInt8) : bytes8 (a ++ b) = bytes8 a ++ bytes8 b := List.map_append
theorem u8_info8 : (Tryz.prog.info? 5).map (fun i => (i.zero, i.size, i.bytes)) = some (some (.int .u8 0), 1, 1) := by kernel_rfl
theorem owns_string8 {w : World} {base : Nat} {v : Value} {l : List UInt8} (h : w.ownsRow base 5 1 v l.length (bytes8 l)) : (convert 52 9 v).run Tryz.prog w = .ok (.string (strB l)) w := by
  rcases h.2 with ⟨rfl, h0⟩ | ⟨g, cap, cur, rfl, _, _, _, _, _⟩
  · have : l = [] := List.length_eq_zero_iff.1 h0
    subst this
    rw [run_convert_bytes_string w 52 9 5 none 0 0 Tryz.underlying52 Tryz.underlying5 Tryz.underlying9]
    rfl
  · refine run_convert_bytes_back w 52 9 5 ⟨g, 0, none⟩ cap l Tryz.underlying52 Tryz.underlying5 Tryz.underlying9 fun j hj => ?_
    exact h.cells (g := g) rfl j _ (by simp [bytes8, List.getElem?_eq_getElem hj])
theorem rel_byte {W : Nat} {t : List UInt8} {c : UInt8} {w wr w1 : World} {b v' : Value} {o : Obj} (hB : W ≤ wr.heap.size)
    (hown : wr.ownsRow W 5 1 b t.length (bytes8 t)) (hbel : Below W w wr)
    (hown' : w1.ownsRow W 5 1 v' (t.length + 1) (bytes8 t ++ [.int .u8 (c.toNat : Int)])) (hgrow : (wr.alloc o).grownBy w1 b.ownBlock) :
    w1.ownsRow W 5 1 v' (t ++ [c]).length (bytes8 (t ++ [c])) ∧ Below W w w1 := by
  refine ⟨by rw [bytes8_app, List.length_append]; exact hown', ?_⟩
  exact (hbel.alloc hB o).grown hgrow (by simp; omega) (fun k hk => (World.ownsRow.lt hown k hk).1)

/-- What a word's taking leaves: the word laid down, or the error told. -/
def WordPost (C : Nat) (s : ByteArray) (ws : List WordL) (w : World) (p : Nat) (g : GotL) (e : Ending) (w' : World) : Prop :=
  if g.err = 0 then PutPost C s (ws ++ [⟨g.kind, g.text, p⟩]) w ((p + g.n : Nat) : Int) 0 e w' else PutPost C s ws w 0 g.err e w'
theorem word_put {C : Nat} {s : ByteArray} {ws : List WordL} {w wr w3 : World} {p : Nat} {g : GotL} {nx : Int} (hg : g.err = 0) (hn : nx = ((p + g.n : Nat) : Int)) (hb : Below w.heap.size w wr) (hC : C + 1 < w.heap.size)
    (h : CutS C s (ws ++ [⟨g.kind, g.text, p⟩]) w3) (k : Kp C wr w3) : WordPost C s ws w p g (.returned (.tuple #[.int .i64 nx, .int .i64 0])) w3 := by
  unfold WordPost
  rw [if_pos hg, hn]
  exact ⟨rfl, h, (Kp.of hb hC).trans k⟩
theorem word_err {C : Nat} {s : ByteArray} {ws : List WordL} {w w3 : World} {p : Nat} {g : GotL} {e : Int} (hg : g.err = e) (he : e ≠ 0) (hb : Below w.heap.size w w3) (hS : CutS C s ws w) :
    WordPost C s ws w p g (.returned (.tuple #[.int .i64 0, .int .i64 e])) w3 := by
  unfold WordPost
  rw [hg, if_neg he]
  exact ⟨rfl, hS.kept hb, Kp.of hb hS.lt⟩
theorem quoteL_plain {l : List UInt8} {k : Nat} {c : UInt8} (h : l[k]? = some c) (hc : c ≠ 34) : quoteL (l.drop k) = (quoteL (l.drop (k + 1))).map fun x => (c :: x.1, x.2 + 1) := by
  obtain ⟨hk, e⟩ := List.getElem?_eq_some_iff.1 h
  rw [List.drop_eq_getElem_cons hk, e]
  conv => lhs; unfold quoteL
  rw [if_neg hc]
theorem quoteL_two {l : List UInt8} {k : Nat} (h : l[k]? = some 34) (h1 : l[k + 1]? = some 34) : quoteL (l.drop k) = (quoteL (l.drop (k + 2))).map fun x => (34 :: x.1, x.2 + 2) := by
  obtain ⟨hk, e⟩ := List.getElem?_eq_some_iff.1 h
  obtain ⟨hk1, e1⟩ := List.getElem?_eq_some_iff.1 h1
  rw [List.drop_eq_getElem_cons hk, e, List.drop_eq_getElem_cons hk1, e1]
  conv => lhs; unfold quoteL
  simp
theorem quoteL_end {l : List UInt8} {k : Nat} (h : l[k]? = some 34) (h1 : l[k + 1]? ≠ some 34) : quoteL (l.drop k) = some ([], 1) := by
  obtain ⟨hk, e⟩ := List.getElem?_eq_some_iff.1 h
  rw [List.drop_eq_getElem_cons hk, e]
  unfold quoteL
  rw [if_pos rfl]
  cases hd : l.drop (k + 1) with
  | nil => rfl
  | cons d r =>
    have : l[k + 1]? = some d := by rw [← List.head?_drop, hd]; rfl
    simp only
    rw [if_neg (fun q => h1 (by rw [this, q]))]
theorem quoteL_off {l : List UInt8} {k : Nat} (h : l.length ≤ k) : quoteL (l.drop k) = none := by
  rw [List.drop_eq_nil_of_le h]; rfl
theorem byte_ne {c : UInt8} (h : c ≠ 34) : ((c.toNat : Int) != 34) = true ∧ ((c.toNat : Int) == 34) = false := by
  have : (c.toNat : Int) ≠ 34 := fun q => h (UInt8.toNat_inj.1 (by show c.toNat = 34; omega))
  simp [this]
theorem byte_eq {c : UInt8} (h : c = 34) : ((c.toNat : Int) != 34) = false ∧ ((c.toNat : Int) == 34) = true := by subst h; decide
theorem get8 {s : ByteArray} {k : Nat} (h : k < s.size) : s.data.toList[k]? = some s[k] := by rw [List.getElem?_eq_getElem (by simpa using h)]; rfl
def QRel (l : List UInt8) (at_ W : Nat) (w : World) (b i : Value) (wr : World) : Prop :=
  ∃ (k : Nat) (t : List UInt8), i = .int .i64 k ∧ at_ + 1 ≤ k ∧ k ≤ l.length + 1 ∧ t.length ≤ k ∧ Hid (wr.ownsRow W 5 1 b t.length (bytes8 t)) ∧ Hid (Below W w wr) ∧
    Hid (quoteL (l.drop (at_ + 1)) = (quoteL (l.drop k)).map fun x => (t ++ x.1, x.2 + (k - (at_ + 1))))

set_option maxRecDepth 100000 in
set_option maxHeartbeats 4000000 in
theorem lxText_any (C : Nat) (s : ByteArray) (ws : List WordL) (p : Nat) (w : World) (hS : CutS C s ws w) (hp : p < s.size) (hs : s.size ≤ 65535) (hn : ws.length ≤ 100000) :
    Calls Tryz.prog 24 #[.pointer (some ⟨C, 0, none⟩), .int .i64 p] w (WordPost C s ws w p (textL8 (s.data.toList.drop p))) := by
  obtain ⟨i0, hi, hz0, hz1, hz2⟩ := info_parts u8_info8
  obtain ⟨W, hW⟩ : ∃ W, W = w.heap.size := ⟨_, rfl⟩
  have HW := Lib.hid hW
  have B0 : Below W w w := by rw [hW]; exact Below.refl _ w
  have HS := Lib.hid hS
  have hlen : s.data.toList.length = s.size := (Lib.size_eq s).symm
  have HLN := Lib.hid hlen
  have htl : (s.data.toList.drop p).tail = s.data.toList.drop (p + 1) := by rw [List.tail_drop]
  obtain ⟨G, hG⟩ : ∃ G, textL8 (s.data.toList.drop p) = G := ⟨_, rfl⟩
  rw [hG]
  unfold textL8 at hG
  rw [htl] at hG
  have HGG := Lib.hid hG
  clear hW hS hlen htl hG
  go_enter Tryz.func24, Tryz.ntmps24
  go_wp2
  go_loopw [6, 7] (fun b i wr => QRel s.data.toList p W w b i wr) (fun _ i _ => s.size + 1 - (intOf i).toNat)
  case atStart => exact ⟨p + 1, [], by go_num, by omega, by rw [HLN.out]; omega, by simp, Lib.hid (World.ownsRow_nil _ _ _ _), Lib.hid B0, Lib.hid (by simp)⟩
  case round =>
    obtain ⟨k, t, rfl, hk0, hk1, htk, hown, hbel, HQ⟩ := hrel
    have hln := HLN.out
    rw [hln] at hk1
    clear hln
    have hSr := HS.out.kept (by rw [← HW.out]; exact hbel.out)
    have c0 := hSr.cells
    have HSR := Lib.hid hSr
    have hb0 : W ≤ wr.heap.size := by have := hbel.out.size; rw [HW.out]; exact this
    clear hSr
    by_cases hlt : k < s.size
    · have HG := Lib.hid (get8 hlt)
      by_cases hc : s[k] = 34
      · obtain ⟨hc1, hc2⟩ := byte_eq hc
        have H34 : Hid (s.data.toList[k]? = some 34) := Lib.hid (by rw [HG.out, hc])
        clear hc
        by_cases hk2 : k + 1 < s.size
        · have HG1 := Lib.hid (get8 hk2)
          by_cases hd : s[k + 1] = 34
          · obtain ⟨hd1, hd2⟩ := byte_eq hd
            have HD : Hid (s.data.toList[k + 1]? = some 34) := Lib.hid (by rw [HG1.out, hd])
            clear hd
            have hne : decide (((k : Int) + 1) = (s.size : Int)) = false := by simp; omega
            go_wp2_with (first
              | (at_builtin; refine wpList_append_own _ rfl _ _ 52 rfl W 5 i0 (.int .u8 0) 1 1 Tryz.underlying52 hi hz0 hz1 hz2 rfl (by decide) _ _ _ rfl (hown.out.alloc _) ⟨wr.heap.size, 0, none⟩ 1 1 [.int .u8 ((34 : UInt8).toNat : Int)] rfl rfl (fun j u hj => by match j, hj with | 0, hj => (simp at hj; subst hj; simp [Addr.add])) (fun u hu => by simp at hu; subst hu; rfl) (by unfold maxLen; omega) (by omega) (by simp; omega) ?_; intro v' w1 hown' hgrow _))
            have R := rel_byte hb0 hown.out hbel.out hown' hgrow
            clear hown' hgrow
            go_wp2
            go_roundw
            case rel => exact ⟨k + 2, t ++ [34], by go_num, by omega, by rw [HLN.out]; omega, by simp; omega, Lib.hid R.1, Lib.hid R.2, Lib.hid (by
              rw [HQ.out, quoteL_two H34.out HD.out, Option.map_map]
              congr 1; funext x; simp; omega)⟩
            case measure => simp [intOf]; omega
          · obtain ⟨hd1, hd2⟩ := byte_ne hd
            have HD : Hid (s.data.toList[k + 1]? ≠ some 34) := Lib.hid (by rw [HG1.out]; intro q; injection q with q; exact hd q)
            clear hd
            have hq : quoteL (s.data.toList.drop (p + 1)) = some (t, k - p) := by
              rw [HQ.out, quoteL_end H34.out HD.out]; simp; omega
            have hgg := HGG.out
            rw [hq] at hgg
            have HG3 := Lib.hid hgg
            clear hq hgg
            have hback : ∀ v3, wr.ownsRow W 5 1 v3 t.length (bytes8 t) → (convert 52 9 v3).run Tryz.prog wr = .ok (.string (strB t)) wr := fun v3 h => owns_string8 h
            have hb3 := hback _ hown.out
            clear hback
            have hne : decide (((k : Int) + 1) = (s.size : Int)) = false := by simp; omega
            go_wp2_with fail
            refine (lxPut_any C s ws ⟨2, t, p⟩ _ wr HSR.out hn).mono ?_
            rintro e w3 ⟨rfl, h1, h2⟩
            go_wp2
            go_ret2
            rw [← HG3.out]
            exact word_put rfl (by simp; omega) (by rw [← HW.out]; exact hbel.out) HS.out.lt h1 h2
        · have HD : Hid (s.data.toList[k + 1]? ≠ some 34) := Lib.hid (by rw [List.getElem?_eq_none (by rw [HLN.out]; omega)]; simp)
          have hq : quoteL (s.data.toList.drop (p + 1)) = some (t, k - p) := by
            rw [HQ.out, quoteL_end H34.out HD.out]; simp; omega
          have hgg := HGG.out
          rw [hq] at hgg
          have HG3 := Lib.hid hgg
          clear hq hgg
          have hback : ∀ v3, wr.ownsRow W 5 1 v3 t.length (bytes8 t) → (convert 52 9 v3).run Tryz.prog wr = .ok (.string (strB t)) wr := fun v3 h => owns_string8 h
          have hb3 := hback _ hown.out
          clear hback
          have hne : decide (((k : Int) + 1) = (s.size : Int)) = true := by simp; omega
          go_wp2_with fail
          refine (lxPut_any C s ws ⟨2, t, p⟩ _ wr HSR.out hn).mono ?_
          rintro e w3 ⟨rfl, h1, h2⟩
          go_wp2
          go_ret2
          rw [← HG3.out]
          exact word_put rfl (by simp; omega) (by rw [← HW.out]; exact hbel.out) HS.out.lt h1 h2
      · obtain ⟨hc1, hc2⟩ := byte_ne hc
        have H34 := Lib.hid hc
        clear hc
        go_wp2_with (first
          | (at_builtin; refine wpList_append_own _ rfl _ _ 52 rfl W 5 i0 (.int .u8 0) 1 1 Tryz.underlying52 hi hz0 hz1 hz2 rfl (by decide) _ _ _ rfl (hown.out.alloc _) ⟨wr.heap.size, 0, none⟩ 1 1 [.int .u8 (s[k].toNat : Int)] rfl rfl (fun j u hj => by match j, hj with | 0, hj => (simp at hj; subst hj; simp [Addr.add])) (fun u hu => by simp at hu; subst hu; rfl) (by unfold maxLen; omega) (by omega) (by simp; omega) ?_; intro v' w1 hown' hgrow _))
        have R := rel_byte hb0 hown.out hbel.out hown' hgrow
        clear hown' hgrow
        go_wp2
        go_roundw
        case rel => exact ⟨k + 1, t ++ [s[k]], by go_num, by omega, by rw [HLN.out]; omega, by simp; omega, Lib.hid R.1, Lib.hid R.2, Lib.hid (by
          rw [HQ.out, quoteL_plain HG.out H34.out, Option.map_map]
          congr 1; funext x; simp; omega)⟩
        case measure => simp [intOf]; omega
    · have hq : quoteL (s.data.toList.drop (p + 1)) = none := by rw [HQ.out, quoteL_off (by rw [HLN.out]; omega)]; rfl
      have hgg := HGG.out
      rw [hq] at hgg
      have HG3 := Lib.hid hgg
      clear hq hgg
      go_wp2
      go_ret2
      rw [← HG3.out]
      exact word_err rfl (by decide) (by rw [← HW.out]; exact hbel.out) HS.out
end Go.Proofs.YtikahfnlflhbfaaGreatDoor
