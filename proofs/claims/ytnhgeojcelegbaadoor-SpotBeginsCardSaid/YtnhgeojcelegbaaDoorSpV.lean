/- law2's capitals: each small letter a capital. -/
import Derived.Test.YtnhgeojcelegbaaDoorSpU
import Derived.Test.YtnhgeojcelegbaaDoorSpO
import Derived.WalkKit
import Derived.Laws.IdiomStrings
namespace Go.Proofs.YtnhgeojcelegbaaDoor
open Go.RowKit Go.Lib

def bytesV (l : List UInt8) : List Value := l.map fun b => Value.int .u8 (b.toNat : Int)
theorem u8_info : (Tryd.prog.info? 5).map (fun i => (i.zero, i.size, i.bytes)) = some (some (.int .u8 0), 1, 1) := by kernel_rfl
theorem owns_string {w : World} {base : Nat} {v : Value} {l : List UInt8} (h : w.ownsRow base 5 1 v l.length (bytesV l)) : (convert 65 9 v).run Tryd.prog w = .ok (.string (strB l)) w := by
  rcases h.2 with ⟨rfl, h0⟩ | ⟨g, cap, cur, rfl, _, _, _, _, _⟩
  · have : l = [] := List.length_eq_zero_iff.1 h0
    subst this
    rw [run_convert_bytes_string w 65 9 5 none 0 0 Tryd.underlying65 Tryd.underlying5 Tryd.underlying9]
    rfl
  · refine run_convert_bytes_back w 65 9 5 ⟨g, 0, none⟩ cap l Tryd.underlying65 Tryd.underlying5 Tryd.underlying9 fun j hj => ?_
    exact h.cells (g := g) rfl j _ (by simp [bytesV, List.getElem?_eq_getElem hj])
theorem caps_snoc (l : List UInt8) (k : Nat) (c : UInt8) (h : l[k]? = some c) : capsL (l.take (k + 1)) = capsL (l.take k) ++ [upperB c] := by
  obtain ⟨hk, e⟩ := List.getElem?_eq_some_iff.1 h
  rw [← List.take_append_getElem hk, caps_app, e]; rfl
theorem rel_cap {W : Nat} {k : Nat} {l : List UInt8} {c : UInt8} {w wr w1 : World} {b v' : Value} {o : Obj} (hk : l[k]? = some c) (hB : W ≤ wr.heap.size) (hw : W = w.heap.size)
    (hown : wr.ownsRow W 5 1 b k (bytesV (capsL (l.take k)))) (hnx : Below W w wr)
    (hown' : w1.ownsRow W 5 1 v' (k + 1) (bytesV (capsL (l.take k)) ++ [.int .u8 ((upperB c).toNat : Int)])) (hgrow : (wr.alloc o).grownBy w1 b.ownBlock) :
    w1.ownsRow W 5 1 v' (k + 1) (bytesV (capsL (l.take (k + 1)))) ∧ Below W w w1 := by
  refine ⟨?_, (hnx.alloc (by omega) o).grown hgrow (by simp; omega) (fun j hj => by have := (hown.lt j hj).1; omega)⟩
  rw [caps_snoc l k c hk]
  simpa [bytesV] using hown'
theorem up_low {c : UInt8} (h1 : 97 ≤ c.toNat) (h2 : c.toNat ≤ 122) : ((upperB c).toNat : Int) = (c.toNat : Int) - 97 + 65 := by
  have hl : letB c = true := by simp [letB]; omega
  have h := (letN_of hl).2.2
  rw [h, letN, if_neg (by omega), if_pos ⟨h1, h2⟩]
theorem up_not {c : UInt8} (h : ¬ (97 ≤ c.toNat ∧ c.toNat ≤ 122)) : upperB c = c := by
  unfold upperB isLowerB
  have e : (decide (97 ≤ c) && decide (c ≤ 122)) = false := by
    rw [Bool.and_eq_false_iff]
    simp only [decide_eq_false_iff_not, UInt8.le_iff_toNat_le]
    simp; omega
  simp only [e, Bool.false_eq_true, if_false]

set_option maxRecDepth 100000 in
set_option maxHeartbeats 4000000 in
theorem capitals_any (s : ByteArray) (w : World) (hs : s.size ≤ 1099511627776) : Calls Tryd.prog 26 #[.string s] w fun e w' => e = .returned (.string (strB (capsL s.data.toList))) ∧ Below w.heap.size w w' := by
  obtain ⟨i0, hi, hz0, hz1, hz2⟩ := info_parts u8_info
  obtain ⟨W, hW⟩ : ∃ W, W = w.heap.size := ⟨_, rfl⟩
  rw [← hW]
  have HW := Lib.hid hW
  have B0 : Below W w w := by rw [hW]; exact Below.refl _ w
  clear hW
  go_enter Tryd.func26, Tryd.ntmps26
  go_wp2
  go_loopw [3, 4] (fun b i wr => ∃ k : Nat, i = .int .i64 k ∧ k ≤ s.size ∧ wr.ownsRow W 5 1 b k (bytesV (capsL (s.data.toList.take k))) ∧ Below W w wr) (fun _ i _ => s.size - (intOf i).toNat)
  case atStart => exact ⟨0, rfl, Nat.zero_le _, World.ownsRow_nil _ _ _ _, B0⟩
  case round =>
    obtain ⟨k, rfl, hk, hown, hnx⟩ := hrel
    have hb0 : W ≤ wr.heap.size := by have := hnx.size; rw [HW.out]; exact this
    by_cases hlt : k < s.size
    · have hg : s.data.toList[k]? = some s[k] := by rw [List.getElem?_eq_getElem (by simpa using hlt)]; rfl
      have HG := Lib.hid hg
      have hown0 := Lib.hid hown
      have hnx0 := Lib.hid hnx
      clear hg hown hnx
      by_cases hc : 97 ≤ s[k].toNat ∧ s[k].toNat ≤ 122
      · have hu := Lib.hid (up_low hc.1 hc.2)
        obtain ⟨hc1, hc2⟩ := hc
        go_wp2_with (first
          | (at_builtin; refine wpList_append_own _ rfl _ _ 65 rfl W 5 i0 (.int .u8 0) 1 1 Tryd.underlying65 hi hz0 hz1 hz2 rfl (by decide) _ _ _ rfl (hown0.out.alloc _) ⟨wr.heap.size, 0, none⟩ 1 1 [.int .u8 ((upperB s[k]).toNat : Int)] rfl rfl ?c1 ?c2 ?c3 ?c4 ?c5 ?_))
        case c1 =>
          intro j u hj
          match j, hj with
          | 0, hj => simp at hj; subst hj; rw [hu.out]; simp [Addr.add]
        case c2 => intro u hu; simp at hu; subst hu; rfl
        case c3 => unfold maxLen; omega
        case c4 => omega
        case c5 => simp; omega
        intro v' w1 hown' hgrow _
        have R := rel_cap HG.out hb0 HW.out hown0.out hnx0.out hown' hgrow
        clear hown' hgrow
        go_wp2
        go_roundw
        case rel => exact ⟨k + 1, by go_num, by omega, R.1, R.2⟩
        case measure => simp [intOf]; omega
      · have hu := Lib.hid (up_not hc)
        go_wp2_with (first
          | (at_builtin; refine wpList_append_own _ rfl _ _ 65 rfl W 5 i0 (.int .u8 0) 1 1 Tryd.underlying65 hi hz0 hz1 hz2 rfl (by decide) _ _ _ rfl (hown0.out.alloc _) ⟨wr.heap.size, 0, none⟩ 1 1 [.int .u8 ((upperB s[k]).toNat : Int)] rfl rfl (fun j u hj => by match j, hj with | 0, hj => (simp at hj; subst hj; rw [hu.out]; simp [Addr.add])) (fun u hu => by simp at hu; subst hu; rfl) (by unfold maxLen; omega) (by omega) (by simp; omega) ?_; intro v' w1 hown' hgrow _))
        all_goals
          have R := rel_cap HG.out hb0 HW.out hown0.out hnx0.out hown' hgrow
          clear hown' hgrow
          go_wp2
          go_roundw
          case rel => exact ⟨k + 1, by go_num, by omega, R.1, R.2⟩
          case measure => simp [intOf]; omega
    · have hl : s.data.toList.take k = s.data.toList := List.take_of_length_le (by rw [← Lib.size_eq]; omega)
      rw [hl] at hown
      have hkl : k = (capsL s.data.toList).length := by rw [caps_len, ← Lib.size_eq]; omega
      have hback : (convert 65 9 u3).run Tryd.prog wr = .ok (.string (strB (capsL s.data.toList))) wr := owns_string (by rw [hkl] at hown; exact hown)
      have HN := Lib.hid hnx
      clear hl hown hkl hnx
      go_wp2
      go_ret
      exact ⟨rfl, HN.out⟩
end Go.Proofs.YtnhgeojcelegbaaDoor
