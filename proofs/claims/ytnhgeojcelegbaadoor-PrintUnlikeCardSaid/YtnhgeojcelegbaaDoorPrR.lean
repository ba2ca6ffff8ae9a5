/- How long a formula's text may be. No program in sight. -/
import Derived.Test.YtnhgeojcelegbaaDoorPrT
import Derived.Test.YtnhgeojcelegbaaDoorTreeR
namespace Go.Proofs.YtnhgeojcelegbaaDoor
open Go.RowKit Go.Lib

theorem names_len : ∀ i, i < 76 → (rowAt i).name.length ≤ 30 := by decide
theorem infoName_len (n : Int) : (infoRow n).name.length ≤ 30 := by
  unfold infoRow
  split
  · exact names_len _ (by omega)
  · simp
theorem itoaR_len {n : Int} (h : I64 n) : (itoa n).length ≤ 30 := by
  have e := h.1; have e2 := h.2
  unfold itoa
  split
  · have := decDigits_len 19 n.natAbs (by simp; omega)
    simp only [List.length_cons]; omega
  · have := decDigits_len 19 n.toNat (by simp; omega)
    omega
def NumT : Trees → Prop
  | .nil => True
  | .cons h k r => I64 h.num ∧ NumT k ∧ NumT r
theorem RowIn.nums {w : World} {B : Nat} : ∀ {ts : Trees} {a : Option Addr} {i : Nat}, RowIn w B ts a i → NumT ts
  | .nil, _, _, _ => trivial
  | .cons _ _ _, _, _, ⟨⟨_, _, _, _, _, _, _, _, _, _, o, k⟩, r⟩ => ⟨o.num, RowIn.nums k, RowIn.nums r⟩
def sumLen : List (Hd × List UInt8) → Nat
  | [] => 0
  | k :: r => k.2.length + sumLen r
theorem argsL_len : ∀ (l : List (Hd × List UInt8)) (i : Nat), (argsL l i).length ≤ sumLen l + l.length
  | [], _ => by simp [argsL, sumLen]
  | k :: r, i => by
    have := argsL_len r (i + 1)
    simp only [argsL, sumLen, List.length_append, List.length_cons]
    split <;> (simp only [List.length_nil, List.length_cons]; omega)
theorem kid_len (l : List (Hd × List UInt8)) : (kidAt l 0).2.length + (kidAt l 1).2.length ≤ sumLen l := by
  match l with
  | [] => simp [kidAt, sumLen]
  | [a] => simp [kidAt, sumLen]
  | a :: b :: r => exact (by omega : a.2.length + b.2.length ≤ a.2.length + (b.2.length + sumLen r))
theorem fromL_len (k : Hd × List UInt8) (n : Int) : (fromL k n).length ≤ k.2.length + 2 := by
  unfold fromL
  split
  · omega
  · simp
theorem refTextL_len (r : RefT) : (refTextL r).length ≤ 20 := by
  unfold refTextL
  split
  · rename_i hp
    simp only [placeB, Bool.and_eq_true, decide_eq_true_eq] at hp
    have h1 := pinL_len r.pc; have h2 := pinL_len r.pr; have h3 := lettersL_len r.col
    have h4 := decDigits_len 5 (r.row + 1).toNat (by simp; omega)
    simp only [List.length_append]; omega
  · simp
theorem nodeL_len (h : Hd) (l : List (Hd × List UInt8)) (hn : I64 h.num) : (nodeL h l).length ≤ 90 + 2 * h.text.length + sumLen l + 2 * l.length := by
  have a1 := itoaR_len hn
  have a2 := dupQ_len h.text
  have a3 := errL_len h.num
  have a4 := refTextL_len h.ref
  have a5 := refTextL_len h.to
  have a6 := kid_len l
  have a7 := infoName_len h.fn
  have a8 := argsL_len l 0
  have a9 := signL_len h.op
  have b1 := fromL_len (kidAt l 0) 7
  have b2 := fromL_len (kidAt l 0) 6
  have b3 := fromL_len (kidAt l 0) (levN h.op)
  have b4 := fromL_len (kidAt l 1) (levN h.op + 1)
  have b5 : (boolL h.num).length ≤ 5 := by unfold boolL; split <;> simp
  unfold nodeL
  (repeat' split) <;> (try simp only [List.length_append, List.length_cons, List.length_nil]) <;> omega
theorem txs_room : ∀ ts : Trees, NumT ts → sumLen (txs ts) + 100 * ts.len ≤ roomT ts
  | .nil, _ => by simp [txs, sumLen, Trees.len, roomT]
  | .cons h k r, ⟨n, nk, nr⟩ => by
    have h1 := txs_room k nk
    have h2 := txs_room r nr
    have h3 := nodeL_len h (txs k) n
    rw [txs_len] at h3
    simp only [txs, sumLen, Trees.len, roomT]
    omega
theorem textL_room (h : Hd) (ks : Trees) (n : I64 h.num) (nk : NumT ks) : (textL h ks).length + 100 ≤ roomH h ks := by
  have h1 := txs_room ks nk
  have h3 := nodeL_len h (txs ks) n
  rw [txs_len] at h3
  unfold textL roomH
  omega
theorem text_bytes {h : Hd} {n : Nat} (f : fitsV h n = true) : h.text.length = h.bytes := by
  unfold fitsV fitsB at f
  simp only [Bool.and_eq_true, Bool.or_eq_true, decide_eq_true_eq] at f
  obtain ⟨⟨⟨⟨⟨⟨⟨f1, f2⟩, f3⟩, f4⟩, f5⟩, f6⟩, f7⟩, f8⟩ := f
  unfold Hd.bytes
  rcases f4 with e | e
  · rw [if_pos e]
  · rw [e]; split <;> rfl
/-- A tree that may be: its room. -/
theorem room_fine : ∀ ts : Trees, allFits ts = true → roomT ts ≤ 200 * ts.nodes + 2 * ts.bytes
  | .nil, _ => by simp [roomT]
  | .cons h k r, f => by
    simp only [allFits, Bool.and_eq_true] at f
    have h1 := room_fine k f.1.2
    have h2 := room_fine r f.2
    have h3 := text_bytes f.1.1
    simp only [roomT, Trees.nodes, Trees.bytes]
    omega
end Go.Proofs.YtnhgeojcelegbaaDoor
