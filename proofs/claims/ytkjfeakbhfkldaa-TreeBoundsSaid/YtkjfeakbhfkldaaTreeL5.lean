/- TreeBounds, no program in sight: a chain of signs, a list of arguments and a text, and where they become too great. -/
import Derived.Test.YtkjfeakbhfkldaaTreeBg
namespace Go.Proofs.Ytkjfeakbhfkldaa

/-- A chain of n signs ahead of a number: its node and its kids. -/
def chainH : Nat → Hd
  | 0 => ⟨1, 0, 0, [], ⟨0, 0, false, false⟩, ⟨0, 0, false, false⟩, 0⟩
  | _ + 1 => ⟨7, 1, 0, [], ⟨0, 0, false, false⟩, ⟨0, 0, false, false⟩, 0⟩
def chainK : Nat → Trees
  | 0 => .nil
  | n + 1 => .cons (chainH n) (chainK n) .nil
def boolH : Hd := ⟨3, 0, 0, [], ⟨0, 0, false, false⟩, ⟨0, 0, false, false⟩, 0⟩
/-- n truths. -/
def boolsK : Nat → Trees
  | 0 => .nil
  | n + 1 => .cons boolH .nil (boolsK n)
/-- A text of n zero bytes. -/
def zerosH (n : Nat) : Hd := ⟨2, 0, 0, List.replicate n 0, ⟨0, 0, false, false⟩, ⟨0, 0, false, false⟩, 0⟩

theorem chainH_ok (n : Nat) : (chainH n).ok := by cases n <;> exact ok_small (by simp [I64])
theorem chainH_bytes (n : Nat) : (chainH n).bytes = 0 := by cases n <;> rfl
theorem chainK_nodes : ∀ n, (chainK n).nodes = n
  | 0 => rfl
  | n + 1 => by simp [chainK, Trees.nodes, chainK_nodes n]; omega
theorem chainK_deep : ∀ n, (chainK n).deep = n
  | 0 => rfl
  | n + 1 => by simp [chainK, Trees.deep, chainK_deep n]; omega
theorem chainK_bytes : ∀ n, (chainK n).bytes = 0
  | 0 => rfl
  | n + 1 => by simp [chainK, Trees.bytes, chainK_bytes n, chainH_bytes]
theorem chain_fits : ∀ n, treeFits (chainH n) (chainK n) = true
  | 0 => by kernel_rfl
  | 1 => by kernel_rfl
  | n + 2 => by
    have h := chain_fits (n + 1)
    have e : fitsV (chainH (n + 2)) 1 = true := rfl
    simp only [treeFits, chainK, Trees.len, allFits, Bool.and_eq_true, Bool.and_true] at h ⊢
    exact ⟨rfl, rfl, h.2⟩
theorem chain_len (n : Nat) : (chainK (n + 1)).len = 1 := rfl

theorem boolsK_len : ∀ n, (boolsK n).len = n
  | 0 => rfl
  | n + 1 => by simp [boolsK, Trees.len, boolsK_len n]
theorem boolsK_nodes : ∀ n, (boolsK n).nodes = n
  | 0 => rfl
  | n + 1 => by simp [boolsK, Trees.nodes, boolsK_nodes n]; omega
theorem boolsK_deep : ∀ n, (boolsK n).deep ≤ 1
  | 0 => by simp [boolsK, Trees.deep]
  | n + 1 => by have := boolsK_deep n; simp [boolsK, Trees.deep]; omega
theorem boolsK_bytes : ∀ n, (boolsK n).bytes = 0
  | 0 => rfl
  | n + 1 => by simp [boolsK, Trees.bytes, boolsK_bytes n, Hd.bytes, boolH]
theorem bool_fits : fitsV boolH 0 = true := by kernel_rfl
theorem boolsK_fits : ∀ n, allFits (boolsK n) = true
  | 0 => rfl
  | n + 1 => by simp [boolsK, allFits, boolsK_fits n, Trees.len, bool_fits]
theorem boolsK_snoc : ∀ n, (boolsK n).app (.cons boolH .nil .nil) = boolsK (n + 1)
  | 0 => rfl
  | n + 1 => by simp only [boolsK, Trees.app]; rw [boolsK_snoc n]; rfl
theorem sum_row : (infoRow 54).min = 1 ∧ (infoRow 54).max = -1 := by refine ⟨?_, ?_⟩ <;> kernel_rfl
theorem sum_fits (n : Nat) (h : 1 ≤ n) : treeFits sumH (boolsK n) = true := by
  have e1 := sum_row.1
  have e2 := sum_row.2
  simp only [treeFits, boolsK_fits, boolsK_len, Bool.and_true]
  unfold fitsV
  simp only [sumH, e1, e2]
  simp [fitsB, RefT.zero]
  omega
theorem bool_ok : boolH.ok := ok_small (by simp [I64])
theorem zeros_ok (n : Nat) (h : n ≤ 20000) : (zerosH n).ok := ⟨by simp [zerosH]; omega, by simp [zerosH, I64], by simp [zerosH, I64], by simp [zerosH, I64], by simp [zerosH, I64], by simp [zerosH, I64], by simp [zerosH, I64], by simp [zerosH, I64], by simp [zerosH, I64]⟩
theorem zeros_fits (n : Nat) : treeFits (zerosH n) .nil = true := by simp [treeFits, allFits, fitsV, fitsB, zerosH, Trees.len, RefT.zero]

/-- What May and Same say of a tree whose nodes are as they have to be. -/
def BoundV (h : Hd) (ks : Trees) (b : Bool) : Prop := mayE h ks = (if b = true then 2 else 0) ∧ sameV h h ks ks = !b
theorem bound_of {h : Hd} {ks : Trees} {b : Bool} (f : treeFits h ks = true) (q : Fine h ks ↔ b = false) : BoundV h ks b := by
  cases b
  · have f' := q.2 rfl
    exact ⟨by simp [mayE, f, f'], by simp [sameV, sameB, f']⟩
  · have f' : ¬ Fine h ks := fun x => by have := q.1 x; cases this
    exact ⟨by simp [mayE, f'], by simp [sameV, f']⟩
theorem bound_chain (n : Nat) (hn : n ≤ 500) : BoundV (chainH n) (chainK n) (decide (64 < (n : Int) + 1)) := by
  refine bound_of (chain_fits n) ?_
  simp only [Fine, chainK_nodes, chainK_deep, chainK_bytes, chainH_bytes, decide_eq_false_iff_not]
  omega
theorem bound_sum (n : Nat) (h : 1 ≤ n) : BoundV sumH (boolsK n) (decide (511 < (n : Int))) := by
  refine bound_of (sum_fits n h) ?_
  have := boolsK_deep n
  have e : sumH.bytes = 0 := rfl
  simp only [Fine, boolsK_nodes, boolsK_bytes, e, decide_eq_false_iff_not]
  omega
theorem bound_zeros (n : Nat) : BoundV (zerosH n) .nil (decide (16384 < (n : Int))) := by
  refine bound_of (zeros_fits n) ?_
  have e : (zerosH n).bytes = n := by simp [Hd.bytes, zerosH]
  simp only [Fine, e, Trees.nodes, Trees.deep, Trees.bytes, decide_eq_false_iff_not]
  omega
end Go.Proofs.Ytkjfeakbhfkldaa
