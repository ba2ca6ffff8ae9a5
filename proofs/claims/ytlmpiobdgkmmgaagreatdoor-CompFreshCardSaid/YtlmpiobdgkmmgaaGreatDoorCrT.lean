/- The same but for some blocks and new ones; a struct's cells written. -/
import Derived.Test.YtlmpiobdgkmmgaaGreatDoorKcF
namespace Go.Proofs.YtlmpiobdgkmmgaaGreatDoor
open Go.RowKit
structure Spd (F : List Nat) (w w' : World) : Prop where
 os : w'.os = w.os
 tape : w'.tape = w.tape
 output : w'.output = w.output
 size : w.heap.size ≤ w'.heap.size
 same : ∀ k, k < w.heap.size → k ∉ F → w'.heap[k]? = w.heap[k]?
section
variable {F F' : List Nat} {w w' w2 : World}
theorem Spd.refl (F : List Nat) (w : World) : Spd F w w := ⟨rfl, rfl, rfl, Nat.le_refl _, fun _ _ _ => rfl⟩
theorem Spd.trans (h : Spd F w w') (k : Spd F' w' w2) (hs : ∀ b ∈ F', b ∈ F ∨ w.heap.size ≤ b) : Spd F w w2 :=
 ⟨k.os.trans h.os, k.tape.trans h.tape, k.output.trans h.output, Nat.le_trans h.size k.size, fun i hi hn => (k.same i (Nat.lt_of_lt_of_le hi h.size) fun hm => by rcases hs i hm with q | q; exact hn q; omega).trans (h.same i hi hn)⟩
theorem Spd.of (h : Below w.heap.size w w') : Spd F w w' := ⟨h.os, h.tape, h.output, h.size, fun k hk _ => h.block k hk⟩
theorem Spd.ext (h : Spd F w w') (b : Below w'.heap.size w' w2) : Spd F w w2 := h.trans (Spd.of (F := []) b) (by simp)
theorem Spd.below (h : Spd F w w') {B : Nat} (hB : B ≤ w.heap.size) (hF : ∀ b ∈ F, B ≤ b) : Below B w w' := ⟨h.os, h.tape, h.output, h.size, fun k hk => h.same k (Nat.lt_of_lt_of_le hk hB) fun hm => by have := hF k hm; omega⟩
theorem Spd.cells (h : Spd F w w') {N : Nat} (hN : N ∈ F ∨ w.heap.size ≤ N) (off : Nat) (vs : List Value) : Spd F w (w'.setCells N off vs) := by
 have b := setCells_below (Nat.le_refl N) vs off (Below.refl N w')
 exact ⟨b.os.trans h.os, b.tape.trans h.tape, b.output.trans h.output, Nat.le_trans h.size b.size, fun k hk hn => (setCells_other (fun e => by subst e; rcases hN with q | q; exact hn q; omega) vs off w').trans (h.same k hk hn)⟩
theorem Spd.grown (h : Spd F w w') {row : Option Nat} (hg : w'.grownBy w2 row) (hr : ∀ k, row = some k → k ∈ F ∨ w.heap.size ≤ k) : Spd F w w2 := by
 have b := (Below.refl 0 w').grown hg (Nat.zero_le _) (fun _ _ => Nat.zero_le _)
 exact ⟨b.os.trans h.os, b.tape.trans h.tape, b.output.trans h.output, Nat.le_trans h.size b.size, fun k hk hn => (hg.block k (Nat.lt_of_lt_of_le hk h.size) (fun e => by rcases hr k e.symm with q | q; exact hn q; omega)).trans (h.same k hk hn)⟩
end
theorem setCells_sized {W : World} {N off : Nat} {cs : Array Value} {T : TypeId} {fr : Nat × Nat} {vs : List Value} (h : W.heap[N]? = some (.cells cs T fr)) (hl : off + vs.length ≤ cs.size) : ∃ cs', (W.setCells N off vs).heap[N]? = some (.cells cs' T fr) ∧ cs'.size = cs.size :=
 ⟨_, setCells_blk vs off W cs h hl, by simp; omega⟩
section
variable {ops : Array Oper} {Q : Exit → Act → World → Prop} {rest : List Oper} {a : Act} {o : Oper} {s x y : Operand} {w : World} {N off : Nat} {cs : Array Value} {T' : TypeId} {vs : List Value}
theorem wpList_load_rng (hg : o.guard = none) (ho : o.op = Op.load 34 s) (ha : a.eval s = .pointer (some ⟨N, off, none⟩)) (hr : w.rangeAt N off vs) (hl : vs.length = 14) (h : wpList Tryz.prog ops Q rest (a.put o.dst (.agg vs.toArray)) w) : wpList Tryz.prog ops Q (o :: rest) a w :=
 wpList_load_mid hg _ s ho N off ha vs _ hr Tryz.underlying34 rfl (by simpa [hl] using infoExprS) h
theorem wpList_store_mem {T : TypeId} {n : Nat} (hi : (Tryz.prog.info? T).map (·.size) = some n) (hg : o.guard = none) (ho : o.op = Op.store T x y) (hx : a.eval x = .pointer (some ⟨N, off, none⟩)) (hy : a.eval y = .agg vs.toArray) (hb : w.heap[N]? = some (.cells cs T' (0, 0)))
 (hl : off + vs.length ≤ cs.size) (hn : vs.length = n) (h1 : ∀ v ∈ vs, v.oneCell' = true) (h : ∀ W', W' = w.setCells N off vs → wpList Tryz.prog ops Q rest (a.put o.dst undef) W') : wpList Tryz.prog ops Q (o :: rest) a w := by
 refine wpList_store_mid hg T x y ho N off vs.toArray hx hy (fun j hj => ⟨?_, frees_of_block hb _⟩) (by simpa [hn] using hi) (all_oneCell_toArray h1) (by simpa using h _ rfl)
 have : off + j < cs.size := by simp at hj; omega
 rw [cells_of_block hb]; simp [this]
end
end Go.Proofs.YtlmpiobdgkmmgaaGreatDoor
