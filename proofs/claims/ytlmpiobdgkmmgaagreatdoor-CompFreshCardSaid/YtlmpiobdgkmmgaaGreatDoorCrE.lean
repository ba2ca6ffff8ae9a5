/- CompFresh: what its rounds keep: codes in blocks of their own, two rows of them. -/
import Derived.Test.YtlmpiobdgkmmgaaGreatDoorCrS
set_option maxRecDepth 1000000
set_option maxHeartbeats 16000000
namespace Go.Proofs.YtlmpiobdgkmmgaaGreatDoor
open Go.RowKit
structure Ent where
 vI : Value
 vC : Value
 wI : Value
 wC : Value
 b : Nat
 N : Nat
 bq : Nat
 Nq : Nat
 h : Hd
 k : Trees
def Ent.ps (e : Ent) : List PI := (codeT e.h e.k).1
def Ent.cs (e : Ent) : List PV := (codeT e.h e.k).2
structure EntOk (W : World) (e : Ent) : Prop where
 may : mayE e.h e.k = 0
 kc : CodeN e.b e.N W e.vI e.vC e.ps e.cs
 wc : CodeN e.bq e.Nq W e.wI e.wC e.ps e.cs
theorem EntOk.keep {W W' : World} {e : Ent} (h : EntOk W e) (k1 : ∀ x, e.b ≤ x → x < e.N → W'.heap[x]? = W.heap[x]?) (k2 : ∀ x, e.bq ≤ x → x < e.Nq → W'.heap[x]? = W.heap[x]?) : EntOk W' e := ⟨h.may, h.kc.keep k1, h.wc.keep k2⟩
def cellsK (K : List Ent) : List Value := K.flatMap fun e => [e.vI, e.vC]
def cellsW (K : List Ent) : List Value := K.flatMap fun e => [e.wI, e.wC]
theorem cellsK_app (K : List Ent) (a c : Ent) : cellsK (K ++ [a, c]) = cellsK K ++ [a.vI, a.vC, c.vI, c.vC] := by simp [cellsK]
theorem cellsW_app (K : List Ent) (a c : Ent) : cellsW (K ++ [a, c]) = cellsW K ++ [a.wI, a.wC, c.wI, c.wC] := by simp [cellsW]
def Off (x : Nat) (e : Ent) : Prop := (x < e.b ∨ e.N ≤ x) ∧ (x < e.bq ∨ e.Nq ≤ x)
structure FsS (base B : Nat) (K : List Ent) (vK vW : Value) (W : World) : Prop where
 rk : W.ownsRow base 27 2 vK K.length (cellsK K)
 rw : W.ownsRow base 27 2 vW K.length (cellsW K)
 le : B ≤ W.heap.size
 bB : base ≤ B
 ent : ∀ e ∈ K, EntOk W e
 lt : ∀ e ∈ K, base ≤ e.b ∧ e.N ≤ B ∧ e.Nq ≤ B
 pw : K.Pairwise fun e e' => e.N ≤ e'.b
 dq : ∀ e ∈ K, ∀ e' ∈ K, e'.Nq ≤ e.b ∨ e.N ≤ e'.bq
 okk : ∀ x, vK.ownBlock = some x → x < B ∧ ∀ e ∈ K, Off x e
 okw : ∀ x, vW.ownBlock = some x → x < B ∧ ∀ e ∈ K, Off x e
 ne : ∀ x, vK.ownBlock = some x → vW.ownBlock ≠ some x
section
variable {base B B' : Nat} {K : List Ent} {vK vW vK' vW' : Value} {W W' W2 : World}
theorem FsS.nil (h : base ≤ W.heap.size) : FsS base base [] (.slice none 0 0) (.slice none 0 0) W :=
 ⟨World.ownsRow_nil W _ _ _, World.ownsRow_nil W _ _ _, h, Nat.le_refl _, fun e h => by simp at h, fun e h => by simp at h, .nil, fun e h => by simp at h, fun x h => by simp [Value.ownBlock] at h, fun x h => by simp [Value.ownBlock] at h, fun x h => by simp [Value.ownBlock] at h⟩
theorem FsS.below (s : FsS base B K vK vW W) (k : Below B W W') : FsS base B K vK vW W' :=
 ⟨own_row9 s.rk fun x hx => k.block x (s.okk x hx).1, own_row9 s.rw fun x hx => k.block x (s.okw x hx).1, Nat.le_trans s.le k.size, s.bB, fun e he => (s.ent e he).keep (fun x _ hx => k.block x (by have := (s.lt e he).2.1; omega)) (fun x _ hx => k.block x (by have := (s.lt e he).2.2; omega)), s.lt, s.pw, s.dq, s.okk, s.okw, s.ne⟩
theorem FsS.up (s : FsS base B K vK vW W) (h1 : B ≤ B') (h2 : B' ≤ W.heap.size) : FsS base B' K vK vW W :=
 ⟨s.rk, s.rw, h2, Nat.le_trans s.bB h1, s.ent, fun e he => ⟨(s.lt e he).1, Nat.le_trans (s.lt e he).2.1 h1, Nat.le_trans (s.lt e he).2.2 h1⟩, s.pw, s.dq, fun x hx => ⟨Nat.lt_of_lt_of_le (s.okk x hx).1 h1, (s.okk x hx).2⟩, fun x hx => ⟨Nat.lt_of_lt_of_le (s.okw x hx).1 h1, (s.okw x hx).2⟩, s.ne⟩
structure EntIn (B : Nat) (W : World) (e : Ent) : Prop where
 ok : EntOk W e
 b : B ≤ e.b
 N : e.N ≤ W.heap.size
 bq : B ≤ e.bq
 Nq : e.Nq ≤ W.heap.size
theorem FsS.push {e1 e2 : Ent} (s : FsS base B K vK vW W) (i1 : EntIn B W e1) (i2 : EntIn B W e2) (h12 : e1.N ≤ e2.b) (q11 : e1.Nq ≤ e1.b) (q12 : e1.Nq ≤ e2.b) (q21 : e2.Nq ≤ e1.b) (q22 : e2.Nq ≤ e2.b)
 (rk : W2.ownsRow base 27 2 vK' (K.length + 2) (cellsK K ++ [e1.vI, e1.vC, e2.vI, e2.vC])) (rw : W2.ownsRow base 27 2 vW' (K.length + 2) (cellsW K ++ [e1.wI, e1.wC, e2.wI, e2.wC]))
 (hz : W.heap.size ≤ W2.heap.size) (fr : ∀ x, x < W.heap.size → vK.ownBlock ≠ some x → vW.ownBlock ≠ some x → W2.heap[x]? = W.heap[x]?)
 (lk : vK'.ownBlock = vK.ownBlock ∨ ∃ y, vK'.ownBlock = some y ∧ W.heap.size ≤ y) (lw : vW'.ownBlock = vW.ownBlock ∨ ∃ y, vW'.ownBlock = some y ∧ W.heap.size ≤ y) (nn : ∀ x, vK'.ownBlock = some x → vW'.ownBlock ≠ some x) :
 FsS base W2.heap.size (K ++ [e1, e2]) vK' vW' W2 := by
 have off : ∀ {v v' : Value}, (∀ x, v.ownBlock = some x → x < B ∧ ∀ e ∈ K, Off x e) → (v'.ownBlock = v.ownBlock ∨ ∃ y, v'.ownBlock = some y ∧ W.heap.size ≤ y) → ∀ x, v'.ownBlock = some x → ∀ e ∈ K ++ [e1, e2], Off x e := fun {v v'} hv hl x hx e he => by
  have le := s.le
  rcases hl with q | ⟨y, q, hy⟩
  ·obtain ⟨h1, h2⟩ := hv x (by rw [← q]; exact hx)
   simp only [List.mem_append, List.mem_cons, List.not_mem_nil, or_false] at he
   rcases he with he | rfl | rfl
   ·exact h2 e he
   ·have := i1.b; have := i1.bq; exact ⟨.inl (by omega), .inl (by omega)⟩
   ·have := i2.b; have := i2.bq; exact ⟨.inl (by omega), .inl (by omega)⟩
  ·rw [q] at hx
   cases hx
   simp only [List.mem_append, List.mem_cons, List.not_mem_nil, or_false] at he
   rcases he with he | rfl | rfl
   ·have := s.lt e he; exact ⟨.inr (by omega), .inr (by omega)⟩
   ·have := i1.N; have := i1.Nq; exact ⟨.inr (by omega), .inr (by omega)⟩
   ·have := i2.N; have := i2.Nq; exact ⟨.inr (by omega), .inr (by omega)⟩
 have same : ∀ x, x < W.heap.size → (∀ y, vK.ownBlock = some y → y ≠ x) → (∀ y, vW.ownBlock = some y → y ≠ x) → W2.heap[x]? = W.heap[x]? := fun x hx h1 h2 => fr x hx (fun q => h1 x q rfl) (fun q => h2 x q rfl)
 have new : ∀ {e : Ent}, EntIn B W e → EntOk W2 e := fun {e} i => by
  have hb := i.b; have hN := i.N; have hbq := i.bq; have hNq := i.Nq
  exact i.ok.keep (fun x a c => same x (by omega) (fun y hy => by have := (s.okk y hy).1; omega) (fun y hy => by have := (s.okw y hy).1; omega)) (fun x a c => same x (by omega) (fun y hy => by have := (s.okk y hy).1; omega) (fun y hy => by have := (s.okw y hy).1; omega))
 have hle := s.le; have hbB := s.bB
 refine ⟨by rw [List.length_append, cellsK_app]; exact rk, by rw [List.length_append, cellsW_app]; exact rw, Nat.le_refl _, by omega, fun e he => ?_, fun e he => ?_, ?_, fun e he e' he' => ?_, fun x hx => ⟨(rk.lt x hx).2, off s.okk lk x hx⟩, fun x hx => ⟨(rw.lt x hx).2, off s.okw lw x hx⟩, nn⟩
 ·simp only [List.mem_append, List.mem_cons, List.not_mem_nil, or_false] at he
  rcases he with he | rfl | rfl
  ·have hl := s.lt e he
   refine (s.ent e he).keep (fun x a c => same x (by omega) (fun y hy q => ?_) (fun y hy q => ?_)) (fun x a c => same x (by omega) (fun y hy q => ?_) (fun y hy q => ?_))
   ·have := ((s.okk y hy).2 e he).1; omega
   ·have := ((s.okw y hy).2 e he).1; omega
   ·have := ((s.okk y hy).2 e he).2; omega
   ·have := ((s.okw y hy).2 e he).2; omega
  ·exact new i1
  ·exact new i2
 ·simp only [List.mem_append, List.mem_cons, List.not_mem_nil, or_false] at he
  rcases he with he | rfl | rfl
  ·have := s.lt e he; exact ⟨by omega, by omega, by omega⟩
  ·have := i1.b; have := i1.N; have := i1.Nq; exact ⟨by omega, by omega, by omega⟩
  ·have := i2.b; have := i2.N; have := i2.Nq; exact ⟨by omega, by omega, by omega⟩
 ·rw [List.pairwise_append]
  refine ⟨s.pw, ?_, fun e he e' he' => ?_⟩
  ·exact .cons (fun x hx => by rw [List.mem_singleton.1 hx]; exact h12) (.cons (fun x hx => by simp at hx) .nil)
  ·have := s.lt e he
   have := i1.b; have := i2.b
   simp only [List.mem_cons, List.not_mem_nil, or_false] at he'
   rcases he' with rfl | rfl <;> omega
 ·simp only [List.mem_append, List.mem_cons, List.not_mem_nil, or_false] at he he'
  have b1 := i1.b; have b2 := i2.b; have c1 := i1.bq; have c2 := i2.bq
  rcases he with he | rfl | rfl <;> rcases he' with he' | rfl | rfl
  ·exact s.dq e he e' he'
  ·have := s.lt e he; exact .inr (by omega)
  ·have := s.lt e he; exact .inr (by omega)
  ·have := s.lt e' he'; exact .inl (by omega)
  ·exact .inl q11
  ·exact .inl q21
  ·have := s.lt e' he'; exact .inl (by omega)
  ·exact .inl q12
  ·exact .inl q22
end
structure FsT (base : Nat) (K : List Ent) (vK vW : Value) (w0 : World) (B i : Nat) (W : World) : Prop where
 rk : W.ownsRow base 27 2 vK K.length (cellsK K)
 rw : W.ownsRow base 27 2 vW K.length (cellsW K)
 le : B ≤ W.heap.size
 ent : ∀ (m : Nat) (e : Ent), i ≤ m → K[m]? = some e → EntOk W e
 bel : Below base w0 W
section
variable {base B i : Nat} {K : List Ent} {vK vW : Value} {w0 W W' Ws : World}
theorem FsS.toT (s : FsS base B K vK vW W) (b : Below base w0 W) : FsT base K vK vW w0 B 0 W := ⟨s.rk, s.rw, s.le, fun _ e _ he => s.ent e (List.mem_of_getElem? he), b⟩
theorem FsT.below (t : FsT base K vK vW w0 B i W) (s : FsS base B K vK vW Ws) (k : Below B W W') : FsT base K vK vW w0 B i W' :=
 ⟨own_row9 t.rk fun x hx => k.block x (s.okk x hx).1, own_row9 t.rw fun x hx => k.block x (s.okw x hx).1, Nat.le_trans t.le k.size,
  fun m e hm he => (t.ent m e hm he).keep (fun x _ hx => k.block x (by have := (s.lt e (List.mem_of_getElem? he)).2.1; omega)) (fun x _ hx => k.block x (by have := (s.lt e (List.mem_of_getElem? he)).2.2; omega)), t.bel.trans (k.mono s.bB)⟩
theorem FsT.spoil {e : Ent} (t : FsT base K vK vW w0 B i W) (s : FsS base B K vK vW Ws) (he : K[i]? = some e) (k : Spd (Fbn e.b e.N) W W') : FsT base K vK vW w0 B (i + 1) W' := by
 have hm := List.mem_of_getElem? he
 have hl := s.lt e hm
 have hle := t.le
 have same : ∀ x, x < B → (x < e.b ∨ e.N ≤ x) → W'.heap[x]? = W.heap[x]? := fun x hx q => k.same x (by omega) (fun hf => by have := mem_Fbn.1 hf; omega)
 refine ⟨own_row9 t.rk fun x hx => same x (s.okk x hx).1 ((s.okk x hx).2 e hm).1, own_row9 t.rw fun x hx => same x (s.okw x hx).1 ((s.okw x hx).2 e hm).1, Nat.le_trans hle k.size, fun m e' h1 he' => ?_, t.bel.trans (k.below (by have := s.bB; omega) (fun x hx => by have := mem_Fbn.1 hx; omega))⟩
 have hm' := List.mem_of_getElem? he'
 have hl' := s.lt e' hm'
 have hp : e.N ≤ e'.b := by
  have p := List.pairwise_iff_getElem.1 s.pw i m (List.getElem?_eq_some_iff.1 he).1 (List.getElem?_eq_some_iff.1 he').1 (by omega)
  rw [(List.getElem?_eq_some_iff.1 he).2, (List.getElem?_eq_some_iff.1 he').2] at p
  exact p
 have hd := s.dq e hm e' hm'
 exact (t.ent m e' (by omega) he').keep (fun x a c => same x (by omega) (.inr (by omega))) (fun x a c => same x (by omega) (by omega))
theorem row_get {T : TypeId} {v : Value} {n : Nat} {f g : Ent → Value} (r : W.ownsRow base T 2 v n (K.flatMap fun e => [f e, g e])) {e : Ent} (he : K[i]? = some e) : ∃ y cap, v = .slice (some ⟨y, 0, none⟩) n cap ∧ y < W.heap.size ∧ W.cell? ⟨y, i * 2, none⟩ = some (f e) ∧ W.cell? ⟨y, i * 2 + 1, none⟩ = some (g e) := by
 have hi := (List.getElem?_eq_some_iff.1 he).1
 have hlen : (K.flatMap fun e => [f e, g e]).length = K.length * 2 := by
  clear r he hi
  induction K with
  | nil => rfl
  | cons a r ih => rw [List.flatMap_cons, List.length_append, ih]; simp only [List.length_cons, List.length_nil]; omega
 have get : ∀ (L : List Ent) (m : Nat), L[m]? = some e → (L.flatMap fun e => [f e, g e])[m * 2]? = some (f e) ∧ (L.flatMap fun e => [f e, g e])[m * 2 + 1]? = some (g e) := by
  intro L
  induction L with
  | nil => intro m h; simp at h
  | cons a r ih =>
   intro m h
   cases m with
   | zero => simp at h; subst h; exact ⟨rfl, rfl⟩
   | succ m =>
    have := ih m (by simpa using h)
    rw [List.flatMap_cons, show (m + 1) * 2 = m * 2 + 2 by omega]
    exact ⟨this.1, this.2⟩
 obtain ⟨g1, g2⟩ := get K i he
 rcases r.2 with ⟨e1, h0⟩ | ⟨y, cap, cur, e1, hb, hg, q⟩
 ·have := r.1
  rw [hlen] at this
  omega
 ·subst e1
  exact ⟨y, cap, rfl, lt_of_block hg, (own_cell r _ (by omega)).trans g1, (own_cell r _ (by omega)).trans g2⟩
end
end Go.Proofs.YtlmpiobdgkmmgaaGreatDoor
