/- LexFresh: what its rounds keep: lists that are written over, lists left alone, and the rows that hold them. -/
import Derived.Test.YtikahfnlflhbfaaGreatDoorLzP
namespace Go.Proofs.YtikahfnlflhbfaaGreatDoor
open Go.RowKit Go.Lib

theorem cutR_len : ∀ (f p : Nat) (r : List UInt8) (acc : List WordL), (cutR f p r acc).words.length ≤ acc.length + r.length
  | 0, _, _, _ => by unfold cutR; simp
  | f + 1, p, r, acc => by
    unfold cutR
    split
    · simp
    · split
      · have := cutR_len f (p + blankL r) (r.drop (blankL r)) acc
        rw [List.length_drop] at this
        omega
      · split
        · simp
        · rename_i h
          have hn := oneL_n (r := r) (Classical.not_not.1 h)
          have := cutR_len f (p + (oneL r).n) (r.drop (oneL r).n) (acc ++ [⟨(oneL r).kind, (oneL r).text, p⟩])
          simp only [List.length_drop, List.length_append, List.length_cons, List.length_nil] at this
          omega
theorem cutL_len (l : List UInt8) : (cutL l).words.length ≤ 65535 := by
  unfold cutL
  split
  · simp
  · have := cutR_len (l.length - 0 + 1) 0 (l.drop 0) []
    unfold cutAt
    simp only [List.drop_zero, List.length_nil] at this ⊢
    omega
/-- A block's owner, where all from N on are one's. -/
def upc (cl : Nat → Nat) (N c : Nat) : Nat → Nat := fun x => if x < N then cl x else c
def Cls (cl : Nat → Nat) (N c : Nat) (v : Value) : Prop := ∀ k, v.ownBlock = some k → cl k = c ∧ k < N
theorem Cls.up {cl : Nat → Nat} {N N' c c0 : Nat} {v : Value} (h : Cls cl N c v) (hN : N ≤ N') : Cls (upc cl N c0) N' c v := fun k hk => by
  have := h k hk
  exact ⟨by unfold upc; rw [if_pos this.2]; exact this.1, by omega⟩
theorem Cls.new {cl : Nat → Nat} {N N' c0 : Nat} {v : Value} (h : ∀ k, v.ownBlock = some k → (k < N → cl k = c0) ∧ k < N') : Cls (upc cl N c0) N' c0 v := fun k hk => by
  have := h k hk
  refine ⟨?_, this.2⟩
  unfold upc
  split
  · rename_i q; exact this.1 q
  · rfl
theorem Cls.later {cl : Nat → Nat} {N N' c0 : Nat} {v : Value} (h : ∀ k, v.ownBlock = some k → N ≤ k ∧ k < N') : Cls (upc cl N c0) N' c0 v := Cls.new fun k hk => ⟨fun q => by have := h k hk; omega, (h k hk).2⟩
theorem Cls.grown {cl : Nat → Nat} {N N' c0 g n m kc : Nat} {v : Value} (h : Cls cl N c0 v) (loc : v.ownBlock = some g ∨ N ≤ g) (hg : g < N') : Cls (upc cl N c0) N' c0 (.slice (some ⟨g, m, none⟩) n kc) := Cls.new fun k hk => by
  simp only [Value.ownBlock, Option.some.injEq] at hk
  subst hk
  refine ⟨fun q => ?_, hg⟩
  rcases loc with e | e
  · exact (h g e).1
  · omega
structure Rw (b N : Nat) (cl : Nat → Nat) (c : Nat) (T : TypeId) (W : World) (v : Value) (xs : List Value) : Prop where
  own : W.ownsRow b T 1 v xs.length xs
  cls : Cls cl N c v
structure Wl (b N : Nat) (cl : Nat → Nat) (c : Nat) (W : World) (l : List WordL) (v : Value) : Prop where
  row : WdRow b W l v
  cls : Cls cl N c v
theorem own_row8 {W W' : World} {b : Nat} {T : TypeId} {s n : Nat} {v : Value} {cs : List Value} (o : W.ownsRow b T s v n cs) (h : ∀ k, v.ownBlock = some k → W'.heap[k]? = W.heap[k]?) : W'.ownsRow b T s v n cs := by
  obtain ⟨l, o⟩ := o
  refine ⟨l, ?_⟩
  rcases o with e | ⟨g, cap, cur, e, hb, hg, r⟩
  · exact .inl e
  · exact .inr ⟨g, cap, cur, e, hb, (h g (by rw [e]; rfl)).trans hg, r⟩
section
variable {b N N' c c0 : Nat} {cl : Nat → Nat} {T : TypeId} {W W' : World} {v : Value} {xs : List Value} {l : List WordL}
theorem Rw.step (h : Rw b N cl c T W v xs) (same : ∀ x, x < N → cl x = c → W'.heap[x]? = W.heap[x]?) (hN : N ≤ N') : Rw b N' (upc cl N c0) c T W' v xs :=
  ⟨own_row8 h.own fun k hk => same k (h.cls k hk).2 (h.cls k hk).1, h.cls.up hN⟩
theorem Wl.step (h : Wl b N cl c W l v) (same : ∀ x, x < N → cl x = c → W'.heap[x]? = W.heap[x]?) (hN : N ≤ N') : Wl b N' (upc cl N c0) c W' l v :=
  ⟨h.row.kept fun k hk => same k (h.cls k hk).2 (h.cls k hk).1, h.cls.up hN⟩
theorem _root_.Go.World.ownsRow.slice {n : Nat} {s : Nat} (h : W.ownsRow b T s v n xs) : ∃ a kc, v = .slice a n kc := by
  rcases h.2 with ⟨e, h0⟩ | ⟨g, cap, cur, e, _⟩
  · exact ⟨none, 0, by rw [e, h0]⟩
  · exact ⟨_, _, e⟩
end
/-- A list that was written over, from its beginning to m, and grown by e words. -/
def lwd (i m e : Nat) : List WordL := List.replicate m ⟨-1 - (i : Int), [], 0⟩ ++ List.replicate e ⟨-1 - (i : Int), [], 1⟩
theorem lwd_len (i m e : Nat) : (lwd i m e).length = m + e := by simp [lwd]
theorem lwd_more (i m e : Nat) : lwd i m e ++ [⟨-1 - (i : Int), [], 1⟩] = lwd i m (e + 1) := by
  unfold lwd
  rw [List.append_assoc, ← List.replicate_succ']
theorem lwd_get {i m e k : Nat} {x : WordL} (h : (lwd i m e)[k]? = some x) : x = ⟨-1 - (i : Int), [], if m ≤ k then 1 else 0⟩ := by
  unfold lwd at h
  rw [List.getElem?_append] at h
  simp only [List.length_replicate, List.getElem?_replicate] at h
  split at h
  · rename_i q
    rw [if_neg (by omega)]
    exact (Option.some.inj h).symm
  · rename_i q
    rw [if_pos (by omega)]
    split at h
    · exact (Option.some.inj h).symm
    · cases h
/-- What is kept: the caller's memory; the rows of lists written over (loud), of lists left alone (quiet, wants), of lengths; the lists S. -/
structure FxS (w0 : World) (b N : Nat) (cl : Nat → Nat) (S : Nat → Prop) (E : Nat → Nat) (vL vQ vW vN : Value) (cL cQ cW : List Value) (ns : List Nat) (W : World) : Prop where
  bel : Below b w0 W
  rL : Rw b N cl 0 28 W vL cL
  rQ : Rw b N cl 1 28 W vQ cQ
  rW : Rw b N cl 2 28 W vW cW
  rN : Rw b N cl 3 3 W vN (ns.map fun (m : Nat) => Value.int .i64 (m : Int))
  ll : ∀ (i : Nat) (v : Value), S i → cL[i]? = some v → ∃ m e, ns[i]? = some m ∧ m ≤ 65535 ∧ e ≤ E i ∧ Wl b N cl (10 + i) W (lwd i m e) v
  qq : ∀ (i : Nat) (v v' : Value), cQ[i]? = some v → cW[i]? = some v' → ∃ l, Wl b N cl 5 W l v ∧ Wl b N cl 5 W l v'
  hb : b ≤ N
  hN : N ≤ W.heap.size
theorem FxS.start (w : World) (b : Nat) (h : w.heap.size = b) (W : World) (hW : Below b w W) : FxS w b b (fun _ => 0) (fun j => j < 0) (fun _ => 0) (.slice none 0 0) (.slice none 0 0) (.slice none 0 0) (.slice none 0 0) [] [] [] [] W where
  bel := hW
  rL := ⟨World.ownsRow_nil _ _ _ _, by simp [Cls, Value.ownBlock]⟩
  rQ := ⟨World.ownsRow_nil _ _ _ _, by simp [Cls, Value.ownBlock]⟩
  rW := ⟨World.ownsRow_nil _ _ _ _, by simp [Cls, Value.ownBlock]⟩
  rN := ⟨World.ownsRow_nil _ _ _ _, by simp [Cls, Value.ownBlock]⟩
  ll := by simp
  qq := by simp
  hb := Nat.le_refl _
  hN := by have := hW.size; omega
section
variable {w0 : World} {b N : Nat} {cl : Nat → Nat} {S S' : Nat → Prop} {E : Nat → Nat} {vL vQ vW vN v' : Value} {cL cQ cW cs' : List Value} {ns ns' : List Nat} {W W' : World}
/-- Nothing old has changed: what is new is of the class c0. -/
theorem FxS.kept (c0 : Nat) (s : FxS w0 b N cl S E vL vQ vW vN cL cQ cW ns W) (h : Below N W W') : FxS w0 b W'.heap.size (upc cl N c0) S E vL vQ vW vN cL cQ cW ns W' where
  bel := s.bel.trans (h.mono s.hb)
  rL := s.rL.step (fun x hx _ => h.block x hx) (Nat.le_trans s.hN h.size)
  rQ := s.rQ.step (fun x hx _ => h.block x hx) (Nat.le_trans s.hN h.size)
  rW := s.rW.step (fun x hx _ => h.block x hx) (Nat.le_trans s.hN h.size)
  rN := s.rN.step (fun x hx _ => h.block x hx) (Nat.le_trans s.hN h.size)
  ll := fun i v hi hv => by
    obtain ⟨m, e, h1, h2, h3, h4⟩ := s.ll i v hi hv
    exact ⟨m, e, h1, h2, h3, h4.step (fun x hx _ => h.block x hx) (Nat.le_trans s.hN h.size)⟩
  qq := fun i v v' hv hv' => by
    obtain ⟨l, h1, h2⟩ := s.qq i v v' hv hv'
    exact ⟨l, h1.step (fun x hx _ => h.block x hx) (Nat.le_trans s.hN h.size), h2.step (fun x hx _ => h.block x hx) (Nat.le_trans s.hN h.size)⟩
  hb := Nat.le_trans s.hb (Nat.le_trans s.hN h.size)
  hN := Nat.le_refl _
/-- The list i, not counted now, has changed. -/
theorem FxS.list (i : Nat) (s : FxS w0 b N cl S E vL vQ vW vN cL cQ cW ns W) (hi : ¬ S i) (bel : Below b W W') (same : ∀ x, x < N → cl x ≠ 10 + i → W'.heap[x]? = W.heap[x]?) : FxS w0 b W'.heap.size (upc cl N (10 + i)) S E vL vQ vW vN cL cQ cW ns W' where
  bel := s.bel.trans bel
  rL := s.rL.step (fun x hx e => same x hx (by omega)) (Nat.le_trans s.hN bel.size)
  rQ := s.rQ.step (fun x hx e => same x hx (by omega)) (Nat.le_trans s.hN bel.size)
  rW := s.rW.step (fun x hx e => same x hx (by omega)) (Nat.le_trans s.hN bel.size)
  rN := s.rN.step (fun x hx e => same x hx (by omega)) (Nat.le_trans s.hN bel.size)
  ll := fun j v hj hv => by
    obtain ⟨m, e, h1, h2, h3, h4⟩ := s.ll j v hj hv
    have : j ≠ i := fun q => hi (q ▸ hj)
    exact ⟨m, e, h1, h2, h3, h4.step (fun x hx e => same x hx (by omega)) (Nat.le_trans s.hN bel.size)⟩
  qq := fun j v v' hv hv' => by
    obtain ⟨l, h1, h2⟩ := s.qq j v v' hv hv'
    exact ⟨l, h1.step (fun x hx e => same x hx (by omega)) (Nat.le_trans s.hN bel.size), h2.step (fun x hx e => same x hx (by omega)) (Nat.le_trans s.hN bel.size)⟩
  hb := Nat.le_trans s.hb (Nat.le_trans s.hN bel.size)
  hN := Nat.le_refl _
theorem Rw.fresh {c0 : Nat} {T : TypeId} {v : Value} {xs : List Value} (h : Rw b N cl c0 T W v xs) {same : ∀ x, x < N → v.ownBlock ≠ some x → W'.heap[x]? = W.heap[x]?} : ∀ x, x < N → cl x ≠ c0 → W'.heap[x]? = W.heap[x]? :=
  fun x hx hc => same x hx fun e => hc (h.cls x e).1
theorem Rw.make {c0 : Nat} {T : TypeId} {v : Value} {xs : List Value} (h : Rw b N cl c0 T W v xs) (row : W'.ownsRow b T 1 v' cs'.length cs') (loc : v'.ownBlock = v.ownBlock ∨ ∀ x, v'.ownBlock = some x → N ≤ x) : Rw b W'.heap.size (upc cl N c0) c0 T W' v' cs' :=
  ⟨row, Cls.new fun k hk => ⟨fun q => by
    rcases loc with e | e
    · exact (h.cls k (by rw [← e]; exact hk)).1
    · have := e k hk; omega, (row.lt k hk).2⟩⟩
/-- The row vL has changed. -/
theorem FxS.growL (s : FxS w0 b N cl S E vL vQ vW vN cL cQ cW ns W) (row : W'.ownsRow b 28 1 v' cs'.length cs') (bel : Below b W W') (same : ∀ x, x < N → vL.ownBlock ≠ some x → W'.heap[x]? = W.heap[x]?) (loc : v'.ownBlock = vL.ownBlock ∨ ∀ x, v'.ownBlock = some x → N ≤ x) (ll : ∀ (i : Nat) (v : Value), S' i → cs'[i]? = some v → S i ∧ cL[i]? = some v) : FxS w0 b W'.heap.size (upc cl N 0) S' E v' vQ vW vN cs' cQ cW ns W' := by
  have sm : ∀ x, x < N → cl x ≠ 0 → W'.heap[x]? = W.heap[x]? := fun x hx hc => same x hx fun e => hc (s.rL.cls x e).1
  have hs := Nat.le_trans s.hN bel.size
  exact {
    bel := s.bel.trans bel
    rL := s.rL.make row loc
    rQ := s.rQ.step (fun x hx e => sm x hx (by omega)) hs
    rW := s.rW.step (fun x hx e => sm x hx (by omega)) hs
    rN := s.rN.step (fun x hx e => sm x hx (by omega)) hs
    ll := fun i v hi hv => by
      obtain ⟨hi, hv⟩ := ll i v hi hv
      obtain ⟨m, e, h1, h2, h3, h4⟩ := s.ll i v hi hv
      exact ⟨m, e, h1, h2, h3, h4.step (fun x hx e => sm x hx (by omega)) hs⟩
    qq := fun i v v' hv hv' => by
      obtain ⟨l, h1, h2⟩ := s.qq i v v' hv hv'
      exact ⟨l, h1.step (fun x hx e => sm x hx (by omega)) hs, h2.step (fun x hx e => sm x hx (by omega)) hs⟩
    hb := Nat.le_trans s.hb hs
    hN := Nat.le_refl _ }
/-- The row vQ has changed. -/
theorem FxS.growQ (s : FxS w0 b N cl S E vL vQ vW vN cL cQ cW ns W) (row : W'.ownsRow b 28 1 v' cs'.length cs') (bel : Below b W W') (same : ∀ x, x < N → vQ.ownBlock ≠ some x → W'.heap[x]? = W.heap[x]?) (loc : v'.ownBlock = vQ.ownBlock ∨ ∀ x, v'.ownBlock = some x → N ≤ x) (qq : ∀ (i : Nat) (v v' : Value), cs'[i]? = some v → cW[i]? = some v' → ∃ l, Wl b N cl 5 W l v ∧ Wl b N cl 5 W l v') : FxS w0 b W'.heap.size (upc cl N 1) S E vL v' vW vN cL cs' cW ns W' := by
  have sm : ∀ x, x < N → cl x ≠ 1 → W'.heap[x]? = W.heap[x]? := fun x hx hc => same x hx fun e => hc (s.rQ.cls x e).1
  have hs := Nat.le_trans s.hN bel.size
  exact {
    bel := s.bel.trans bel
    rL := s.rL.step (fun x hx e => sm x hx (by omega)) hs
    rQ := s.rQ.make row loc
    rW := s.rW.step (fun x hx e => sm x hx (by omega)) hs
    rN := s.rN.step (fun x hx e => sm x hx (by omega)) hs
    ll := fun i v hi hv => by
      obtain ⟨m, e, h1, h2, h3, h4⟩ := s.ll i v hi hv
      exact ⟨m, e, h1, h2, h3, h4.step (fun x hx e => sm x hx (by omega)) hs⟩
    qq := fun i v v' hv hv' => by
      obtain ⟨l, h1, h2⟩ := qq i v v' hv hv'
      exact ⟨l, h1.step (fun x hx e => sm x hx (by omega)) hs, h2.step (fun x hx e => sm x hx (by omega)) hs⟩
    hb := Nat.le_trans s.hb hs
    hN := Nat.le_refl _ }
/-- The row vW has changed. -/
theorem FxS.growW (s : FxS w0 b N cl S E vL vQ vW vN cL cQ cW ns W) (row : W'.ownsRow b 28 1 v' cs'.length cs') (bel : Below b W W') (same : ∀ x, x < N → vW.ownBlock ≠ some x → W'.heap[x]? = W.heap[x]?) (loc : v'.ownBlock = vW.ownBlock ∨ ∀ x, v'.ownBlock = some x → N ≤ x) (qq : ∀ (i : Nat) (v v' : Value), cQ[i]? = some v → cs'[i]? = some v' → ∃ l, Wl b N cl 5 W l v ∧ Wl b N cl 5 W l v') : FxS w0 b W'.heap.size (upc cl N 2) S E vL vQ v' vN cL cQ cs' ns W' := by
  have sm : ∀ x, x < N → cl x ≠ 2 → W'.heap[x]? = W.heap[x]? := fun x hx hc => same x hx fun e => hc (s.rW.cls x e).1
  have hs := Nat.le_trans s.hN bel.size
  exact {
    bel := s.bel.trans bel
    rL := s.rL.step (fun x hx e => sm x hx (by omega)) hs
    rQ := s.rQ.step (fun x hx e => sm x hx (by omega)) hs
    rW := s.rW.make row loc
    rN := s.rN.step (fun x hx e => sm x hx (by omega)) hs
    ll := fun i v hi hv => by
      obtain ⟨m, e, h1, h2, h3, h4⟩ := s.ll i v hi hv
      exact ⟨m, e, h1, h2, h3, h4.step (fun x hx e => sm x hx (by omega)) hs⟩
    qq := fun i v v' hv hv' => by
      obtain ⟨l, h1, h2⟩ := qq i v v' hv hv'
      exact ⟨l, h1.step (fun x hx e => sm x hx (by omega)) hs, h2.step (fun x hx e => sm x hx (by omega)) hs⟩
    hb := Nat.le_trans s.hb hs
    hN := Nat.le_refl _ }
/-- The row vN has changed. -/
theorem FxS.growN (s : FxS w0 b N cl S E vL vQ vW vN cL cQ cW ns W) (row : W'.ownsRow b 3 1 v' (ns'.map fun (m : Nat) => Value.int .i64 (m : Int)).length (ns'.map fun (m : Nat) => Value.int .i64 (m : Int))) (bel : Below b W W') (same : ∀ x, x < N → vN.ownBlock ≠ some x → W'.heap[x]? = W.heap[x]?) (loc : v'.ownBlock = vN.ownBlock ∨ ∀ x, v'.ownBlock = some x → N ≤ x) (hn : ∀ (i m : Nat), ns[i]? = some m → ns'[i]? = some m) : FxS w0 b W'.heap.size (upc cl N 3) S E vL vQ vW v' cL cQ cW ns' W' := by
  have sm : ∀ x, x < N → cl x ≠ 3 → W'.heap[x]? = W.heap[x]? := fun x hx hc => same x hx fun e => hc (s.rN.cls x e).1
  have hs := Nat.le_trans s.hN bel.size
  exact {
    bel := s.bel.trans bel
    rL := s.rL.step (fun x hx e => sm x hx (by omega)) hs
    rQ := s.rQ.step (fun x hx e => sm x hx (by omega)) hs
    rW := s.rW.step (fun x hx e => sm x hx (by omega)) hs
    rN := s.rN.make row loc
    ll := fun i v hi hv => by
      obtain ⟨m, e, h1, h2, h3, h4⟩ := s.ll i v hi hv
      exact ⟨m, e, hn i m h1, h2, h3, h4.step (fun x hx e => sm x hx (by omega)) hs⟩
    qq := fun i v v' hv hv' => by
      obtain ⟨l, h1, h2⟩ := s.qq i v v' hv hv'
      exact ⟨l, h1.step (fun x hx e => sm x hx (by omega)) hs, h2.step (fun x hx e => sm x hx (by omega)) hs⟩
    hb := Nat.le_trans s.hb hs
    hN := Nat.le_refl _ }
end
theorem wd_set3 (y : WordL) : ∀ (A : List WordL) (x : WordL) (r : List WordL), (((wdCells (A ++ x :: r)).set (A.length * 3) (.int .i64 y.kind)).set (A.length * 3 + 1) (.string (strB y.text))).set (A.length * 3 + 2) (.int .i64 y.at_) = wdCells (A ++ y :: r)
  | [], x, r => by simp [wdCells, WordL.vals]
  | d :: A, x, r => by
    have := wd_set3 y A x r
    have e : (d :: A).length * 3 = A.length * 3 + 1 + 1 + 1 := by simp only [List.length_cons]; omega
    rw [e]
    have e1 : A.length * 3 + 1 + 1 + 1 + 1 = (A.length * 3 + 1) + 1 + 1 + 1 := by omega
    have e2 : A.length * 3 + 1 + 1 + 1 + 2 = (A.length * 3 + 2) + 1 + 1 + 1 := by omega
    rw [e1, e2]
    simp only [List.cons_append, wdCells, WordL.vals, List.nil_append, List.set_cons_succ, this]
theorem WdRow.put {b0 g n kc : Nat} {w : World} {A r : List WordL} {x y : WordL} (h : WdRow b0 w (A ++ x :: r) (.slice (some ⟨g, 0, none⟩) n kc)) :
    WdRow b0 (((w.setCell ⟨g, A.length * 3, none⟩ (.int .i64 y.kind)).setCell ⟨g, A.length * 3 + 1, none⟩ (.string (strB y.text))).setCell ⟨g, A.length * 3 + 2, none⟩ (.int .i64 y.at_)) (A ++ y :: r) (.slice (some ⟨g, 0, none⟩) n kc) := by
  have hl : (A ++ y :: r).length = (A ++ x :: r).length := by simp
  unfold WdRow at h ⊢
  rw [hl]
  refine ⟨by rw [wdCells_len]; simp, ?_⟩
  rcases h.2 with ⟨e, h0⟩ | ⟨g', cap, cur, e, hb, hg, h1, h2, h3, h4⟩
  · simp at h0
  · simp only [Value.slice.injEq, Option.some.injEq, Addr.mk.injEq, and_true] at e
    obtain ⟨rfl, rfl, rfl⟩ := e
    have g1 := heap_setCell_same w g (A.length * 3) _ _ (.int .i64 y.kind) hg
    have g2 := heap_setCell_same _ g (A.length * 3 + 1) _ _ (.string (strB y.text)) g1
    have g3 := heap_setCell_same _ g (A.length * 3 + 2) _ _ (.int .i64 y.at_) g2
    refine .inr ⟨g, kc, _, rfl, hb, g3, h1, h2, by simpa using h3, ?_⟩
    simp only [Array.toList_setIfInBounds, List.take_set]
    rw [h4, wd_set3]
/-- A list that is being written over: the first j words are. -/
def mixd (i j : Nat) (l : List WordL) : List WordL := List.replicate j ⟨-1 - (i : Int), [], 0⟩ ++ l.drop j
theorem mixd_zero (i : Nat) (l : List WordL) : mixd i 0 l = l := by simp [mixd]
theorem mixd_len {i j : Nat} {l : List WordL} (h : j ≤ l.length) : (mixd i j l).length = l.length := by simp [mixd]; omega
theorem mixd_end (i : Nat) (l : List WordL) : mixd i l.length l = lwd i l.length 0 := by simp [mixd, lwd]
theorem mixd_at {i j : Nat} {l : List WordL} (h : j < l.length) : mixd i j l = List.replicate j ⟨-1 - (i : Int), [], 0⟩ ++ l[j] :: l.drop (j + 1) := by
  unfold mixd; rw [List.drop_eq_getElem_cons h]
theorem mixd_next {i j : Nat} {l : List WordL} : List.replicate j (⟨-1 - (i : Int), [], 0⟩ : WordL) ++ ⟨-1 - (i : Int), [], 0⟩ :: l.drop (j + 1) = mixd i (j + 1) l := by
  unfold mixd; rw [List.replicate_succ', List.append_assoc]; rfl
theorem WdRow.mix {b0 g n kc i j : Nat} {w : World} {l : List WordL} (h : WdRow b0 w (mixd i j l) (.slice (some ⟨g, 0, none⟩) n kc)) (hj : j < l.length) :
    WdRow b0 (((w.setCell ⟨g, j * 3, none⟩ (.int .i64 (-1 - (i : Int)))).setCell ⟨g, j * 3 + 1, none⟩ (.string (strB []))).setCell ⟨g, j * 3 + 2, none⟩ (.int .i64 0)) (mixd i (j + 1) l) (.slice (some ⟨g, 0, none⟩) n kc) := by
  rw [mixd_at hj] at h
  have := WdRow.put (y := ⟨-1 - (i : Int), [], 0⟩) h
  simpa only [List.length_replicate, mixd_next] using this
theorem grow_same8 {W W1 : World} {o : Obj} {v : Value} (hg : (W.alloc o).grownBy W1 v.ownBlock) : ∀ x, x < W.heap.size → v.ownBlock ≠ some x → W1.heap[x]? = W.heap[x]? := fun x hx hv =>
  (hg.block x (by simp; omega) (fun e => hv e.symm)).trans (Below.heap_alloc _ _ _ hx)
section
variable {w0 : World} {b N : Nat} {cl : Nat → Nat} {S : Nat → Prop} {E : Nat → Nat} {vL vQ vW vN : Value} {cL cQ cW : List Value} {ns : List Nat} {W W1 : World} {o : Obj} {g cap : Nat}
theorem FxS.appL {u : Value} (s : FxS w0 b N cl (fun j => j < cL.length) E vL vQ vW vN cL cQ cW ns W) (hown : W1.ownsRow b 28 1 (.slice (some ⟨g, 0, none⟩) (cL.length + 1) cap) (cL.length + 1) (cL ++ [u])) (hgrow : (W.alloc o).grownBy W1 vL.ownBlock) (hat : vL.ownBlock = some g ∨ g = (W.alloc o).heap.size) :
    FxS w0 b W1.heap.size (upc cl N 0) (fun j => j < cL.length) E (.slice (some ⟨g, 0, none⟩) (cL.length + 1) cap) vQ vW vN (cL ++ [u]) cQ cW ns W1 ∧ (∀ x, x < N → cl x ≠ 0 → W1.heap[x]? = W.heap[x]?) ∧ N ≤ W1.heap.size := by
  have same := grow_same8 hgrow
  have hbW := Nat.le_trans s.hb s.hN
  have bel : Below b W W1 := ((Below.refl b W).alloc hbW o).grown hgrow (by simp; omega) (fun k hk => (World.ownsRow.lt s.rL.own k hk).1)
  refine ⟨s.growL (by simpa using hown) bel (fun x hx hne => same x (Nat.lt_of_lt_of_le hx s.hN) hne) ?_ ?_, fun x hx hc => same x (Nat.lt_of_lt_of_le hx s.hN) fun e => hc (s.rL.cls x e).1, Nat.le_trans s.hN bel.size⟩
  · rcases hat with e | e
    · exact .inl e.symm
    · right
      intro x hx
      simp only [Value.ownBlock, Option.some.injEq] at hx
      subst hx
      rw [e]
      have := s.hN
      simp
      omega
  · intro i v hi hv
    rw [List.getElem?_append_left hi] at hv
    exact ⟨hi, hv⟩
theorem FxS.appQ {u : Value} (s : FxS w0 b N cl S E vL vQ vW vN cL cQ cW ns W) (hown : W1.ownsRow b 28 1 (.slice (some ⟨g, 0, none⟩) (cQ.length + 1) cap) (cQ.length + 1) (cQ ++ [u])) (hgrow : (W.alloc o).grownBy W1 vQ.ownBlock) (hat : vQ.ownBlock = some g ∨ g = (W.alloc o).heap.size) (hlen : cW.length = cQ.length) :
    FxS w0 b W1.heap.size (upc cl N 1) S E vL (.slice (some ⟨g, 0, none⟩) (cQ.length + 1) cap) vW vN cL (cQ ++ [u]) cW ns W1 ∧ (∀ x, x < N → cl x ≠ 1 → W1.heap[x]? = W.heap[x]?) ∧ N ≤ W1.heap.size := by
  have same := grow_same8 hgrow
  have hbW := Nat.le_trans s.hb s.hN
  have bel : Below b W W1 := ((Below.refl b W).alloc hbW o).grown hgrow (by simp; omega) (fun k hk => (World.ownsRow.lt s.rQ.own k hk).1)
  refine ⟨s.growQ (by simpa using hown) bel (fun x hx hne => same x (Nat.lt_of_lt_of_le hx s.hN) hne) ?_ ?_, fun x hx hc => same x (Nat.lt_of_lt_of_le hx s.hN) fun e => hc (s.rQ.cls x e).1, Nat.le_trans s.hN bel.size⟩
  · rcases hat with e | e
    · exact .inl e.symm
    · right
      intro x hx
      simp only [Value.ownBlock, Option.some.injEq] at hx
      subst hx
      rw [e]
      have := s.hN
      simp
      omega
  · intro i x x' hx hx'
    have hi := (List.getElem?_eq_some_iff.1 hx').1
    rw [List.getElem?_append_left (by omega)] at hx
    exact s.qq i x x' hx hx'
theorem FxS.appW {u : Value} (s : FxS w0 b N cl S E vL vQ vW vN cL cQ cW ns W) (hown : W1.ownsRow b 28 1 (.slice (some ⟨g, 0, none⟩) (cW.length + 1) cap) (cW.length + 1) (cW ++ [u])) (hgrow : (W.alloc o).grownBy W1 vW.ownBlock) (hat : vW.ownBlock = some g ∨ g = (W.alloc o).heap.size) {l : List WordL} {u1 : Value} (hu : cQ[cW.length]? = some u1) (h1 : Wl b N cl 5 W l u1) (h2 : Wl b N cl 5 W l u) :
    FxS w0 b W1.heap.size (upc cl N 2) S E vL vQ (.slice (some ⟨g, 0, none⟩) (cW.length + 1) cap) vN cL cQ (cW ++ [u]) ns W1 ∧ (∀ x, x < N → cl x ≠ 2 → W1.heap[x]? = W.heap[x]?) ∧ N ≤ W1.heap.size := by
  have same := grow_same8 hgrow
  have hbW := Nat.le_trans s.hb s.hN
  have bel : Below b W W1 := ((Below.refl b W).alloc hbW o).grown hgrow (by simp; omega) (fun k hk => (World.ownsRow.lt s.rW.own k hk).1)
  refine ⟨s.growW (by simpa using hown) bel (fun x hx hne => same x (Nat.lt_of_lt_of_le hx s.hN) hne) ?_ ?_, fun x hx hc => same x (Nat.lt_of_lt_of_le hx s.hN) fun e => hc (s.rW.cls x e).1, Nat.le_trans s.hN bel.size⟩
  · rcases hat with e | e
    · exact .inl e.symm
    · right
      intro x hx
      simp only [Value.ownBlock, Option.some.injEq] at hx
      subst hx
      rw [e]
      have := s.hN
      simp
      omega
  · intro i x x' hx hx'
    have hi := (List.getElem?_eq_some_iff.1 hx').1
    simp only [List.length_append, List.length_cons, List.length_nil] at hi
    rcases Nat.lt_or_ge i cW.length with q | q
    · rw [List.getElem?_append_left q] at hx'
      exact s.qq i x x' hx hx'
    · obtain rfl : i = cW.length := by omega
      rw [hu] at hx
      simp only [List.getElem?_append_right (Nat.le_refl _), Nat.sub_self, List.getElem?_cons_zero, Option.some.injEq] at hx'
      obtain rfl := Option.some.inj hx
      subst hx'
      exact ⟨l, h1, h2⟩
theorem FxS.appN {m : Nat} (s : FxS w0 b N cl S E vL vQ vW vN cL cQ cW ns W) (hown : W1.ownsRow b 3 1 (.slice (some ⟨g, 0, none⟩) (ns.length + 1) cap) (ns.length + 1) ((ns.map fun (m : Nat) => Value.int .i64 (m : Int)) ++ [(.int .i64 (m : Int))])) (hgrow : (W.alloc o).grownBy W1 vN.ownBlock) (hat : vN.ownBlock = some g ∨ g = (W.alloc o).heap.size) :
    FxS w0 b W1.heap.size (upc cl N 3) S E vL vQ vW (.slice (some ⟨g, 0, none⟩) (ns.length + 1) cap) cL cQ cW (ns ++ [m]) W1 ∧ (∀ x, x < N → cl x ≠ 3 → W1.heap[x]? = W.heap[x]?) ∧ N ≤ W1.heap.size := by
  have same := grow_same8 hgrow
  have hbW := Nat.le_trans s.hb s.hN
  have bel : Below b W W1 := ((Below.refl b W).alloc hbW o).grown hgrow (by simp; omega) (fun k hk => (World.ownsRow.lt s.rN.own k hk).1)
  refine ⟨s.growN (by simpa using hown) bel (fun x hx hne => same x (Nat.lt_of_lt_of_le hx s.hN) hne) ?_ ?_, fun x hx hc => same x (Nat.lt_of_lt_of_le hx s.hN) fun e => hc (s.rN.cls x e).1, Nat.le_trans s.hN bel.size⟩
  · rcases hat with e | e
    · exact .inl e.symm
    · right
      intro x hx
      simp only [Value.ownBlock, Option.some.injEq] at hx
      subst hx
      rw [e]
      have := s.hN
      simp
      omega
  · intro i k hk
    rw [List.getElem?_append_left (List.getElem?_eq_some_iff.1 hk).1]
    exact hk
theorem ownsRow_set {T : TypeId} {n kc i : Nat} {xs : List Value} {u : Value} (h : W.ownsRow b T 1 (.slice (some ⟨g, 0, none⟩) n kc) n xs) : (W.setCell ⟨g, i, none⟩ u).ownsRow b T 1 (.slice (some ⟨g, 0, none⟩) n kc) n (xs.set i u) := by
  refine ⟨by rw [List.length_set]; exact h.1, ?_⟩
  rcases h.2 with ⟨e, h0⟩ | ⟨g', cap, cur, e, hb, hg, h1, h2, h3, h4⟩
  · cases e
  · simp only [Value.slice.injEq, Option.some.injEq, Addr.mk.injEq, and_true, true_and] at e
    obtain ⟨rfl, rfl⟩ := e
    refine .inr ⟨g, kc, _, rfl, hb, heap_setCell_same W g i cur T u hg, h1, h2, by simpa using h3, ?_⟩
    rw [Array.toList_setIfInBounds, List.take_set, h4]
theorem ownsRow_frz {T : TypeId} {s n m kc : Nat} {xs : List Value} (h : W.ownsRow b T s (.slice (some ⟨g, 0, none⟩) n kc) m xs) : ∀ o, W.frozen? ⟨g, o, none⟩ = false := by
  rcases h.2 with ⟨e, h0⟩ | ⟨g', cap, cur, e, hb, hg, h1, h2, h3, h4⟩
  · cases e
  · simp only [Value.slice.injEq, Option.some.injEq, Addr.mk.injEq, and_true] at e
    obtain ⟨rfl, rfl, rfl⟩ := e
    intro o
    simp [World.frozen?, hg]
/-- One more list is counted. -/
theorem FxS.settle (s : FxS w0 b N cl S E vL vQ vW vN cL cQ cW ns W) (S' : Nat → Prop) (E' : Nat → Nat) (h : ∀ (i : Nat) (v : Value), S' i → cL[i]? = some v → (S i ∧ E i ≤ E' i) ∨ ∃ m e, ns[i]? = some m ∧ m ≤ 65535 ∧ e ≤ E' i ∧ Wl b N cl (10 + i) W (lwd i m e) v) : FxS w0 b N cl S' E' vL vQ vW vN cL cQ cW ns W := by
  refine ⟨s.bel, s.rL, s.rQ, s.rW, s.rN, fun i v hi hv => ?_, s.qq, s.hb, s.hN⟩
  rcases h i v hi hv with ⟨q, q2⟩ | q
  · obtain ⟨m, e, h1, h2, h3, h4⟩ := s.ll i v q hv
    exact ⟨m, e, h1, h2, by omega, h4⟩
  · exact q
end
theorem WdRow.get3 {b0 g n kc : Nat} {w : World} {l : List WordL} (h : WdRow b0 w l (.slice (some ⟨g, 0, none⟩) n kc)) {j : Nat} {x : WordL} (hj : l[j]? = some x) :
    w.cell? ⟨g, j * 3, none⟩ = some (.int .i64 x.kind) ∧ w.cell? ⟨g, j * 3 + 1, none⟩ = some (.string (strB x.text)) ∧ w.cell? ⟨g, j * 3 + 2, none⟩ = some (.int .i64 x.at_) := by
  obtain ⟨a, kc', e, A, -⟩ := h.at_
  obtain ⟨b, off, e2, -, -, c0, c1, c2⟩ := A.2 j x hj
  subst e2
  simp only [Value.slice.injEq, Option.some.injEq, Addr.mk.injEq, and_true] at e
  obtain ⟨⟨rfl, rfl⟩, -⟩ := e
  simp only [Nat.zero_add] at c0 c1 c2
  exact ⟨c0, c1, c2⟩
theorem mixd_get {i j : Nat} {l : List WordL} (h : j < l.length) : (mixd i j l)[j]? = some l[j] := by
  rw [mixd_at h, List.getElem?_append_right (by simp)]
  simp
def set3 (W : World) (g j : Nat) (k : Int) : World := ((W.setCell ⟨g, j * 3, none⟩ (.int .i64 k)).setCell ⟨g, j * 3 + 1, none⟩ (.string (strB []))).setCell ⟨g, j * 3 + 2, none⟩ (.int .i64 0)
theorem set3_other {W : World} {g j : Nat} {k : Int} (x : Nat) (h : x ≠ g) : (set3 W g j k).heap[x]? = W.heap[x]? := by
  unfold set3
  rw [heap_setCell_other _ _ _ _ (by simpa using h), heap_setCell_other _ _ _ _ (by simpa using h), heap_setCell_other _ _ _ _ (by simpa using h)]
theorem set3_below {W : World} {b g j : Nat} {k : Int} (h : b ≤ g) : Below b W (set3 W g j k) := (((Below.refl b W).setCell (p := ⟨g, _, none⟩) h _).setCell (p := ⟨g, _, none⟩) h _).setCell (p := ⟨g, _, none⟩) h _
section
variable {w0 : World} {b N : Nat} {cl : Nat → Nat} {S : Nat → Prop} {E : Nat → Nat} {vL vQ vW vN : Value} {cL cQ cW : List Value} {ns : List Nat} {W W1 : World} {o : Obj} {g cap : Nat}
/-- One word of the last list is written over. -/
theorem FxS.mix {n j m kc : Nat} {k : Int} {l wl : List WordL} {vw : Value} (s : FxS w0 b N cl S E vL vQ vW vN cL cQ cW ns W) (hS : ¬ S n) (hw : Wl b N cl (10 + n) W (mixd n j l) (.slice (some ⟨g, 0, none⟩) m kc)) (hk : Wl b N cl 5 W wl vw) (hj : j < l.length) (e : k = -1 - (n : Int)) :
    FxS w0 b (set3 W g j k).heap.size (upc cl N (10 + n)) S E vL vQ vW vN cL cQ cW ns (set3 W g j k) ∧ Wl b (set3 W g j k).heap.size (upc cl N (10 + n)) (10 + n) (set3 W g j k) (mixd n (j + 1) l) (.slice (some ⟨g, 0, none⟩) m kc) ∧ Wl b (set3 W g j k).heap.size (upc cl N (10 + n)) 5 (set3 W g j k) wl vw := by
  have hg := hw.cls g rfl
  have bel : Below b W (set3 W g j k) := set3_below (hw.row.lt g rfl).1
  have same : ∀ x, x < N → cl x ≠ 10 + n → (set3 W g j k).heap[x]? = W.heap[x]? := fun x _ hc => set3_other x fun q => hc (q ▸ hg.1)
  have hs := Nat.le_trans s.hN bel.size
  refine ⟨s.list n hS bel same, ⟨?_, hw.cls.up hs⟩, hk.step (fun x hx e => same x hx (by omega)) hs⟩
  subst e
  exact hw.row.mix hj
/-- A list is grown by a word, and laid back into its place. -/
theorem FxS.room {i m e gL nL kL : Nat} {v : Value} (s : FxS w0 b N cl S E (.slice (some ⟨gL, 0, none⟩) nL kL) vQ vW vN cL cQ cW ns W) (hS : ¬ S i) (hw : Wl b N cl (10 + i) W (lwd i m e) v)
    (hown : W1.ownsRow b 34 3 (.slice (some ⟨g, 0, none⟩) ((m + e) + 1) cap) ((m + e) + 1) (wdCells (lwd i m e) ++ WordL.vals ⟨-1 - (i : Int), [], 1⟩)) (hgrow : (W.alloc o).grownBy W1 v.ownBlock) (hat : v.ownBlock = some g ∨ g = (W.alloc o).heap.size) :
    ∃ N' cl', FxS w0 b N' cl' S E (.slice (some ⟨gL, 0, none⟩) nL kL) vQ vW vN (cL.set i (.slice (some ⟨g, 0, none⟩) ((m + e) + 1) cap)) cQ cW ns (W1.setCell ⟨gL, i, none⟩ (.slice (some ⟨g, 0, none⟩) ((m + e) + 1) cap)) ∧
      Wl b N' cl' (10 + i) (W1.setCell ⟨gL, i, none⟩ (.slice (some ⟨g, 0, none⟩) ((m + e) + 1) cap)) (lwd i m (e + 1)) (.slice (some ⟨g, 0, none⟩) ((m + e) + 1) cap) := by
  have same := grow_same8 hgrow
  have hbW := Nat.le_trans s.hb s.hN
  have bel : Below b W W1 := ((Below.refl b W).alloc hbW o).grown hgrow (by simp; omega) (fun k hk => (hw.row.lt k hk).1)
  have hz : W.heap.size + 1 ≤ W1.heap.size := by have := hgrow.size; simpa using this
  have sm : ∀ x, x < N → cl x ≠ 10 + i → W1.heap[x]? = W.heap[x]? := fun x hx hc => same x (Nat.lt_of_lt_of_le hx s.hN) fun q => hc (hw.cls x q).1
  have s1 := s.list i hS bel sm
  have hlw : (lwd i m (e + 1)).length = (m + e) + 1 := by rw [lwd_len]; omega
  have hrow : WdRow b W1 (lwd i m (e + 1)) (.slice (some ⟨g, 0, none⟩) ((m + e) + 1) cap) := by
    unfold WdRow
    rw [hlw, ← lwd_more, wdCells_app]
    simpa [wdCells] using hown
  have hcl : Cls (upc cl N (10 + i)) W1.heap.size (10 + i) (.slice (some ⟨g, 0, none⟩) ((m + e) + 1) cap) := hw.cls.grown (by
    rcases hat with q | q
    · exact .inl q
    · right; rw [q]; have := s.hN; simp; omega) (hrow.lt g rfl).2
  have hgL := (s1.rL.cls gL rfl)
  have hcell : ∀ x, x ≠ gL → (W1.setCell ⟨gL, i, none⟩ (.slice (some ⟨g, 0, none⟩) ((m + e) + 1) cap)).heap[x]? = W1.heap[x]? := fun x hx => heap_setCell_other _ _ _ _ (by simpa using hx)
  have b2 : Below b W1 (W1.setCell ⟨gL, i, none⟩ (.slice (some ⟨g, 0, none⟩) ((m + e) + 1) cap)) := (Below.refl b W1).setCell (p := ⟨gL, i, none⟩) (World.ownsRow.lt s1.rL.own gL rfl).1 _
  have hnL : nL = cL.length := by
    obtain ⟨a, kc, q⟩ := World.ownsRow.slice s1.rL.own
    simp only [Value.slice.injEq] at q
    exact q.2.1
  subst hnL
  refine ⟨_, _, s1.growL (S' := S) (by rw [List.length_set]; exact ownsRow_set s1.rL.own) b2 (fun x hx hne => hcell x fun q => hne (by rw [q]; rfl)) (.inl rfl) (fun j y hj hy => ?_), ⟨?_, hcl.up b2.size⟩⟩
  · have hne : j ≠ i := fun q => hS (q ▸ hj)
    rw [List.getElem?_set_ne (Ne.symm hne)] at hy
    exact ⟨hj, hy⟩
  · refine hrow.kept fun k hk => hcell k fun q => ?_
    have h1 := (hcl k hk).1
    rw [q, hgL.1] at h1
    omega
end
end Go.Proofs.YtikahfnlflhbfaaGreatDoor
