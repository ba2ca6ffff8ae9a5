/- What TreeFresh keeps from round to round: trees of its own, the caller's trees, lists of areas. -/
import Derived.Test.YtkjfeakbhfkldaaFr3
import Derived.Test.YtkjfeakbhfkldaaTreeAr
import Derived.Test.YtkjfeakbhfkldaaTreeU
namespace Go.Proofs.Ytkjfeakbhfkldaa
open Go.RowKit

/-- Cells that hold lists of areas, each in a block of its own. -/
def ArsIn (W : World) (b0 : Nat) : List (List Ar) → List Value → List Nat → Prop
  | [], vs, G => vs = [] ∧ G = []
  | l :: r, vs, G => ∃ v vs' G', vs = v :: vs' ∧ ArRow b0 W l v ∧ ArsIn W b0 r vs' G' ∧ G = ownList v ++ G'
theorem ArsIn.kept {W W' : World} {b0 : Nat} : ∀ {ls : List (List Ar)} {vs : List Value} {G : List Nat}, ArsIn W b0 ls vs G → (∀ b ∈ G, W'.heap[b]? = W.heap[b]?) → ArsIn W' b0 ls vs G
  | [], _, _, h, _ => h
  | _ :: _, _, _, ⟨v, vs', G', e, a, r, eG⟩, h => by
    subst eG
    exact ⟨v, vs', G', e, a.kept fun k hk => h k (by simp [mem_ownList.2 hk]), r.kept fun b hb => h b (by simp [hb]), rfl⟩
theorem ArsIn.snoc {W : World} {b0 : Nat} {l : List Ar} {v : Value} (a : ArRow b0 W l v) : ∀ {ls : List (List Ar)} {vs : List Value} {G : List Nat}, ArsIn W b0 ls vs G → ArsIn W b0 (ls ++ [l]) (vs ++ [v]) (G ++ ownList v)
  | [], _, _, ⟨e, eG⟩ => by subst e eG; exact ⟨v, [], [], rfl, a, ⟨rfl, rfl⟩, by simp⟩
  | _ :: _, _, _, ⟨v0, vs', G', e, a0, r, eG⟩ => by subst e eG; exact ⟨v0, vs' ++ [v], G' ++ ownList v, rfl, a0, ArsIn.snoc a r, by simp⟩
/-- Cells that hold trees that can be read below B. -/
def TsIn (W : World) (B : Nat) : Trees → List Value → Prop
  | .nil, cs => cs = []
  | .cons h k r, cs => ∃ ka kl kc cs', cs = h.vals (.slice ka kl kc) ++ cs' ∧ TreeV W B h k ka kl ∧ TsIn W B r cs'
theorem TsIn.kept {W W' : World} {B : Nat} (hb : Below B W W') : ∀ {ts : Trees} {cs : List Value}, TsIn W B ts cs → TsIn W' B ts cs
  | .nil, _, h => h
  | .cons _ _ _, _, ⟨ka, kl, kc, cs', e, t, r⟩ => ⟨ka, kl, kc, cs', e, t.kept hb (Nat.le_refl _), r.kept hb⟩
theorem TsIn.snoc {W : World} {B : Nat} {h : Hd} {k : Trees} {ka : Option Addr} {kl kc : Nat} (t : TreeV W B h k ka kl) : ∀ {ts : Trees} {cs : List Value}, TsIn W B ts cs → TsIn W B (ts.app (.cons h k .nil)) (cs ++ h.vals (.slice ka kl kc))
  | .nil, _, e => by subst e; exact ⟨ka, kl, kc, [], by simp, t, rfl⟩
  | .cons _ _ _, _, ⟨ka', kl', kc', cs', e, t', r⟩ => ⟨ka', kl', kc', cs' ++ h.vals (.slice ka kl kc), by rw [e, List.append_assoc], t', TsIn.snoc t r⟩
theorem own_row {W W' : World} {b : Nat} {T : TypeId} {s n : Nat} {v : Value} {cs : List Value} (o : W.ownsRow b T s v n cs) (h : ∀ k, v.ownBlock = some k → W'.heap[k]? = W.heap[k]?) : W'.ownsRow b T s v n cs := by
  obtain ⟨l, o⟩ := o
  refine ⟨l, ?_⟩
  rcases o with e | ⟨g, cap, cur, e, hb, hg, r⟩
  · exact .inl e
  · exact .inr ⟨g, cap, cur, e, hb, (h g (by rw [e]; rfl)).trans hg, r⟩

/-- What is kept: trees of its own (TK), the caller's (TW), lists of areas of two sorts (LL: to be written, LS). Each block has one owner (cl). -/
structure FrSt (b N : Nat) (cl : Nat → Nat) (TK TW : Trees) (LL LS : List (List Ar)) (vK vW vL vS : Value) (nK nL nS : Nat) (rK csK csW rL csL rS csS : List Value) (FK GL GS : List Nat) (W : World) : Prop where
  k1 : W.ownsRow b 29 14 vK nK rK
  k2 : OwnCells W TK csK FK
  w1 : W.ownsRow b 29 14 vW TW.len csW
  w2 : TsIn W b TW csW
  l1 : W.ownsRow b 41 1 vL nL rL
  l2 : ArsIn W b LL csL GL
  s1 : W.ownsRow b 41 1 vS nS rS
  s2 : ArsIn W b LS csS GS
  cK : ∀ x, vK.ownBlock = some x → cl x = 0 ∧ b ≤ x ∧ x < N
  cW : ∀ x, vW.ownBlock = some x → cl x = 1 ∧ b ≤ x ∧ x < N
  cL : ∀ x, vL.ownBlock = some x → cl x = 2 ∧ b ≤ x ∧ x < N
  cS : ∀ x, vS.ownBlock = some x → cl x = 3 ∧ b ≤ x ∧ x < N
  cF : ∀ x ∈ FK, cl x = 4 ∧ b ≤ x ∧ x < N
  cG : ∀ x ∈ GL, cl x = 5 ∧ b ≤ x ∧ x < N
  cH : ∀ x ∈ GS, cl x = 6 ∧ b ≤ x ∧ x < N
  nF : FK.Nodup
  nG : GL.Nodup
  hb : b ≤ N
  hN : N ≤ W.heap.size
section
variable {b N : Nat} {cl : Nat → Nat} {TK TW : Trees} {LL LS : List (List Ar)} {vK vW vL vS : Value} {nK nL nS : Nat} {rK csK csW rL csL rS csS : List Value} {FK GL GS : List Nat} {W W' : World}
theorem FrSt.nil (W : World) : FrSt W.heap.size W.heap.size (fun _ => 0) .nil .nil [] [] (.slice none 0 0) (.slice none 0 0) (.slice none 0 0) (.slice none 0 0) 0 0 0 [] [] [] [] [] [] [] [] [] [] W where
  k1 := World.ownsRow_nil W _ _ _
  k2 := ⟨rfl, rfl⟩
  w1 := World.ownsRow_nil W _ _ _
  w2 := rfl
  l1 := World.ownsRow_nil W _ _ _
  l2 := ⟨rfl, rfl⟩
  s1 := World.ownsRow_nil W _ _ _
  s2 := ⟨rfl, rfl⟩
  cK := by simp [Value.ownBlock]
  cW := by simp [Value.ownBlock]
  cL := by simp [Value.ownBlock]
  cS := by simp [Value.ownBlock]
  cF := by simp
  cG := by simp
  cH := by simp
  nF := List.nodup_nil
  nG := List.nodup_nil
  hb := Nat.le_refl _
  hN := Nat.le_refl _
theorem FrSt.kept (s : FrSt b N cl TK TW LL LS vK vW vL vS nK nL nS rK csK csW rL csL rS csS FK GL GS W) (h : Below N W W') : FrSt b N cl TK TW LL LS vK vW vL vS nK nL nS rK csK csW rL csL rS csS FK GL GS W' where
  k1 := own_row s.k1 fun x hx => h.block x (s.cK x hx).2.2
  k2 := s.k2.kept fun x hx => h.block x (s.cF x hx).2.2
  w1 := own_row s.w1 fun x hx => h.block x (s.cW x hx).2.2
  w2 := s.w2.kept (h.mono s.hb)
  l1 := own_row s.l1 fun x hx => h.block x (s.cL x hx).2.2
  l2 := s.l2.kept fun x hx => h.block x (s.cG x hx).2.2
  s1 := own_row s.s1 fun x hx => h.block x (s.cS x hx).2.2
  s2 := s.s2.kept fun x hx => h.block x (s.cH x hx).2.2
  cK := s.cK
  cW := s.cW
  cL := s.cL
  cS := s.cS
  cF := s.cF
  cG := s.cG
  cH := s.cH
  nF := s.nF
  nG := s.nG
  hb := s.hb
  hN := Nat.le_trans s.hN h.size
theorem up {cl cl' : Nat → Nat} {b N N' x c : Nat} (h : cl x = c ∧ b ≤ x ∧ x < N) (hc : ∀ y, y < N → cl' y = cl y) (hN : N ≤ N') : cl' x = c ∧ b ≤ x ∧ x < N' := ⟨by rw [hc x h.2.2]; exact h.1, h.2.1, Nat.lt_of_lt_of_le h.2.2 hN⟩
/-- Two trees and a list of areas come in: they are owned from now on. -/
theorem FrSt.enter (s : FrSt b N cl TK TW LL LS vK vW vL vS nK nL nS rK csK csW rL csL rS csS FK GL GS W) {h h2 : Hd} {k k2 : Trees} {vy vz m : Value} {l : List Ar} {Fy Fz : List Nat} (oy : OwnV W k vy Fy) (oz : OwnV W k2 vz Fz) (okh : h.ok) (okh2 : h2.ok) (am : ArRow b W l m) (ny : Fy.Nodup) (nz : Fz.Nodup)
    (hy : ∀ x ∈ Fy, N ≤ x ∧ x < W.heap.size) (hz : ∀ x ∈ Fz, N ≤ x ∧ x < W.heap.size) (hm : ∀ x, m.ownBlock = some x → N ≤ x ∧ x < W.heap.size ∧ x ∉ Fy ∧ x ∉ Fz) (dis : ∀ x ∈ Fy, x ∉ Fz) :
    ∃ cl', FrSt b W.heap.size cl' ((TK.app (.cons h k .nil)).app (.cons h2 k2 .nil)) TW (LL ++ [l]) LS vK vW vL vS nK nL nS rK (csK ++ h.vals vy ++ h2.vals vz) csW rL (csL ++ [m]) rS csS (FK ++ Fy ++ Fz) (GL ++ ownList m) GS W := by
  refine ⟨fun x => if x < N then cl x else if x ∈ Fy ∨ x ∈ Fz then 4 else 5, ?_⟩
  have hc : ∀ y, y < N → (fun x => if x < N then cl x else if x ∈ Fy ∨ x ∈ Fz then 4 else 5) y = cl y := fun y hy => by simp [hy]
  refine ⟨s.k1, (s.k2.snoc okh oy).snoc okh2 oz, s.w1, s.w2, s.l1, s.l2.snoc am, s.s1, s.s2, fun x hx => up (s.cK x hx) hc s.hN, fun x hx => up (s.cW x hx) hc s.hN, fun x hx => up (s.cL x hx) hc s.hN, fun x hx => up (s.cS x hx) hc s.hN, fun x hx => ?_, fun x hx => ?_, fun x hx => up (s.cH x hx) hc s.hN, ?_, ?_, Nat.le_trans s.hb s.hN, Nat.le_refl _⟩
  · rcases List.mem_append.1 hx with hx | hx
    · rcases List.mem_append.1 hx with hx | hx
      · exact up (s.cF x hx) hc s.hN
      · have := hy x hx; have := s.hb
        refine ⟨?_, by omega, by omega⟩
        show (if x < N then cl x else if x ∈ Fy ∨ x ∈ Fz then 4 else 5) = 4
        rw [if_neg (by omega), if_pos (.inl hx)]
    · have := hz x hx; have := s.hb
      refine ⟨?_, by omega, by omega⟩
      show (if x < N then cl x else if x ∈ Fy ∨ x ∈ Fz then 4 else 5) = 4
      rw [if_neg (by omega), if_pos (.inr hx)]
  · rcases List.mem_append.1 hx with hx | hx
    · exact up (s.cG x hx) hc s.hN
    · have q := hm x (mem_ownList.1 hx); have := s.hb
      refine ⟨?_, by omega, by omega⟩
      show (if x < N then cl x else if x ∈ Fy ∨ x ∈ Fz then 4 else 5) = 5
      rw [if_neg (by omega), if_neg (by rintro (r | r); exact q.2.2.1 r; exact q.2.2.2 r)]
  · refine List.nodup_append.2 ⟨List.nodup_append.2 ⟨s.nF, ny, fun x hx y hq e => ?_⟩, nz, fun x hx y hq e => ?_⟩
    · have := (s.cF x hx).2.2; have := hy y hq; omega
    · subst e
      rcases List.mem_append.1 hx with hx | hx
      · have := (s.cF x hx).2.2; have := hz x hq; omega
      · exact dis x hx hq
  · refine List.nodup_append.2 ⟨s.nG, by unfold ownList; split <;> simp, fun x hx y hq e => ?_⟩
    have := (s.cG x hx).2.2; have := hm y (mem_ownList.1 hq); omega
/-- A list of areas of the second sort comes in. -/
theorem FrSt.enterS (s : FrSt b N cl TK TW LL LS vK vW vL vS nK nL nS rK csK csW rL csL rS csS FK GL GS W) {m : Value} {l : List Ar} (am : ArRow b W l m) (hm : ∀ x, m.ownBlock = some x → N ≤ x ∧ x < W.heap.size) :
    ∃ cl', FrSt b W.heap.size cl' TK TW LL (LS ++ [l]) vK vW vL vS nK nL nS rK csK csW rL csL rS (csS ++ [m]) FK GL (GS ++ ownList m) W := by
  refine ⟨fun x => if x < N then cl x else 6, ?_⟩
  have hc : ∀ y, y < N → (fun x => if x < N then cl x else 6) y = cl y := fun y hy => by simp [hy]
  refine ⟨s.k1, s.k2, s.w1, s.w2, s.l1, s.l2, s.s1, s.s2.snoc am, fun x hx => up (s.cK x hx) hc s.hN, fun x hx => up (s.cW x hx) hc s.hN, fun x hx => up (s.cL x hx) hc s.hN, fun x hx => up (s.cS x hx) hc s.hN, fun x hx => up (s.cF x hx) hc s.hN, fun x hx => up (s.cG x hx) hc s.hN, fun x hx => ?_, s.nF, s.nG, Nat.le_trans s.hb s.hN, Nat.le_refl _⟩
  rcases List.mem_append.1 hx with hx | hx
  · exact up (s.cH x hx) hc s.hN
  · have q := hm x (mem_ownList.1 hx); have := s.hb
    refine ⟨?_, by omega, by omega⟩
    show (if x < N then cl x else 6) = 6
    rw [if_neg (by omega)]
/-- The row vK has grown. -/
theorem FrSt.rowK (s : FrSt b N cl TK TW LL LS vK vW vL vS nK nL nS rK csK csW rL csL rS csS FK GL GS W) {v' : Value} {nK' : Nat} {rK' : List Value} (row : W'.ownsRow b 29 14 v' nK' rK') (bel : Below b W W') (same : ∀ x, x < N → vK.ownBlock ≠ some x → W'.heap[x]? = W.heap[x]?) (loc : v'.ownBlock = vK.ownBlock ∨ ∀ x, v'.ownBlock = some x → N ≤ x) :
    ∃ cl', FrSt b W'.heap.size cl' TK TW LL LS v' vW vL vS nK' nL nS rK' csK csW rL csL rS csS FK GL GS W' := by
  refine ⟨fun x => if x < N then cl x else 0, ?_⟩
  have hc : ∀ y, y < N → (fun x => if x < N then cl x else 0) y = cl y := fun y hy => by simp [hy]
  have hN' : N ≤ W'.heap.size := Nat.le_trans s.hN bel.size
  have newc : ∀ x, v'.ownBlock = some x → (fun x => if x < N then cl x else 0) x = 0 ∧ b ≤ x ∧ x < W'.heap.size := fun x hx => by
    have q := row.lt x hx
    refine ⟨?_, q.1, q.2⟩
    rcases loc with e | e
    · rw [e] at hx
      exact (up (s.cK x hx) hc hN').1
    · have := e x hx
      show (if x < N then cl x else 0) = 0
      rw [if_neg (by omega)]
  exact ⟨row, s.k2.kept fun x hx => same x (s.cF x hx).2.2 (fun e => by have a := (s.cF x hx).1; have d := (s.cK x e).1; omega), own_row s.w1 fun x hx => same x (s.cW x hx).2.2 (fun e => by have a := (s.cW x hx).1; have d := (s.cK x e).1; omega), s.w2.kept bel, own_row s.l1 fun x hx => same x (s.cL x hx).2.2 (fun e => by have a := (s.cL x hx).1; have d := (s.cK x e).1; omega), s.l2.kept fun x hx => same x (s.cG x hx).2.2 (fun e => by have a := (s.cG x hx).1; have d := (s.cK x e).1; omega), own_row s.s1 fun x hx => same x (s.cS x hx).2.2 (fun e => by have a := (s.cS x hx).1; have d := (s.cK x e).1; omega), s.s2.kept fun x hx => same x (s.cH x hx).2.2 (fun e => by have a := (s.cH x hx).1; have d := (s.cK x e).1; omega), newc, fun x hx => up (s.cW x hx) hc hN', fun x hx => up (s.cL x hx) hc hN', fun x hx => up (s.cS x hx) hc hN', fun x hx => up (s.cF x hx) hc hN', fun x hx => up (s.cG x hx) hc hN', fun x hx => up (s.cH x hx) hc hN', s.nF, s.nG, Nat.le_trans s.hb hN', Nat.le_refl _⟩
/-- The row vW has grown. -/
theorem FrSt.rowW (s : FrSt b N cl TK TW LL LS vK vW vL vS nK nL nS rK csK csW rL csL rS csS FK GL GS W) {v' : Value} {TW' : Trees} {csW' : List Value} (row : W'.ownsRow b 29 14 v' TW'.len csW') (w2 : TsIn W b TW' csW') (bel : Below b W W') (same : ∀ x, x < N → vW.ownBlock ≠ some x → W'.heap[x]? = W.heap[x]?) (loc : v'.ownBlock = vW.ownBlock ∨ ∀ x, v'.ownBlock = some x → N ≤ x) :
    ∃ cl', FrSt b W'.heap.size cl' TK TW' LL LS vK v' vL vS nK nL nS rK csK csW' rL csL rS csS FK GL GS W' := by
  refine ⟨fun x => if x < N then cl x else 1, ?_⟩
  have hc : ∀ y, y < N → (fun x => if x < N then cl x else 1) y = cl y := fun y hy => by simp [hy]
  have hN' : N ≤ W'.heap.size := Nat.le_trans s.hN bel.size
  have newc : ∀ x, v'.ownBlock = some x → (fun x => if x < N then cl x else 1) x = 1 ∧ b ≤ x ∧ x < W'.heap.size := fun x hx => by
    have q := row.lt x hx
    refine ⟨?_, q.1, q.2⟩
    rcases loc with e | e
    · rw [e] at hx
      exact (up (s.cW x hx) hc hN').1
    · have := e x hx
      show (if x < N then cl x else 1) = 1
      rw [if_neg (by omega)]
  exact ⟨own_row s.k1 fun x hx => same x (s.cK x hx).2.2 (fun e => by have a := (s.cK x hx).1; have d := (s.cW x e).1; omega), s.k2.kept fun x hx => same x (s.cF x hx).2.2 (fun e => by have a := (s.cF x hx).1; have d := (s.cW x e).1; omega), row, w2.kept bel, own_row s.l1 fun x hx => same x (s.cL x hx).2.2 (fun e => by have a := (s.cL x hx).1; have d := (s.cW x e).1; omega), s.l2.kept fun x hx => same x (s.cG x hx).2.2 (fun e => by have a := (s.cG x hx).1; have d := (s.cW x e).1; omega), own_row s.s1 fun x hx => same x (s.cS x hx).2.2 (fun e => by have a := (s.cS x hx).1; have d := (s.cW x e).1; omega), s.s2.kept fun x hx => same x (s.cH x hx).2.2 (fun e => by have a := (s.cH x hx).1; have d := (s.cW x e).1; omega), fun x hx => up (s.cK x hx) hc hN', newc, fun x hx => up (s.cL x hx) hc hN', fun x hx => up (s.cS x hx) hc hN', fun x hx => up (s.cF x hx) hc hN', fun x hx => up (s.cG x hx) hc hN', fun x hx => up (s.cH x hx) hc hN', s.nF, s.nG, Nat.le_trans s.hb hN', Nat.le_refl _⟩
/-- The row vL has grown. -/
theorem FrSt.rowL (s : FrSt b N cl TK TW LL LS vK vW vL vS nK nL nS rK csK csW rL csL rS csS FK GL GS W) {v' : Value} {nL' : Nat} {rL' : List Value} (row : W'.ownsRow b 41 1 v' nL' rL') (bel : Below b W W') (same : ∀ x, x < N → vL.ownBlock ≠ some x → W'.heap[x]? = W.heap[x]?) (loc : v'.ownBlock = vL.ownBlock ∨ ∀ x, v'.ownBlock = some x → N ≤ x) :
    ∃ cl', FrSt b W'.heap.size cl' TK TW LL LS vK vW v' vS nK nL' nS rK csK csW rL' csL rS csS FK GL GS W' := by
  refine ⟨fun x => if x < N then cl x else 2, ?_⟩
  have hc : ∀ y, y < N → (fun x => if x < N then cl x else 2) y = cl y := fun y hy => by simp [hy]
  have hN' : N ≤ W'.heap.size := Nat.le_trans s.hN bel.size
  have newc : ∀ x, v'.ownBlock = some x → (fun x => if x < N then cl x else 2) x = 2 ∧ b ≤ x ∧ x < W'.heap.size := fun x hx => by
    have q := row.lt x hx
    refine ⟨?_, q.1, q.2⟩
    rcases loc with e | e
    · rw [e] at hx
      exact (up (s.cL x hx) hc hN').1
    · have := e x hx
      show (if x < N then cl x else 2) = 2
      rw [if_neg (by omega)]
  exact ⟨own_row s.k1 fun x hx => same x (s.cK x hx).2.2 (fun e => by have a := (s.cK x hx).1; have d := (s.cL x e).1; omega), s.k2.kept fun x hx => same x (s.cF x hx).2.2 (fun e => by have a := (s.cF x hx).1; have d := (s.cL x e).1; omega), own_row s.w1 fun x hx => same x (s.cW x hx).2.2 (fun e => by have a := (s.cW x hx).1; have d := (s.cL x e).1; omega), s.w2.kept bel, row, s.l2.kept fun x hx => same x (s.cG x hx).2.2 (fun e => by have a := (s.cG x hx).1; have d := (s.cL x e).1; omega), own_row s.s1 fun x hx => same x (s.cS x hx).2.2 (fun e => by have a := (s.cS x hx).1; have d := (s.cL x e).1; omega), s.s2.kept fun x hx => same x (s.cH x hx).2.2 (fun e => by have a := (s.cH x hx).1; have d := (s.cL x e).1; omega), fun x hx => up (s.cK x hx) hc hN', fun x hx => up (s.cW x hx) hc hN', newc, fun x hx => up (s.cS x hx) hc hN', fun x hx => up (s.cF x hx) hc hN', fun x hx => up (s.cG x hx) hc hN', fun x hx => up (s.cH x hx) hc hN', s.nF, s.nG, Nat.le_trans s.hb hN', Nat.le_refl _⟩
/-- The row vS has grown. -/
theorem FrSt.rowS (s : FrSt b N cl TK TW LL LS vK vW vL vS nK nL nS rK csK csW rL csL rS csS FK GL GS W) {v' : Value} {nS' : Nat} {rS' : List Value} (row : W'.ownsRow b 41 1 v' nS' rS') (bel : Below b W W') (same : ∀ x, x < N → vS.ownBlock ≠ some x → W'.heap[x]? = W.heap[x]?) (loc : v'.ownBlock = vS.ownBlock ∨ ∀ x, v'.ownBlock = some x → N ≤ x) :
    ∃ cl', FrSt b W'.heap.size cl' TK TW LL LS vK vW vL v' nK nL nS' rK csK csW rL csL rS' csS FK GL GS W' := by
  refine ⟨fun x => if x < N then cl x else 3, ?_⟩
  have hc : ∀ y, y < N → (fun x => if x < N then cl x else 3) y = cl y := fun y hy => by simp [hy]
  have hN' : N ≤ W'.heap.size := Nat.le_trans s.hN bel.size
  have newc : ∀ x, v'.ownBlock = some x → (fun x => if x < N then cl x else 3) x = 3 ∧ b ≤ x ∧ x < W'.heap.size := fun x hx => by
    have q := row.lt x hx
    refine ⟨?_, q.1, q.2⟩
    rcases loc with e | e
    · rw [e] at hx
      exact (up (s.cS x hx) hc hN').1
    · have := e x hx
      show (if x < N then cl x else 3) = 3
      rw [if_neg (by omega)]
  exact ⟨own_row s.k1 fun x hx => same x (s.cK x hx).2.2 (fun e => by have a := (s.cK x hx).1; have d := (s.cS x e).1; omega), s.k2.kept fun x hx => same x (s.cF x hx).2.2 (fun e => by have a := (s.cF x hx).1; have d := (s.cS x e).1; omega), own_row s.w1 fun x hx => same x (s.cW x hx).2.2 (fun e => by have a := (s.cW x hx).1; have d := (s.cS x e).1; omega), s.w2.kept bel, own_row s.l1 fun x hx => same x (s.cL x hx).2.2 (fun e => by have a := (s.cL x hx).1; have d := (s.cS x e).1; omega), s.l2.kept fun x hx => same x (s.cG x hx).2.2 (fun e => by have a := (s.cG x hx).1; have d := (s.cS x e).1; omega), row, s.s2.kept fun x hx => same x (s.cH x hx).2.2 (fun e => by have a := (s.cH x hx).1; have d := (s.cS x e).1; omega), fun x hx => up (s.cK x hx) hc hN', fun x hx => up (s.cW x hx) hc hN', fun x hx => up (s.cL x hx) hc hN', newc, fun x hx => up (s.cF x hx) hc hN', fun x hx => up (s.cG x hx) hc hN', fun x hx => up (s.cH x hx) hc hN', s.nF, s.nG, Nat.le_trans s.hb hN', Nat.le_refl _⟩
end
end Go.Proofs.Ytkjfeakbhfkldaa
