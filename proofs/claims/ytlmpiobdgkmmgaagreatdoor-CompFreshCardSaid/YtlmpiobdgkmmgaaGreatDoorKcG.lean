/- Comp: a tree's code as plain lists; how code lies while it is laid. -/
import Derived.Test.YtlmpiobdgkmmgaaGreatDoorKcA
import Derived.Test.YtlmpiobdgkmmgaaGreatDoorKcD
import Derived.Test.YtlmpiobdgkmmgaaGreatDoorKcF
import Derived.Deep.AppendLies
import Derived.Deep.DrawnRows
import Derived.Deep.RegionHeld3
import Derived.BigRegion
import Derived.StillTailTactics
set_option maxRecDepth 1000000
set_option maxHeartbeats 16000000
namespace Go.Proofs.YtlmpiobdgkmmgaaGreatDoor
abbrev CF : Type := Nat → List PV → List PI × List PV
def nilF : CF := fun _ cs => ([], cs)
def insF (x : PI) : CF := fun _ cs => ([x], cs)
def seqF (f g : CF) : CF := fun n cs => ((f n cs).1 ++ (g (n + (f n cs).1.length) (f n cs).2).1, (g (n + (f n cs).1.length) (f n cs).2).2)
def ixOf : List PV → PV → Nat
 | [], _ => 0
 | x :: r, v => if x = v then 0 else ixOf r v + 1
def pushC (cs : List PV) (v : PV) : List PV := if ixOf cs v < cs.length then cs else cs ++ [v]
def conF (v : PV) : CF := fun _ cs => ([⟨1, (ixOf cs v : Nat), 0, 0, 0, []⟩], pushC cs v)
def errF (e : Int) : CF := conF ⟨4, e, []⟩
def clsOf (h : Hd) : Int := if h.kind = 9 then (infoRow h.fn).cls else 0
structure KC where
 h : Hd
 v : CF
 a : CF
def isAr (k : KC) : Bool := decide (k.h.kind = 5) || decide (k.h.kind = 6) || decide (clsOf k.h = 5)
def valsF (e : Int) : Int → List KC → CF
 | _, [] => nilF
 | _, [k] => k.v
 | b, k :: k2 :: r => seqF k.v (seqF (insF ⟨7, e, b, 0, 0, []⟩) (valsF e (b + 1) (k2 :: r)))
def walkF (e : Int) : Int → List KC → CF
 | _, [] => nilF
 | i, k :: r => seqF (if isAr k then seqF k.a (insF ⟨7, e, i, 0, 0, []⟩) else k.v) (walkF e (i + 1) r)
def chsF (e : Int) : List KC → CF
 | [] => nilF
 | [k] => k.v
 | k :: k2 :: r => seqF k.v (seqF (insF ⟨13, e, 0, 0, 0, []⟩) (chsF e (k2 :: r)))
def chsT : List KC → Nat → List PV → List Int
 | [], _, _ => []
 | [_], n, _ => [(n : Int)]
 | k :: k2 :: r, n, cs => (n : Int) :: chsT (k2 :: r) (n + (k.v n cs).1.length + 1) (k.v n cs).2
def armF (e : Int) (f : CF) : CF := fun n cs => (⟨11, ((n + (f (n + 1) cs).1.length + 2 : Nat) : Int), 0, 0, 0, []⟩ :: ((f (n + 1) cs).1 ++ [⟨13, e, 0, 0, 0, []⟩]), (f (n + 1) cs).2)
def swF (e : Int) : List KC → CF
 | [] => seqF (insF ⟨12, 0, 0, 0, 0, []⟩) (errF 6)
 | [k] => seqF (insF ⟨12, 0, 0, 0, 0, []⟩) k.v
 | k :: k2 :: r => seqF k.v (seqF (insF ⟨7, e, 1, 0, 0, []⟩) (seqF (armF e k2.v) (swF e r)))
def endF (F : Int → CF) (x : PI) : CF := fun n cs => seqF (F ((n + (F 0 n cs).1.length + 1 : Nat) : Int)) (insF x) n cs
def headF (F : Int → CF) (x : Int → PI) : CF := fun n cs => seqF (insF (x ((n + 1 + (F 0 (n + 1) cs).1.length : Nat) : Int))) (F ((n + 1 + (F 0 (n + 1) cs).1.length : Nat) : Int)) n cs
def nth (l : List KC) (i : Nat) : KC := l.getD i ⟨Hd.zero, nilF, nilF⟩
def elseF (l : List KC) : CF := if l.length = 3 then (nth l 2).v else conF ⟨2, 0, []⟩
def ifF (l : List KC) : CF := fun n cs =>
 let x := (nth l 1).v (n + 1) cs
 let y := elseF l (n + 1 + x.1.length + 1) x.2
 (⟨8, ((n + 1 + x.1.length + 1 : Nat) : Int), ((n + 1 + x.1.length + 1 + y.1.length : Nat) : Int), 0, 0, []⟩ :: (x.1 ++ ⟨13, ((n + 1 + x.1.length + 1 + y.1.length : Nat) : Int), 0, 0, 0, []⟩ :: y.1), y.2)
def lazyF (h : Hd) (l : List KC) : CF := seqF (nth l 0).v (
 if h.fn = 42 then ifF l
 else if h.fn = 43 ∨ h.fn = 44 then headF (fun _ => (nth l 1).v) (fun e => ⟨9, e, if h.fn = 44 then 6 else 0, 0, 0, []⟩)
 else if h.fn = 45 then fun n cs => headF (fun e => chsF e l.tail) (fun e => ⟨10, e, 0, 0, 0, chsT l.tail (n + 1) cs⟩) n cs
 else headF (fun e => swF e l.tail) (fun e => ⟨7, e, 0, 0, 0, []⟩))
structure Rc where
 top : Int
 left : Int
 bottom : Int
 right : Int
def rcOk (r : Rc) : Bool := decide (0 ≤ r.top) && decide (r.top ≤ r.bottom) && decide (r.bottom < 65536) && decide (0 ≤ r.left) && decide (r.left ≤ r.right) && decide (r.right < 702) && decide ((r.bottom - r.top + 1) * (r.right - r.left + 1) ≤ 4096)
def rcF (r : Rc) : CF := if rcOk r then insF ⟨3, r.top, r.left, r.bottom, r.right, []⟩ else errF 3
def rcOf (a b c d : Int) : Rc := ⟨min a c, min b d, max a c, max b d⟩
def areaF (h : Hd) (l : List KC) : CF :=
 if h.kind = 5 then rcF (rcOf h.ref.row h.ref.col h.ref.row h.ref.col)
 else if h.kind = 6 then rcF (rcOf h.ref.row h.ref.col h.to.row h.to.col)
 else if h.kind = 4 then errF h.num
 else if clsOf h ≠ 5 then errF 4
 else if h.fn = 51 then seqF (nth l 0).v (insF ⟨17, 0, 0, 0, 0, []⟩)
 else seqF (nth l 0).a (fun n cs => seqF (headF (fun e => valsF (e + 1) 1 l.tail) (fun e => ⟨7, e + 1, 0, 0, 0, []⟩)) (insF ⟨if h.fn = 53 then 19 else 18, ((l.length - 1 : Nat) : Int), 0, 0, 0, []⟩) n cs)
def callF (h : Hd) (l : List KC) : CF :=
 if clsOf h = 1 ∨ clsOf h = 2 then endF (fun e => valsF e 0 l) ⟨6, h.fn, (l.length : Nat), 0, 0, []⟩
 else if clsOf h = 3 then lazyF h l
 else if clsOf h = 4 then (if l.length = 0 then insF ⟨14, h.fn, 0, 0, 0, []⟩ else seqF (nth l 0).a (insF ⟨15, h.fn, 0, 0, 0, []⟩))
 else if clsOf h = 5 then seqF (areaF h l) (insF ⟨16, 0, 0, 0, 0, []⟩)
 else endF (fun e => walkF e 0 l) ⟨20, h.fn, (l.length : Nat), 0, 0, []⟩
def valF (h : Hd) (l : List KC) : CF :=
 if h.kind = 1 then conF ⟨1, h.num, []⟩
 else if h.kind = 2 then conF ⟨3, 0, h.text⟩
 else if h.kind = 3 then conF ⟨2, h.num, []⟩
 else if h.kind = 4 then errF h.num
 else if h.kind = 5 then insF ⟨2, h.ref.row, h.ref.col, 0, 0, []⟩
 else if h.kind = 6 then errF 4
 else if h.kind = 7 then seqF (nth l 0).v (insF ⟨4, h.op, 0, 0, 0, []⟩)
 else if h.kind = 8 then seqF (nth l 0).v (headF (fun _ => seqF (nth l 1).v (insF ⟨5, h.op, 0, 0, 0, []⟩)) (fun e => ⟨7, e, 0, 0, 0, []⟩))
 else callF h l
def kcs : Trees → List KC
 | .nil => []
 | .cons h k r => ⟨h, valF h (kcs k), areaF h (kcs k)⟩ :: kcs r
def valT (h : Hd) (ks : Trees) : CF := valF h (kcs ks)
def areaT (h : Hd) (ks : Trees) : CF := areaF h (kcs ks)
theorem kcs_len : ∀ ks : Trees, (kcs ks).length = ks.len
 | .nil => rfl
 | .cons _ _ r => by simp [kcs, Trees.len, kcs_len r]
theorem ixOf_le : ∀ (cs : List PV) (v : PV), ixOf cs v ≤ cs.length
 | [], _ => Nat.le_refl _
 | x :: r, v => by
  have := ixOf_le r v
  unfold ixOf
  split <;> simp <;> omega
theorem pushC_len (cs : List PV) (v : PV) : (pushC cs v).length ≤ cs.length + 1 := by
 unfold pushC
 split <;> simp
end Go.Proofs.YtlmpiobdgkmmgaaGreatDoor
namespace Go.Proofs.YtlmpiobdgkmmgaaGreatDoor
open Go.RowKit
def Cls (cl : Nat → Nat) (N c : Nat) (v : Value) : Prop := ∀ k, v.ownBlock = some k → cl k = c ∧ k < N
def Frm (P : Nat → Prop) (cl : Nat → Nat) (N : Nat) (cl' : Nat → Nat) (W W' : World) : Prop := ∀ x, x < N → P (cl x) → cl' x = cl x ∧ W'.heap[x]? = W.heap[x]?
def upc (cl : Nat → Nat) (N c : Nat) : Nat → Nat := fun x => if x < N then cl x else c
theorem upc_lt {cl : Nat → Nat} {N c x : Nat} (h : x < N) : upc cl N c x = cl x := if_pos h
theorem upc_ge {cl : Nat → Nat} {N c x : Nat} (h : N ≤ x) : upc cl N c x = c := if_neg (by omega)
theorem Frm.trans {P : Nat → Prop} {cl cl1 cl2 : Nat → Nat} {N N1 : Nat} {W W1 W2 : World} (h : Frm P cl N cl1 W W1) (k : Frm P cl1 N1 cl2 W1 W2) (hN : N ≤ N1) : Frm P cl N cl2 W W2 := fun x hx hp => by
 obtain ⟨e1, e2⟩ := h x hx hp
 obtain ⟨e3, e4⟩ := k x (by omega) (by rw [e1]; exact hp)
 exact ⟨e3.trans e1, e4.trans e2⟩
theorem Frm.mono {P P' : Nat → Prop} {cl cl1 : Nat → Nat} {N : Nat} {W W1 : World} (h : Frm P cl N cl1 W W1) (hp : ∀ c, P' c → P c) : Frm P' cl N cl1 W W1 := fun x hx h' => h x hx (hp _ h')
theorem Frm.refl (P : Nat → Prop) (cl : Nat → Nat) (N : Nat) (W : World) : Frm P cl N cl W W := fun _ _ _ => ⟨rfl, rfl⟩
theorem Frm.kept {P : Nat → Prop} {cl : Nat → Nat} {N c0 : Nat} {W W' : World} (h : Below N W W') : Frm P cl N (upc cl N c0) W W' := fun x hx _ => ⟨upc_lt hx, h.block x hx⟩
theorem Frm.but {P : Nat → Prop} {cl : Nat → Nat} {N c0 : Nat} {W W' : World} (h : ∀ x, x < N → P (cl x) → W'.heap[x]? = W.heap[x]?) : Frm P cl N (upc cl N c0) W W' := fun x hx hp => ⟨upc_lt hx, h x hx hp⟩
theorem Cls.frm {P : Nat → Prop} {cl cl' : Nat → Nat} {N N' c : Nat} {W W' : World} {v : Value} (h : Cls cl N c v) (f : Frm P cl N cl' W W') (hp : P c) (hN : N ≤ N') : Cls cl' N' c v := fun k hk => by
 obtain ⟨h1, h2⟩ := h k hk
 exact ⟨(f k h2 (by rw [h1]; exact hp)).1.trans h1, by omega⟩
theorem own_row9 {W W' : World} {b : Nat} {T : TypeId} {s n : Nat} {v : Value} {cs : List Value} (o : W.ownsRow b T s v n cs) (h : ∀ k, v.ownBlock = some k → W'.heap[k]? = W.heap[k]?) : W'.ownsRow b T s v n cs := by
 obtain ⟨l, o⟩ := o
 refine ⟨l, ?_⟩
 rcases o with e | ⟨g, cap, cur, e, hb, hg, r⟩
 ·exact .inl e
 ·exact .inr ⟨g, cap, cur, e, hb, (h g (by rw [e]; rfl)).trans hg, r⟩
structure Rw (b N : Nat) (cl : Nat → Nat) (c : Nat) (T : TypeId) (s : Nat) (W : World) (v : Value) (n : Nat) (xs : List Value) : Prop where
 own : W.ownsRow b T s v n xs
 cls : Cls cl N c v
theorem Rw.frm {P : Nat → Prop} {b N N' c s n : Nat} {cl cl' : Nat → Nat} {T : TypeId} {W W' : World} {v : Value} {xs : List Value} (h : Rw b N cl c T s W v n xs) (f : Frm P cl N cl' W W') (hp : P c) (hN : N ≤ N') : Rw b N' cl' c T s W' v n xs :=
 ⟨own_row9 h.own fun k hk => (f k (h.cls k hk).2 (by rw [(h.cls k hk).1]; exact hp)).2, h.cls.frm f hp hN⟩
theorem _root_.Go.World.ownsRow.slice9 {W : World} {b s n : Nat} {T : TypeId} {v : Value} {xs : List Value} (h : W.ownsRow b T s v n xs) : ∃ a kc, v = .slice a n kc := by
 rcases h.2 with ⟨e, h0⟩ | ⟨g, cap, cur, e, _⟩
 ·exact ⟨none, 0, by rw [e, h0]⟩
 ·exact ⟨_, _, e⟩
theorem Rw.make {b N N' c s n n' : Nat} {cl : Nat → Nat} {T : TypeId} {W W' : World} {v v' : Value} {xs xs' : List Value} (h : Rw b N cl c T s W v n xs) (row : W'.ownsRow b T s v' n' xs') (loc : v'.ownBlock = v.ownBlock ∨ ∀ x, v'.ownBlock = some x → N ≤ x) (hN : W'.heap.size ≤ N') : Rw b N' (upc cl N c) c T s W' v' n' xs' :=
 ⟨row, fun k hk => by
  have h2 := (row.lt k hk).2
  refine ⟨?_, by omega⟩
  rcases Nat.lt_or_ge k N with q | q
  ·rw [upc_lt q]
   rcases loc with e | e
   ·exact (h.cls k (by rw [← e]; exact hk)).1
   ·have := e k hk; omega
  ·exact upc_ge q⟩
theorem grow_same9 {W W1 : World} {o : Obj} {v : Value} (hg : (W.alloc o).grownBy W1 v.ownBlock) : ∀ x, x < W.heap.size → v.ownBlock ≠ some x → W1.heap[x]? = W.heap[x]? := fun x hx hv =>
 (hg.block x (by simp; omega) (fun e => hv e.symm)).trans (Below.heap_alloc _ _ _ hx)
theorem own_base {W : World} {b b' s n : Nat} {T : TypeId} {v : Value} {xs : List Value} (h : W.ownsRow b T s v n xs) (hb : b' ≤ b) : W.ownsRow b' T s v n xs := by
 refine ⟨h.1, ?_⟩
 rcases h.2 with e | ⟨g, cap, cur, hv, hbb, r⟩
 ·exact .inl e
 ·exact .inr ⟨g, cap, cur, hv, by omega, r⟩
theorem own_cell {w : World} {base s : Nat} {e : TypeId} {g n cap m : Nat} {xs : List Value} (h : w.ownsRow base e s (.slice (some ⟨g, 0, none⟩) n cap) m xs) (j : Nat) (hj : j < xs.length) : w.cell? ⟨g, j, none⟩ = xs[j]? := by
 have := World.ownsRow.cells h (g := g) rfl j xs[j] (List.getElem?_eq_getElem hj)
 rw [List.getElem?_eq_getElem hj, ← this]
 congr 1
 simp [Addr.add]
theorem setCell_hsize (W : World) (a : Addr) (v : Value) : (W.setCell a v).heap.size = W.heap.size := by simp [World.setCell]
theorem wanted_wp10 {P : Program} {ops : Array Oper} {o : Oper} {a : Act} {w : World} {K : Act → World → Prop} {Q : Exit → Act → World → Prop} (hw : Region.wanted o (yielded ops a.tmps) = true) (h : Oper.wp P o a w K Q) : if Region.wanted o (yielded ops a.tmps) = true then Oper.wp P o a w K Q else K (a.put o.dst undef) w := by rw [if_pos hw]; exact h
section
variable {ops : Array Oper} {Q : Exit → Act → World → Prop} {rest : List Oper} {a : Act} {o : Oper} {x y : Operand} {w : World} {N off : Nat} {cs : Array Value} {T' : TypeId} {vs : List Value}
theorem wpList_store_mem10 {T : TypeId} {n : Nat} (hi : (Tryz.prog.info? T).map (·.size) = some n) (hg : o.guard = none) (ho : o.op = Op.store T x y) (hx : a.eval x = .pointer (some ⟨N, off, none⟩)) (hy : a.eval y = .agg vs.toArray) (hb : w.heap[N]? = some (.cells cs T' (0, 0)))
 (hl : off + vs.length ≤ cs.size) (hn : vs.length = n) (h1 : ∀ v ∈ vs, v.oneCell' = true) (h : ∀ W', W' = w.setCells N off vs → wpList Tryz.prog ops Q rest (a.put o.dst undef) W') : wpList Tryz.prog ops Q (o :: rest) a w := by
 refine wpList_store_mid hg T x y ho N off vs.toArray hx hy (fun j hj => ⟨?_, frees_of_block hb _⟩) (by simpa [hn] using hi) (all_oneCell_toArray h1) (by simpa using h _ rfl)
 have : off + j < cs.size := by simp at hj; omega
 rw [cells_of_block hb]; simp [this]
end
theorem Rw.cur {b N c g m cap s n : Nat} {cl : Nat → Nat} {T : TypeId} {W : World} {xs : List Value} (h : Rw b N cl c T s W (.slice (some ⟨g, 0, none⟩) m cap) n xs) : ∃ cur : Array Value, W.heap[g]? = some (.cells cur T (0, 0)) ∧ n ≤ cap ∧ cur.size = cap * s := by
 rcases h.own.2 with ⟨e, h0⟩ | ⟨g', cap', cur, e, hb, hg, h1, h2, h3, h4⟩
 ·cases e
 ·simp only [Value.slice.injEq, Option.some.injEq, Addr.mk.injEq, and_true] at e
  obtain ⟨rfl, rfl, rfl⟩ := e
  exact ⟨cur, hg, h1, h3⟩
def regionsB : Code → List Code
 | .region i o b => [.region i o b]
 | .loop c => regionsB c
 | .seq a b => regionsB a ++ regionsB b
 | .block _ c => regionsB c
 | .scope c => regionsB c
 | .cond _ a b => regionsB a ++ regionsB b
 | _ => []
def regionB (n : Nat) : List Code → Option Code
 | [] => none
 | .region i o b :: r => if i == n then some (.region i o b) else regionB n r
 | _ :: r => regionB n r
theorem own_frz {W : World} {b g : Nat} {T : TypeId} {s n m kc : Nat} {xs : List Value} (h : W.ownsRow b T s (.slice (some ⟨g, 0, none⟩) n kc) m xs) : ∀ o, W.frozen? ⟨g, o, none⟩ = false := by
 rcases h.2 with ⟨e, h0⟩ | ⟨g', cap, cur, e, hb, hg, h1, h2, h3, h4⟩
 ·cases e
 ·simp only [Value.slice.injEq, Option.some.injEq, Addr.mk.injEq, and_true] at e
  obtain ⟨rfl, rfl, rfl⟩ := e
  exact frees_of_block hg
def loopsB : Code → List Code
 | .loop c => c :: loopsB c
 | .seq a b => loopsB a ++ loopsB b
 | .block _ c => loopsB c
 | .scope c => loopsB c
 | .cond _ a b => loopsB a ++ loopsB b
 | _ => []
theorem there_mid {w : World} {N off n : Nat} {cs : Array Value} {T : TypeId} (hb : w.heap[N]? = some (.cells cs T (0, 0))) (hl : off + n ≤ cs.size) : w.there N off n := fun j hj => by
 have : off + j < cs.size := by omega
 rw [cells_of_block hb, frees_of_block hb]; simp [this]
def insV (p : PI) (t : Value) : List Value := [.int .i64 p.op, .int .i64 p.a, .int .i64 p.b, .int .i64 p.c, .int .i64 p.d, t]
def insC : List PI → List Value → List Value
 | p :: ps, t :: ts => insV p t ++ insC ps ts
 | _, _ => []
def conV (v : PV) : List Value := [.int .i64 v.kind, .int .i64 v.num, .string ⟨v.text.toArray⟩]
def conC : List PV → List Value
 | [] => []
 | v :: r => conV v ++ conC r
theorem insC_app : ∀ (ps : List PI) (ts : List Value) (p : PI) (t : Value), ts.length = ps.length → insC (ps ++ [p]) (ts ++ [t]) = insC ps ts ++ insV p t
 | [], [], _, _, _ => by simp [insC]
 | [], _ :: _, _, _, h => by simp at h
 | _ :: _, [], _, _, h => by simp at h
 | q :: ps, s :: ts, p, t, h => by simp only [List.cons_append, insC, insC_app ps ts p t (by simpa using h), List.append_assoc]
theorem insC_len : ∀ (ps : List PI) (ts : List Value), ts.length = ps.length → (insC ps ts).length = ps.length * 6
 | [], [], _ => rfl
 | [], _ :: _, h => by simp at h
 | _ :: _, [], h => by simp at h
 | q :: ps, s :: ts, h => by simp only [insC, List.length_append, insC_len ps ts (by simpa using h), List.length_cons]; simp [insV]; omega
theorem insC_get : ∀ (ps : List PI) (ts : List Value) (i j : Nat) (p : PI) (t : Value), ps[i]? = some p → ts[i]? = some t → j < 6 → (insC ps ts)[i * 6 + j]? = (insV p t)[j]?
 | [], _, _, _, _, _, h, _, _ => by simp at h
 | _ :: _, [], _, _, _, _, _, h, _ => by simp at h
 | q :: ps, s :: ts, 0, j, p, t, h, h2, hj => by
  simp only [List.getElem?_cons_zero, Option.some.injEq] at h h2
  subst h h2
  rw [insC, Nat.zero_mul, Nat.zero_add, List.getElem?_append_left (by simpa [insV] using hj)]
 | q :: ps, s :: ts, i + 1, j, p, t, h, h2, hj => by
  rw [insC, List.getElem?_append_right (by simp [insV]; omega)]
  rw [← insC_get ps ts i j p t (by simpa using h) (by simpa using h2) hj]
  congr 1
  simp [insV]; omega
theorem insC_set : ∀ (ps : List PI) (ts : List Value) (i j : Nat) (p p' : PI) (t t' u : Value), ps[i]? = some p → ts[i]? = some t → j < 6 → (insV p t).set j u = insV p' t' → (insC ps ts).set (i * 6 + j) u = insC (ps.set i p') (ts.set i t')
 | [], _, _, _, _, _, _, _, _, h, _, _, _ => by simp at h
 | _ :: _, [], _, _, _, _, _, _, _, _, h, _, _ => by simp at h
 | q :: ps, s :: ts, 0, j, p, p', t, t', u, h, h2, hj, e => by
  simp only [List.getElem?_cons_zero, Option.some.injEq] at h h2
  subst h h2
  rw [Nat.zero_mul, Nat.zero_add, insC, List.set_append_left _ _ (by simpa [insV] using hj), e]
  rfl
 | q :: ps, s :: ts, i + 1, j, p, p', t, t', u, h, h2, hj, e => by
  have := insC_set ps ts i j p p' t t' u (by simpa using h) (by simpa using h2) hj e
  rw [insC, List.set_append_right _ _ (by simp [insV]; omega), List.set_cons_succ, List.set_cons_succ, insC, ← this]
  congr 2
  simp [insV]; omega
theorem conC_app : ∀ (cs : List PV) (v : PV), conC (cs ++ [v]) = conC cs ++ conV v
 | [], v => by simp [conC]
 | c :: cs, v => by simp only [List.cons_append, conC, conC_app cs v, List.append_assoc]
theorem conC_len : ∀ cs : List PV, (conC cs).length = cs.length * 3
 | [] => rfl
 | c :: cs => by simp only [conC, List.length_append, conC_len cs, List.length_cons]; simp [conV]; omega
theorem conC_get : ∀ (cs : List PV) (i j : Nat) (v : PV), cs[i]? = some v → j < 3 → (conC cs)[i * 3 + j]? = (conV v)[j]?
 | [], _, _, _, h, _ => by simp at h
 | q :: cs, 0, j, v, h, hj => by
  simp only [List.getElem?_cons_zero, Option.some.injEq] at h
  subst h
  rw [conC, Nat.zero_mul, Nat.zero_add, List.getElem?_append_left (by simpa [conV] using hj)]
 | q :: cs, i + 1, j, v, h, hj => by
  rw [conC, List.getElem?_append_right (by simp [conV]; omega)]
  rw [← conC_get cs i j v (by simpa using h) hj]
  congr 1
  simp [conV]; omega
def TRow (b N : Nat) (cl : Nat → Nat) (c : Nat) (W : World) (t : Value) (xs : List Int) : Prop :=
 (xs = [] ∧ t = .slice none 0 0) ∨ ∃ g cap cur, t = .slice (some ⟨g, 0, none⟩) xs.length cap ∧ cl g = c ∧ g < N ∧ b ≤ g ∧ W.heap[g]? = some (.cells cur 3 (0, 0)) ∧ (0 < xs.length ∧ xs.length ≤ cap) ∧ cap ≤ cur.size ∧ ∀ (j : Nat) (x : Int), xs[j]? = some x → cur[j]? = some (.int .i64 x)
theorem TRow.frm {P : Nat → Prop} {b N N' c : Nat} {cl cl' : Nat → Nat} {W W' : World} {t : Value} {xs : List Int} (h : TRow b N cl c W t xs) (f : Frm P cl N cl' W W') (hp : P c) (hN : N ≤ N') : TRow b N' cl' c W' t xs := by
 rcases h with h | ⟨g, cap, cur, e, h1, h2, h3, h4, h5⟩
 ·exact .inl h
 ·obtain ⟨f1, f2⟩ := f g h2 (by rw [h1]; exact hp)
  exact .inr ⟨g, cap, cur, e, f1.trans h1, by omega, h3, f2.trans h4, h5⟩
abbrev SX : Type := Nat → Option Value
structure LayS (b N : Nat) (cl : Nat → Nat) (S : SX) (Lx : Nat) (TL : TypeId) (ex : List Value) (vI vC : Value) (ps : List PI) (ts : List Value) (cs : List PV) (W : World) : Prop where
 box : W.heap[Lx]? = some (.cells (vI :: vC :: ex).toArray TL (0, 0))
 bx : cl Lx = 2 ∧ Lx < N ∧ b ≤ Lx
 len : ts.length = ps.length
 rI : Rw b N cl 0 47 6 W vI ps.length (insC ps ts)
 rC : Rw b N cl 1 54 3 W vC cs.length (conC cs)
 tt : ∀ (i : Nat) (p : PI) (t : Value), S i = none → ps[i]? = some p → ts[i]? = some t → TRow b N cl (10 + i) W t p.t
 tx : ∀ (i : Nat) (v t : Value), S i = some v → ts[i]? = some t → t = v
 sn : ∀ (i : Nat) (v : Value), S i = some v → i < ps.length
section
variable {b N N' Lx g cap at_ : Nat} {TL : TypeId} {ex : List Value} {cl cl' : Nat → Nat} {S S' : SX} {vI vC v' t t' : Value} {ps : List PI} {p p' : PI} {ts : List Value} {cs : List PV} {c : PV} {W W' W1 : World} {P : Nat → Prop} {o : Obj}
theorem LayS.frm (s : LayS b N cl S Lx TL ex vI vC ps ts cs W) (f : Frm P cl N cl' W W') (hN : N ≤ N') (h0 : P 0) (h1 : P 1) (h2 : P 2) (hS : ∀ i, S i = none → P (10 + i)) : LayS b N' cl' S Lx TL ex vI vC ps ts cs W' where
 box := (f Lx s.bx.2.1 (by rw [s.bx.1]; exact h2)).2.trans s.box
 bx := ⟨(f Lx s.bx.2.1 (by rw [s.bx.1]; exact h2)).1.trans s.bx.1, by have := s.bx.2.1; omega, s.bx.2.2⟩
 len := s.len
 rI := s.rI.frm f h0 hN
 rC := s.rC.frm f h1 hN
 tt := fun i p t hi hp ht => (s.tt i p t hi hp ht).frm f (hS i hi) hN
 tx := s.tx
 sn := s.sn
theorem LayS.appI (s : LayS b W.heap.size cl S Lx TL ex vI vC ps ts cs W) (hbW : b ≤ W.heap.size) (hown : W1.ownsRow b 47 6 (.slice (some ⟨g, 0, none⟩) (ps.length + 1) cap) (ps.length + 1) (insC ps ts ++ insV p t)) (hgrow : (W.alloc o).grownBy W1 vI.ownBlock) (hat : vI.ownBlock = some g ∨ g = (W.alloc o).heap.size) (ht : p.t = [] ∧ t = .slice none 0 0) :
 LayS b W1.heap.size (upc cl W.heap.size 0) S Lx TL ex (.slice (some ⟨g, 0, none⟩) (ps.length + 1) cap) vC (ps ++ [p]) (ts ++ [t]) cs (W1.setCell ⟨Lx, 0, none⟩ (.slice (some ⟨g, 0, none⟩) (ps.length + 1) cap)) ∧
 Frm (fun c => c ≠ 0 ∧ c ≠ 2) cl W.heap.size (upc cl W.heap.size 0) W (W1.setCell ⟨Lx, 0, none⟩ (.slice (some ⟨g, 0, none⟩) (ps.length + 1) cap)) ∧ Below b W (W1.setCell ⟨Lx, 0, none⟩ (.slice (some ⟨g, 0, none⟩) (ps.length + 1) cap)) := by
 have bel : Below b W W1 := ((Below.refl b W).alloc hbW o).grown hgrow (by simp; omega) (fun k hk => (World.ownsRow.lt s.rI.own k hk).1)
 have f1 : Frm (· ≠ 0) cl W.heap.size (upc cl W.heap.size 0) W W1 := Frm.but fun x hx hc => grow_same9 hgrow x hx fun e => hc (s.rI.cls x e).1
 have q := f1 Lx s.bx.2.1 (by rw [s.bx.1]; omega)
 have hb1 := q.2.trans s.box
 have f2 : Frm (· ≠ 2) (upc cl W.heap.size 0) W1.heap.size (upc cl W.heap.size 0) W1 (W1.setCell ⟨Lx, 0, none⟩ (.slice (some ⟨g, 0, none⟩) (ps.length + 1) cap)) := fun x _ hc => ⟨rfl, heap_setCell_other _ _ _ _ (by intro e; exact hc (by rw [e]; exact q.1.trans s.bx.1))⟩
 have rI1 : Rw b W1.heap.size (upc cl W.heap.size 0) 0 47 6 W1 (.slice (some ⟨g, 0, none⟩) (ps.length + 1) cap) (ps.length + 1) (insC ps ts ++ insV p t) := s.rI.make hown (hat.imp (fun e => e.symm) (fun e k hk => by
  simp only [Value.ownBlock, Option.some.injEq] at hk
  rw [← hk, e]; simp)) (Nat.le_refl _)
 refine ⟨⟨by rw [heap_setCell_same _ _ 0 _ _ _ hb1]; rfl, ⟨q.1.trans s.bx.1, by have := s.bx.2.1; have := bel.size; omega, s.bx.2.2⟩, by simp [s.len], ?_, (s.rC.frm f1 (by omega) bel.size).frm f2 (by omega) (Nat.le_refl _), fun i p1 t1 hi hp1 ht1 => ?_, fun i v t1 hv ht1 => ?_, fun i v hv => by have := s.sn i v hv; rw [List.length_append]; omega⟩, ?_, bel.trans ((Below.refl b W1).setCell (p := ⟨Lx, 0, none⟩) s.bx.2.2 _)⟩
 ·rw [insC_app _ _ _ _ s.len, List.length_append, List.length_singleton]
  exact rI1.frm f2 (by omega) (Nat.le_refl _)
 ·rcases Nat.lt_or_ge i ps.length with h1 | h1
  ·rw [List.getElem?_append_left h1] at hp1
   rw [List.getElem?_append_left (by rw [s.len]; exact h1)] at ht1
   exact ((s.tt i p1 t1 hi hp1 ht1).frm f1 (by omega) bel.size).frm f2 (by omega) (Nat.le_refl _)
  ·have h2 := (List.getElem?_eq_some_iff.1 hp1).1
   rw [List.length_append, List.length_singleton] at h2
   obtain rfl : i = ps.length := by omega
   rw [List.getElem?_append_right (Nat.le_refl _), Nat.sub_self, List.getElem?_cons_zero, Option.some.injEq] at hp1
   rw [List.getElem?_append_right (by rw [s.len]; exact Nat.le_refl _), s.len, Nat.sub_self, List.getElem?_cons_zero, Option.some.injEq] at ht1
   subst hp1 ht1
   exact .inl ht
 ·rw [List.getElem?_append_left (by rw [s.len]; exact s.sn i v hv)] at ht1
  exact s.tx i v t1 hv ht1
 ·exact (f1.mono fun c h => h.1).trans (f2.mono fun c h => h.2) bel.size
theorem LayS.appC (s : LayS b W.heap.size cl S Lx TL ex vI vC ps ts cs W) (hbW : b ≤ W.heap.size) (hown : W1.ownsRow b 54 3 (.slice (some ⟨g, 0, none⟩) (cs.length + 1) cap) (cs.length + 1) (conC cs ++ conV c)) (hgrow : (W.alloc o).grownBy W1 vC.ownBlock) (hat : vC.ownBlock = some g ∨ g = (W.alloc o).heap.size) :
 LayS b W1.heap.size (upc cl W.heap.size 1) S Lx TL ex vI (.slice (some ⟨g, 0, none⟩) (cs.length + 1) cap) ps ts (cs ++ [c]) (W1.setCell ⟨Lx, 1, none⟩ (.slice (some ⟨g, 0, none⟩) (cs.length + 1) cap)) ∧
 Frm (fun c => c ≠ 1 ∧ c ≠ 2) cl W.heap.size (upc cl W.heap.size 1) W (W1.setCell ⟨Lx, 1, none⟩ (.slice (some ⟨g, 0, none⟩) (cs.length + 1) cap)) ∧ Below b W (W1.setCell ⟨Lx, 1, none⟩ (.slice (some ⟨g, 0, none⟩) (cs.length + 1) cap)) := by
 have bel : Below b W W1 := ((Below.refl b W).alloc hbW o).grown hgrow (by simp; omega) (fun k hk => (World.ownsRow.lt s.rC.own k hk).1)
 have f1 : Frm (· ≠ 1) cl W.heap.size (upc cl W.heap.size 1) W W1 := Frm.but fun x hx hc => grow_same9 hgrow x hx fun e => hc (s.rC.cls x e).1
 have q := f1 Lx s.bx.2.1 (by rw [s.bx.1]; omega)
 have hb1 := q.2.trans s.box
 have f2 : Frm (· ≠ 2) (upc cl W.heap.size 1) W1.heap.size (upc cl W.heap.size 1) W1 (W1.setCell ⟨Lx, 1, none⟩ (.slice (some ⟨g, 0, none⟩) (cs.length + 1) cap)) := fun x _ hc => ⟨rfl, heap_setCell_other _ _ _ _ (by intro e; exact hc (by rw [e]; exact q.1.trans s.bx.1))⟩
 have rC1 : Rw b W1.heap.size (upc cl W.heap.size 1) 1 54 3 W1 (.slice (some ⟨g, 0, none⟩) (cs.length + 1) cap) (cs.length + 1) (conC cs ++ conV c) := s.rC.make hown (hat.imp (fun e => e.symm) (fun e k hk => by
  simp only [Value.ownBlock, Option.some.injEq] at hk
  rw [← hk, e]; simp)) (Nat.le_refl _)
 refine ⟨⟨by rw [heap_setCell_same _ _ 1 _ _ _ hb1]; rfl, ⟨q.1.trans s.bx.1, by have := s.bx.2.1; have := bel.size; omega, s.bx.2.2⟩, s.len, (s.rI.frm f1 (by omega) bel.size).frm f2 (by omega) (Nat.le_refl _), ?_, fun i p1 t1 hi hp1 ht1 => ((s.tt i p1 t1 hi hp1 ht1).frm f1 (by omega) bel.size).frm f2 (by omega) (Nat.le_refl _), s.tx, s.sn⟩, ?_, bel.trans ((Below.refl b W1).setCell (p := ⟨Lx, 1, none⟩) s.bx.2.2 _)⟩
 ·rw [conC_app, List.length_append, List.length_singleton]
  exact rC1.frm f2 (by omega) (Nat.le_refl _)
 ·exact (f1.mono fun c h => h.1).trans (f2.mono fun c h => h.2) bel.size
theorem LayS.setI {j n kc : Nat} {u : Value} (s : LayS b N cl S Lx TL ex (.slice (some ⟨g, 0, none⟩) n kc) vC ps ts cs W) (hp : ps[at_]? = some p) (ht : ts[at_]? = some t) (hj : j < 6) (hu : (insV p t).set j u = insV p' t') (hT : ∀ W', Frm (· ≠ 0) cl N cl W W' → S at_ = none → TRow b N cl (10 + at_) W' t' p'.t) (hX : ∀ v, S at_ = some v → t' = v) :
 LayS b N cl S Lx TL ex (.slice (some ⟨g, 0, none⟩) n kc) vC (ps.set at_ p') (ts.set at_ t') cs (W.setCell ⟨g, at_ * 6 + j, none⟩ u) ∧ Frm (· ≠ 0) cl N cl W (W.setCell ⟨g, at_ * 6 + j, none⟩ u) := by
 obtain ⟨a9, k9, e9⟩ := s.rI.own.slice9
 simp only [Value.slice.injEq] at e9
 obtain ⟨-, rfl, -⟩ := e9
 have f : Frm (· ≠ 0) cl N cl W (W.setCell ⟨g, at_ * 6 + j, none⟩ u) := fun x _ hc => ⟨rfl, heap_setCell_other _ _ _ _ (by intro e; exact hc (by rw [e]; exact (s.rI.cls g rfl).1))⟩
 refine ⟨⟨(f Lx s.bx.2.1 (by rw [s.bx.1]; omega)).2.trans s.box, s.bx, by simp [s.len], ⟨?_, fun k hk => s.rI.cls k hk⟩, s.rC.frm f (by omega) (Nat.le_refl _), fun i p1 t1 hi hp1 ht1 => ?_, fun i v t1 hv ht1 => ?_, fun i v hv => by rw [List.length_set]; exact s.sn i v hv⟩, f⟩
 ·rw [List.length_set, ← insC_set ps ts at_ j p p' t t' u hp ht hj hu]
  exact (s.rI.own.stored _ u).1
 ·by_cases hi2 : at_ = i
  ·subst hi2
   rw [List.getElem?_set_self (List.getElem?_eq_some_iff.1 hp).1, Option.some.injEq] at hp1
   rw [List.getElem?_set_self (List.getElem?_eq_some_iff.1 ht).1, Option.some.injEq] at ht1
   subst hp1 ht1
   exact hT _ f hi
  ·rw [List.getElem?_set_ne hi2] at hp1 ht1
   exact (s.tt i p1 t1 hi hp1 ht1).frm f (by omega) (Nat.le_refl _)
 ·by_cases hi2 : at_ = i
  ·subst hi2
   rw [List.getElem?_set_self (List.getElem?_eq_some_iff.1 ht).1, Option.some.injEq] at ht1
   subst ht1
   exact hX v hv
  ·rw [List.getElem?_set_ne hi2] at ht1
   exact s.tx i v t1 hv ht1
end
end Go.Proofs.YtlmpiobdgkmmgaaGreatDoor
