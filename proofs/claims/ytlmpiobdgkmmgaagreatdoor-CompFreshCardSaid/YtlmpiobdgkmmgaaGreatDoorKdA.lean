/- Code: what May computes; its small functions. -/
import Derived.Test.YtlmpiobdgkmmgaaGreatDoorKcA
import Derived.Maps.AppendAt
import Derived.Lib.ConvBytes
import Derived.BigQuiet
import Derived.Deep.QuietTactic
import Derived.BigRegion
import Derived.StillTailTactics
import Derived.Deep.Cut
import Derived.Deep.RegionHeld3
set_option maxRecDepth 1000000
set_option maxHeartbeats 16000000
namespace Go.Proofs.YtlmpiobdgkmmgaaGreatDoor
open Go.RowKit Go.Lib
def fitsS (x y : Int) : Bool := decide (x = y) || decide (x = 69)
def allF : List Int → List Int → Bool
 | x :: r, y :: q => fitsS x y && allF r q
 | _, _ => true
def endsS (s l : List Int) : Bool := decide (l.length ≤ s.length) && allF (s.drop (s.length - l.length)) l
def withS (s : List Int) (n : Nat) (more : List Int) : List Int := s.take (s.length - n) ++ more
def manyS (n : Int) : List Int := List.replicate n.toNat 86
abbrev Exits : Type := List (Int × List Int)
def takesS (l more : List Int) (n : Int) (s : List Int) : Option Exits := if endsS s l = true then some [(n + 1, withS s l.length more)] else none
def kindC (cs : List PV) (i : Int) : Int := match cs[i.toNat]? with | some v => v.kind | none => 0
def errS (p : PI) (n : Int) (s : List Int) : Option Exits := if 1 ≤ s.length ∧ p.b ≤ (s.length : Int) - 1 then some [(n + 1, s), (p.a, withS s (p.b + 1).toNat [69])] else none
def ifS (p : PI) (n : Int) (s : List Int) : Option Exits := if endsS s [86] = true then some [(n + 1, withS s 1 []), (p.a, withS s 1 []), (p.b, withS s 1 [69])] else none
def okS (p : PI) (n : Int) (s : List Int) : Option Exits := if endsS s [86] = true then some [(n + 1, withS s 1 []), (p.a, withS s 1 [86])] else none
def chooseS (p : PI) (s : List Int) : Option Exits := if endsS s [86] = true then some ((p.a, withS s 1 [69]) :: p.t.map fun x => (x, withS s 1 [])) else none
def matchS (p : PI) (n : Int) (s : List Int) : Option Exits := if endsS s [86, 86] = true then some [(n + 1, withS s 2 []), (p.a, withS s 1 [])] else none
def walkS (p : PI) (n : Int) (s : List Int) : Option Exits := if p.b ≤ (s.length : Int) then some [(n + 1, withS s p.b.toNat [86])] else none
def stepI (cs : List PV) (p : PI) (n : Int) (s : List Int) : Option Exits :=
 if p.op = 1 then some [(n + 1, withS s 0 [if kindC cs p.a = 4 then 69 else 86])]
 else if p.op = 2 then takesS [] [86] n s
 else if p.op = 3 then takesS [] [65] n s
 else if p.op = 4 then takesS [86] [86] n s
 else if p.op = 5 then takesS [86, 86] [86] n s
 else if p.op = 6 then takesS (manyS p.b) [86] n s
 else if p.op = 7 then errS p n s
 else if p.op = 8 then ifS p n s
 else if p.op = 9 then okS p n s
 else if p.op = 10 then chooseS p s
 else if p.op = 11 then matchS p n s
 else if p.op = 12 then takesS [86] [] n s
 else if p.op = 13 then some [(p.a, s)]
 else if p.op = 14 then takesS [] [86] n s
 else if p.op = 15 then takesS [65] [86] n s
 else if p.op = 16 then takesS [65] [86] n s
 else if p.op = 17 then takesS [86] [65] n s
 else if p.op = 18 then takesS (65 :: manyS p.a) [65] n s
 else if p.op = 19 then takesS (65 :: manyS p.a) [65] n s
 else if p.op = 20 then walkS p n s
 else none
def fnOk (l : List Int) (p : PI) : Bool := decide (infoErr p.a = 0) && decide ((infoRow p.a).min ≤ p.b) && (decide ((infoRow p.a).max < 0) || decide (p.b ≤ (infoRow p.a).max)) && decide ((infoRow p.a).cls ∈ l)
def plcB (r c : Int) : Bool := decide (0 ≤ r) && decide (r < 65536) && decide (0 ≤ c) && decide (c < 702)
def areaB8 (a b c d : Int) : Bool := plcB a b && plcB c d && decide (a ≤ c) && decide (b ≤ d)
def smallB (a b c d : Int) : Bool := areaB8 a b c d && decide ((c - a + 1) * (d - b + 1) ≤ 4096)
def inB (x l h : Int) : Bool := decide (l ≤ x) && decide (x ≤ h)
def goodI (cs : List PV) (p : PI) : Bool :=
 if p.op = 1 then inB p.a 0 ((cs.length : Int) - 1)
 else if p.op = 2 then plcB p.a p.b
 else if p.op = 3 then smallB p.a p.b p.c p.d
 else if p.op = 4 then inB p.a 1 3
 else if p.op = 5 then inB p.a 1 12
 else if p.op = 6 then fnOk [1, 2] p
 else if p.op = 7 then decide (0 ≤ p.b)
 else if p.op = 9 then decide (p.b = 0) || decide (p.b = 6)
 else if p.op = 14 then decide (p.a = 47) || decide (p.a = 48)
 else if p.op = 15 then decide ((infoRow p.a).cls = 4)
 else if p.op = 18 then inB p.a 2 4
 else if p.op = 19 then inB p.a 1 2
 else if p.op = 20 then fnOk [6] p
 else true
def usesI (o : Int) : Nat := [0, 1, 2, 4, 1, 1, 2, 2, 2, 2, 1, 1, 0, 1, 1, 1, 0, 0, 1, 1, 2].getD o.toNat 0
def jumpsI (p : PI) : List Int := if p.op = 7 ∨ p.op = 9 ∨ p.op = 11 ∨ p.op = 13 then [p.a] else if p.op = 8 then [p.a, p.b] else if p.op = 10 then p.a :: p.t else []
def rowOk (p : PI) : Bool := decide (1 ≤ p.op) && decide (p.op ≤ 20) && (decide (1 ≤ usesI p.op) || decide (p.a = 0)) && (decide (2 ≤ usesI p.op) || decide (p.b = 0)) && (decide (3 ≤ usesI p.op) || decide (p.c = 0)) && (decide (4 ≤ usesI p.op) || decide (p.d = 0)) && (decide (0 < p.t.length) == decide (p.op = 10))
def formedI (cs : List PV) (p : PI) (n e : Int) : Bool := rowOk p && ((jumpsI p).all fun x => decide (n < x) && decide (x ≤ e)) && goodI cs p
def meetS : List Int → List Int → Option (List Int)
 | [], [] => some []
 | x :: r, y :: q => if x = 69 then (meetS r q).map (y :: ·) else if y ≠ 69 ∧ y ≠ x then none else (meetS r q).map (x :: ·)
 | _, _ => none
abbrev Kn : Type := Int → Option (List Int)
def leadS (kn : Kn) : Exits → Option Kn
 | [] => some kn
 | (x, s) :: r =>
  match (match kn x with | some k => meetS k s | none => some s) with
  | none => none
  | some u => if 1024 < u.length then none else leadS (fun y => if y = x then some u else kn y) r
def goS (cs : List PV) : List PI → Int → Kn → Option Kn
 | [], _, kn => some kn
 | p :: r, n, kn =>
  match kn n with
  | none => none
  | some s => match stepI cs p n s with
   | none => none
   | some l => match leadS kn l with
    | none => none
    | some kn' => goS cs r (n + 1) kn'
def okV (v : PV) : Bool :=
 if v.kind = 0 then decide (v.num = 0) && decide (v.text = []) else if v.kind = 1 then decide (v.text = [])
 else if v.kind = 2 then (decide (v.num = 0) || decide (v.num = 1)) && decide (v.text = [])
 else if v.kind = 3 then decide (v.num = 0) && decide (v.text.length ≤ 32767)
 else if v.kind = 4 then decide (1 ≤ v.num) && decide (v.num ≤ 6) && decide (v.text = []) else false
def longS (ps : List PI) : Nat := (ps.map fun p => p.t.length).sum
def endOk (o : Option (List Int)) : Bool := match o with | some [x] => fitsS x 86 | _ => false
def allOk (cs : List PV) (e : Int) : List PI → Int → Bool
 | [], _ => true
 | p :: r, n => formedI cs p n e && allOk cs e r (n + 1)
def kn0 : Kn := fun y => if y = 0 then some [] else none
def mayC (ps : List PI) (cs : List PV) : Int :=
 if ps.length = 0 ∨ 8192 < ps.length ∨ 1024 < cs.length ∨ 8192 < longS ps then 2
 else if (cs.all fun v => okV v && decide (v.kind ≠ 0)) = false then 23
 else if allOk cs ps.length ps 0 = false then 23
 else match goS cs ps 0 kn0 with
  | none => 23
  | some kn => if endOk (kn ps.length) = true then 0 else 23
def soV (s : List Int) : List Value := s.map fun x => Value.int .u8 x
theorem soV_len (s : List Int) : (soV s).length = s.length := by simp [soV]
def St (Q : Nat → Prop) (W : World) (v : Value) (s : List Int) : Prop :=
 ∃ a cap, v = .slice a s.length cap ∧ s.length ≤ cap ∧ (0 < s.length → ∃ g off, a = some ⟨g, off, none⟩ ∧ Q g ∧ g < W.heap.size ∧ ∀ (i : Nat) (x : Int), s[i]? = some x → W.cell? ⟨g, off + i, none⟩ = some (.int .u8 x))
theorem St.nil (Q : Nat → Prop) (W : World) : St Q W (.slice none 0 0) [] := ⟨none, 0, rfl, Nat.le_refl _, fun h => absurd h (by simp)⟩
theorem St.kept {Q Q' : Nat → Prop} {W W' : World} {v : Value} {s : List Int} (h : St Q W v s) (hq : ∀ g, Q g → g < W.heap.size → Q' g) (k : ∀ g, Q g → g < W.heap.size → W'.heap[g]? = W.heap[g]?) (hz : W.heap.size ≤ W'.heap.size) : St Q' W' v s := by
 obtain ⟨a, cap, e, hc, r⟩ := h
 refine ⟨a, cap, e, hc, fun h0 => ?_⟩
 obtain ⟨g, off, e1, q, hg, c⟩ := r h0
 refine ⟨g, off, e1, hq g q hg, by omega, fun i x hx => ?_⟩
 rw [← c i x hx]
 simp only [World.cell?, k g q hg]
theorem St.below {Q : Nat → Prop} {W W' : World} {v : Value} {s : List Int} (h : St Q W v s) (b : Below W.heap.size W W') : St Q W' v s := h.kept (fun _ q _ => q) (fun g _ hg => b.block g hg) b.size
theorem St.ofRow {Q : Nat → Prop} {W : World} {b n : Nat} {e : TypeId} {v : Value} {s : List Int} (h : W.ownsRow b e 1 v n (soV s)) (hq : ∀ g, b ≤ g → Q g) : St Q W v s := by
 have hl := h.1
 rw [soV_len, Nat.mul_one] at hl
 rcases h.2 with ⟨e1, h0⟩ | ⟨g, cap, cur, e1, hb, hg, hc, -⟩
 ·have hs : s = [] := List.eq_nil_of_length_eq_zero (by omega)
  subst hs
  rw [e1]
  exact St.nil _ _
 ·subst e1
  refine ⟨_, cap, by rw [hl], by omega, fun _ => ⟨g, 0, rfl, hq g hb, lt_of_block hg, fun i x hx => ?_⟩⟩
  have := World.ownsRow.cells h (g := g) rfl i (.int .u8 x) (by simp [soV, hx])
  rw [← this]
  congr 1
  simp [Addr.add]
theorem append_types {P : Program} (w : World) (t tx ty e e' : TypeId) (i : TypeInfo) (ht : P.underlying t = some (.slice e)) (hi : P.info? e = some i) (hx : P.underlying tx = some (.slice e')) (bb : Option Addr) (sl sc : Nat) (x : Value) :
 (Builtin.append_ #[t, tx] ty #[.slice bb sl sc, x]).run P w = (Builtin.append_ #[t, t] ty #[.slice bb sl sc, x]).run P w := by
 simp [Builtin.append_, run_underlying ht, run_underlying hx, sizeOf, typeInfo, hi]
theorem infoSort : (Tryz.prog.info? 96).map (fun i => (i.zero, i.size, i.bytes)) = some (some (.int .u8 0), 1, 1) := by kernel_rfl
theorem run_append_so {W : World} {Q : Nat → Prop} (t tx ty e' : TypeId) (ht : Tryz.prog.underlying t = some (.slice 96)) (hx : Tryz.prog.underlying tx = some (.slice e')) (b : Nat) (v : Value) (n : Nat) (xs : List Value)
 (hown : W.ownsRow b 96 1 v n xs) (x : Value) (s : List Int) (hs : St Q W x s) (hn : n + s.length ≤ 1000000) (hb : b ≤ W.heap.size) :
 ∃ v' w', (Builtin.append_ #[t, tx] ty #[v, x]).run Tryz.prog W = .ok v' w' ∧ w'.ownsRow b 96 1 v' (n + s.length) (xs ++ soV s) ∧ W.grownBy w' v.ownBlock ∧ (v'.ownBlock = v.ownBlock ∨ v'.ownBlock = some W.heap.size) := by
 obtain ⟨i, hi, hz⟩ : ∃ i, Tryz.prog.info? 96 = some i ∧ (i.zero, i.size, i.bytes) = (some (Value.int .u8 0), 1, 1) := by
  have := infoSort
  rcases h : Tryz.prog.info? 96 with _ | i
  ·rw [h] at this; simp at this
  ·rw [h] at this; exact ⟨i, rfl, by simpa using this⟩
 simp only [Prod.mk.injEq] at hz
 obtain ⟨hz0, hz1, hz2⟩ := hz
 have hle : ∃ bb sl sc, v = .slice bb sl sc ∧ sl ≤ sc := by
  rcases hown.2 with ⟨e1, -⟩ | ⟨g, cap', cur, e1, -, -, hc, -⟩
  ·exact ⟨_, _, _, e1, Nat.le_refl _⟩
  ·exact ⟨_, _, _, e1, hc⟩
 obtain ⟨bb, sl, sc, rfl, hle⟩ := hle
 rw [append_types W t tx ty _ e' i ht hi hx]
 have h63 : n + s.length ≤ maxLen := by unfold maxLen; omega
 obtain ⟨a, cap, rfl, -, r⟩ := hs
 rcases Nat.eq_zero_or_pos s.length with h0 | h0
 ·have e0 : s = [] := List.eq_nil_of_length_eq_zero h0
  subst e0
  rcases a with _ | a
  ·refine ⟨.slice bb sl sc, W, ?_, by simpa [soV] using hown, World.grownBy.refl W _, .inl rfl⟩
   cases bb <;> simp [Builtin.append_, run_underlying ht, sizeOf, typeInfo, hi, Builtin.lenOf, Builtin.firstCells, hle, storeCells]
  ·obtain ⟨v', w', h1, h2, h3, -, h5⟩ := run_append_own_at (P := Tryz.prog) W b t ty 96 i _ 1 1 ht hi hz0 hz1 hz2 rfl (by decide) _ n xs hown a 0 cap [] rfl (by simp) (by simp) (by simpa using h63) (by simp at hn ⊢; omega) hb
   exact ⟨v', w', h1, by simpa [soV] using h2, h3, h5⟩
 ·obtain ⟨g, off, rfl, -, -, c⟩ := r h0
  obtain ⟨v', w', h1, h2, h3, -, h5⟩ := run_append_own_at (P := Tryz.prog) W b t ty 96 i _ 1 1 ht hi hz0 hz1 hz2 rfl (by decide) _ n xs hown ⟨g, off, none⟩ s.length cap (soV s) (by rw [soV_len, Nat.mul_one]) (fun j u hj => by
   obtain ⟨x, hx, rfl⟩ : ∃ x, s[j]? = some x ∧ Value.int .u8 x = u := by
    simp only [soV, List.getElem?_map, Option.map_eq_some_iff] at hj
    exact hj
   rw [Addr.add_lit]
   exact c j x hx) (fun u hu => by
   obtain ⟨x, -, rfl⟩ := List.mem_map.1 hu
   rfl) h63 (by omega) hb
  exact ⟨v', w', h1, h2, h3, h5⟩
theorem wpList_append_so {W : World} {Q' : Nat → Prop} {ops : Array Oper} {rest : List Oper} {o : Oper} {a : Act} {Q : Exit → Act → World → Prop} (hgd : o.guard = none) (s x : Operand) (t tx e' : TypeId)
 (ho : o.op = .call { callee := .builtin .append, args := #[s, x], argTypes := #[t, tx] }) (ht : Tryz.prog.underlying t = some (.slice 96)) (hx : Tryz.prog.underlying tx = some (.slice e')) (b : Nat) (v : Value) (n : Nat) (xs : List Value)
 (hs : a.eval s = v) (hown : W.ownsRow b 96 1 v n xs) (xv : Value) (l : List Int) (hxv : a.eval x = xv) (hl : St Q' W xv l) (hn : n + l.length ≤ 1000000) (hb : b ≤ W.heap.size)
 (h : ∀ v' w', w'.ownsRow b 96 1 v' (n + l.length) (xs ++ soV l) → W.grownBy w' v.ownBlock → (v'.ownBlock = v.ownBlock ∨ v'.ownBlock = some W.heap.size) → wpList Tryz.prog ops Q rest (a.put o.dst v') w') : wpList Tryz.prog ops Q (o :: rest) a W := by
 refine wpList_plain hgd fun K hK => ?_
 obtain ⟨v', w', hr, h2, h3, h5⟩ := run_append_so t tx o.type e' ht hx b v n xs hown xv l hl hn hb
 unfold Oper.wp execOp
 simp only [ho, resolve, invoke, builtin, Sem.run_bind, Sem.run_pure, Result.andThen_ok, List.map_toArray, List.map_cons, List.map_nil, hs, hxv, hr]
 exact hK _ _ (h v' w' h2 h3 h5)
def InsT (W : World) (b : Nat) (v : Value) (l : List Int) : Prop :=
 ∃ a cap, v = .slice a l.length cap ∧ (0 < l.length → ∃ g off, a = some ⟨g, off, none⟩ ∧ g < b ∧ ∀ (i : Nat) (x : Int), l[i]? = some x → W.cell? ⟨g, off + i, none⟩ = some (.int .i64 x))
theorem InsT.kept {W W' : World} {b : Nat} {v : Value} {l : List Int} (h : InsT W b v l) (k : ∀ g, g < b → W'.heap[g]? = W.heap[g]?) : InsT W' b v l := by
 obtain ⟨a, cap, e, r⟩ := h
 refine ⟨a, cap, e, fun h0 => ?_⟩
 obtain ⟨g, off, e1, q, c⟩ := r h0
 refine ⟨g, off, e1, q, fun i x hx => ?_⟩
 rw [← c i x hx]
 simp only [World.cell?, k g q]
structure InP (W : World) (b g o : Nat) (p : PI) (tv : Value) : Prop where
 lt : g < b
 c0 : W.cell? ⟨g, o, none⟩ = some (.int .i64 p.op)
 c1 : W.cell? ⟨g, o + 1, none⟩ = some (.int .i64 p.a)
 c2 : W.cell? ⟨g, o + 2, none⟩ = some (.int .i64 p.b)
 c3 : W.cell? ⟨g, o + 3, none⟩ = some (.int .i64 p.c)
 c4 : W.cell? ⟨g, o + 4, none⟩ = some (.int .i64 p.d)
 c5 : W.cell? ⟨g, o + 5, none⟩ = some tv
 t : InsT W b tv p.t
theorem InP.kept {W W' : World} {b g o : Nat} {p : PI} {tv : Value} (h : InP W b g o p tv) (k : ∀ g, g < b → W'.heap[g]? = W.heap[g]?) : InP W' b g o p tv := by
 have e : ∀ i, W'.cell? ⟨g, i, none⟩ = W.cell? ⟨g, i, none⟩ := fun i => by simp only [World.cell?, k g h.lt]
 exact ⟨h.lt, (e _).trans h.c0, (e _).trans h.c1, (e _).trans h.c2, (e _).trans h.c3, (e _).trans h.c4, (e _).trans h.c5, h.t.kept k⟩
def CoL (W : World) (b : Nat) (v : Value) (cs : List PV) : Prop :=
 ∃ a cap, v = .slice a cs.length cap ∧ (0 < cs.length → ∃ g off, a = some ⟨g, off, none⟩ ∧ g < b ∧ ∀ (i : Nat) (c : PV), cs[i]? = some c → W.cell? ⟨g, off + i * 3, none⟩ = some (.int .i64 c.kind) ∧ W.cell? ⟨g, off + i * 3 + 1, none⟩ = some (.int .i64 c.num) ∧ W.cell? ⟨g, off + i * 3 + 2, none⟩ = some (.string ⟨c.text.toArray⟩))
theorem CoL.kept {W W' : World} {b : Nat} {v : Value} {cs : List PV} (h : CoL W b v cs) (k : ∀ g, g < b → W'.heap[g]? = W.heap[g]?) : CoL W' b v cs := by
 obtain ⟨a, cap, e, r⟩ := h
 refine ⟨a, cap, e, fun h0 => ?_⟩
 obtain ⟨g, off, e1, q, c⟩ := r h0
 have e : ∀ i, W'.cell? ⟨g, i, none⟩ = W.cell? ⟨g, i, none⟩ := fun i => by simp only [World.cell?, k g q]
 exact ⟨g, off, e1, q, fun i x hx => ⟨(e _).trans (c i x hx).1, (e _).trans (c i x hx).2.1, (e _).trans (c i x hx).2.2⟩⟩
def ExL (Q : Nat → Prop) (W : World) (v : Value) (l : Exits) : Prop :=
 ∃ a cap, v = .slice a l.length cap ∧ (0 < l.length → ∃ g off, a = some ⟨g, off, none⟩ ∧ Q g ∧ g < W.heap.size ∧ ∀ (i : Nat) (x : Int) (s : List Int), l[i]? = some (x, s) → W.cell? ⟨g, off + i * 2, none⟩ = some (.int .i64 x) ∧ ∃ u, W.cell? ⟨g, off + i * 2 + 1, none⟩ = some u ∧ St Q W u s)
theorem ExL.kept {Q Q' : Nat → Prop} {W W' : World} {v : Value} {l : Exits} (h : ExL Q W v l) (hq : ∀ g, Q g → g < W.heap.size → Q' g) (k : ∀ g, Q g → g < W.heap.size → W'.heap[g]? = W.heap[g]?) (hz : W.heap.size ≤ W'.heap.size) : ExL Q' W' v l := by
 obtain ⟨a, cap, e, r⟩ := h
 refine ⟨a, cap, e, fun h0 => ?_⟩
 obtain ⟨g, off, e1, q, hg, c⟩ := r h0
 refine ⟨g, off, e1, hq g q hg, by omega, fun i x s hx => ?_⟩
 obtain ⟨c0, u, c1, t⟩ := c i x s hx
 have e : ∀ i, W'.cell? ⟨g, i, none⟩ = W.cell? ⟨g, i, none⟩ := fun i => by simp only [World.cell?, k g q hg]
 exact ⟨(e _).trans c0, u, (e _).trans c1, t.kept hq k hz⟩
def StepPost (Q : Nat → Prop) (W : World) (r : Option Exits) (e : Ending) (w' : World) : Prop :=
 Below W.heap.size W w' ∧ match r with
  | none => e = .returned (.tuple #[.slice none 0 0, .bool false])
  | some l => ∃ v, e = .returned (.tuple #[v, .bool true]) ∧ ExL Q w' v l
end Go.Proofs.YtlmpiobdgkmmgaaGreatDoor
namespace Go.Proofs.YtlmpiobdgkmmgaaGreatDoor
open Go.RowKit Go.Lib
theorem retb {a b : Bool} (h : a = b) : Ending.returned (.bool a) = Ending.returned (.bool b) := by rw [h]
theorem within_any (n l h : Int) (W : World) : Calls Tryz.prog 72 #[.int .i64 n, .int .i64 l, .int .i64 h] W fun e w' => e = .returned (.bool (inB n l h)) ∧ w' = W := by
 go_enter Tryz.func72, Tryz.ntmps72
 go_wp2
 all_goals
  go_ret
  refine ⟨retb ?_, rfl⟩
  simp only [inB]
  first | rfl | (rw [Bool.eq_iff_iff]; simp; omega)
theorem codeFits_any (x y : Int) (W : World) : Calls Tryz.prog 49 #[.int .u8 x, .int .u8 y] W fun e w' => e = .returned (.bool (fitsS x y)) ∧ w' = W := by
 go_enter Tryz.func49, Tryz.ntmps49
 go_wp2
 all_goals
  go_ret
  refine ⟨retb ?_, rfl⟩
  simp only [fitsS]
  first | rfl | (rw [Bool.eq_iff_iff]; simp; omega)
theorem none_any (v : Value) (W : World) : Calls Tryz.prog 85 #[v] W fun e w' => e = .returned (.bool true) ∧ w' = W := by
 go_enter Tryz.func85, Tryz.ntmps85
 go_wp2
 go_ret
 exact ⟨rfl, rfl⟩
theorem allF_cons (s l : List Int) (j : Nat) (x y : Int) (hx : s[j]? = some x) (hy : l[j]? = some y) : allF (s.drop j) (l.drop j) = (fitsS x y && allF (s.drop (j + 1)) (l.drop (j + 1))) := by
 obtain ⟨h1, rfl⟩ := List.getElem?_eq_some_iff.1 hx
 obtain ⟨h2, rfl⟩ := List.getElem?_eq_some_iff.1 hy
 rw [List.drop_eq_getElem_cons h1, List.drop_eq_getElem_cons h2]
 rfl
theorem allF_end (s l : List Int) (j : Nat) (h : l.length ≤ j) : allF (s.drop j) (l.drop j) = true := by
 rw [List.drop_eq_nil_of_le h]
 cases s.drop j <;> rfl
theorem ends_any {Q Q' : Nat → Prop} {v u : Value} {s l : List Int} (W : World) (hs : St Q W v s) (hl : St Q' W u l) (h1 : s.length ≤ 1000000) (h2 : l.length ≤ 1000000) :
 Calls Tryz.prog 108 #[v, u] W fun e w' => e = .returned (.bool (endsS s l)) ∧ w' = W := by
 obtain ⟨a, kc, rfl, -, rs⟩ := hs
 obtain ⟨a', kc', rfl, -, rl⟩ := hl
 have RS := Lib.hid rs; have RL := Lib.hid rl
 clear rs rl
 by_cases hlt : s.length < l.length
 ·go_enter Tryz.func108, Tryz.ntmps108
  go_wp2
  go_ret
  refine ⟨retb ?_, rfl⟩
  simp only [endsS]
  rw [Bool.eq_iff_iff]; simp; omega
 ·obtain ⟨k, hk⟩ : ∃ k, k = s.length - l.length := ⟨_, rfl⟩
  have hkl : s.length = k + l.length := by omega
  have HK := Lib.hid (show endsS s l = allF (s.drop k) l by unfold endsS; rw [hk, decide_eq_true (by omega : l.length ≤ s.length)]; rfl)
  clear hk
  obtain ⟨ns, hns⟩ : ∃ ns, s.length = ns := ⟨_, rfl⟩
  obtain ⟨nl, hnl⟩ : ∃ nl, l.length = nl := ⟨_, rfl⟩
  rw [hns] at hkl hlt h1 RS ⊢
  rw [hnl] at hkl hlt h2 RL ⊢
  subst hkl
  have HNS := Lib.hid hns; have HNL := Lib.hid hnl
  clear hns hnl hlt
  have hlt : ¬ (k + nl < nl) := by omega
  go_enter Tryz.func108, Tryz.ntmps108
  go_wp2_with fail
  go_loopw [14] (fun iv wr => wr = W ∧ ∃ j : Nat, iv = .int .i64 (j : Int) ∧ j ≤ nl ∧ Hid (allF (s.drop k) l = allF ((s.drop k).drop j) (l.drop j))) (fun iv _ => nl - (intOf iv).toNat)
  case atStart => exact ⟨rfl, 0, rfl, Nat.zero_le _, Lib.hid rfl⟩
  case round =>
   obtain ⟨rfl, j, rfl, hj, HJ⟩ := hrel
   by_cases hjl : j < nl
   ·obtain ⟨g, off, e1, -, -, c⟩ := RS.out (by omega)
    obtain ⟨g', off', e1', -, -, c'⟩ := RL.out (by omega)
    subst e1 e1'
    obtain ⟨x, hx⟩ : ∃ x, s[k + j]? = some x := ⟨_, List.getElem?_eq_getElem (by have := HNS.out; omega)⟩
    obtain ⟨y, hy⟩ : ∃ y, l[j]? = some y := ⟨_, List.getElem?_eq_getElem (by have := HNL.out; omega)⟩
    have c0 := c (k + j) x hx
    have c1 := c' j y hy
    have HS := Lib.hid (allF_cons (s.drop k) l j x y (by rw [List.getElem?_drop]; exact hx) hy)
    clear c c' hx hy
    go_wp2_with fail
    refine (codeFits_any x y _).mono ?_
    rintro e w1 ⟨rfl, rfl⟩
    cases hf : fitsS x y
    ·have hres : endsS s l = false := by rw [HK.out, HJ.out, HS.out, hf]; rfl
     have HR := Lib.hid hres
     clear hres hf HJ HS
     go_wp2
     go_ret
     exact ⟨retb HR.out.symm, rfl⟩
    ·have hn : allF (s.drop k) l = allF ((s.drop k).drop (j + 1)) (l.drop (j + 1)) := by rw [HJ.out, HS.out, hf]; rfl
     have HN := Lib.hid hn
     clear hn hf HJ HS
     go_wp2
     exact ⟨⟨trivial, j + 1, by go_num, by omega, HN⟩, by simp [intOf]; omega⟩
   ·have hjn : j = nl := by omega
    subst hjn
    have hres : endsS s l = true := by rw [HK.out, HJ.out]; exact allF_end _ _ _ (by have := HNL.out; omega)
    have HR := Lib.hid hres
    clear hres
    go_wp2
    go_ret
    exact ⟨retb HR.out.symm, rfl⟩
theorem St.lit {Q : Nat → Prop} (W : World) (l : List Int) (T : TypeId) (n : Nat) (hn : n = l.length) (hq : Q W.heap.size) (C : Array Value) (hC : C = (soV l).toArray) : St Q (W.alloc (.cells C T)) (.slice (some ⟨W.heap.size, 0, none⟩) n n) l := by
 subst hn hC
 refine ⟨_, _, rfl, Nat.le_refl _, fun _ => ⟨W.heap.size, 0, rfl, hq, by simp, fun i x hx => ?_⟩⟩
 rw [World.cell?_alloc_at _ _ _ _ rfl, List.getElem?_toArray, Nat.zero_add]
 simp [soV, hx]
theorem manyS_succ (j : Nat) : soV (manyS ((j + 1 : Nat) : Int)) = soV (manyS (j : Int)) ++ soV [86] := by
 simp only [manyS, Int.toNat_natCast, List.replicate_succ', soV, List.map_append]
theorem many_any (n : Int) (W : World) (hn : n ≤ 900000) :
 Calls Tryz.prog 110 #[.int .i64 n] W fun e w' => ∃ v, e = .returned v ∧ w'.ownsRow W.heap.size 96 1 v n.toNat (soV (manyS n)) ∧ Below W.heap.size W w' := by
 go_enter Tryz.func110, Tryz.ntmps110
 go_wp2_with fail
 go_loopw [5, 3] (fun iv lv wr => ∃ j : Nat, iv = .int .i64 (j : Int) ∧ (j : Int) ≤ max n 0 ∧ Hid (wr.ownsRow W.heap.size 96 1 lv j (soV (manyS (j : Int)))) ∧ Hid (Below W.heap.size W wr)) (fun iv _ _ => n.toNat - (intOf iv).toNat)
 case atStart => exact ⟨0, rfl, by omega, Lib.hid (World.ownsRow_nil _ _ _ _), Lib.hid (Below.refl _ _)⟩
 case round =>
  obtain ⟨j, rfl, hj, HO, HB⟩ := hrel
  by_cases hjl : (j : Int) < n
  ·have hsz := HB.out.size
   have HSZ := Lib.hid hsz
   clear hsz
   go_wp2_with (at_builtin; refine wpList_append_so (W := wr.alloc (.cells #[.int .u8 86] 96)) (Q' := fun _ => True) rfl _ _ 89 89 96 rfl Tryz.underlying89 Tryz.underlying89 W.heap.size _ j (soV (manyS (j : Int))) rfl (World.ownsRow.alloc HO.out _) _ [86] rfl (St.lit wr [86] _ 1 rfl trivial _ rfl) (by simp; omega) (by have := HSZ.out; simp; omega) ?_)
   rintro v' w' h1 h2 -
   have HO2 : Hid (w'.ownsRow W.heap.size 96 1 v' (j + 1) (soV (manyS ((j + 1 : Nat) : Int)))) := Lib.hid (by rw [manyS_succ]; exact h1)
   have HB2 := Lib.hid ((HB.out.alloc HSZ.out _).grown h2 (by have := HSZ.out; simp; omega) (fun k hk => (World.ownsRow.lt HO.out k hk).1))
   clear h1 h2 HO HB
   go_wp2
   exact ⟨⟨j + 1, by go_num, by omega, HO2, HB2⟩, by simp [intOf]; omega⟩
  ·have hjn : j = n.toNat := by omega
   go_wp2
   go_ret
   refine ⟨_, rfl, ?_, HB.out⟩
   have := HO.out
   rw [hjn] at this
   have e : manyS ((n.toNat : Nat) : Int) = manyS n := by unfold manyS; rw [Int.toNat_natCast]
   rw [e] at this
   exact this
theorem St.take {Q : Nat → Prop} {W : World} {a : Option Addr} {n cap : Nat} {s : List Int} (h : St Q W (.slice a s.length cap) s) (hn : n ≤ s.length) : St Q W (.slice a n cap) (s.take n) := by
 obtain ⟨a', cap', e, hc, r⟩ := h
 simp only [Value.slice.injEq, true_and] at e
 obtain ⟨rfl, rfl⟩ := e
 have hl : (s.take n).length = n := by rw [List.length_take]; omega
 refine ⟨a, cap, by rw [hl], by omega, fun h0 => ?_⟩
 obtain ⟨g, off, e1, q, hg, c⟩ := r (by omega)
 refine ⟨g, off, e1, q, hg, fun i x hx => c i x ?_⟩
 rw [List.getElem?_take] at hx
 split at hx
 ·exact hx
 ·cases hx
theorem with_any {Q Q' : Nat → Prop} {v u : Value} {s l : List Int} (n : Nat) (W : World) (hs : St Q W v s) (hl : St Q' W u l) (h1 : s.length ≤ 400000) (h2 : l.length ≤ 400000) (hn : n ≤ s.length) :
 Calls Tryz.prog 74 #[v, .int .i64 (n : Int), u] W fun e w' => ∃ v', e = .returned v' ∧ St (fun g => W.heap.size ≤ g) w' v' (withS s n l) ∧ Below W.heap.size W w' := by
 obtain ⟨a, kc, rfl, hk, rs⟩ := id hs
 have HT := Lib.hid (St.take (n := s.length - n) hs (by omega))
 have HL := Lib.hid hl
 have hu : ∃ a' kc', u = .slice a' l.length kc' := by
  obtain ⟨a', kc', rfl, -, -⟩ := hl
  exact ⟨a', kc', rfl⟩
 obtain ⟨a', kc', rfl⟩ := hu
 have HR : Hid (∀ W' : World, ∀ b v' m, W'.ownsRow b 96 1 v' m (soV (s.take (s.length - n)) ++ soV l) → W'.ownsRow b 96 1 v' m (soV (withS s n l))) := Lib.hid fun W' b v' m h => by unfold withS; simpa [soV] using h
 have ht : (s.take (s.length - n)).length = s.length - n := by rw [List.length_take]; omega
 obtain ⟨t, hT⟩ : ∃ t, s.take (s.length - n) = t := ⟨_, rfl⟩
 rw [hT] at HT HR ht
 obtain ⟨k, hk2⟩ : ∃ k, s.length - n = k := ⟨_, rfl⟩
 obtain ⟨m, hm⟩ : ∃ m, s.length = m := ⟨_, rfl⟩
 rw [hk2] at HT ht
 rw [hm] at h1 hn hk hk2 ⊢
 have hmk : m = k + n := by omega
 subst hmk
 have HTT := Lib.hid hT; have HM := Lib.hid hm; have HTL := Lib.hid ht
 clear hs hl rs hT ht hm hk2
 have hc : (k : Int) ≤ (kc : Int) := by omega
 go_enter Tryz.func74, Tryz.ntmps74
 go_wp2_with (at_builtin; refine wpList_append_so (W := W) rfl _ _ 90 90 96 rfl Tryz.underlying90 Tryz.underlying90 W.heap.size (.slice none 0 0) 0 [] rfl (World.ownsRow_nil _ _ _ _) (.slice a k kc) t rfl HT.out (by have := HTL.out; omega) (Nat.le_refl _) ?_)
 rintro v1 w1 o1 g1 -
 have b1 := Lib.hid ((Below.refl W.heap.size W).grown g1 (Nat.le_refl _) (fun k hk => by simp [Value.ownBlock] at hk))
 have O1 := Lib.hid o1
 have L1 := Lib.hid (HL.out.below b1.out)
 have hz1 := b1.out.size
 have HZ1 := Lib.hid hz1
 clear o1 g1 hz1 HL
 go_wp2_with (at_builtin; refine wpList_append_so (W := w1) rfl _ _ 90 89 96 rfl Tryz.underlying90 Tryz.underlying89 W.heap.size _ _ _ rfl O1.out _ l rfl L1.out (by have := HTL.out; omega) HZ1.out ?_)
 rintro v2 w2 o2 g2 -
 have B2 := Lib.hid (b1.out.grown g2 HZ1.out (fun k hk => (World.ownsRow.lt O1.out k hk).1))
 have O2 := Lib.hid (St.ofRow (Q := fun g => W.heap.size ≤ g) (HR.out w2 _ _ _ o2) (fun g hg => hg))
 clear o2 g2
 go_wp2
 go_ret
 exact ⟨_, rfl, O2.out, B2.out⟩
end Go.Proofs.YtlmpiobdgkmmgaaGreatDoor
namespace Go.Proofs.YtlmpiobdgkmmgaaGreatDoor
open Go.RowKit Go.Lib
theorem plc_any (row col : Int) (w : World) : Calls Tryz.prog 76 #[.agg #[.int .i64 row, .int .i64 col]] w fun e w' =>
 e = .returned (.bool (plcB row col)) ∧ Below w.heap.size w w' := by
 go_enter Tryz.func76, Tryz.ntmps76
 go_wp2
 all_goals
  go_ret
  exact ⟨retb (by rw [Bool.eq_iff_iff]; simp [plcB]; try omega), ext_alloc (Below.refl _ _) _⟩
theorem firstC_any (a b c d : Int) (W : World) : Calls Tryz.prog 132 #[.agg #[.int .i64 a, .int .i64 b, .int .i64 c, .int .i64 d]] W fun e w' => e = .returned (.agg #[.int .i64 a, .int .i64 b]) ∧ Below W.heap.size W w' := by
 go_enter Tryz.func132, Tryz.ntmps132
 go_wp2
 refine bodyPost_ret (by simp [results, Tryz.results132, go_sem]; rfl) rfl ?_
 exact ⟨rfl, (ext_alloc (ext_alloc (Below.refl _ _) _) _)⟩
theorem lastC_any (a b c d : Int) (W : World) : Calls Tryz.prog 133 #[.agg #[.int .i64 a, .int .i64 b, .int .i64 c, .int .i64 d]] W fun e w' => e = .returned (.agg #[.int .i64 c, .int .i64 d]) ∧ Below W.heap.size W w' := by
 go_enter Tryz.func133, Tryz.ntmps133
 go_wp2
 refine bodyPost_ret (by simp [results, Tryz.results133, go_sem]; rfl) rfl ?_
 exact ⟨rfl, (ext_alloc (ext_alloc (Below.refl _ _) _) _)⟩
def arE (a b c d : Int) : Int := if areaB8 a b c d = true then 0 else 11
theorem arMay_any (a b c d : Int) (W : World) : Calls Tryz.prog 125 #[.agg #[.int .i64 a, .int .i64 b, .int .i64 c, .int .i64 d]] W fun e w' => e = .returned (.int .i64 (arE a b c d)) ∧ Below W.heap.size W w' := by
 have HE : ∀ n : Int, arE a b c d = n → Hid (arE a b c d = n) := fun n h => Lib.hid h
 obtain ⟨p1, hp1⟩ : ∃ p1, plcB a b = p1 := ⟨_, rfl⟩
 obtain ⟨p2, hp2⟩ : ∃ p2, plcB c d = p2 := ⟨_, rfl⟩
 have P1 := Lib.hid hp1; have P2 := Lib.hid hp2
 clear hp1 hp2
 go_enter Tryz.func125, Tryz.ntmps125
 go_wp2_with fail
 refine (firstC_any a b c d _).mono ?_
 rintro e w1 ⟨rfl, q1⟩
 obtain ⟨zb1, cb1⟩ := kept_block q1
 go_wp2_with fail
 refine (plc_any a b _).mono ?_
 rintro e w2 ⟨rfl, q2⟩
 have r2 := ext_trans q1 q2
 clear zb1 cb1 q1 q2
 obtain ⟨zb2, cb2⟩ := kept_block r2
 rw [P1.out]
 cases p1
 ·have he := HE 11 (by unfold arE areaB8; rw [P1.out]; rfl)
  clear HE
  go_wp2
  go_ret
  exact ⟨by rw [he.out]; rfl, ext_trans (ext_alloc (Below.refl _ _) _) r2⟩
 ·go_wp2_with fail
  refine (lastC_any a b c d _).mono ?_
  rintro e w3 ⟨rfl, q3⟩
  have r3 := ext_trans r2 q3
  clear zb2 cb2 r2 q3
  obtain ⟨zb3, cb3⟩ := kept_block r3
  go_wp2_with fail
  refine (plc_any c d _).mono ?_
  rintro e w4 ⟨rfl, q4⟩
  have r4 := ext_trans r3 q4
  clear zb3 cb3 r3 q4
  obtain ⟨zb4, cb4⟩ := kept_block r4
  rw [P2.out]
  cases p2
  ·have he := HE 11 (by unfold arE areaB8; rw [P1.out, P2.out]; rfl)
   clear HE
   go_wp2
   go_ret
   exact ⟨by rw [he.out]; rfl, ext_trans (ext_alloc (Below.refl _ _) _) r4⟩
  ·by_cases h1 : c < a
   ·have he := HE 11 (by unfold arE areaB8; rw [P1.out, P2.out, decide_eq_false (by omega : ¬ a ≤ c)]; rfl)
    clear HE
    go_wp2
    go_ret
    exact ⟨by rw [he.out]; rfl, ext_trans (ext_alloc (Below.refl _ _) _) r4⟩
   ·by_cases h2 : d < b
    ·have he := HE 11 (by unfold arE areaB8; rw [P1.out, P2.out, decide_eq_true (by omega : a ≤ c), decide_eq_false (by omega : ¬ b ≤ d)]; rfl)
     clear HE
     go_wp2
     go_ret
     exact ⟨by rw [he.out]; rfl, ext_trans (ext_alloc (Below.refl _ _) _) r4⟩
    ·have he := HE 0 (by unfold arE areaB8; rw [P1.out, P2.out, decide_eq_true (by omega : a ≤ c), decide_eq_true (by omega : b ≤ d)]; rfl)
     clear HE
     go_wp2
     go_ret
     exact ⟨by rw [he.out]; rfl, ext_trans (ext_alloc (Below.refl _ _) _) r4⟩
theorem arB_out {a b c d : Int} (h : areaB8 a b c d = true) : 0 ≤ a ∧ a ≤ c ∧ c < 65536 ∧ 0 ≤ b ∧ b ≤ d ∧ d < 702 := by
 simp [areaB8, plcB] at h
 omega
theorem arN_le {a b c d : Int} (h : areaB8 a b c d = true) : 0 ≤ (c - a + 1) * (d - b + 1) ∧ (c - a + 1) * (d - b + 1) ≤ 46006272 := by
 obtain ⟨h1, h2, h3, h4, h5, h6⟩ := arB_out h
 have a1 : 0 ≤ c - a + 1 := by omega
 have a2 : c - a + 1 ≤ 65536 := by omega
 have a3 : 0 ≤ d - b + 1 := by omega
 have a4 : d - b + 1 ≤ 702 := by omega
 refine ⟨Int.mul_nonneg a1 a3, ?_⟩
 have := Int.mul_le_mul a2 a4 a3 (by omega : (0 : Int) ≤ 65536)
 omega
theorem arN_wrap {a b c d : Int} (h : areaB8 a b c d = true) : IntKind.i64.wrap ((c - a + 1) * (d - b + 1)) = (c - a + 1) * (d - b + 1) :=
 IntWalk.i64_in _ (by have := arN_le h; omega)
theorem arSize_any (a b c d : Int) (W : World) : Calls Tryz.prog 109 #[.agg #[.int .i64 a, .int .i64 b, .int .i64 c, .int .i64 d]] W fun e w' => (∃ n er, e = .returned (.tuple #[.int .i64 n, .int .i64 er]) ∧ (decide (er = 0) = smallB a b c d)) ∧ Below W.heap.size W w' := by
 cases hb : areaB8 a b c d
 ·have HS := Lib.hid (show smallB a b c d = false by unfold smallB; rw [hb]; rfl)
  have HB := Lib.hid hb
  clear hb
  go_enter Tryz.func109, Tryz.ntmps109
  go_wp2_with fail
  refine (arMay_any a b c d _).mono ?_
  rintro e w1 ⟨rfl, q1⟩
  rw [show arE a b c d = 11 by unfold arE; rw [HB.out]; rfl]
  go_wp2_with fail
  go_ret2
  exact ⟨⟨0, 11, rfl, by rw [HS.out]; rfl⟩, ext_trans (ext_alloc (Below.refl _ _) _) q1⟩
 ·obtain ⟨h1, h2, h3, h4, h5, h6⟩ := arB_out hb
  have hw := arN_wrap hb
  have hle := arN_le hb
  have HS : Hid (∀ x : Bool, decide ((c - a + 1) * (d - b + 1) ≤ 4096) = x → smallB a b c d = x) := Lib.hid fun x hx => by unfold smallB; rw [hb, hx]; rfl
  have HB := Lib.hid hb
  clear hb
  obtain ⟨n, hnn⟩ : ∃ n, (c - a + 1) * (d - b + 1) = n := ⟨_, rfl⟩
  rw [hnn] at hle HS
  replace hw : IntKind.i64.wrap ((c - a + 1) * (d - b + 1)) = n := by rw [hw, hnn]
  clear hnn
  go_enter Tryz.func109, Tryz.ntmps109
  go_wp2_with fail
  refine (arMay_any a b c d _).mono ?_
  rintro e w1 ⟨rfl, q1⟩
  obtain ⟨zb1, cb1⟩ := kept_block q1
  rw [show arE a b c d = 0 by unfold arE; rw [HB.out]; rfl]
  by_cases hn : n ≤ 4096
  ·have HR := Lib.hid (HS.out true (decide_eq_true hn))
   go_wp2_with fail
   go_ret2
   exact ⟨⟨n, 0, rfl, by rw [HR.out]; rfl⟩, ext_trans (ext_alloc (Below.refl _ _) _) q1⟩
  ·have HR := Lib.hid (HS.out false (decide_eq_false hn))
   go_wp2_with fail
   go_ret2
   exact ⟨⟨0, 2, rfl, by rw [HR.out]; rfl⟩, ext_trans (ext_alloc (Below.refl _ _) _) q1⟩
theorem small_any (a b c d : Int) (W : World) : Calls Tryz.prog 79 #[.agg #[.int .i64 a, .int .i64 b, .int .i64 c, .int .i64 d]] W fun e w' => e = .returned (.bool (smallB a b c d)) ∧ Below W.heap.size W w' := by
 go_enter Tryz.func79, Tryz.ntmps79
 go_wp2_with fail
 refine (arSize_any a b c d _).mono ?_
 rintro e w1 ⟨⟨n, er, rfl, he⟩, q1⟩
 have HE := Lib.hid he
 clear he
 go_wp2_with fail
 go_ret
 exact ⟨retb (by rw [← HE.out]; try rfl), ext_trans (ext_alloc (Below.refl _ _) _) q1⟩
end Go.Proofs.YtlmpiobdgkmmgaaGreatDoor
namespace Go.Proofs.YtlmpiobdgkmmgaaGreatDoor
open Go.RowKit Go.Lib
theorem infoV_eq9 (n : Int) : ∃ nm : ByteArray, infoV n = .tuple #[.agg #[.string nm, .int .i64 (infoRow n).cls, .int .i64 (infoRow n).min, .int .i64 (infoRow n).max], .int .i64 (infoErr n)] := ⟨⟨(infoRow n).name.toArray⟩, rfl⟩
theorem below_dN (w : World) : ∀ (n : Nat) (B : Nat), Below B w (w.drewN n)
 | 0, _ => Below.refl _ _
 | n + 1, B => (below_dN w n B).drew
theorem InsT.below {W W' : World} {b : Nat} {v : Value} {l : List Int} (h : InsT W b v l) {B : Nat} (k : Below B W W') (hb : b ≤ B) : InsT W' b v l := h.kept fun g hg => k.block g (by omega)
theorem InP.below {W W' : World} {b g o : Nat} {p : PI} {tv : Value} (h : InP W b g o p tv) {B : Nat} (k : Below B W W') (hb : b ≤ B) : InP W' b g o p tv := h.kept fun g hg => k.block g (by omega)
theorem InsT.lit {b : Nat} (W : World) (l : List Int) (T : TypeId) (n : Nat) (hn : n = l.length) (hq : W.heap.size < b) (C : Array Value) (hC : C = (l.map fun x => Value.int .i64 x).toArray) : InsT (W.alloc (.cells C T)) b (.slice (some ⟨W.heap.size, 0, none⟩) n n) l := by
 subst hn hC
 refine ⟨_, _, rfl, fun _ => ⟨W.heap.size, 0, rfl, hq, fun i x hx => ?_⟩⟩
 rw [World.cell?_alloc_at _ _ _ _ rfl, List.getElem?_toArray, Nat.zero_add]
 simp [hx]
theorem fn_any {b g o bl : Nat} {p : PI} {tv u : Value} (l : List Int) (W : World) (hp : InP W b g o p tv) (hb : b ≤ W.heap.size) (hl : InsT W bl u l) (hbl : bl ≤ W.heap.size) (hlen : l.length ≤ 100) :
 Calls Tryz.prog 83 #[.pointer (some ⟨g, o, none⟩), u] W fun e w' => e = .returned (.bool (fnOk l p)) ∧ Below W.heap.size W w' := by
 have c1 := hp.c1
 have HP := Lib.hid hp
 have HL := Lib.hid hl
 obtain ⟨a, kc, rfl, -⟩ := hl
 obtain ⟨nm, hnm⟩ := infoV_eq9 p.a
 obtain ⟨n, hn⟩ : ∃ n, p.a = n := ⟨_, rfl⟩
 obtain ⟨m, hm⟩ : ∃ m, p.b = m := ⟨_, rfl⟩
 obtain ⟨er, her⟩ : ∃ er, infoErr n = er := ⟨_, rfl⟩
 obtain ⟨cl, hcl⟩ : ∃ cl, (infoRow n).cls = cl := ⟨_, rfl⟩
 obtain ⟨mn, hmn⟩ : ∃ mn, (infoRow n).min = mn := ⟨_, rfl⟩
 obtain ⟨mx, hmx⟩ : ∃ mx, (infoRow n).max = mx := ⟨_, rfl⟩
 obtain ⟨nl, hnl⟩ : ∃ nl, l.length = nl := ⟨_, rfl⟩
 have h01 : er = 0 ∨ er = 1 := by rw [← her]; unfold infoErr; split <;> simp
 have HF : Hid (fnOk l p = (decide (er = 0) && decide (mn ≤ m) && (decide (mx < 0) || decide (m ≤ mx)) && decide (cl ∈ l))) := Lib.hid (by unfold fnOk; rw [hn, hm, her, hmn, hmx, hcl])
 have c2 := hp.c2
 rw [hn, her, hcl, hmn, hmx] at hnm
 rw [hn] at c1
 rw [hm] at c2
 rw [hnl] at hlen ⊢
 have HNM := Lib.hid hnm; have HNL := Lib.hid hnl
 have hgl := hp.lt
 clear hp hn hm her hcl hmn hmx hnm hnl
 have C2 := Lib.hid c2
 clear c2
 go_enter Tryz.func83, Tryz.ntmps83
 go_wp2_with fail
 refine (info_any n _).mono ?_
 rintro e w1 ⟨rfl, b1⟩
 rw [HNM.out]
 have hz1 := b1.size
 have c2 := (b1.cell (p := ⟨g, o + 2, none⟩) (by show g < W.heap.size; omega)).trans C2.out
 have HL1 := Lib.hid (HL.out.below b1 hbl)
 have hg1 : g < w1.heap.size := by omega
 have hg2 : ¬ g = w1.heap.size := by omega
 have B1 := Lib.hid b1
 clear b1 HNM HL HP c1 C2
 rcases h01 with rfl | rfl
 ·by_cases h2 : m < mn
  ·have HR : Hid (fnOk l p = false) := Lib.hid (by rw [HF.out, decide_eq_false (by omega : ¬ mn ≤ m)]; rfl)
   clear HF
   go_upto_region 2 with (fail)
   go_quiet (fail)
   generalize hwd : World.drewN _ _ = wd
   have BD : Below (w1.alloc (.cells #[.string nm, .int .i64 cl, .int .i64 mn, .int .i64 mx] 42)).heap.size (w1.alloc (.cells #[.string nm, .int .i64 cl, .int .i64 mn, .int .i64 mx] 42)) wd := by rw [← hwd]; exact below_dN _ _ _
   have B2 := Lib.hid ((B1.out.alloc hz1 (.cells #[.string nm, .int .i64 cl, .int .i64 mn, .int .i64 mx] 42)).trans (BD.mono (by simp; omega)))
   obtain ⟨zb, cb⟩ := kept_block BD
   --  := Lib.hid (HL1.out.below (BD.mono (Nat.le_succ_of_le (Nat.le_refl _) : w1.heap.size ≤ _)) (by omega))
   clear hwd BD
   go_wp2
   go_ret
   exact ⟨retb HR.out.symm, B2.out⟩
  ·have d2 : decide (m < mn) = false := decide_eq_false h2
   by_cases h3 : mx < 0
   ·have d3 : decide (0 ≤ mx) = false := decide_eq_false (by omega)
    have HF2 : Hid (fnOk l p = decide (cl ∈ l)) := Lib.hid (by rw [HF.out, decide_eq_true (by omega : mn ≤ m), decide_eq_true h3]; rfl)
    clear HF
    go_upto_region 2 with (fail)
    go_quiet (fail)
    generalize hwd : World.drewN _ _ = wd
    have BD : Below (w1.alloc (.cells #[.string nm, .int .i64 cl, .int .i64 mn, .int .i64 mx] 42)).heap.size (w1.alloc (.cells #[.string nm, .int .i64 cl, .int .i64 mn, .int .i64 mx] 42)) wd := by rw [← hwd]; exact below_dN _ _ _
    have B2 := Lib.hid ((B1.out.alloc hz1 (.cells #[.string nm, .int .i64 cl, .int .i64 mn, .int .i64 mx] 42)).trans (BD.mono (by simp; omega)))
    obtain ⟨zb, cb⟩ := kept_block BD
    have HL2 := Lib.hid (HL1.out.below (ext_trans (ext_alloc (Below.refl w1.heap.size w1) _) BD) (by omega))
    clear hwd BD
    have cb1 := cb 1
    simp only [List.getElem?_toArray, List.getElem?_cons_zero, List.getElem?_cons_succ] at cb1
    clear cb
    go_wp2_with fail
    go_loopw [44] (fun iv wr => wr = wd ∧ ∃ j : Nat, iv = .int .i64 (j : Int) ∧ j ≤ nl ∧ Hid (∀ (i : Nat) (x : Int), i < j → l[i]? = some x → x ≠ cl)) (fun iv _ => nl - (intOf iv).toNat)
    case atStart => exact ⟨rfl, 0, rfl, Nat.zero_le _, Lib.hid (fun i x h => absurd h (Nat.not_lt_zero _))⟩
    case round =>
     obtain ⟨rfl, j, rfl, hj, HJ⟩ := hrel
     by_cases hjl : j < nl
     ·obtain ⟨x, hx⟩ : ∃ x, l[j]? = some x := ⟨_, List.getElem?_eq_getElem (by have := HNL.out; omega)⟩
      obtain ⟨a', kc', e1, r1⟩ := HL2.out
      simp only [Value.slice.injEq] at e1
      obtain ⟨rfl, -, rfl⟩ := e1
      obtain ⟨g', off', rfl, -, cx⟩ := r1 (by have := HNL.out; omega)
      have c0 := cx j x hx
      have HX := Lib.hid hx
      clear cx r1 hx
      by_cases hq : cl = x
      ·have HR : Hid (fnOk l p = true) := Lib.hid (by rw [HF2.out, hq]; exact decide_eq_true (List.mem_of_getElem? HX.out))
       subst hq
       clear HF2 HJ HX
       go_wp2
       go_ret
       exact ⟨retb HR.out.symm, B2.out⟩
      ·have HJ2 : Hid (∀ (i : Nat) (x : Int), i < j + 1 → l[i]? = some x → x ≠ cl) := Lib.hid fun i y hi hy => by
        rcases Nat.lt_or_ge i j with q | q
        ·exact HJ.out i y q hy
        ·obtain rfl : i = j := by omega
         have := HX.out
         rw [hy] at this
         cases this
         exact fun e => hq e.symm
       clear HJ HX
       go_wp2
       exact ⟨⟨trivial, j + 1, by go_num, by omega, HJ2⟩, by simp [intOf]; omega⟩
     ·have hjn : j = nl := by omega
      have HR : Hid (fnOk l p = false) := Lib.hid (by
       rw [HF2.out]
       refine decide_eq_false fun hm => ?_
       obtain ⟨i, hi, e⟩ := List.getElem_of_mem hm
       exact HJ.out i cl (by have := HNL.out; omega) (by rw [List.getElem?_eq_getElem hi, e]) rfl)
      clear HF2 HJ
      go_wp2
      go_ret
      exact ⟨retb HR.out.symm, B2.out⟩
   ·have d3 : 0 ≤ mx := by omega
    by_cases h4 : mx < m
    ·have HR : Hid (fnOk l p = false) := Lib.hid (by rw [HF.out, decide_eq_false h3, decide_eq_false (by omega : ¬ m ≤ mx)]; simp)
     clear HF
     go_upto_region 2 with (fail)
     go_quiet (fail)
     generalize hwd : World.drewN _ _ = wd
     have BD : Below (w1.alloc (.cells #[.string nm, .int .i64 cl, .int .i64 mn, .int .i64 mx] 42)).heap.size (w1.alloc (.cells #[.string nm, .int .i64 cl, .int .i64 mn, .int .i64 mx] 42)) wd := by rw [← hwd]; exact below_dN _ _ _
     have B2 := Lib.hid ((B1.out.alloc hz1 (.cells #[.string nm, .int .i64 cl, .int .i64 mn, .int .i64 mx] 42)).trans (BD.mono (by simp; omega)))
     obtain ⟨zb, cb⟩ := kept_block BD
     --  := Lib.hid (HL1.out.below (BD.mono (Nat.le_succ_of_le (Nat.le_refl _) : w1.heap.size ≤ _)) (by omega))
     clear hwd BD
     go_wp2
     go_ret
     exact ⟨retb HR.out.symm, B2.out⟩
    ·have d4 : decide (mx < m) = false := decide_eq_false h4
     have HF2 : Hid (fnOk l p = decide (cl ∈ l)) := Lib.hid (by rw [HF.out, decide_eq_true (by omega : mn ≤ m), decide_eq_true (by omega : m ≤ mx)]; simp)
     clear HF
     go_upto_region 2 with (fail)
     go_quiet (fail)
     generalize hwd : World.drewN _ _ = wd
     have BD : Below (w1.alloc (.cells #[.string nm, .int .i64 cl, .int .i64 mn, .int .i64 mx] 42)).heap.size (w1.alloc (.cells #[.string nm, .int .i64 cl, .int .i64 mn, .int .i64 mx] 42)) wd := by rw [← hwd]; exact below_dN _ _ _
     have B2 := Lib.hid ((B1.out.alloc hz1 (.cells #[.string nm, .int .i64 cl, .int .i64 mn, .int .i64 mx] 42)).trans (BD.mono (by simp; omega)))
     obtain ⟨zb, cb⟩ := kept_block BD
     have HL2 := Lib.hid (HL1.out.below (ext_trans (ext_alloc (Below.refl w1.heap.size w1) _) BD) (by omega))
     clear hwd BD
     have cb1 := cb 1
     simp only [List.getElem?_toArray, List.getElem?_cons_zero, List.getElem?_cons_succ] at cb1
     clear cb
     go_wp2_with fail
     go_loopw [44] (fun iv wr => wr = wd ∧ ∃ j : Nat, iv = .int .i64 (j : Int) ∧ j ≤ nl ∧ Hid (∀ (i : Nat) (x : Int), i < j → l[i]? = some x → x ≠ cl)) (fun iv _ => nl - (intOf iv).toNat)
     case atStart => exact ⟨rfl, 0, rfl, Nat.zero_le _, Lib.hid (fun i x h => absurd h (Nat.not_lt_zero _))⟩
     case round =>
      obtain ⟨rfl, j, rfl, hj, HJ⟩ := hrel
      by_cases hjl : j < nl
      ·obtain ⟨x, hx⟩ : ∃ x, l[j]? = some x := ⟨_, List.getElem?_eq_getElem (by have := HNL.out; omega)⟩
       obtain ⟨a', kc', e1, r1⟩ := HL2.out
       simp only [Value.slice.injEq] at e1
       obtain ⟨rfl, -, rfl⟩ := e1
       obtain ⟨g', off', rfl, -, cx⟩ := r1 (by have := HNL.out; omega)
       have c0 := cx j x hx
       have HX := Lib.hid hx
       clear cx r1 hx
       by_cases hq : cl = x
       ·have HR : Hid (fnOk l p = true) := Lib.hid (by rw [HF2.out, hq]; exact decide_eq_true (List.mem_of_getElem? HX.out))
        subst hq
        clear HF2 HJ HX
        go_wp2
        go_ret
        exact ⟨retb HR.out.symm, B2.out⟩
       ·have HJ2 : Hid (∀ (i : Nat) (x : Int), i < j + 1 → l[i]? = some x → x ≠ cl) := Lib.hid fun i y hi hy => by
         rcases Nat.lt_or_ge i j with q | q
         ·exact HJ.out i y q hy
         ·obtain rfl : i = j := by omega
          have := HX.out
          rw [hy] at this
          cases this
          exact fun e => hq e.symm
        clear HJ HX
        go_wp2
        exact ⟨⟨trivial, j + 1, by go_num, by omega, HJ2⟩, by simp [intOf]; omega⟩
      ·have hjn : j = nl := by omega
       have HR : Hid (fnOk l p = false) := Lib.hid (by
        rw [HF2.out]
        refine decide_eq_false fun hm => ?_
        obtain ⟨i, hi, e⟩ := List.getElem_of_mem hm
        exact HJ.out i cl (by have := HNL.out; omega) (by rw [List.getElem?_eq_getElem hi, e]) rfl)
       clear HF2 HJ
       go_wp2
       go_ret
       exact ⟨retb HR.out.symm, B2.out⟩
 ·have HR : Hid (fnOk l p = false) := Lib.hid (by rw [HF.out]; rfl)
  clear HF
  go_upto_region 2 with (fail)
  go_quiet (fail)
  generalize hwd : World.drewN _ _ = wd
  have BD : Below (w1.alloc (.cells #[.string nm, .int .i64 cl, .int .i64 mn, .int .i64 mx] 42)).heap.size (w1.alloc (.cells #[.string nm, .int .i64 cl, .int .i64 mn, .int .i64 mx] 42)) wd := by rw [← hwd]; exact below_dN _ _ _
  have B2 := Lib.hid ((B1.out.alloc hz1 (.cells #[.string nm, .int .i64 cl, .int .i64 mn, .int .i64 mx] 42)).trans (BD.mono (by simp; omega)))
  obtain ⟨zb, cb⟩ := kept_block BD
  --  := Lib.hid (HL1.out.below (BD.mono (Nat.le_succ_of_le (Nat.le_refl _) : w1.heap.size ≤ _)) (by omega))
  clear hwd BD
  go_wp2
  go_ret
  exact ⟨retb HR.out.symm, B2.out⟩
end Go.Proofs.YtlmpiobdgkmmgaaGreatDoor
