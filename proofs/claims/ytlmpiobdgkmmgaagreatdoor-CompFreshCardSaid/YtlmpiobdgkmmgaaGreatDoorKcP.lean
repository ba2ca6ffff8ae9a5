/- The document's compiler: how it goes on; values; kinds 1 to 8. -/
import Derived.Test.YtlmpiobdgkmmgaaGreatDoorKcO
set_option maxRecDepth 1000000
set_option maxHeartbeats 16000000
namespace Go.Proofs.YtlmpiobdgkmmgaaGreatDoor
open Go.RowKit
theorem infoExpr9 : (Tryz.prog.info? 34).map (·.size) = some 14 := by kernel_rfl
theorem cpLoad {ops : Array Oper} {Q : Exit → Act → World → Prop} {rest : List Oper} {a : Act} {o : Oper} {x : Operand} {w : World} {b off : Nat} {h : Hd} {kv : Value} (nd : NodeAt w b off h kv) (hg : o.guard = none) (ho : o.op = .load 34 x) (hx : a.eval x = .pointer (some ⟨b, off, none⟩))
 (hK : wpList Tryz.prog ops Q rest (a.put o.dst (.agg #[.int .i64 h.kind, .int .i64 h.op, .int .i64 h.num, .string ⟨h.text.toArray⟩, .int .i64 h.ref.row, .int .i64 h.ref.col, .bool h.ref.pr, .bool h.ref.pc, .int .i64 h.to.row, .int .i64 h.to.col, .bool h.to.pr, .bool h.to.pc, .int .i64 h.fn, kv])) w) : wpList Tryz.prog ops Q (o :: rest) a w :=
 wpList_load_mid hg _ x ho b off hx (h.vals kv) _ nd.2 Tryz.underlying34 rfl infoExpr9 hK
theorem NodeAt.same9 {w w' : World} {b off : Nat} {h : Hd} {kv : Value} (n : NodeAt w b off h kv) (e : w'.heap[b]? = w.heap[b]?) (hz : w.heap.size ≤ w'.heap.size) : NodeAt w' b off h kv :=
 ⟨Nat.lt_of_lt_of_le n.1 hz, fun j v hj => by rw [← n.2 j v hj]; simp only [World.cell?, e]⟩
def CapsIn (w : World) (B : Nat) : Trees → Option Addr → Nat → Prop
 | .nil, _, _ => True
 | .cons h ks rest, a, i => (∃ b off ka kl kc, a = some ⟨b, off, none⟩ ∧ b < B ∧ NodeAt w b (off + i * 14) h (.slice ka kl kc) ∧ kl ≤ kc ∧ CapsIn w B ks ka 0) ∧ CapsIn w B rest a (i + 1)
theorem CapsIn.kept {w w' : World} {B : Nat} (hb : Below B w w') : ∀ {ts : Trees} {a : Option Addr} {i : Nat}, CapsIn w B ts a i → CapsIn w' B ts a i
 | .nil, _, _, _ => trivial
 | .cons _ _ _, _, _, ⟨⟨b, off, ka, kl, kc, e, lt, n, l, k⟩, r⟩ => ⟨⟨b, off, ka, kl, kc, e, lt, n.kept hb lt, l, CapsIn.kept hb k⟩, CapsIn.kept hb r⟩
theorem CapsIn.mono {w : World} {B B' : Nat} (hB : B ≤ B') : ∀ {ts : Trees} {a : Option Addr} {i : Nat}, CapsIn w B ts a i → CapsIn w B' ts a i
 | .nil, _, _, _ => trivial
 | .cons _ _ _, _, _, ⟨⟨b, off, ka, kl, kc, e, lt, n, l, k⟩, r⟩ => ⟨⟨b, off, ka, kl, kc, e, Nat.lt_of_lt_of_le lt hB, n, l, CapsIn.mono hB k⟩, CapsIn.mono hB r⟩
theorem tdrop_caps {w : World} {B : Nat} : ∀ (t : Trees) (j i : Nat) (a : Option Addr), CapsIn w B t a i → CapsIn w B (tdrop t j) a (i + j)
 | t, 0, _, _, h => by rw [tdrop_nodes]; exact h
 | .nil, _ + 1, _, _, _ => trivial
 | .cons _ _ r, j + 1, i, a, h => by
  have := tdrop_caps r j (i + 1) a h.2
  rwa [Nat.add_right_comm] at this
structure TreeCp (w : World) (B : Nat) (h : Hd) (ks : Trees) (ka : Option Addr) (kl kc : Nat) : Prop extends TreeV w B h ks ka kl where
 cap : kl ≤ kc
 caps : CapsIn w B ks ka 0
theorem TreeCp.kept {w w' : World} {B kl kc : Nat} {h : Hd} {ks : Trees} {ka : Option Addr} (t : TreeCp w B h ks ka kl kc) (hb : Below B w w') : TreeCp w' B h ks ka kl kc := ⟨t.toTreeV.kept hb (Nat.le_refl _), t.cap, t.caps.kept hb⟩
theorem TreeCp.mono {w : World} {B B' kl kc : Nat} {h : Hd} {ks : Trees} {ka : Option Addr} (t : TreeCp w B h ks ka kl kc) (hB : B ≤ B') : TreeCp w B' h ks ka kl kc := ⟨t.toTreeV.mono hB, t.cap, t.caps.mono hB⟩
structure Rq (b Lx Bt : Nat) (h : Hd) (ks : Trees) (ka : Option Addr) (kl kc : Nat) (cl0 : Nat → Nat) (W0 : World) (cl : Nat → Nat) (S : SX) (ps : List PI) (cs : List PV) (W : World) : Prop where
 ly : Ly b cl S Lx 59 [] ps cs W
 hb : b ≤ W.heap.size
 fr : Frm P3 cl0 W0.heap.size cl W0 W
 be : Below b W0 W
 nd : NodeAt W Bt 0 h (.slice ka kl kc)
 bc : cl Bt = 9
 tv : TreeCp W b h ks ka kl kc
section
variable {b Lx Bt kl kc : Nat} {h : Hd} {ks : Trees} {ka : Option Addr} {cl0 cl cl' : Nat → Nat} {W0 W W' : World} {S S' : SX} {ps ps' : List PI} {cs cs' : List PV}
theorem Rq.go (r : Rq b Lx Bt h ks ka kl kc cl0 W0 cl S ps cs W) (s : Ly b cl' S' Lx 59 [] ps' cs' W') (f : Frm P3 cl W.heap.size cl' W W') (bb : Below b W W') : Rq b Lx Bt h ks ka kl kc cl0 W0 cl' S' ps' cs' W' :=
 ⟨s, Nat.le_trans r.hb bb.size, r.fr.trans f r.be.size, r.be.trans bb, r.nd.same9 (f Bt r.nd.1 (by rw [r.bc]; exact p3_9)).2 bb.size, (f Bt r.nd.1 (by rw [r.bc]; exact p3_9)).1.trans r.bc, r.tv.kept bb⟩
theorem Rq.start (s : Ly b cl S Lx 59 [] ps cs W) (hb : b ≤ W.heap.size) (tv : TreeCp W b h ks ka kl kc) : Rq b Lx W.heap.size h ks ka kl kc cl W (upc cl W.heap.size 9) S ps cs (W.alloc (.cells #[.int .i64 h.kind, .int .i64 h.op, .int .i64 h.num, .string ⟨h.text.toArray⟩, .int .i64 h.ref.row, .int .i64 h.ref.col, .bool h.ref.pr, .bool h.ref.pc, .int .i64 h.to.row, .int .i64 h.to.col, .bool h.to.pr, .bool h.to.pc, .int .i64 h.fn, (.slice ka kl kc)] 34)) := by
 have k : Below W.heap.size W (W.alloc (.cells #[.int .i64 h.kind, .int .i64 h.op, .int .i64 h.num, .string ⟨h.text.toArray⟩, .int .i64 h.ref.row, .int .i64 h.ref.col, .bool h.ref.pr, .bool h.ref.pc, .int .i64 h.to.row, .int .i64 h.to.col, .bool h.to.pr, .bool h.to.pc, .int .i64 h.fn, (.slice ka kl kc)] 34)) := ext_alloc (Below.refl _ _) _
 exact ⟨s.kept k 9, Nat.le_trans hb k.size, Frm.kept k, k.mono hb, node_box W h (.slice ka kl kc), upc_ge (Nat.le_refl _), tv.kept (k.mono hb)⟩
theorem Rq.kept (r : Rq b Lx Bt h ks ka kl kc cl0 W0 cl S ps cs W) (k : Below W.heap.size W W') (c : Nat) : Rq b Lx Bt h ks ka kl kc cl0 W0 (upc cl W.heap.size c) S ps cs W' :=
 r.go (r.ly.kept k c) (Frm.kept k) (k.mono r.hb)
theorem Rq.toLd (r : Rq b Lx Bt h ks ka kl kc cl0 W0 cl S ps cs W) : Ld b cl0 S Lx 59 [] W0 ps cs W := ⟨cl, r.ly, r.fr, r.be⟩
theorem Rq.drew (r : Rq b Lx Bt h ks ka kl kc cl0 W0 cl S ps cs W) : Rq b Lx Bt h ks ka kl kc cl0 W0 cl S ps cs W.drew :=
 r.go r.ly.drew (fun _ _ _ => ⟨rfl, rfl⟩) (Below.refl _ _).drew
structure Kd (b : Nat) (W : World) (ks : Trees) (j kb off : Nat) (h' : Hd) (k' r' : Trees) (ka' : Option Addr) (kl' kc' : Nat) : Prop where
 e : tdrop ks j = .cons h' k' r'
 e1 : tdrop ks (j + 1) = r'
 nd : NodeAt W kb off h' (.slice ka' kl' kc')
 lt : kb < b
 tv : TreeCp W b h' k' ka' kl' kc'
theorem TreeCp.kid (t : TreeCp W b h ks ka kl kc) (j : Nat) (hj : j < ks.len) : ∃ kb ko h' k' r' ka' kl' kc', ka = some ⟨kb, ko, none⟩ ∧ Kd b W ks j kb (ko + j * 14) h' k' r' ka' kl' kc' := by
 obtain ⟨h', k', r', e, e1⟩ := tdrop_cons ks j hj
 have r := tdrop_row ks j 0 ka t.row
 have c := tdrop_caps ks j 0 ka t.caps
 rw [e, Nat.zero_add] at r c
 obtain ⟨kb, ko, ka', kl', kc', a, hb, N, t'⟩ := r.head
 obtain ⟨⟨kb2, ko2, ka2, kl2, kc2, a2, -, N2, hc, hcs⟩, -⟩ := c
 rw [a] at a2
 simp only [Option.some.injEq, Addr.mk.injEq, and_true] at a2
 obtain ⟨rfl, rfl⟩ := a2
 have q := N.facts.c13.symm.trans N2.facts.c13
 simp only [Option.some.injEq, Value.slice.injEq] at q
 obtain ⟨rfl, rfl, rfl⟩ := q
 exact ⟨kb, ko, h', k', r', ka', kl', kc', a, e, e1, N, hb, t', hc, hcs⟩
theorem Kd.step {j kb off kl' kc' : Nat} {h' : Hd} {k' r' : Trees} {ka' : Option Addr} (k : Kd b W ks j kb off h' k' r' ka' kl' kc') (bb : Below b W W') : Kd b W' ks j kb off h' k' r' ka' kl' kc' := ⟨k.e, k.e1, k.nd.kept bb k.lt, k.lt, k.tv.kept bb⟩
theorem Kd.kid {j kb off kl' kc' : Nat} {h' : Hd} {k' r' : Trees} {ka' : Option Addr} (k : Kd b W ks j kb (off + j * 14) h' k' r' ka' kl' kc') : Kid b W ks j kb off h' k' r' ka' kl' kc' := ⟨k.e, k.e1, k.nd, k.lt, k.tv.toTreeV⟩
end
def LayQ (b Lx : Nat) (cl : Nat → Nat) (S : SX) (ps : List PI) (cs : List PV) (W : World) (F : CF) (e : Ending) (w' : World) : Prop :=
 e = .returned (.tuple #[]) ∧ Ld b cl S Lx 59 [] W (ps ++ (F ps.length cs).1) (F ps.length cs).2 w'
def RefC (f : Nat) (F : Hd → Trees → CF) (h : Hd) (ks : Trees) : Prop := ∀ (b Lx : Nat) (cl : Nat → Nat) (S : SX) (ps : List PI) (cs : List PV) (W : World) (ka : Option Addr) (kl kc : Nat),
 Hid (Ly b cl S Lx 59 [] ps cs W) → b ≤ W.heap.size → TreeCp W b h ks ka kl kc → treeFits h ks = true → Room ps cs (1 + ks.nodes) →
 Calls Tryz.prog f #[.pointer (some ⟨Lx, 0, none⟩), .agg #[.int .i64 h.kind, .int .i64 h.op, .int .i64 h.num, .string ⟨h.text.toArray⟩, .int .i64 h.ref.row, .int .i64 h.ref.col, .bool h.ref.pr, .bool h.ref.pc, .int .i64 h.to.row, .int .i64 h.to.col, .bool h.to.pr, .bool h.to.pc, .int .i64 h.fn, .slice ka kl kc]] W (LayQ b Lx cl S ps cs W (F h ks))
def ValR := RefC 22 valT
def AreR := RefC 104 areaT
def VR (h : Hd) (ks : Trees) : Prop := ValR h ks ∧ AreR h ks
def posV (os : List Nat) : List Value := os.map fun (o : Nat) => Value.int .i64 (o : Int)
theorem posV_app (os : List Nat) (o : Nat) : posV (os ++ [o]) = posV os ++ [.int .i64 (o : Int)] := by simp [posV]
theorem posV_len (os : List Nat) : (posV os).length = os.length := by simp [posV]
structure CoQ (b Lx : Nat) (cl0 : Nat → Nat) (W0 : World) (cl : Nat → Nat) (S : SX) (ps : List PI) (cs : List PV) (W : World) (v : Value) (os : List Nat) : Prop where
 ly : Ly b cl S Lx 59 [] ps cs W
 fr : Frm P3 cl0 W0.heap.size cl W0 W
 be : Below b W0 W
 row : Rw W0.heap.size W.heap.size cl 7 3 1 W v os.length (posV os)
section
variable {b Lx : Nat} {cl0 cl cl' : Nat → Nat} {W0 W W' W1 : World} {S : SX} {ps ps' : List PI} {cs cs' : List PV} {v : Value} {os : List Nat}
theorem CoQ.start (s : Ly b cl S Lx 59 [] ps cs W) : CoQ b Lx cl W cl S ps cs W (.slice none 0 0) [] := ⟨s, Frm.refl _ _ _ _, Below.refl _ _, ⟨World.ownsRow_nil W _ _ _, fun k hk => by simp [Value.ownBlock] at hk⟩⟩
theorem CoQ.go (c : CoQ b Lx cl0 W0 cl S ps cs W v os) (s : Ly b cl' S Lx 59 [] ps' cs' W') (f : Frm P3 cl W.heap.size cl' W W') (bb : Below b W W') : CoQ b Lx cl0 W0 cl' S ps' cs' W' v os :=
 ⟨s, c.fr.trans f c.be.size, c.be.trans bb, c.row.frm f p3_7 bb.size⟩
theorem CoQ.push {g cap o : Nat} {ob : Obj} (c : CoQ b Lx cl0 W0 cl S ps cs W v os) (hbW : b ≤ W0.heap.size) (hown : W1.ownsRow W0.heap.size 3 1 (.slice (some ⟨g, 0, none⟩) (os.length + 1) cap) (os.length + 1) (posV os ++ [.int .i64 (o : Int)])) (hgrow : (W.alloc ob).grownBy W1 v.ownBlock) (hat : v.ownBlock = some g ∨ g = (W.alloc ob).heap.size) :
 CoQ b Lx cl0 W0 (upc cl W.heap.size 7) S ps cs W1 (.slice (some ⟨g, 0, none⟩) (os.length + 1) cap) (os ++ [o]) ∧ Frm (· ≠ 7) cl W.heap.size (upc cl W.heap.size 7) W W1 ∧ Below b W W1 := by
 have c0 : Cos b cl0 W0 cl S Lx 59 [] ps cs 3 v (posV os) W := ⟨c.ly, c.fr, c.be, by rw [posV_len]; exact c.row⟩
 rw [← posV_len os] at hown ⊢
 obtain ⟨c1, f1⟩ := c0.push hbW hown hgrow hat
 have bel : Below W0.heap.size W W1 := ((Below.refl _ W).alloc c.be.size ob).grown hgrow (by have := c.be.size; simp; omega) (fun k hk => (World.ownsRow.lt c.row.own k hk).1)
 refine ⟨⟨c1.ly, c1.fr, c1.be, ?_⟩, f1, bel.mono hbW⟩
 have r := c1.row
 rw [← posV_app, posV_len, posV_len] at r
 rw [posV_len]
 exact r
theorem CoQ.slice (c : CoQ b Lx cl0 W0 cl S ps cs W v os) : ∃ a kc, v = .slice a os.length kc ∧ IntR cl W a os := by
 obtain ⟨a, kc, e⟩ := c.row.own.slice9
 refine ⟨a, kc, e, ⟨fun i o hi => ?_⟩⟩
 have hl := (List.getElem?_eq_some_iff.1 hi).1
 rcases c.row.own.2 with ⟨q, h0⟩ | ⟨g, cap, cur, q, -⟩
 ·omega
 ·have hv := q
  rw [e] at q
  simp only [Value.slice.injEq] at q
  obtain ⟨rfl, -, rfl⟩ := q
  have hc := c.row.cls g (by rw [hv]; rfl)
  have ho := c.row.own
  rw [hv] at ho
  refine ⟨g, rfl, (own_cell ho i (by rw [posV_len]; exact hl)).trans ?_, hc.1, hc.2⟩
  simp [posV, hi]
end
end Go.Proofs.YtlmpiobdgkmmgaaGreatDoor
namespace Go.Proofs.YtlmpiobdgkmmgaaGreatDoor
open Go.RowKit
def ValsPost (m n0 b Lx : Nat) (cl : Nat → Nat) (S : SX) (ps : List PI) (cs : List PV) (W : World) (ks : Trees) (e : Ending) (w' : World) : Prop :=
 ∃ v os cl' psj csj L, e = .returned v ∧ CoQ b Lx cl W cl' S psj csj w' v os ∧ Pt os psj L ∧ (∀ E : Int, L E = ps ++ (valsF E (m : Int) ((kcs ks).drop m) ps.length cs).1 ∧ csj = (valsF E (m : Int) ((kcs ks).drop m) ps.length cs).2) ∧ os.length ≤ ks.len ∧ Room psj csj n0
def VlRel (m n0 b Lx : Nat) (cl0 : Nat → Nat) (W0 : World) (S : SX) (ks : Trees) (fin : Int → List PI × List PV) (v iv : Value) (wr : World) : Prop :=
 ∃ (i : Nat) (cl : Nat → Nat) (os : List Nat) (ps : List PI) (cs : List PV) (L : Int → List PI), iv = .int .i64 (i : Int) ∧ i + m ≤ ks.len ∧ os.length ≤ i ∧ Hid (CoQ b Lx cl0 W0 cl S ps cs wr v os) ∧ Hid (VkP valsF ks n0 (i + m) ps cs os L fin)
theorem values0_any {h : Hd} {ks : Trees} (ih : AllT VR ks) (n0 b Lx : Nat) {kc' : Nat} {ka : Option Addr} (cl : Nat → Nat) (S : SX) (ps : List PI) (cs : List PV) (W : World) (HL : Hid (Ly b cl S Lx 59 [] ps cs W)) (hbW : b ≤ W.heap.size) {kc0 : Nat} (tv : TreeCp W b h ks ka ks.len kc0) (hf : allFits ks = true) (hm : 0 ≤ ks.len) (hr : Room ps cs (n0 + (tdrop ks 0).nodes)) (hmx : ks.len ≤ 900000) :
 Calls Tryz.prog 102 #[.pointer (some ⟨Lx, 0, none⟩), .slice ka ks.len kc', .int .i64 0] W (ValsPost 0 n0 b Lx cl S ps cs W ks) := by
 obtain ⟨i0, hi, hz0, hz1, hz2⟩ := info_parts infoIntC
 have IH := Lib.hid ih
 have TV := Lib.hid tv
 have HF := Lib.hid hf
 have PT0 : Hid (VkP valsF ks n0 (0 + 0) ps cs [] (fun _ => ps) (fun E => (ps ++ (valsF E (0 : Nat) ((kcs ks).drop 0) ps.length cs).1, (valsF E (0 : Nat) ((kcs ks).drop 0) ps.length cs).2))) := Lib.hid ⟨Pt.nil ps, fun E => ⟨rfl, rfl⟩, hr⟩
 obtain ⟨ln, hln⟩ : ∃ ln, ln = ks.len := ⟨_, rfl⟩
 rw [← hln]
 have HLN := Lib.hid hln
 have hlb : ln ≤ 900000 := by omega
 clear ih tv hf hr hln
 go_enter Tryz.func102, Tryz.ntmps102
 go_wp2_with fail
 go_loopw [7, 8] (fun v iv wr => VlRel 0 n0 b Lx cl W S ks (fun E => (ps ++ (valsF E (0 : Nat) ((kcs ks).drop 0) ps.length cs).1, (valsF E (0 : Nat) ((kcs ks).drop 0) ps.length cs).2)) v iv wr) (fun _ iv _ => ln - (intOf iv).toNat)
 case atStart => exact ⟨0, cl, [], ps, cs, fun _ => ps, rfl, by omega, Nat.le_refl _, Lib.hid (CoQ.start HL.out), PT0⟩
 case round =>
  obtain ⟨j, cl3, os, psj, csj, L, rfl, hj, hol, C3, P3'⟩ := hrel
  by_cases hlt : j < ln
  ·obtain ⟨kb', ko', h', k', r', ka', kl', kc', ea, K⟩ := TV.out.kid (j + 0) (by have := HLN.out; omega)
   subst ea
   have K3 := Lib.hid (K.step C3.out.be)
   have KW := Lib.hid K.kid
   have nd : NodeAt wr kb' (ko' + j * 14) h' (.slice ka' kl' kc') := by have := K3.out.nd; rwa [show ko' + (j + 0) * 14 = ko' + j * 14 by omega] at this
   have ND := Lib.hid nd
   have rm : Room psj csj (1 + k'.nodes) := by have := P3'.out.room; rw [K.kid.nodes] at this; unfold Room at this ⊢; omega
   clear K nd
   go_wp2_with (refine cpLoad ND.out rfl rfl rfl ?_)
   refine ((KW.out.all IH.out).1 b Lx cl3 S psj csj wr ka' kl' kc' (Lib.hid C3.out.ly) (Nat.le_trans hbW C3.out.be.size) K3.out.tv (KW.out.fits HF.out) rm).mono ?_
   rintro e w4 ⟨rfl, cl4, s4, f4, b4⟩
   have C4 := Lib.hid (C3.out.go s4 f4 b4)
   clear s4 f4 b4 C3 K3 ND rm
   by_cases hj1 : j + 1 < ln
   ·have P4 := Lib.hid (P3'.out.next KW.out (by have := HLN.out; omega))
    have rm4 := P4.out.room.1
    rw [List.length_append, List.length_singleton] at rm4
    have RM4 := Lib.hid rm4
    have hjn2 : (j : Int) < (ln : Int) - 1 := by omega
    clear rm4 P3' 
    go_wp2_with fail
    refine (refPut_any 7 0 ((j : Nat) : Int) 0 0 w4 (Lib.hid C4.out.ly) (Nat.le_trans hbW C4.out.be.size) (by have := RM4.out; omega)).mono ?_
    rintro e w2 ⟨rfl, cl2, s2, f2, b2⟩
    have C2 := Lib.hid (C4.out.go s2 f2 b2)
    have hzw := C2.out.be.size
    obtain ⟨pl, hpl⟩ : ∃ pl, pl = (psj ++ (valT h' k' psj.length csj).1).length := ⟨_, rfl⟩
    rw [← hpl]
    have HPL := Lib.hid hpl
    clear s2 f2 b2 C4 hpl
    go_wp2_with (at_builtin; refine wpList_append_lies _ rfl _ _ 45 rfl W.heap.size 3 i0 _ 1 8 Tryz.underlying45 hi hz0 hz1 hz2 rfl (by decide) u7 os.length (posV os) rfl (World.ownsRow.alloc C2.out.row.own _) ⟨w2.heap.size, 0, none⟩ 1 1 [.int .i64 (pl : Nat)] rfl rfl (World.news_of_block (heap_alloc_new w2 _)) (by simp [Value.oneCell']) (by decide) (by unfold maxLen; omega) (by omega) (by simp; omega) _ rfl ?_)
    intro g cap w6 hown hgrow hat _
    obtain ⟨c6, -, -⟩ := C2.out.push hbW hown hgrow (hat.imp_right fun q => by rw [q]; simp)
    have C6 := Lib.hid c6
    rw [HPL.out] at C6
    clear hown hgrow hat C2 hzw c6
    go_wp2_with fail
    exact ⟨⟨j + 1, _, _, _, _, _, by go_num, by have := HLN.out; omega, by simp; omega, C6, (by rw [show j + 1 + 0 = j + 0 + 1 by omega]; exact P4)⟩, by simp [intOf]; omega⟩
   ·have P4 := Lib.hid (P3'.out.last KW.out (by have := HLN.out; omega))
    clear P3'
    have hj2 : ¬ (j : Int) < (ln : Int) - 1 := by omega
    go_wp2_with fail
    exact ⟨⟨j + 1, _, _, _, _, _, by go_num, by have := HLN.out; omega, by omega, C4, (by rw [show j + 1 + 0 = j + 0 + 1 by omega]; exact P4)⟩, by simp [intOf]; omega⟩
  ·have hjl : j + 0 = ks.len := by have := HLN.out; omega
   have HJL := Lib.hid hjl
   have hjln : ¬ (j : Int) < (ln : Int) := by omega
   clear hjl
   go_wp2_with fail
   go_ret
   have p := P3'.out
   rw [HJL.out] at p
   refine ⟨_, os, cl3, psj, csj, L, rfl, C3.out, p.pt, p.done fun _ _ => rfl, by have := HJL.out; omega, ?_⟩
   have q := p.room
   unfold Room at q ⊢
   omega
theorem values1_any {h : Hd} {ks : Trees} (ih : AllT VR ks) (n0 b Lx : Nat) {kc' : Nat} {kb ko : Nat} (cl : Nat → Nat) (S : SX) (ps : List PI) (cs : List PV) (W : World) (HL : Hid (Ly b cl S Lx 59 [] ps cs W)) (hbW : b ≤ W.heap.size) {kc0 : Nat} (tv : TreeCp W b h ks (some ⟨kb, ko, none⟩) ks.len kc0) (hf : allFits ks = true) (hm : 1 ≤ ks.len) (hr : Room ps cs (n0 + (tdrop ks 1).nodes)) (hmx : ks.len ≤ 900000) :
 Calls Tryz.prog 102 #[.pointer (some ⟨Lx, 0, none⟩), .slice (some ⟨kb, ko + 14, none⟩) (ks.len - 1) kc', .int .i64 1] W (ValsPost 1 n0 b Lx cl S ps cs W ks) := by
 obtain ⟨i0, hi, hz0, hz1, hz2⟩ := info_parts infoIntC
 have IH := Lib.hid ih
 have TV := Lib.hid tv
 have HF := Lib.hid hf
 have PT0 : Hid (VkP valsF ks n0 (0 + 1) ps cs [] (fun _ => ps) (fun E => (ps ++ (valsF E (1 : Nat) ((kcs ks).drop 1) ps.length cs).1, (valsF E (1 : Nat) ((kcs ks).drop 1) ps.length cs).2))) := Lib.hid ⟨Pt.nil ps, fun E => ⟨rfl, rfl⟩, hr⟩
 obtain ⟨ln, hln⟩ : ∃ ln, ln = (ks.len - 1) := ⟨_, rfl⟩
 rw [← hln]
 have HLN := Lib.hid hln
 have hlb : ln ≤ 900000 := by omega
 clear ih tv hf hr hln
 go_enter Tryz.func102, Tryz.ntmps102
 go_wp2_with fail
 go_loopw [7, 8] (fun v iv wr => VlRel 1 n0 b Lx cl W S ks (fun E => (ps ++ (valsF E (1 : Nat) ((kcs ks).drop 1) ps.length cs).1, (valsF E (1 : Nat) ((kcs ks).drop 1) ps.length cs).2)) v iv wr) (fun _ iv _ => ln - (intOf iv).toNat)
 case atStart => exact ⟨0, cl, [], ps, cs, fun _ => ps, rfl, by omega, Nat.le_refl _, Lib.hid (CoQ.start HL.out), PT0⟩
 case round =>
  obtain ⟨j, cl3, os, psj, csj, L, rfl, hj, hol, C3, P3'⟩ := hrel
  by_cases hlt : j < ln
  ·obtain ⟨kb', ko', h', k', r', ka', kl', kc', ea, K⟩ := TV.out.kid (j + 1) (by have := HLN.out; omega)
   simp only [Option.some.injEq, Addr.mk.injEq, and_true] at ea; obtain ⟨rfl, rfl⟩ := ea
   have K3 := Lib.hid (K.step C3.out.be)
   have KW := Lib.hid K.kid
   have nd : NodeAt wr kb (ko + 14 + j * 14) h' (.slice ka' kl' kc') := by have := K3.out.nd; rwa [show ko + (j + 1) * 14 = ko + 14 + j * 14 by omega] at this
   have ND := Lib.hid nd
   have rm : Room psj csj (1 + k'.nodes) := by have := P3'.out.room; rw [K.kid.nodes] at this; unfold Room at this ⊢; omega
   clear K nd
   go_wp2_with (refine cpLoad ND.out rfl rfl rfl ?_)
   refine ((KW.out.all IH.out).1 b Lx cl3 S psj csj wr ka' kl' kc' (Lib.hid C3.out.ly) (Nat.le_trans hbW C3.out.be.size) K3.out.tv (KW.out.fits HF.out) rm).mono ?_
   rintro e w4 ⟨rfl, cl4, s4, f4, b4⟩
   have C4 := Lib.hid (C3.out.go s4 f4 b4)
   clear s4 f4 b4 C3 K3 ND rm
   by_cases hj1 : j + 1 < ln
   ·have P4 := Lib.hid (P3'.out.next KW.out (by have := HLN.out; omega))
    have rm4 := P4.out.room.1
    rw [List.length_append, List.length_singleton] at rm4
    have RM4 := Lib.hid rm4
    have hjn2 : (j : Int) < (ln : Int) - 1 := by omega
    have hB : (1 : Int) + (j : Int) = ((j + 1 : Nat) : Int) := by omega
    have HB := Lib.hid hB
    clear rm4 P3' hB
    go_wp2_with fail
    rw [HB.out]
    refine (refPut_any 7 0 ((j + 1 : Nat) : Int) 0 0 w4 (Lib.hid C4.out.ly) (Nat.le_trans hbW C4.out.be.size) (by have := RM4.out; omega)).mono ?_
    rintro e w2 ⟨rfl, cl2, s2, f2, b2⟩
    have C2 := Lib.hid (C4.out.go s2 f2 b2)
    have hzw := C2.out.be.size
    obtain ⟨pl, hpl⟩ : ∃ pl, pl = (psj ++ (valT h' k' psj.length csj).1).length := ⟨_, rfl⟩
    rw [← hpl]
    have HPL := Lib.hid hpl
    clear s2 f2 b2 C4 hpl
    go_wp2_with (at_builtin; refine wpList_append_lies _ rfl _ _ 45 rfl W.heap.size 3 i0 _ 1 8 Tryz.underlying45 hi hz0 hz1 hz2 rfl (by decide) u7 os.length (posV os) rfl (World.ownsRow.alloc C2.out.row.own _) ⟨w2.heap.size, 0, none⟩ 1 1 [.int .i64 (pl : Nat)] rfl rfl (World.news_of_block (heap_alloc_new w2 _)) (by simp [Value.oneCell']) (by decide) (by unfold maxLen; omega) (by omega) (by simp; omega) _ rfl ?_)
    intro g cap w6 hown hgrow hat _
    obtain ⟨c6, -, -⟩ := C2.out.push hbW hown hgrow (hat.imp_right fun q => by rw [q]; simp)
    have C6 := Lib.hid c6
    rw [HPL.out] at C6
    clear hown hgrow hat C2 hzw c6
    go_wp2_with fail
    exact ⟨⟨j + 1, _, _, _, _, _, by go_num, by have := HLN.out; omega, by simp; omega, C6, (by rw [show j + 1 + 1 = j + 1 + 1 by omega]; exact P4)⟩, by simp [intOf]; omega⟩
   ·have P4 := Lib.hid (P3'.out.last KW.out (by have := HLN.out; omega))
    clear P3'
    have hj2 : ¬ (j : Int) < (ln : Int) - 1 := by omega
    go_wp2_with fail
    exact ⟨⟨j + 1, _, _, _, _, _, by go_num, by have := HLN.out; omega, by omega, C4, (by rw [show j + 1 + 1 = j + 1 + 1 by omega]; exact P4)⟩, by simp [intOf]; omega⟩
  ·have hjl : j + 1 = ks.len := by have := HLN.out; omega
   have HJL := Lib.hid hjl
   have hjln : ¬ (j : Int) < (ln : Int) := by omega
   clear hjl
   go_wp2_with fail
   go_ret
   have p := P3'.out
   rw [HJL.out] at p
   refine ⟨_, os, cl3, psj, csj, L, rfl, C3.out, p.pt, p.done fun _ _ => rfl, by have := HJL.out; omega, ?_⟩
   have q := p.room
   unfold Room at q ⊢
   omega
end Go.Proofs.YtlmpiobdgkmmgaaGreatDoor
namespace Go.Proofs.YtlmpiobdgkmmgaaGreatDoor
open Go.RowKit
theorem rval1_any {h : Hd} {ks : Trees} (q : h.kind = 1) : ValR h ks := by
 intro b Lx cl S ps cs W ka kl kc HL hb tv hf hr0
 have hr := hr0
 obtain ⟨hr1, hr2⟩ := hr
 have hfv : fitsV h ks.len = true ∧ allFits ks = true := by unfold treeFits at hf; simpa using hf
 have hfa := Lib.hid hfv.2
 obtain rfl : kl = ks.len := tv.len
 obtain ⟨w1, hw1⟩ : ∃ w1, w1 = W.alloc (.cells #[.int .i64 h.kind, .int .i64 h.op, .int .i64 h.num, .string ⟨h.text.toArray⟩, .int .i64 h.ref.row, .int .i64 h.ref.col, .bool h.ref.pr, .bool h.ref.pc, .int .i64 h.to.row, .int .i64 h.to.col, .bool h.to.pr, .bool h.to.pc, .int .i64 h.fn, (.slice ka ks.len kc)] 34) := ⟨_, rfl⟩
 have RQ1 : Hid (Rq b Lx W.heap.size h ks ka ks.len kc cl W (upc cl W.heap.size 9) S ps cs w1) := Lib.hid (by rw [hw1]; exact Rq.start HL.out hb tv)
 have HV : Hid (valT h ks = conF ⟨1, h.num, []⟩) := Lib.hid (by unfold valT valF; simp only [q]; rfl)
 have HQ := Lib.hid q
 clear q
 go_enter Tryz.func22, Tryz.ntmps22
 go_upto_region 1 with (fail)
 rw [← hw1]
 clear hw1
 generalize W.heap.size = Bt at RQ1 ⊢
 have c0 := RQ1.out.nd.facts.c0
 have c13 := RQ1.out.nd.facts.c13
 have c2 := RQ1.out.nd.facts.c2
 try simp only [Nat.zero_add] at c0 c13 c2
 rw [HQ.out] at c0
 go_wp2_with fail
 refine (refCon_any 1 h.num [] w1 (Lib.hid RQ1.out.ly) RQ1.out.hb (by omega) (by omega)).mono ?_
 rintro e w2 ⟨rfl, cl2, s2, f2, b2⟩
 have RQ2 := Lib.hid (RQ1.out.go s2 f2 b2)
 clear RQ1 s2 f2 b2 c0 c13 c2 
 go_wp2_with fail
 exact bodyPost_end (results_none rfl _ _ _) rfl ⟨rfl, by rw [HV.out]; exact RQ2.out.toLd⟩
theorem rval2_any {h : Hd} {ks : Trees} (q : h.kind = 2) : ValR h ks := by
 intro b Lx cl S ps cs W ka kl kc HL hb tv hf hr0
 have hr := hr0
 obtain ⟨hr1, hr2⟩ := hr
 have hfv : fitsV h ks.len = true ∧ allFits ks = true := by unfold treeFits at hf; simpa using hf
 have hfa := Lib.hid hfv.2
 obtain rfl : kl = ks.len := tv.len
 obtain ⟨w1, hw1⟩ : ∃ w1, w1 = W.alloc (.cells #[.int .i64 h.kind, .int .i64 h.op, .int .i64 h.num, .string ⟨h.text.toArray⟩, .int .i64 h.ref.row, .int .i64 h.ref.col, .bool h.ref.pr, .bool h.ref.pc, .int .i64 h.to.row, .int .i64 h.to.col, .bool h.to.pr, .bool h.to.pc, .int .i64 h.fn, (.slice ka ks.len kc)] 34) := ⟨_, rfl⟩
 have RQ1 : Hid (Rq b Lx W.heap.size h ks ka ks.len kc cl W (upc cl W.heap.size 9) S ps cs w1) := Lib.hid (by rw [hw1]; exact Rq.start HL.out hb tv)
 have HV : Hid (valT h ks = conF ⟨3, 0, h.text⟩) := Lib.hid (by unfold valT valF; simp only [q]; rfl)
 have HQ := Lib.hid q
 clear q
 go_enter Tryz.func22, Tryz.ntmps22
 go_upto_region 1 with (fail)
 rw [← hw1]
 clear hw1
 generalize W.heap.size = Bt at RQ1 ⊢
 have c0 := RQ1.out.nd.facts.c0
 have c13 := RQ1.out.nd.facts.c13
 have c3 := RQ1.out.nd.facts.c3
 try simp only [Nat.zero_add] at c0 c13 c3
 rw [HQ.out] at c0
 go_wp2_with fail
 refine (refCon_any 3 0 h.text w1 (Lib.hid RQ1.out.ly) RQ1.out.hb (by omega) (by omega)).mono ?_
 rintro e w2 ⟨rfl, cl2, s2, f2, b2⟩
 have RQ2 := Lib.hid (RQ1.out.go s2 f2 b2)
 clear RQ1 s2 f2 b2 c0 c13 c3 
 go_wp2_with fail
 exact bodyPost_end (results_none rfl _ _ _) rfl ⟨rfl, by rw [HV.out]; exact RQ2.out.toLd⟩
theorem rval3_any {h : Hd} {ks : Trees} (q : h.kind = 3) : ValR h ks := by
 intro b Lx cl S ps cs W ka kl kc HL hb tv hf hr0
 have hr := hr0
 obtain ⟨hr1, hr2⟩ := hr
 have hfv : fitsV h ks.len = true ∧ allFits ks = true := by unfold treeFits at hf; simpa using hf
 have hfa := Lib.hid hfv.2
 obtain rfl : kl = ks.len := tv.len
 obtain ⟨w1, hw1⟩ : ∃ w1, w1 = W.alloc (.cells #[.int .i64 h.kind, .int .i64 h.op, .int .i64 h.num, .string ⟨h.text.toArray⟩, .int .i64 h.ref.row, .int .i64 h.ref.col, .bool h.ref.pr, .bool h.ref.pc, .int .i64 h.to.row, .int .i64 h.to.col, .bool h.to.pr, .bool h.to.pc, .int .i64 h.fn, (.slice ka ks.len kc)] 34) := ⟨_, rfl⟩
 have RQ1 : Hid (Rq b Lx W.heap.size h ks ka ks.len kc cl W (upc cl W.heap.size 9) S ps cs w1) := Lib.hid (by rw [hw1]; exact Rq.start HL.out hb tv)
 have HV : Hid (valT h ks = conF ⟨2, h.num, []⟩) := Lib.hid (by unfold valT valF; simp only [q]; rfl)
 have HQ := Lib.hid q
 clear q
 go_enter Tryz.func22, Tryz.ntmps22
 go_upto_region 1 with (fail)
 rw [← hw1]
 clear hw1
 generalize W.heap.size = Bt at RQ1 ⊢
 have c0 := RQ1.out.nd.facts.c0
 have c13 := RQ1.out.nd.facts.c13
 have c2 := RQ1.out.nd.facts.c2
 try simp only [Nat.zero_add] at c0 c13 c2
 rw [HQ.out] at c0
 go_wp2_with fail
 refine (refCon_any 2 h.num [] w1 (Lib.hid RQ1.out.ly) RQ1.out.hb (by omega) (by omega)).mono ?_
 rintro e w2 ⟨rfl, cl2, s2, f2, b2⟩
 have RQ2 := Lib.hid (RQ1.out.go s2 f2 b2)
 clear RQ1 s2 f2 b2 c0 c13 c2 
 go_wp2_with fail
 exact bodyPost_end (results_none rfl _ _ _) rfl ⟨rfl, by rw [HV.out]; exact RQ2.out.toLd⟩
theorem rval4_any {h : Hd} {ks : Trees} (q : h.kind = 4) : ValR h ks := by
 intro b Lx cl S ps cs W ka kl kc HL hb tv hf hr0
 have hr := hr0
 obtain ⟨hr1, hr2⟩ := hr
 have hfv : fitsV h ks.len = true ∧ allFits ks = true := by unfold treeFits at hf; simpa using hf
 have hfa := Lib.hid hfv.2
 obtain rfl : kl = ks.len := tv.len
 obtain ⟨w1, hw1⟩ : ∃ w1, w1 = W.alloc (.cells #[.int .i64 h.kind, .int .i64 h.op, .int .i64 h.num, .string ⟨h.text.toArray⟩, .int .i64 h.ref.row, .int .i64 h.ref.col, .bool h.ref.pr, .bool h.ref.pc, .int .i64 h.to.row, .int .i64 h.to.col, .bool h.to.pr, .bool h.to.pc, .int .i64 h.fn, (.slice ka ks.len kc)] 34) := ⟨_, rfl⟩
 have RQ1 : Hid (Rq b Lx W.heap.size h ks ka ks.len kc cl W (upc cl W.heap.size 9) S ps cs w1) := Lib.hid (by rw [hw1]; exact Rq.start HL.out hb tv)
 have HV : Hid (valT h ks = errF h.num) := Lib.hid (by unfold valT valF; simp only [q]; rfl)
 have HQ := Lib.hid q
 clear q
 go_enter Tryz.func22, Tryz.ntmps22
 go_upto_region 1 with (fail)
 rw [← hw1]
 clear hw1
 generalize W.heap.size = Bt at RQ1 ⊢
 have c0 := RQ1.out.nd.facts.c0
 have c13 := RQ1.out.nd.facts.c13
 have c2 := RQ1.out.nd.facts.c2
 try simp only [Nat.zero_add] at c0 c13 c2
 rw [HQ.out] at c0
 go_wp2_with fail
 refine (fault_any h.num w1 (Lib.hid RQ1.out.ly) RQ1.out.hb (by omega) (by omega)).mono ?_
 rintro e w2 ⟨rfl, cl2, s2, f2, b2⟩
 have RQ2 := Lib.hid (RQ1.out.go s2 f2 b2)
 clear RQ1 s2 f2 b2 c0 c13 c2 
 go_wp2_with fail
 exact bodyPost_end (results_none rfl _ _ _) rfl ⟨rfl, by rw [HV.out]; exact RQ2.out.toLd⟩
theorem rval5_any {h : Hd} {ks : Trees} (q : h.kind = 5) : ValR h ks := by
 intro b Lx cl S ps cs W ka kl kc HL hb tv hf hr0
 have hr := hr0
 obtain ⟨hr1, hr2⟩ := hr
 have hfv : fitsV h ks.len = true ∧ allFits ks = true := by unfold treeFits at hf; simpa using hf
 have hfa := Lib.hid hfv.2
 obtain rfl : kl = ks.len := tv.len
 obtain ⟨w1, hw1⟩ : ∃ w1, w1 = W.alloc (.cells #[.int .i64 h.kind, .int .i64 h.op, .int .i64 h.num, .string ⟨h.text.toArray⟩, .int .i64 h.ref.row, .int .i64 h.ref.col, .bool h.ref.pr, .bool h.ref.pc, .int .i64 h.to.row, .int .i64 h.to.col, .bool h.to.pr, .bool h.to.pc, .int .i64 h.fn, (.slice ka ks.len kc)] 34) := ⟨_, rfl⟩
 have RQ1 : Hid (Rq b Lx W.heap.size h ks ka ks.len kc cl W (upc cl W.heap.size 9) S ps cs w1) := Lib.hid (by rw [hw1]; exact Rq.start HL.out hb tv)
 have HV : Hid (valT h ks = insF ⟨2, h.ref.row, h.ref.col, 0, 0, []⟩) := Lib.hid (by unfold valT valF; simp only [q]; rfl)
 have HQ := Lib.hid q
 clear q
 go_enter Tryz.func22, Tryz.ntmps22
 go_upto_region 1 with (fail)
 rw [← hw1]
 clear hw1
 generalize W.heap.size = Bt at RQ1 ⊢
 have c0 := RQ1.out.nd.facts.c0
 have c13 := RQ1.out.nd.facts.c13
 have c4 := RQ1.out.nd.facts.c4
 have d5 := RQ1.out.nd.facts.d5
 try simp only [Nat.zero_add] at c0 c13 c4 d5
 simp only [Nat.reduceAdd] at d5
 rw [HQ.out] at c0
 go_wp2_with fail
 refine (refPut_any 2 h.ref.row h.ref.col 0 0 w1 (Lib.hid RQ1.out.ly) RQ1.out.hb (by omega)).mono ?_
 rintro e w2 ⟨rfl, cl2, s2, f2, b2⟩
 have RQ2 := Lib.hid (RQ1.out.go s2 f2 b2)
 clear RQ1 s2 f2 b2 c0 c13 c4 d5 
 go_wp2_with fail
 exact bodyPost_end (results_none rfl _ _ _) rfl ⟨rfl, by rw [HV.out]; exact RQ2.out.toLd⟩
theorem rval6_any {h : Hd} {ks : Trees} (q : h.kind = 6) : ValR h ks := by
 intro b Lx cl S ps cs W ka kl kc HL hb tv hf hr0
 have hr := hr0
 obtain ⟨hr1, hr2⟩ := hr
 have hfv : fitsV h ks.len = true ∧ allFits ks = true := by unfold treeFits at hf; simpa using hf
 have hfa := Lib.hid hfv.2
 obtain rfl : kl = ks.len := tv.len
 obtain ⟨w1, hw1⟩ : ∃ w1, w1 = W.alloc (.cells #[.int .i64 h.kind, .int .i64 h.op, .int .i64 h.num, .string ⟨h.text.toArray⟩, .int .i64 h.ref.row, .int .i64 h.ref.col, .bool h.ref.pr, .bool h.ref.pc, .int .i64 h.to.row, .int .i64 h.to.col, .bool h.to.pr, .bool h.to.pc, .int .i64 h.fn, (.slice ka ks.len kc)] 34) := ⟨_, rfl⟩
 have RQ1 : Hid (Rq b Lx W.heap.size h ks ka ks.len kc cl W (upc cl W.heap.size 9) S ps cs w1) := Lib.hid (by rw [hw1]; exact Rq.start HL.out hb tv)
 have HV : Hid (valT h ks = errF 4) := Lib.hid (by unfold valT valF; simp only [q]; rfl)
 have HQ := Lib.hid q
 clear q
 go_enter Tryz.func22, Tryz.ntmps22
 go_upto_region 1 with (fail)
 rw [← hw1]
 clear hw1
 generalize W.heap.size = Bt at RQ1 ⊢
 have c0 := RQ1.out.nd.facts.c0
 have c13 := RQ1.out.nd.facts.c13
 try simp only [Nat.zero_add] at c0 c13
 rw [HQ.out] at c0
 go_wp2_with fail
 refine (fault_any 4 w1 (Lib.hid RQ1.out.ly) RQ1.out.hb (by omega) (by omega)).mono ?_
 rintro e w2 ⟨rfl, cl2, s2, f2, b2⟩
 have RQ2 := Lib.hid (RQ1.out.go s2 f2 b2)
 clear RQ1 s2 f2 b2 c0 c13  
 go_wp2_with fail
 exact bodyPost_end (results_none rfl _ _ _) rfl ⟨rfl, by rw [HV.out]; exact RQ2.out.toLd⟩
theorem rval7_any {h : Hd} {ks : Trees} (ih : AllT VR ks) (q : h.kind = 7) : ValR h ks := by
 intro b Lx cl S ps cs W ka kl kc HL hb tv hf hr0
 have hr := hr0
 obtain ⟨hr1, hr2⟩ := hr
 have hfv : fitsV h ks.len = true ∧ allFits ks = true := by unfold treeFits at hf; simpa using hf
 have hfa := Lib.hid hfv.2
 obtain rfl : kl = ks.len := tv.len
 have hl1 : ks.len = 1 := (node_ok hfv.1).c7 q
 obtain ⟨kb, ko, h0, k0, r0, ka0, kl0, kc0, rfl, K0'⟩ := tv.kid 0 (by omega)
 have KW0 := Lib.hid K0'
 have hn0 := K0'.kid.nodes
 simp only [Nat.zero_add] at hn0
 rw [tdrop_nodes] at hn0
 have hnt0 := kid_nth K0'.kid
 clear K0'
 obtain ⟨w1, hw1⟩ : ∃ w1, w1 = W.alloc (.cells #[.int .i64 h.kind, .int .i64 h.op, .int .i64 h.num, .string ⟨h.text.toArray⟩, .int .i64 h.ref.row, .int .i64 h.ref.col, .bool h.ref.pr, .bool h.ref.pc, .int .i64 h.to.row, .int .i64 h.to.col, .bool h.to.pr, .bool h.to.pc, .int .i64 h.fn, (.slice (some ⟨kb, ko, none⟩) ks.len kc)] 34) := ⟨_, rfl⟩
 have RQ1 : Hid (Rq b Lx W.heap.size h ks (some ⟨kb, ko, none⟩) ks.len kc cl W (upc cl W.heap.size 9) S ps cs w1) := Lib.hid (by rw [hw1]; exact Rq.start HL.out hb tv)
 have IH := Lib.hid ih
 have HV : Hid (valT h ks ps.length cs = seqF (valT h0 k0) (insF ⟨4, h.op, 0, 0, 0, []⟩) ps.length cs) := Lib.hid (by unfold valT valF; simp only [q]; rw [hnt0]; rfl)
 have hx := fb_valT h0 k0 ps.length cs
 have hl2 : (0 : Int) < (ks.len : Int) := by omega
 clear hnt0 hl1
 have HQ := Lib.hid q
 clear q
 go_enter Tryz.func22, Tryz.ntmps22
 go_upto_region 1 with (fail)
 rw [← hw1]
 clear hw1
 generalize W.heap.size = Bt at RQ1 ⊢
 have c0 := RQ1.out.nd.facts.c0
 have c13 := RQ1.out.nd.facts.c13
 try simp only [Nat.zero_add] at c0 c13
 rw [HQ.out] at c0
 have KX0 := KW0.out.step RQ1.out.be
 have ND0 : Hid (NodeAt w1 kb (ko) h0 (.slice ka0 kl0 kc0)) := Lib.hid (by have := KX0.nd; rwa [show ko + 0 * 14 = ko by omega] at this)
 go_wp2_with (refine cpLoad ND0.out rfl rfl rfl ?_)
 refine ((KW0.out.kid.all IH.out).1 b Lx _ S _ _ w1 ka0 kl0 kc0 (Lib.hid RQ1.out.ly) RQ1.out.hb KX0.tv (KW0.out.kid.fits hfa.out) ⟨by omega, by omega⟩).mono ?_
 rintro e w2 ⟨rfl, cl2, s2, f2, b2⟩
 have RQ2 := Lib.hid (RQ1.out.go s2 f2 b2)
 clear RQ1 s2 f2 b2 KX0 ND0 
 clear c0 c13
 have c1 := RQ2.out.nd.facts.c1
 try simp only [Nat.zero_add] at c1
 go_wp2_with fail
 refine (refPut_any 4 h.op 0 0 0 w2 (Lib.hid RQ2.out.ly) RQ2.out.hb (by rw [List.length_append]; omega)).mono ?_
 rintro e w3 ⟨rfl, cl3, s3, f3, b3⟩
 have RQ3 := Lib.hid (RQ2.out.go s3 f3 b3)
 clear RQ2 s3 f3 b3 c1 
 go_wp2_with fail
 exact bodyPost_end (results_none rfl _ _ _) rfl ⟨rfl, by rw [HV.out]; have q := RQ3.out.toLd; rw [List.append_assoc] at q; exact q⟩
theorem IntR.one {cl : Nat → Nat} {W : World} (o : Nat) : IntR (upc cl W.heap.size 7) (W.alloc (.cells #[.int .i64 (o : Int)] 3)) (some ⟨W.heap.size, 0, none⟩) [o] := ⟨fun i x hi => by
 cases i with
 | zero =>
  simp only [List.getElem?_cons_zero, Option.some.injEq] at hi
  subst hi
  exact ⟨W.heap.size, rfl, (cells_of_block (heap_alloc_new W _) 0).trans rfl, upc_ge (Nat.le_refl _), by simp⟩
 | succ i => simp at hi⟩
theorem rval8_any {h : Hd} {ks : Trees} (ih : AllT VR ks) (q : h.kind = 8) : ValR h ks := by
 intro b Lx cl S ps cs W ka kl kc HL hb tv hf hr0
 have hr := hr0
 obtain ⟨hr1, hr2⟩ := hr
 have hfv : fitsV h ks.len = true ∧ allFits ks = true := by unfold treeFits at hf; simpa using hf
 have hfa := Lib.hid hfv.2
 obtain rfl : kl = ks.len := tv.len
 have hl1 : ks.len = 2 := (node_ok hfv.1).c8 q
 obtain ⟨kb, ko, h0, k0, r0, ka0, kl0, kc0, rfl, K0'⟩ := tv.kid 0 (by omega)
 have KW0 := Lib.hid K0'
 have hn0 := K0'.kid.nodes
 simp only [Nat.zero_add] at hn0
 rw [tdrop_nodes] at hn0
 have hnt0 := kid_nth K0'.kid
 clear K0'
 obtain ⟨kb', ko', h1, k1, r1, ka1, kl1, kc1, ea, K1'⟩ := tv.kid 1 (by omega)
 simp only [Option.some.injEq, Addr.mk.injEq, and_true] at ea
 obtain ⟨rfl, rfl⟩ := ea
 have KW1 := Lib.hid K1'
 have hn1 := K1'.kid.nodes
 simp only [Nat.reduceAdd] at hn1
 have hnt1 := kid_nth K1'.kid
 clear K1'
 obtain ⟨w1, hw1⟩ : ∃ w1, w1 = W.alloc (.cells #[.int .i64 h.kind, .int .i64 h.op, .int .i64 h.num, .string ⟨h.text.toArray⟩, .int .i64 h.ref.row, .int .i64 h.ref.col, .bool h.ref.pr, .bool h.ref.pc, .int .i64 h.to.row, .int .i64 h.to.col, .bool h.to.pr, .bool h.to.pc, .int .i64 h.fn, (.slice (some ⟨kb, ko, none⟩) ks.len kc)] 34) := ⟨_, rfl⟩
 have RQ1 : Hid (Rq b Lx W.heap.size h ks (some ⟨kb, ko, none⟩) ks.len kc cl W (upc cl W.heap.size 9) S ps cs w1) := Lib.hid (by rw [hw1]; exact Rq.start HL.out hb tv)
 have IH := Lib.hid ih
 have HV : Hid (valT h ks = seqF (valT h0 k0) (headF (fun _ => seqF (valT h1 k1) (insF ⟨5, h.op, 0, 0, 0, []⟩)) (fun e => ⟨7, e, 0, 0, 0, []⟩))) := Lib.hid (by unfold valT valF; simp only [q]; rw [hnt0, hnt1]; rfl)
 have hx := fb_valT h0 k0 ps.length cs
 generalize hA : valT h0 k0 ps.length cs = A at hx
 have HA := Lib.hid hA
 obtain ⟨psA, hpsA⟩ : ∃ psA, psA = ps ++ A.1 := ⟨_, rfl⟩
 have HPA := Lib.hid hpsA
 have hx1 := fb_valT h1 k1 (psA ++ [(⟨7, 0, 0, 0, 0, []⟩ : PI)]).length A.2
 generalize hB : valT h1 k1 (psA ++ [(⟨7, 0, 0, 0, 0, []⟩ : PI)]).length A.2 = B at hx1
 have HB := Lib.hid hB
 have hlA : psA.length = ps.length + A.1.length := by rw [hpsA, List.length_append]
 have hlA1 : (psA ++ [(⟨7, 0, 0, 0, 0, []⟩ : PI)]).length = psA.length + 1 := by simp only [List.length_append, List.length_singleton]
 have hlB : (psA ++ [(⟨7, 0, 0, 0, 0, []⟩ : PI)] ++ B.1).length = psA.length + 1 + B.1.length := by simp only [List.length_append, List.length_singleton]
 have hlC : (psA ++ [(⟨7, 0, 0, 0, 0, []⟩ : PI)] ++ B.1 ++ [(⟨5, h.op, 0, 0, 0, []⟩ : PI)]).length = psA.length + 1 + B.1.length + 1 := by simp only [List.length_append, List.length_singleton]
 have HLA := Lib.hid hlA; have HLA1 := Lib.hid hlA1; have HLB := Lib.hid hlB; have HLC := Lib.hid hlC
 have hl2 : (0 : Int) < (ks.len : Int) := by omega
 have hl3 : (1 : Int) < (ks.len : Int) := by omega
 clear hnt0 hnt1 hA hB hpsA hlA hlA1 hlB hlC hl1
 have HQ := Lib.hid q
 clear q
 go_enter Tryz.func22, Tryz.ntmps22
 go_upto_region 1 with (fail)
 rw [← hw1]
 clear hw1
 generalize W.heap.size = Bt at RQ1 ⊢
 have c0 := RQ1.out.nd.facts.c0
 have c13 := RQ1.out.nd.facts.c13
 try simp only [Nat.zero_add] at c0 c13
 rw [HQ.out] at c0
 have KX0 := KW0.out.step RQ1.out.be
 have ND0 : Hid (NodeAt w1 kb (ko) h0 (.slice ka0 kl0 kc0)) := Lib.hid (by have := KX0.nd; rwa [show ko + 0 * 14 = ko by omega] at this)
 go_wp2_with (refine cpLoad ND0.out rfl rfl rfl ?_)
 refine ((KW0.out.kid.all IH.out).1 b Lx _ S _ _ w1 ka0 kl0 kc0 (Lib.hid RQ1.out.ly) RQ1.out.hb KX0.tv (KW0.out.kid.fits hfa.out) ⟨by omega, by omega⟩).mono ?_
 rintro e w2 ⟨rfl, cl2, s2, f2, b2⟩
 have RQ2 := Lib.hid (RQ1.out.go s2 f2 b2)
 clear RQ1 s2 f2 b2 KX0 ND0 
 rw [HA.out, ← HPA.out] at RQ2
 clear c0 c13
 go_wp2_with fail
 refine (refPut_any 7 0 0 0 0 w2 (Lib.hid RQ2.out.ly) RQ2.out.hb (by rw [HLA.out]; omega)).mono ?_
 rintro e w3 ⟨rfl, cl3, s3, f3, b3⟩
 have RQ3 := Lib.hid (RQ2.out.go s3 f3 b3)
 clear RQ2 s3 f3 b3  
 have KX1 := KW1.out.step RQ3.out.be
 have ND1 : Hid (NodeAt w3 kb (ko + 14) h1 (.slice ka1 kl1 kc1)) := Lib.hid (by have := KX1.nd; rwa [show ko + 1 * 14 = ko + 14 by omega] at this)
 go_wp2_with (refine cpLoad ND1.out rfl rfl rfl ?_)
 refine ((KW1.out.kid.all IH.out).1 b Lx _ S _ _ w3 ka1 kl1 kc1 (Lib.hid RQ3.out.ly) RQ3.out.hb KX1.tv (KW1.out.kid.fits hfa.out) ⟨by have := HLA.out; rw [HLA1.out]; omega, by omega⟩).mono ?_
 rintro e w4 ⟨rfl, cl4, s4, f4, b4⟩
 have RQ4 := Lib.hid (RQ3.out.go s4 f4 b4)
 clear RQ3 s4 f4 b4 KX1 ND1 
 rw [HB.out] at RQ4
 have c1 := RQ4.out.nd.facts.c1
 try simp only [Nat.zero_add] at c1
 go_wp2_with fail
 refine (refPut_any 5 h.op 0 0 0 w4 (Lib.hid RQ4.out.ly) RQ4.out.hb (by have := HLA.out; rw [HLB.out]; omega)).mono ?_
 rintro e w5 ⟨rfl, cl5, s5, f5, b5⟩
 have RQ5 := Lib.hid (RQ4.out.go s5 f5 b5)
 clear RQ4 s5 f5 b5 c1 
 go_upto_region 24 with (fail)
 obtain ⟨pl, hpl⟩ : ∃ pl, pl = psA.length := ⟨_, rfl⟩
 rw [← hpl]
 have HPL := Lib.hid hpl
 clear hpl
 go_wp2_with fail
 have k6 : Below w5.heap.size w5 (w5.alloc (.cells #[.int .i64 (pl : Int)] 3)) := ext_alloc (Below.refl _ _) _
 have RQ6 := Lib.hid (RQ5.out.kept k6 7)
 refine (cpClose_any [pl] (w5.alloc (.cells #[.int .i64 (pl : Int)] 3)) (Lib.hid RQ6.out.ly) RQ6.out.hb (by have := HLA.out; rw [HLC.out]; omega) (by simp) (IntR.one pl) (fun i hi => by rw [List.mem_singleton] at hi; rw [hi, HPL.out, HLC.out]; omega)).mono ?_
 rintro e w7 ⟨rfl, cl7, s7, f7, b7⟩
 have RQ7 := Lib.hid (RQ6.out.go s7 f7 b7)
 clear RQ5 RQ6 s7 f7 b7 k6
 go_wp2_with fail
 have q : Ld b cl S Lx 59 [] W (ps ++ (valT h ks ps.length cs).1) (valT h ks ps.length cs).2 w7 := by
  have q := RQ7.out.toLd
  have e0 : pats [pl] ((psA ++ [(⟨7, 0, 0, 0, 0, []⟩ : PI)] ++ B.1 ++ [(⟨5, h.op, 0, 0, 0, []⟩ : PI)]).length : Int) (psA ++ [(⟨7, 0, 0, 0, 0, []⟩ : PI)] ++ B.1 ++ [⟨5, h.op, 0, 0, 0, []⟩]) = patA (psA ++ [(⟨7, 0, 0, 0, 0, []⟩ : PI)] ++ B.1 ++ [⟨5, h.op, 0, 0, 0, []⟩]) pl ((psA ++ [(⟨7, 0, 0, 0, 0, []⟩ : PI)] ++ B.1 ++ [(⟨5, h.op, 0, 0, 0, []⟩ : PI)]).length : Int) := rfl
  rw [e0, HLC.out, HPL.out, List.append_assoc _ B.1, patA_app _ _ _ _ (by rw [HLA1.out]; omega), patA_last] at q
  have e1 : headF (fun _ => seqF (valT h1 k1) (insF ⟨5, h.op, 0, 0, 0, []⟩)) (fun e => ⟨7, e, 0, 0, 0, []⟩) psA.length A.2 = (⟨7, ((psA.length + 1 + B.1.length + 1 : Nat) : Int), 0, 0, 0, []⟩ :: (B.1 ++ [⟨5, h.op, 0, 0, 0, []⟩]), B.2) := by
   have hB := HB.out
   rw [HLA1.out] at hB
   simp only [headF, seqF, insF, hB, List.length_cons, List.length_nil, List.length_append, Nat.zero_add, List.singleton_append]
   simp only [Nat.add_assoc]
  rw [HV.out, seqF, HA.out, ← HLA.out, e1]
  rw [HPA.out] at q ⊢
  simpa only [List.append_assoc, List.singleton_append, List.cons_append, List.nil_append] using q
 exact bodyPost_end (results_none rfl _ _ _) rfl ⟨rfl, q⟩
end Go.Proofs.YtlmpiobdgkmmgaaGreatDoor
