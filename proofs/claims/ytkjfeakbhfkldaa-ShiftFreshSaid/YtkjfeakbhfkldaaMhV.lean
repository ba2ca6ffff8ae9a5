/- Shifting: how many nodes of a tree speak of places. -/
import Derived.Test.YtkjfeakbhfkldaaMhN
import Derived.Test.YtkjfeakbhfkldaaMhC
import Derived.Test.YtkjfeakbhfkldaaTreeJ
import Derived.Deep.RegionHeld3
import Derived.BigQuiet
import Derived.Test.YtkjfeakbhfkldaaMhD
import Derived.Test.YtkjfeakbhfkldaaMhF
import Derived.Test.YtkjfeakbhfkldaaMhM
namespace Go.Proofs.Ytkjfeakbhfkldaa
open Go.RowKit

def Hd.speaks (h : Hd) : Nat := if h.kind = 5 ∨ h.kind = 6 then 1 else 0
def Trees.refs : Trees → Nat
  | .nil => 0
  | .cons h k r => h.speaks + k.refs + r.refs
theorem speaks_le (h : Hd) : h.speaks ≤ 1 := by unfold Hd.speaks; split <;> omega
theorem refs_le : ∀ ks : Trees, ks.refs ≤ ks.nodes
  | .nil => Nat.le_refl _
  | .cons h k r => by
    have := refs_le k; have := refs_le r; have := speaks_le h
    simp only [Trees.refs, Trees.nodes]; omega
def RRf (h : Hd) (ks : Trees) : Prop := ∀ (w : World) (B : Nat) (ka : Option Addr) (kl kc : Nat), B ≤ w.heap.size → TreeV w B h ks ka kl → ks.nodes ≤ 100000 →
  Calls Try.prog 40 #[.agg #[.int .i64 h.kind, .int .i64 h.op, .int .i64 h.num, .string ⟨h.text.toArray⟩, .int .i64 h.ref.row, .int .i64 h.ref.col, .bool h.ref.pr, .bool h.ref.pc, .int .i64 h.to.row, .int .i64 h.to.col, .bool h.to.pr, .bool h.to.pc, .int .i64 h.fn, .slice ka kl kc]] w fun e w' => e = .returned (.int .i64 ((h.speaks + ks.refs : Nat) : Int)) ∧ Below w.heap.size w w'
def RfRel (nd : Hd) (ks : Trees) (kl kc B : Nat) (ka : Option Addr) (w wr : World) (v i : Value) : Prop :=
  ∃ (j : Nat) (x : Nat) (rest : Trees), i = .int .i64 j ∧ v = .int .i64 (x : Int) ∧ Hid (j + rest.len = kl) ∧ RowIn wr B rest ka j ∧ AllT RRf rest ∧ Below (w.alloc (.cells #[.int .i64 nd.kind, .int .i64 nd.op, .int .i64 nd.num, .string ⟨nd.text.toArray⟩, .int .i64 nd.ref.row, .int .i64 nd.ref.col, .bool nd.ref.pr, .bool nd.ref.pc, .int .i64 nd.to.row, .int .i64 nd.to.col, .bool nd.to.pr, .bool nd.to.pc, .int .i64 nd.fn, .slice ka kl kc] 29)).heap.size (w.alloc (.cells #[.int .i64 nd.kind, .int .i64 nd.op, .int .i64 nd.num, .string ⟨nd.text.toArray⟩, .int .i64 nd.ref.row, .int .i64 nd.ref.col, .bool nd.ref.pr, .bool nd.ref.pc, .int .i64 nd.to.row, .int .i64 nd.to.col, .bool nd.to.pr, .bool nd.to.pc, .int .i64 nd.fn, .slice ka kl kc] 29)) wr ∧ x ≤ 200000 ∧ rest.nodes ≤ 100000 ∧ Hid (x + rest.refs = nd.speaks + ks.refs)

set_option maxRecDepth 100000 in
set_option maxHeartbeats 4000000 in
theorem refs_step (nd : Hd) (ks : Trees) (ih : AllT RRf ks) : RRf nd ks := by
  intro w B ka kl kc hB tv hn
  have hm := tv.max
  have hkl : kl ≤ 100000 := by rw [tv.len]; exact Nat.le_trans (len_le_nodes ks) hn
  have b0 := ext_alloc (Below.refl _ w) (.cells #[.int .i64 nd.kind, .int .i64 nd.op, .int .i64 nd.num, .string ⟨nd.text.toArray⟩, .int .i64 nd.ref.row, .int .i64 nd.ref.col, .bool nd.ref.pr, .bool nd.ref.pc, .int .i64 nd.to.row, .int .i64 nd.to.col, .bool nd.to.pr, .bool nd.to.pc, .int .i64 nd.fn, .slice ka kl kc] 29)
  have B0 := Lib.hid b0
  have HT := Lib.hid (tv.kept (b0.mono hB) (Nat.le_refl _))
  have HI := Lib.hid ih
  have HL := Lib.hid tv.len
  have HN := Lib.hid hn
  have rl := refs_le ks
  have sl := speaks_le nd
  have RL := Lib.hid (show nd.speaks + ks.refs ≤ 100001 by omega)
  clear ih tv b0 hn rl sl
  obtain ⟨s, hs⟩ : ∃ s : Nat, s = nd.speaks := ⟨_, rfl⟩
  have HS := Lib.hid hs
  have kk : ((nd.kind == 5) = true ∧ s = 1) ∨ ((nd.kind == 5) = false ∧ (nd.kind == 6) = true ∧ s = 1) ∨ ((nd.kind == 5) = false ∧ (nd.kind == 6) = false ∧ s = 0) := by
    by_cases k5 : nd.kind = 5
    · exact .inl ⟨by simp [k5], by rw [hs]; simp [Hd.speaks, k5]⟩
    · by_cases k6 : nd.kind = 6
      · exact .inr (.inl ⟨by simp [k5], by simp [k6], by rw [hs]; simp [Hd.speaks, k6]⟩)
      · exact .inr (.inr ⟨by simp [k5], by simp [k6], by rw [hs]; simp [Hd.speaks, k5, k6]⟩)
  clear hs
  rcases kk with ⟨k5, rfl⟩ | ⟨k5, k6, rfl⟩ | ⟨k5, k6, rfl⟩
  all_goals
    go_enter Try.func40, Try.ntmps40
    go_wp2_with fail
    try clear k6
    clear k5
    go_loopw [3, 4] (fun v i wr => RfRel nd ks kl kc B ka w wr v i) (fun _ i _ => kl - (intOf i).toNat)
    case atStart =>
      first
        | exact ⟨0, 1, ks, rfl, rfl, Lib.hid (by have := HL.out; omega), HT.out.row, HI.out, Below.refl _ _, by omega, HN.out, Lib.hid (by have := HS.out; omega)⟩
        | exact ⟨0, 0, ks, rfl, rfl, Lib.hid (by have := HL.out; omega), HT.out.row, HI.out, Below.refl _ _, by omega, HN.out, Lib.hid (by have := HS.out; omega)⟩
    case round =>
      obtain ⟨j, x, rest, rfl, rfl, HJ, hrow, hall, hbel, hx, hno, HX⟩ := hrel
      obtain ⟨hz, cb⟩ := kept_block hbel
      have BW := Lib.hid (B0.out.trans (hbel.mono B0.out.size))
      have HB := Lib.hid hbel
      have hlen := HJ.out
      by_cases hlt : j < kl
      · obtain ⟨h', k', r', rfl⟩ := trees_cons (rest := rest) (by omega)
        obtain ⟨b1, off, ka', kl', kc', rfl, hb1, N1, tv1⟩ := hrow.head
        obtain ⟨hl1, d0, d1, d2, d3, d4, d5, d6, d7, d8, d9, d10, d11, d12, d13, y5, y6, y7, y9, y10, y11⟩ := N1.facts
        have hno1 : k'.nodes ≤ 100000 := by simp only [Trees.nodes] at hno; omega
        have hno2 : r'.nodes ≤ 100000 := by simp only [Trees.nodes] at hno; omega
        have q1 := speaks_le h'
        have q2 := refs_le k'
        obtain ⟨z, hz'⟩ : ∃ z : Nat, z = h'.speaks + k'.refs := ⟨_, rfl⟩
        have CC := Lib.hid (hall.1 wr B ka' kl' kc' (by omega) tv1 hno1)
        rw [← hz'] at CC
        have hzz : z ≤ 100001 := by omega
        have HA := Lib.hid hall.2; have HR := Lib.hid hrow.2
        have hji : (j : Int) < (kl : Int) := by omega
        have hxx : x + z + r'.refs = nd.speaks + ks.refs := by have := HX.out; simp only [Trees.refs] at this; omega
        have HXX := Lib.hid hxx
        have hxz : x + z ≤ 200000 := by have := RL.out; omega
        clear y5 y6 y7 y9 y10 y11 hlen hall hrow N1 tv1 hbel q1 q2 hz' hxx hno
        go_wp2_with fail
        refine CC.out.mono ?_
        rintro e w2 ⟨rfl, b2⟩
        have HR2 := Lib.hid (HR.out.kept (b2.mono (by omega)) (Nat.le_refl _))
        have B2 := Lib.hid (HB.out.trans (b2.mono HB.out.size))
        have HJ2 := Lib.hid (show (j + 1) + r'.len = kl by have := HJ.out; simp only [Trees.len] at this; omega)
        clear b2 cb d0 d1 d2 d3 d4 d5 d6 d7 d8 d9 d10 d11 d12 d13
        go_wp2
        exact ⟨⟨j + 1, x + z, r', by go_num, by go_num, HJ2, HR2.out, HA.out, B2.out, hxz, hno2, HXX⟩, by simp [intOf]; have := HJ2.out; omega⟩
      · have hz : rest.len = 0 := by omega
        obtain rfl := trees_nil hz
        have hxe : (x : Int) = ((nd.speaks + ks.refs : Nat) : Int) := by have := HX.out; simp only [Trees.refs] at this; omega
        have HXE := Lib.hid hxe
        clear hxe
        go_wp2
        go_ret
        exact ⟨by rw [HXE.out]; rfl, BW.out⟩
theorem refs_any (h : Hd) (ks : Trees) : RRf h ks := refs_step h ks (allT refs_step ks)

/-- Does a node speak of a place, or is it the error that takes its place? -/
def Hd.gone (h : Hd) : Bool := decide (h.kind = 5) || decide (h.kind = 6) || (decide (h.kind = 4) && decide (h.num = 3))
def bareH (h : Hd) : Hd := if h.gone = true then lostH else h
def bareT : Trees → Trees
  | .nil => .nil
  | .cons h k r => .cons (bareH h) (if h.gone = true then .nil else bareT k) (bareT r)
def bareK (h : Hd) (ks : Trees) : Trees := if h.gone = true then .nil else bareT ks
theorem bareT_len : ∀ ks : Trees, (bareT ks).len = ks.len
  | .nil => rfl
  | .cons _ _ r => by simp [bareT, Trees.len, bareT_len r]
theorem bareT_app : ∀ a b : Trees, bareT (a.app b) = (bareT a).app (bareT b)
  | .nil, _ => rfl
  | .cons h k r, b => by simp [bareT, Trees.app, bareT_app r b]
theorem lostH_ok : lostH.ok := ⟨by simp [lostH], by simp [lostH, I64], by simp [lostH, I64], by simp [lostH, I64], by simp [lostH, I64], by simp [lostH, I64], by simp [lostH, I64], by simp [lostH, I64], by simp [lostH, I64]⟩
theorem bareH_ok {h : Hd} (ok : h.ok) : (bareH h).ok := by unfold bareH; split; exact lostH_ok; exact ok
def RBr (h : Hd) (ks : Trees) : Prop := ∀ (w : World) (B : Nat) (ka : Option Addr) (kl kc : Nat), B ≤ w.heap.size → TreeV w B h ks ka kl → ks.nodes ≤ 100000 →
  Calls Try.prog 38 #[.agg #[.int .i64 h.kind, .int .i64 h.op, .int .i64 h.num, .string ⟨h.text.toArray⟩, .int .i64 h.ref.row, .int .i64 h.ref.col, .bool h.ref.pr, .bool h.ref.pc, .int .i64 h.to.row, .int .i64 h.to.col, .bool h.to.pr, .bool h.to.pc, .int .i64 h.fn, .slice ka kl kc]] w fun e w' => ∃ xa xl xc, e = .returned (.agg #[.int .i64 (bareH h).kind, .int .i64 (bareH h).op, .int .i64 (bareH h).num, .string ⟨(bareH h).text.toArray⟩, .int .i64 (bareH h).ref.row, .int .i64 (bareH h).ref.col, .bool (bareH h).ref.pr, .bool (bareH h).ref.pc, .int .i64 (bareH h).to.row, .int .i64 (bareH h).to.col, .bool (bareH h).to.pr, .bool (bareH h).to.pc, .int .i64 (bareH h).fn, .slice xa xl xc]) ∧ Below w.heap.size w w' ∧ TreeX w' (fun b => b < B ∨ (w.heap.size ≤ b ∧ b < w'.heap.size)) (bareH h) (bareK h ks) xa xl
structure Bx2 (w : World) (A C : Obj) (W : World) : Prop where
  bel : Below w.heap.size w W
  b0 : W.heap[w.heap.size]? = some A
  b1 : W.heap[w.heap.size + 1]? = some C
theorem Bx2.lt {w W : World} {A C : Obj} (p : Bx2 w A C W) : w.heap.size + 1 < W.heap.size := lt_of_block p.b1
theorem Bx2.new (w : World) (A C : Obj) : Bx2 w A C ((w.alloc A).alloc C) := ⟨ext_alloc (ext_alloc (Below.refl _ w) A) C, heap_alloc2_old w A C, heap_alloc2_new w A C⟩
theorem Bx2.keep {w W W' : World} {A C : Obj} (p : Bx2 w A C W) (b : Below (w.heap.size + 2) W W') : Bx2 w A C W' := by
  exact ⟨p.bel.trans (b.mono (by omega)), (b.block _ (by omega)).trans p.b0, (b.block _ (by omega)).trans p.b1⟩
def OkL2 (w : World) (B : Nat) (l : Value) (W : World) (b : Nat) : Prop := b < W.heap.size ∧ l.ownBlock ≠ some b ∧ (b < B ∨ w.heap.size + 2 ≤ b)
def BRel (nd : Hd) (ks : Trees) (kl kc B : Nat) (ka : Option Addr) (w wr : World) (l i : Value) : Prop :=
  ∃ (j : Nat) (dn rest : Trees) (cs : List Value), i = .int .i64 j ∧ j = dn.len ∧ dn.app rest = ks ∧ RowIn wr B rest ka j ∧ AllT RBr rest ∧ rest.nodes ≤ 100000 ∧ Hid (Bx2 w (.cells #[.int .i64 nd.kind, .int .i64 nd.op, .int .i64 nd.num, .string ⟨nd.text.toArray⟩, .int .i64 nd.ref.row, .int .i64 nd.ref.col, .bool nd.ref.pr, .bool nd.ref.pc, .int .i64 nd.to.row, .int .i64 nd.to.col, .bool nd.to.pr, .bool nd.to.pc, .int .i64 nd.fn, .slice ka kl kc] 29) (.cells #[.int .i64 0, .int .i64 0, .int .i64 0, .string ⟨#[]⟩, .int .i64 0, .int .i64 0, .bool false, .bool false, .int .i64 0, .int .i64 0, .bool false, .bool false, .int .i64 0, .slice none 0 0] 29) wr) ∧ Hid (wr.ownsRow (w.heap.size + 2) 29 14 l dn.len cs) ∧ Hid (RdX wr (OkL2 w B l wr) (bareT dn) cs)

set_option maxRecDepth 100000 in
set_option maxHeartbeats 4000000 in
theorem bare_gone (nd : Hd) (ks : Trees) (hg : nd.gone = true) : RBr nd ks := by
  intro w B ka kl kc hB tv hn
  have hb : bareH nd = lostH := by rw [bareH, if_pos hg]
  have hk : bareK nd ks = .nil := by rw [bareK, if_pos hg]
  have HBH := Lib.hid hb; have HBK := Lib.hid hk
  have kk : (nd.kind == 5) = true ∨ ((nd.kind == 5) = false ∧ (nd.kind == 6) = true) ∨ ((nd.kind == 5) = false ∧ (nd.kind == 6) = false ∧ (nd.kind == 4) = true ∧ (nd.num == 3) = true) := by
    by_cases k5 : nd.kind = 5
    · exact .inl (by simp [k5])
    · by_cases k6 : nd.kind = 6
      · exact .inr (.inl ⟨by simp [k5], by simp [k6]⟩)
      · simp [Hd.gone, k5, k6] at hg
        exact .inr (.inr ⟨by simp [k5], by simp [k6], by simp [hg.1], by simp [hg.2]⟩)
  clear tv hn hg hb hk
  rcases kk with k5 | ⟨k5, k6⟩ | ⟨k5, k6, k4, n3⟩
  all_goals
    go_enter Try.func38, Try.ntmps38
    go_wp2
    refine bodyPost_ret (v := .agg #[.int .i64 4, .int .i64 0, .int .i64 3, .string ⟨#[]⟩, .int .i64 0, .int .i64 0, .bool false, .bool false, .int .i64 0, .int .i64 0, .bool false, .bool false, .int .i64 0, .slice none 0 0]) (by simp [results, Try.results38, go_sem]) rfl ?_
    refine ⟨none, 0, 0, by rw [HBH.out]; rfl, ?_, ?_⟩
    · repeat (refine Below.setCell ?_ (by simp; try omega) _)
      exact ext_alloc (ext_alloc (Below.refl _ w) _) _
    · rw [HBH.out, HBK.out]
      exact ⟨rfl, by omega, lostH_ok, trivial⟩

set_option maxRecDepth 100000 in
set_option maxHeartbeats 4000000 in
theorem bare_step (nd : Hd) (ks : Trees) (ih : AllT RBr ks) : RBr nd ks := by
  by_cases hg : nd.gone = true
  · exact bare_gone nd ks hg
  intro w B ka kl kc hB tv hn
  have hm := tv.max
  obtain ⟨i0, hi, hz0, hz1, hz2⟩ := info_parts infoExpr
  have hkl : kl ≤ 100000 := by rw [tv.len]; exact Nat.le_trans (len_le_nodes ks) hn
  have HBH := Lib.hid (show bareH nd = nd by rw [bareH, if_neg hg])
  have HBK := Lib.hid (show bareK nd ks = bareT ks by rw [bareK, if_neg hg])
  have kk : (nd.kind == 5) = false ∧ (nd.kind == 6) = false ∧ ((nd.kind == 4) = false ∨ ((nd.kind == 4) = true ∧ (nd.num == 3) = false)) := by
    simp only [Hd.gone, Bool.or_eq_true, Bool.and_eq_true, decide_eq_true_eq, not_or, not_and] at hg
    refine ⟨by simp [hg.1.1], by simp [hg.1.2], ?_⟩
    by_cases k4 : nd.kind = 4
    · exact .inr ⟨by simp [k4], by simp [hg.2 k4]⟩
    · exact .inl (by simp [k4])
  have P0 := Lib.hid (Bx2.new w (.cells #[.int .i64 nd.kind, .int .i64 nd.op, .int .i64 nd.num, .string ⟨nd.text.toArray⟩, .int .i64 nd.ref.row, .int .i64 nd.ref.col, .bool nd.ref.pr, .bool nd.ref.pc, .int .i64 nd.to.row, .int .i64 nd.to.col, .bool nd.to.pr, .bool nd.to.pc, .int .i64 nd.fn, .slice ka kl kc] 29) (.cells #[.int .i64 0, .int .i64 0, .int .i64 0, .string ⟨#[]⟩, .int .i64 0, .int .i64 0, .bool false, .bool false, .int .i64 0, .int .i64 0, .bool false, .bool false, .int .i64 0, .slice none 0 0] 29))
  have HI := Lib.hid ih; have HT := Lib.hid tv; have HN := Lib.hid hn
  clear ih tv hn hg
  obtain ⟨k5, k6, k4⟩ := kk
  rcases k4 with k4 | ⟨k4, n3⟩
  all_goals
    go_enter Try.func38, Try.ntmps38
    go_wp2_with fail
    try clear n3
    clear k5 k6 k4
    go_loopw [3, 4] (fun l i wr => BRel nd ks kl kc B ka w wr l i) (fun _ i _ => kl - (intOf i).toNat)
    case atStart =>
      exact ⟨0, .nil, ks, [], rfl, rfl, rfl, HT.out.row.kept (P0.out.bel.mono hB) (Nat.le_refl _), HI.out, HN.out, P0, Lib.hid ⟨rfl, .inl ⟨rfl, rfl⟩⟩, Lib.hid rfl⟩
    case round =>
      obtain ⟨j, dn, rest, cs, rfl, hj, happ, hrow, hall, hno, HP, HOW, HRD⟩ := hrel
      have hlen : kl = j + rest.len := by rw [HT.out.len, ← happ, Trees.app_len, hj]
      have c0 := cells_of_block HP.out.b0
      have hlt3 := HP.out.lt
      by_cases hlt : j < kl
      · obtain ⟨h', k', r', rfl⟩ := trees_cons (rest := rest) (by omega)
        obtain ⟨b1, off, ka', kl', kc', rfl, hb1, N1, tv1⟩ := hrow.head
        obtain ⟨hl1, d0, d1, d2, d3, d4, d5, d6, d7, d8, d9, d10, d11, d12, d13, y5, y6, y7, y9, y10, y11⟩ := N1.facts
        clear y5 y6 y7 y9 y10 y11
        have hno1 : k'.nodes ≤ 100000 := by simp only [Trees.nodes] at hno; omega
        have hno2 : r'.nodes ≤ 100000 := by simp only [Trees.nodes] at hno; omega
        have CA := Lib.hid (hall.1 wr B ka' kl' kc' (by omega) tv1 hno1)
        have HA := Lib.hid happ; have HJ := Lib.hid hj; have HLen := Lib.hid hlen; have HAll := Lib.hid hall.2; have HRow := Lib.hid hrow.2
        have hji : (j : Int) < (kl : Int) := by omega
        have hdl : dn.len ≤ 100000 := by omega
        clear happ hj hlen hall hrow tv1 N1 hno hno1
        go_wp2_with fail
        refine CA.out.mono ?_
        rintro e w2 ⟨xa, xl, xc, rfl, b2, x2⟩
        have hs2 := b2.size
        have hx := heap_alloc_new w2 (.cells #[.int .i64 (bareH h').kind, .int .i64 (bareH h').op, .int .i64 (bareH h').num, .string ⟨(bareH h').text.toArray⟩, .int .i64 (bareH h').ref.row, .int .i64 (bareH h').ref.col, .bool (bareH h').ref.pr, .bool (bareH h').ref.pc, .int .i64 (bareH h').to.row, .int .i64 (bareH h').to.col, .bool (bareH h').to.pr, .bool (bareH h').to.pc, .int .i64 (bareH h').fn, .slice xa xl xc] 29)
        have hb3 : Below wr.heap.size wr (w2.alloc (.cells #[.int .i64 (bareH h').kind, .int .i64 (bareH h').op, .int .i64 (bareH h').num, .string ⟨(bareH h').text.toArray⟩, .int .i64 (bareH h').ref.row, .int .i64 (bareH h').ref.col, .bool (bareH h').ref.pr, .bool (bareH h').ref.pc, .int .i64 (bareH h').to.row, .int .i64 (bareH h').to.col, .bool (bareH h').to.pr, .bool (bareH h').to.pc, .int .i64 (bareH h').fn, .slice xa xl xc] 29)) := b2.alloc hs2 _
        have hX3 : TreeX (w2.alloc (.cells #[.int .i64 (bareH h').kind, .int .i64 (bareH h').op, .int .i64 (bareH h').num, .string ⟨(bareH h').text.toArray⟩, .int .i64 (bareH h').ref.row, .int .i64 (bareH h').ref.col, .bool (bareH h').ref.pr, .bool (bareH h').ref.pc, .int .i64 (bareH h').to.row, .int .i64 (bareH h').to.col, .bool (bareH h').to.pr, .bool (bareH h').to.pc, .int .i64 (bareH h').fn, .slice xa xl xc] 29)) (fun b => b < B ∨ (wr.heap.size ≤ b ∧ b < (w2.alloc (.cells #[.int .i64 (bareH h').kind, .int .i64 (bareH h').op, .int .i64 (bareH h').num, .string ⟨(bareH h').text.toArray⟩, .int .i64 (bareH h').ref.row, .int .i64 (bareH h').ref.col, .bool (bareH h').ref.pr, .bool (bareH h').ref.pc, .int .i64 (bareH h').to.row, .int .i64 (bareH h').to.col, .bool (bareH h').to.pr, .bool (bareH h').to.pc, .int .i64 (bareH h').fn, .slice xa xl xc] 29)).heap.size)) (bareH h') (bareK h' k') xa xl := x2.kept fun b hb => by
          rcases hb with q | ⟨q1, q2⟩
          · exact ⟨.inl q, Below.heap_alloc _ _ _ (by omega)⟩
          · exact ⟨.inr ⟨q1, by simp; omega⟩, Below.heap_alloc _ _ _ q2⟩
        have ck := cells_of_block hx
        have own3 : (w2.alloc (.cells #[.int .i64 (bareH h').kind, .int .i64 (bareH h').op, .int .i64 (bareH h').num, .string ⟨(bareH h').text.toArray⟩, .int .i64 (bareH h').ref.row, .int .i64 (bareH h').ref.col, .bool (bareH h').ref.pr, .bool (bareH h').ref.pc, .int .i64 (bareH h').to.row, .int .i64 (bareH h').to.col, .bool (bareH h').to.pr, .bool (bareH h').to.pc, .int .i64 (bareH h').fn, .slice xa xl xc] 29)).ownsRow (w.heap.size + 2) 29 14 u3 dn.len cs := ((slot_of HOW.out).kept fun b hb => hb3.block b (HOW.out.lt b (mem_ownList.1 hb)).2).owns fun b hb => (HOW.out.lt b (mem_ownList.1 hb)).1
        have hs3 : (w2.alloc (.cells #[.int .i64 (bareH h').kind, .int .i64 (bareH h').op, .int .i64 (bareH h').num, .string ⟨(bareH h').text.toArray⟩, .int .i64 (bareH h').ref.row, .int .i64 (bareH h').ref.col, .bool (bareH h').ref.pr, .bool (bareH h').ref.pc, .int .i64 (bareH h').to.row, .int .i64 (bareH h').to.col, .bool (bareH h').to.pr, .bool (bareH h').to.pc, .int .i64 (bareH h').fn, .slice xa xl xc] 29)).heap.size = w2.heap.size + 1 := by simp
        have B3 := Lib.hid hb3; have X3 := Lib.hid hX3
        clear hb3 hX3 hx x2 b2 c0 d0 d1 d2 d3 d4 d5 d6 d7 d8 d9 d10 d11 d12 d13 CA
        go_wp2_with (at_builtin; refine wpList_append_own_at _ rfl _ _ 27 rfl (w.heap.size + 2) 29 i0 _ 14 120 Try.underlying27 hi hz0 hz1 hz2 rfl (by decide) u3 dn.len cs rfl (own3.alloc _) ⟨w2.heap.size + 1, 0, none⟩ 1 1 (Hd.vals (bareH h') (.slice xa xl xc)) rfl rfl (by rw [← hs3]; exact World.news_of_block (heap_alloc_new (w2.alloc (.cells #[.int .i64 (bareH h').kind, .int .i64 (bareH h').op, .int .i64 (bareH h').num, .string ⟨(bareH h').text.toArray⟩, .int .i64 (bareH h').ref.row, .int .i64 (bareH h').ref.col, .bool (bareH h').ref.pr, .bool (bareH h').ref.pc, .int .i64 (bareH h').to.row, .int .i64 (bareH h').to.col, .bool (bareH h').to.pr, .bool (bareH h').to.pc, .int .i64 (bareH h').fn, .slice xa xl xc] 29)) _)) (by simp [Value.oneCell', Hd.vals]) (by unfold maxLen; omega) (by omega) (by simp; omega) ?_)
        intro v' w4 hown4 hgrow _ hloc
        have hl : ∀ k, u3.ownBlock = some k → w.heap.size + 2 ≤ k ∧ k < wr.heap.size := fun k hk => HOW.out.lt k hk
        have b4 : Below (w.heap.size + 2) wr w4 := ((B3.out.mono (by omega)).alloc (by omega) _).grown hgrow (by simp; omega) (fun k hk => (hl k hk).1)
        have s4 : w2.heap.size + 1 + 1 ≤ w4.heap.size := by have := hgrow.size; simpa using this
        have hloc' : v'.ownBlock = u3.ownBlock ∨ v'.ownBlock = some (w2.heap.size + 1 + 1) := by simpa using hloc
        have hnb : ∀ b, b < w2.heap.size + 1 → v'.ownBlock = some b → u3.ownBlock = some b := fun b hb e => by
          rcases hloc' with q | q
          · rw [q] at e; exact e
          · rw [q] at e; injection e with e; omega
        have same : ∀ b, b < w2.heap.size + 1 → u3.ownBlock ≠ some b → w4.heap[b]? = (w2.alloc (.cells #[.int .i64 (bareH h').kind, .int .i64 (bareH h').op, .int .i64 (bareH h').num, .string ⟨(bareH h').text.toArray⟩, .int .i64 (bareH h').ref.row, .int .i64 (bareH h').ref.col, .bool (bareH h').ref.pr, .bool (bareH h').ref.pc, .int .i64 (bareH h').to.row, .int .i64 (bareH h').to.col, .bool (bareH h').to.pr, .bool (bareH h').to.pc, .int .i64 (bareH h').fn, .slice xa xl xc] 29)).heap[b]? := fun b hb hne => (hgrow.block b (by simp; omega) (fun e => hne e.symm)).trans (Below.heap_alloc _ _ _ (by omega))
        have r4 : RdX w4 (OkL2 w B v' w4) (bareT (dn.app (.cons h' k' .nil))) (cs ++ (Hd.vals (bareH h') (.slice xa xl xc))) := by
          rw [bareT_app]
          show RdX w4 _ ((bareT dn).app (.cons (bareH h') (bareK h' k') .nil)) _
          refine RdX.snoc (X3.out.kept fun b hb => ?_) (HRD.out.kept fun b hb => ?_)
          · have hB' : b < w2.heap.size + 1 := by rcases hb with q | q <;> omega
            have hne : u3.ownBlock ≠ some b := fun e => by have := hl b e; rcases hb with q | q <;> omega
            exact ⟨⟨by omega, fun e => hne (hnb b hB' e), by rcases hb with q | q; exact .inl q; exact .inr (by omega)⟩, same b hB' hne⟩
          · obtain ⟨q1, q2, q3⟩ := hb
            exact ⟨⟨by omega, fun e => q2 (hnb b (by omega) e), q3⟩, (same b (by omega) q2).trans (B3.out.block b q1)⟩
        have R4 := Lib.hid r4
        have ROW4 := Lib.hid (HRow.out.kept (b4.mono (by omega)) (Nat.le_refl _))
        have P4 := Lib.hid (HP.out.keep b4)
        have own4 : w4.ownsRow (w.heap.size + 2) 29 14 v' (dn.app (.cons h' k' .nil)).len (cs ++ (Hd.vals (bareH h') (.slice xa xl xc))) := by rw [Trees.app_len]; exact hown4
        have OWN4 := Lib.hid own4
        clear own4 hown4 hgrow hloc hloc' hnb same r4 own3 b4 hl ck
        go_wp2
        exact ⟨⟨j + 1, dn.app (.cons h' k' .nil), r', _, by go_num, by rw [Trees.app_len, HJ.out]; rfl, by rw [Trees.app_cons]; exact HA.out, ROW4.out, HAll.out, hno2, P4, OWN4, R4⟩, by simp [intOf]; have := HLen.out; simp only [Trees.len] at this; omega⟩
      · have hz : rest.len = 0 := by omega
        obtain rfl := trees_nil hz
        rw [Trees.app_nil] at happ
        subst happ
        have c1 := cells_of_block HP.out.b1
        have f0 := frees_of_block HP.out.b0
        have f1 := frees_of_block HP.out.b1
        obtain ⟨la, lc, rfl⟩ : ∃ a c, u3 = .slice a dn.len c := (slot_of HOW.out).slice
        have r5 : RdX wr (fun b => b < B ∨ (w.heap.size + 2 ≤ b ∧ b < wr.heap.size)) (bareT dn) cs := HRD.out.kept fun b hb => ⟨by rcases hb.2.2 with q | q; exact .inl q; exact .inr ⟨q, hb.1⟩, rfl⟩
        obtain ⟨a5, c5, e5, t5⟩ := RdX.tree (h := nd) (by rw [bareT_len]; exact HOW.out) (fun g hg => .inr (HOW.out.lt g hg)) r5 HT.out.ok
        rw [bareT_len] at e5 t5
        simp only [Value.slice.injEq] at e5
        obtain ⟨rfl, -, rfl⟩ := e5
        have T5 := Lib.hid t5
        have BE := Lib.hid HP.out.bel
        clear t5 r5 hrow hall
        go_wp2
        refine bodyPost_ret (v := .agg #[.int .i64 nd.kind, .int .i64 nd.op, .int .i64 nd.num, .string ⟨nd.text.toArray⟩, .int .i64 nd.ref.row, .int .i64 nd.ref.col, .bool nd.ref.pr, .bool nd.ref.pc, .int .i64 nd.to.row, .int .i64 nd.to.col, .bool nd.to.pr, .bool nd.to.pc, .int .i64 nd.fn, .slice la dn.len lc]) (by simp [results, Try.results38, go_sem, c1]) rfl ?_
        refine ⟨la, dn.len, lc, by rw [HBH.out], ?_, ?_⟩
        · repeat (refine Below.setCell ?_ (by simp; try omega) _)
          exact BE.out
        · rw [HBH.out, HBK.out]
          refine T5.out.kept fun b hb => ?_
          have hh : b ≠ w.heap.size ∧ b ≠ w.heap.size + 1 := by rcases hb with q | q <;> omega
          refine ⟨?_, ?_⟩
          · rcases hb with q | q
            · exact .inl q
            · exact .inr ⟨by omega, by simpa [World.setCell] using q.2⟩
          · repeat rw [Below.heap_setCell _ _ _ _ (by simp; omega)]
theorem lawBare_any (h : Hd) (ks : Trees) : RBr h ks := bare_step h ks (allT bare_step ks)
end Go.Proofs.Ytkjfeakbhfkldaa
/- Shifting, no program in sight: pasted twice, there and back, and what speaks of no place. -/
namespace Go.Proofs.Ytkjfeakbhfkldaa

/-- What the tree beneath a node has of nodes that speak of places, the node too. -/
def refsOf (h : Hd) (ks : Trees) : Nat := h.speaks + ks.refs
theorem mvH_other {m : Mv} {h : Hd} (k5 : h.kind ≠ 5) (k6 : h.kind ≠ 6) : mvH m h = h := by simp [mvH, k5, k6]
theorem mvH_cases (m : Mv) (h : Hd) : mvH m h = lostH ∨ (mvH m h).kind = h.kind := by
  unfold mvH
  (repeat' split) <;> simp
theorem speaks_mv (m : Mv) (h : Hd) : (mvH m h).speaks ≤ h.speaks := by
  rcases mvH_cases m h with e | e
  · rw [e]; simp [Hd.speaks, lostH]
  · simp [Hd.speaks, e]
theorem refs_mv (m : Mv) : ∀ ks : Trees, (mvK m ks).refs ≤ ks.refs
  | .nil => Nat.le_refl _
  | .cons h k r => by
    have := refs_mv m k; have := refs_mv m r; have := speaks_mv m h
    simp only [mvK, Trees.refs]; omega
theorem gone_mv (m : Mv) (h : Hd) : (mvH m h).gone = h.gone := by
  by_cases k5 : h.kind = 5
  · rcases mvH_cases m h with e | e
    · rw [e]; simp [Hd.gone, lostH, k5]
    · simp [Hd.gone, e, k5]
  · by_cases k6 : h.kind = 6
    · rcases mvH_cases m h with e | e
      · rw [e]; simp [Hd.gone, lostH, k6]
      · simp [Hd.gone, e, k6]
    · rw [mvH_other k5 k6]
theorem bareH_mv (m : Mv) (h : Hd) : bareH (mvH m h) = bareH h := by
  by_cases k5 : h.kind = 5
  · have g : h.gone = true := by simp [Hd.gone, k5]
    rw [bareH, if_pos (by rw [gone_mv, g]), bareH, if_pos g]
  · by_cases k6 : h.kind = 6
    · have g : h.gone = true := by simp [Hd.gone, k6]
      rw [bareH, if_pos (by rw [gone_mv, g]), bareH, if_pos g]
    · rw [mvH_other k5 k6]
theorem bareT_mv (m : Mv) : ∀ ks : Trees, bareT (mvK m ks) = bareT ks
  | .nil => rfl
  | .cons h k r => by simp only [mvK, bareT, bareH_mv, gone_mv, bareT_mv m k, bareT_mv m r]
theorem bareK_mv (m : Mv) (h : Hd) (ks : Trees) : bareK (mvH m h) (mvK m ks) = bareK h ks := by simp only [bareK, gone_mv, bareT_mv]

theorem mvH_five {m : Mv} {h : Hd} (k5 : h.kind = 5) : mvH m h = (match mv1 m h.ref with | some r => { h with ref := r } | none => lostH) := by
  rw [mvH, if_pos k5]
  cases mv1 m h.ref <;> rfl
theorem mvH_six {m : Mv} {h : Hd} (k6 : h.kind = 6) : mvH m h = (match mv2 m h.ref h.to with | some (r, t) => { h with ref := r, to := t } | none => lostH) := by
  rw [mvH, if_neg (by omega), if_pos k6]
  rcases mv2 m h.ref h.to with _ | ⟨r, t⟩ <;> rfl
/-- What a node is that a move left on the grid. -/
theorem mv1_place {m : Mv} {r r' : RefT} (e : mv1 m r = some r') : placeB r' = true := by
  unfold mv1 at e
  (repeat' split at e) <;> first | (simp only [Option.some.injEq] at e; subst e; assumption) | simp at e
theorem mv2_place {m : Mv} {r t r' t' : RefT} (e : mv2 m r t = some (r', t')) : placeB r' = true ∧ placeB t' = true := by
  unfold mv2 at e
  (repeat' split at e) <;> first | (simp only [Option.some.injEq, Prod.mk.injEq] at e; obtain ⟨rfl, rfl⟩ := e; simp_all) | simp at e
theorem bytes_mv (m : Mv) (h : Hd) (f : h.kind = 5 ∨ h.kind = 6 → h.text = []) : (mvH m h).bytes = h.bytes := by
  by_cases k5 : h.kind = 5
  · rw [mvH_five k5]
    have t := f (.inl k5)
    cases mv1 m h.ref <;> simp [Hd.bytes, lostH, t]
  · by_cases k6 : h.kind = 6
    · rw [mvH_six k6]
      have t := f (.inr k6)
      rcases mv2 m h.ref h.to with _ | ⟨r, s⟩ <;> simp [Hd.bytes, lostH, t]
    · rw [mvH_other k5 k6]
theorem fits_text {h : Hd} {n : Nat} (f : fitsV h n = true) (k : h.kind ≠ 2) : h.text = [] := by
  unfold fitsV at f
  simp only [fitsB, Bool.and_eq_true, Bool.or_eq_true, decide_eq_true_eq] at f
  have := f.1.1.1.1.2
  rcases this with h' | h'
  · exact absurd h' k
  · exact h'
theorem lost_fits : fitsV lostH 0 = true := by kernel_rfl
theorem fits_mv {m : Mv} {h : Hd} {n : Nat} (f : fitsV h n = true) : fitsV (mvH m h) n = true := by
  by_cases k5 : h.kind = 5
  · obtain ⟨p, rfl⟩ := fits5 f k5
    rw [mvH_five k5]
    cases e : mv1 m h.ref with
    | none => exact lost_fits
    | some r =>
      have q := mv1_place e
      simp only [fitsV, fitsB, k5] at f ⊢
      simp at f ⊢
      simp [f, q]
  · by_cases k6 : h.kind = 6
    · obtain ⟨p, p', rfl⟩ := fits6 f k6
      rw [mvH_six k6]
      cases e : mv2 m h.ref h.to with
      | none => exact lost_fits
      | some x =>
        obtain ⟨r, t⟩ := x
        have q := mv2_place e
        simp only [fitsV, fitsB, k6] at f ⊢
        simp at f ⊢
        simp [f, q]
    · rw [mvH_other k5 k6]; exact f
theorem all_mv {m : Mv} : ∀ {ks : Trees}, allFits ks = true → allFits (mvK m ks) = true
  | .nil, _ => rfl
  | .cons h k r, f => by
    simp only [allFits, Bool.and_eq_true] at f
    simp only [mvK, allFits, Bool.and_eq_true, mvK_len]
    exact ⟨⟨fits_mv f.1.1, all_mv f.1.2⟩, all_mv f.2⟩
theorem nodes_mv (m : Mv) : ∀ ks : Trees, (mvK m ks).nodes = ks.nodes
  | .nil => rfl
  | .cons h k r => by simp only [mvK, Trees.nodes, nodes_mv m k, nodes_mv m r]
theorem deep_mv (m : Mv) : ∀ ks : Trees, (mvK m ks).deep = ks.deep
  | .nil => rfl
  | .cons h k r => by simp only [mvK, Trees.deep, deep_mv m k, deep_mv m r]
theorem textT_mv (m : Mv) : ∀ {ks : Trees}, allFits ks = true → (mvK m ks).bytes = ks.bytes
  | .nil, _ => rfl
  | .cons h k r, f => by
    simp only [allFits, Bool.and_eq_true] at f
    simp only [mvK, Trees.bytes, textT_mv m f.1.2, textT_mv m f.2]
    rw [bytes_mv m h (fun k => fits_text f.1.1 (by omega))]
theorem may_mv {m : Mv} {h : Hd} {ks : Trees} (e : mayE h ks = 0) : mayE (mvH m h) (mvK m ks) = 0 := by
  have F := mayE_fine e
  have f := may_fits e
  have g : treeFits (mvH m h) (mvK m ks) = true := by
    simp only [treeFits, Bool.and_eq_true] at f ⊢
    rw [mvK_len]; exact ⟨fits_mv f.1, all_mv f.2⟩
  have F' : Fine (mvH m h) (mvK m ks) := by
    simp only [treeFits, Bool.and_eq_true] at f
    obtain ⟨a, b, c⟩ := F
    refine ⟨by rw [nodes_mv]; exact a, by rw [deep_mv]; exact b, ?_⟩
    rw [textT_mv m f.2, bytes_mv m h (fun k => fits_text f.1 (by omega))]; exact c
  rw [mayE, if_pos F', if_pos g]

/-- Two pastes, one behind the other, of what is on the grid behind the first. -/
theorem moved_two_on {x a c most : Int} (h0 : 0 ≤ x) (h1 : x < most) (h2 : 0 ≤ movedN x a most) : movedN (movedN x a most) c most = movedN x (a + c) most := by
  by_cases p : 0 ≤ x + a ∧ x + a < most
  · rw [moved_on h0 h1 p]
    by_cases q : 0 ≤ x + a + c ∧ x + a + c < most
    · rw [moved_on p.1 p.2 q, moved_on h0 h1 (by omega)]; omega
    · rw [moved_off p.1 p.2 q, moved_off h0 h1 (by omega)]
  · rw [moved_off h0 h1 p] at h2; omega
theorem paste_two_on {a b c d : Int} {r : RefT} (h : placeB r = true) (k : placeB (pasteR a b r) = true) : pasteR c d (pasteR a b r) = pasteR (a + c) (b + d) r := by
  have p := place_on h
  have q := place_on k
  obtain ⟨row, col, pr, pc⟩ := r
  simp only [pasteR] at p q ⊢
  cases pr <;> cases pc <;> simp at p q ⊢
  · exact ⟨moved_two_on p.1.1 p.1.2 q.1.1, moved_two_on p.2.1 p.2.2 q.2.1⟩
  · exact moved_two_on p.1.1 p.1.2 q.1.1
  · exact moved_two_on p.2.1 p.2.2 q.2.1
theorem mv1_paste (a b : Int) (r : RefT) : mv1 ⟨1, a, b, 0, 0⟩ r = if placeB (pasteR a b r) = true then some (pasteR a b r) else none := rfl
theorem mv2_paste (a b : Int) (r t : RefT) : mv2 ⟨1, a, b, 0, 0⟩ r t = if (placeB (pasteR a b r) && placeB (pasteR a b t)) = true then some (pasteR a b r, pasteR a b t) else none := rfl
theorem node_two {a b c d : Int} {h : Hd} {n : Nat} (f : fitsV h n = true) (s : (mvH ⟨1, a, b, 0, 0⟩ h).speaks = h.speaks) : mvH ⟨1, c, d, 0, 0⟩ (mvH ⟨1, a, b, 0, 0⟩ h) = mvH ⟨1, a + c, b + d, 0, 0⟩ h := by
  by_cases k5 : h.kind = 5
  · have p := (fits5 f k5).1
    rw [mvH_five k5, mv1_paste] at s ⊢
    by_cases q : placeB (pasteR a b h.ref) = true
    · simp only [q, if_true] at s ⊢
      rw [mvH_five (h := { h with ref := pasteR a b h.ref }) k5, mvH_five k5, mv1_paste, mv1_paste]
      simp only [paste_two_on p q]
    · simp [q, Hd.speaks, lostH, k5] at s
  · by_cases k6 : h.kind = 6
    · have p := fits6 f k6
      rw [mvH_six k6, mv2_paste] at s ⊢
      by_cases q : (placeB (pasteR a b h.ref) && placeB (pasteR a b h.to)) = true
      · simp only [q, if_true] at s ⊢
        simp only [Bool.and_eq_true] at q
        rw [mvH_six (h := { h with ref := pasteR a b h.ref, to := pasteR a b h.to }) k6, mvH_six k6, mv2_paste, mv2_paste]
        simp only [paste_two_on p.1 q.1, paste_two_on p.2.1 q.2]
      · simp [q, Hd.speaks, lostH, k6] at s
    · rw [mvH_other k5 k6, mvH_other k5 k6, mvH_other k5 k6]
theorem tree_two {a b c d : Int} : ∀ {ks : Trees}, allFits ks = true → (mvK ⟨1, a, b, 0, 0⟩ ks).refs = ks.refs → mvK ⟨1, c, d, 0, 0⟩ (mvK ⟨1, a, b, 0, 0⟩ ks) = mvK ⟨1, a + c, b + d, 0, 0⟩ ks
  | .nil, _, _ => rfl
  | .cons h k r, f, s => by
    simp only [allFits, Bool.and_eq_true] at f
    simp only [mvK, Trees.refs] at s ⊢
    have s1 := speaks_mv ⟨1, a, b, 0, 0⟩ h
    have s2 := refs_mv ⟨1, a, b, 0, 0⟩ k
    have s3 := refs_mv ⟨1, a, b, 0, 0⟩ r
    rw [node_two f.1.1 (by omega), tree_two f.1.2 (by omega), tree_two f.2 (by omega)]
theorem paste_zero {r : RefT} (h : placeB r = true) : pasteR 0 0 r = r := by
  have p := place_on h
  obtain ⟨row, col, pr, pc⟩ := r
  simp only at p
  simp only [pasteR, moved_on (d := 0) p.1.1 p.1.2 (by omega), moved_on (d := 0) p.2.1 p.2.2 (by omega)]
  simp
theorem node_zero {h : Hd} {n : Nat} (f : fitsV h n = true) : mvH ⟨1, 0, 0, 0, 0⟩ h = h := by
  by_cases k5 : h.kind = 5
  · have p := (fits5 f k5).1
    rw [mvH_five k5, mv1_paste, paste_zero p, if_pos p]
  · by_cases k6 : h.kind = 6
    · have p := fits6 f k6
      rw [mvH_six k6, mv2_paste, paste_zero p.1, paste_zero p.2.1, if_pos (by simp [p.1, p.2.1])]
    · exact mvH_other k5 k6
theorem tree_zero : ∀ {ks : Trees}, allFits ks = true → mvK ⟨1, 0, 0, 0, 0⟩ ks = ks
  | .nil, _ => rfl
  | .cons h k r, f => by
    simp only [allFits, Bool.and_eq_true] at f
    simp only [mvK, node_zero f.1.1, tree_zero f.1.2, tree_zero f.2]
theorem refsOf_mv (m : Mv) (h : Hd) (ks : Trees) : refsOf (mvH m h) (mvK m ks) ≤ refsOf h ks := by
  have := speaks_mv m h; have := refs_mv m ks; unfold refsOf; omega
theorem whole_two {a b c d : Int} {h : Hd} {ks : Trees} (f : treeFits h ks = true) (s : refsOf (mvH ⟨1, a, b, 0, 0⟩ h) (mvK ⟨1, a, b, 0, 0⟩ ks) = refsOf h ks) :
    mvH ⟨1, c, d, 0, 0⟩ (mvH ⟨1, a, b, 0, 0⟩ h) = mvH ⟨1, a + c, b + d, 0, 0⟩ h ∧ mvK ⟨1, c, d, 0, 0⟩ (mvK ⟨1, a, b, 0, 0⟩ ks) = mvK ⟨1, a + c, b + d, 0, 0⟩ ks := by
  have s1 := speaks_mv ⟨1, a, b, 0, 0⟩ h
  have s2 := refs_mv ⟨1, a, b, 0, 0⟩ ks
  simp only [treeFits, Bool.and_eq_true] at f
  unfold refsOf at s
  exact ⟨node_two f.1 (by omega), tree_two f.2 (by omega)⟩
theorem whole_back {a b : Int} {h : Hd} {ks : Trees} (f : treeFits h ks = true) (s : refsOf (mvH ⟨1, a, b, 0, 0⟩ h) (mvK ⟨1, a, b, 0, 0⟩ ks) = refsOf h ks) :
    mvH ⟨1, -a, -b, 0, 0⟩ (mvH ⟨1, a, b, 0, 0⟩ h) = h ∧ mvK ⟨1, -a, -b, 0, 0⟩ (mvK ⟨1, a, b, 0, 0⟩ ks) = ks := by
  have := whole_two (c := -a) (d := -b) f s
  rw [Int.add_right_neg, Int.add_right_neg] at this
  simp only [treeFits, Bool.and_eq_true] at f
  rwa [node_zero f.1, tree_zero f.2] at this
end Go.Proofs.Ytkjfeakbhfkldaa
/- Shifting: lost and sound. -/
namespace Go.Proofs.Ytkjfeakbhfkldaa
open Go.RowKit

/-- Two trees in two boxes. -/
structure PS (w0 : World) (h : Hd) (ks : Trees) (a : Option Addr) (l c N : Nat) (h' : Hd) (ks' : Trees) (a' : Option Addr) (l' c' N' : Nat) (W : World) : Prop where
  bel : Below w0.heap.size w0 W
  b1 : W.heap[N]? = some (.cells #[.int .i64 h.kind, .int .i64 h.op, .int .i64 h.num, .string ⟨h.text.toArray⟩, .int .i64 h.ref.row, .int .i64 h.ref.col, .bool h.ref.pr, .bool h.ref.pc, .int .i64 h.to.row, .int .i64 h.to.col, .bool h.to.pr, .bool h.to.pc, .int .i64 h.fn, .slice a l c] 29)
  b2 : W.heap[N']? = some (.cells #[.int .i64 h'.kind, .int .i64 h'.op, .int .i64 h'.num, .string ⟨h'.text.toArray⟩, .int .i64 h'.ref.row, .int .i64 h'.ref.col, .bool h'.ref.pr, .bool h'.ref.pc, .int .i64 h'.to.row, .int .i64 h'.to.col, .bool h'.to.pr, .bool h'.to.pc, .int .i64 h'.fn, .slice a' l' c'] 29)
  t1 : TreeV W W.heap.size h ks a l
  t2 : TreeV W W.heap.size h' ks' a' l'
theorem PS.step {w0 : World} {h h' : Hd} {ks ks' : Trees} {a a' : Option Addr} {l l' c c' N N' : Nat} {W : World} {W' : World} (p : PS w0 h ks a l c N h' ks' a' l' c' N' W) (b : Below W.heap.size W W') : PS w0 h ks a l c N h' ks' a' l' c' N' W' :=
  ⟨p.bel.trans (b.mono p.bel.size), (b.block _ (lt_of_block p.b1)).trans p.b1, (b.block _ (lt_of_block p.b2)).trans p.b2, (p.t1.kept b (Nat.le_refl _)).mono b.size, (p.t2.kept b (Nat.le_refl _)).mono b.size⟩
theorem PS.full {w0 : World} {h h' : Hd} {ks ks' : Trees} {a a' : Option Addr} {l l' c c' N N' : Nat} {W : World} (p : PS w0 h ks a l c N h' ks' a' l' c' N' W) : ((W.cell? ⟨N, 0, none⟩ = some (.int .i64 h.kind) ∧ W.cell? ⟨N, 1, none⟩ = some (.int .i64 h.op) ∧ W.cell? ⟨N, 2, none⟩ = some (.int .i64 h.num) ∧ W.cell? ⟨N, 3, none⟩ = some (.string ⟨h.text.toArray⟩) ∧ W.cell? ⟨N, 4, none⟩ = some (.int .i64 h.ref.row) ∧ W.cell? ⟨N, 5, none⟩ = some (.int .i64 h.ref.col) ∧ W.cell? ⟨N, 6, none⟩ = some (.bool h.ref.pr) ∧ W.cell? ⟨N, 7, none⟩ = some (.bool h.ref.pc) ∧ W.cell? ⟨N, 8, none⟩ = some (.int .i64 h.to.row) ∧ W.cell? ⟨N, 9, none⟩ = some (.int .i64 h.to.col) ∧ W.cell? ⟨N, 10, none⟩ = some (.bool h.to.pr) ∧ W.cell? ⟨N, 11, none⟩ = some (.bool h.to.pc) ∧ W.cell? ⟨N, 12, none⟩ = some (.int .i64 h.fn) ∧ W.cell? ⟨N, 13, none⟩ = some (.slice a l c) ∧ W.cell? ⟨N', 0, none⟩ = some (.int .i64 h'.kind) ∧ W.cell? ⟨N', 1, none⟩ = some (.int .i64 h'.op) ∧ W.cell? ⟨N', 2, none⟩ = some (.int .i64 h'.num) ∧ W.cell? ⟨N', 3, none⟩ = some (.string ⟨h'.text.toArray⟩) ∧ W.cell? ⟨N', 4, none⟩ = some (.int .i64 h'.ref.row) ∧ W.cell? ⟨N', 5, none⟩ = some (.int .i64 h'.ref.col) ∧ W.cell? ⟨N', 6, none⟩ = some (.bool h'.ref.pr) ∧ W.cell? ⟨N', 7, none⟩ = some (.bool h'.ref.pc) ∧ W.cell? ⟨N', 8, none⟩ = some (.int .i64 h'.to.row) ∧ W.cell? ⟨N', 9, none⟩ = some (.int .i64 h'.to.col) ∧ W.cell? ⟨N', 10, none⟩ = some (.bool h'.to.pr) ∧ W.cell? ⟨N', 11, none⟩ = some (.bool h'.to.pc) ∧ W.cell? ⟨N', 12, none⟩ = some (.int .i64 h'.fn) ∧ W.cell? ⟨N', 13, none⟩ = some (.slice a' l' c')) ∧ PS w0 h ks a l c N h' ks' a' l' c' N' W) := by
  refine ⟨?_, p⟩
  have k1 := cells_of_block p.b1
  have k2 := cells_of_block p.b2
  simp [k1, k2]

set_option maxRecDepth 100000 in
set_option maxHeartbeats 4000000 in
theorem lost_any (h h' : Hd) (ks ks' : Trees) (w : World) (B B' : Nat) (a a' : Option Addr) (l c l' c' : Nat) (hB : B ≤ w.heap.size) (hB' : B' ≤ w.heap.size) (tv : TreeV w B h ks a l) (tv' : TreeV w B' h' ks' a' l') (hn : ks.nodes ≤ 100000) (hn' : ks'.nodes ≤ 100000) :
    Calls Try.prog 39 #[.agg #[.int .i64 h.kind, .int .i64 h.op, .int .i64 h.num, .string ⟨h.text.toArray⟩, .int .i64 h.ref.row, .int .i64 h.ref.col, .bool h.ref.pr, .bool h.ref.pc, .int .i64 h.to.row, .int .i64 h.to.col, .bool h.to.pr, .bool h.to.pc, .int .i64 h.fn, .slice a l c], .agg #[.int .i64 h'.kind, .int .i64 h'.op, .int .i64 h'.num, .string ⟨h'.text.toArray⟩, .int .i64 h'.ref.row, .int .i64 h'.ref.col, .bool h'.ref.pr, .bool h'.ref.pc, .int .i64 h'.to.row, .int .i64 h'.to.col, .bool h'.to.pr, .bool h'.to.pc, .int .i64 h'.fn, .slice a' l' c']] w fun e w' => e = .returned (.bool (decide (refsOf h ks ≠ refsOf h' ks'))) ∧ Below w.heap.size w w' := by
  have b0 := ext_alloc (ext_alloc (Below.refl _ w) (.cells #[.int .i64 h.kind, .int .i64 h.op, .int .i64 h.num, .string ⟨h.text.toArray⟩, .int .i64 h.ref.row, .int .i64 h.ref.col, .bool h.ref.pr, .bool h.ref.pc, .int .i64 h.to.row, .int .i64 h.to.col, .bool h.to.pr, .bool h.to.pc, .int .i64 h.fn, .slice a l c] 29)) (.cells #[.int .i64 h'.kind, .int .i64 h'.op, .int .i64 h'.num, .string ⟨h'.text.toArray⟩, .int .i64 h'.ref.row, .int .i64 h'.ref.col, .bool h'.ref.pr, .bool h'.ref.pc, .int .i64 h'.to.row, .int .i64 h'.to.col, .bool h'.to.pr, .bool h'.to.pc, .int .i64 h'.fn, .slice a' l' c'] 29)
  have p0 : PS ((w.alloc (.cells #[.int .i64 h.kind, .int .i64 h.op, .int .i64 h.num, .string ⟨h.text.toArray⟩, .int .i64 h.ref.row, .int .i64 h.ref.col, .bool h.ref.pr, .bool h.ref.pc, .int .i64 h.to.row, .int .i64 h.to.col, .bool h.to.pr, .bool h.to.pc, .int .i64 h.fn, .slice a l c] 29)).alloc (.cells #[.int .i64 h'.kind, .int .i64 h'.op, .int .i64 h'.num, .string ⟨h'.text.toArray⟩, .int .i64 h'.ref.row, .int .i64 h'.ref.col, .bool h'.ref.pr, .bool h'.ref.pc, .int .i64 h'.to.row, .int .i64 h'.to.col, .bool h'.to.pr, .bool h'.to.pc, .int .i64 h'.fn, .slice a' l' c'] 29)) h ks a l c w.heap.size h' ks' a' l' c' (w.heap.size + 1) ((w.alloc (.cells #[.int .i64 h.kind, .int .i64 h.op, .int .i64 h.num, .string ⟨h.text.toArray⟩, .int .i64 h.ref.row, .int .i64 h.ref.col, .bool h.ref.pr, .bool h.ref.pc, .int .i64 h.to.row, .int .i64 h.to.col, .bool h.to.pr, .bool h.to.pc, .int .i64 h.fn, .slice a l c] 29)).alloc (.cells #[.int .i64 h'.kind, .int .i64 h'.op, .int .i64 h'.num, .string ⟨h'.text.toArray⟩, .int .i64 h'.ref.row, .int .i64 h'.ref.col, .bool h'.ref.pr, .bool h'.ref.pc, .int .i64 h'.to.row, .int .i64 h'.to.col, .bool h'.to.pr, .bool h'.to.pc, .int .i64 h'.fn, .slice a' l' c'] 29)) :=
    ⟨Below.refl _ _, heap_alloc2_old w _ _, heap_alloc2_new w _ _, (tv.kept (b0.mono hB) (Nat.le_refl _)).mono (by simp; omega), (tv'.kept (b0.mono hB') (Nat.le_refl _)).mono (by simp; omega)⟩
  obtain ⟨x, hx⟩ : ∃ x : Nat, x = refsOf h ks := ⟨_, rfl⟩
  obtain ⟨y, hy⟩ : ∃ y : Nat, y = refsOf h' ks' := ⟨_, rfl⟩
  have c1 : ∀ w0 N N' W, ((W.cell? ⟨N, 0, none⟩ = some (.int .i64 h.kind) ∧ W.cell? ⟨N, 1, none⟩ = some (.int .i64 h.op) ∧ W.cell? ⟨N, 2, none⟩ = some (.int .i64 h.num) ∧ W.cell? ⟨N, 3, none⟩ = some (.string ⟨h.text.toArray⟩) ∧ W.cell? ⟨N, 4, none⟩ = some (.int .i64 h.ref.row) ∧ W.cell? ⟨N, 5, none⟩ = some (.int .i64 h.ref.col) ∧ W.cell? ⟨N, 6, none⟩ = some (.bool h.ref.pr) ∧ W.cell? ⟨N, 7, none⟩ = some (.bool h.ref.pc) ∧ W.cell? ⟨N, 8, none⟩ = some (.int .i64 h.to.row) ∧ W.cell? ⟨N, 9, none⟩ = some (.int .i64 h.to.col) ∧ W.cell? ⟨N, 10, none⟩ = some (.bool h.to.pr) ∧ W.cell? ⟨N, 11, none⟩ = some (.bool h.to.pc) ∧ W.cell? ⟨N, 12, none⟩ = some (.int .i64 h.fn) ∧ W.cell? ⟨N, 13, none⟩ = some (.slice a l c) ∧ W.cell? ⟨N', 0, none⟩ = some (.int .i64 h'.kind) ∧ W.cell? ⟨N', 1, none⟩ = some (.int .i64 h'.op) ∧ W.cell? ⟨N', 2, none⟩ = some (.int .i64 h'.num) ∧ W.cell? ⟨N', 3, none⟩ = some (.string ⟨h'.text.toArray⟩) ∧ W.cell? ⟨N', 4, none⟩ = some (.int .i64 h'.ref.row) ∧ W.cell? ⟨N', 5, none⟩ = some (.int .i64 h'.ref.col) ∧ W.cell? ⟨N', 6, none⟩ = some (.bool h'.ref.pr) ∧ W.cell? ⟨N', 7, none⟩ = some (.bool h'.ref.pc) ∧ W.cell? ⟨N', 8, none⟩ = some (.int .i64 h'.to.row) ∧ W.cell? ⟨N', 9, none⟩ = some (.int .i64 h'.to.col) ∧ W.cell? ⟨N', 10, none⟩ = some (.bool h'.to.pr) ∧ W.cell? ⟨N', 11, none⟩ = some (.bool h'.to.pc) ∧ W.cell? ⟨N', 12, none⟩ = some (.int .i64 h'.fn) ∧ W.cell? ⟨N', 13, none⟩ = some (.slice a' l' c')) ∧ PS w0 h ks a l c N h' ks' a' l' c' N' W) → Calls Try.prog 40 #[.agg #[.int .i64 h.kind, .int .i64 h.op, .int .i64 h.num, .string ⟨h.text.toArray⟩, .int .i64 h.ref.row, .int .i64 h.ref.col, .bool h.ref.pr, .bool h.ref.pc, .int .i64 h.to.row, .int .i64 h.to.col, .bool h.to.pr, .bool h.to.pc, .int .i64 h.fn, .slice a l c]] W (fun e w' => e = .returned (.int .i64 (x : Int)) ∧ ((w'.cell? ⟨N, 0, none⟩ = some (.int .i64 h.kind) ∧ w'.cell? ⟨N, 1, none⟩ = some (.int .i64 h.op) ∧ w'.cell? ⟨N, 2, none⟩ = some (.int .i64 h.num) ∧ w'.cell? ⟨N, 3, none⟩ = some (.string ⟨h.text.toArray⟩) ∧ w'.cell? ⟨N, 4, none⟩ = some (.int .i64 h.ref.row) ∧ w'.cell? ⟨N, 5, none⟩ = some (.int .i64 h.ref.col) ∧ w'.cell? ⟨N, 6, none⟩ = some (.bool h.ref.pr) ∧ w'.cell? ⟨N, 7, none⟩ = some (.bool h.ref.pc) ∧ w'.cell? ⟨N, 8, none⟩ = some (.int .i64 h.to.row) ∧ w'.cell? ⟨N, 9, none⟩ = some (.int .i64 h.to.col) ∧ w'.cell? ⟨N, 10, none⟩ = some (.bool h.to.pr) ∧ w'.cell? ⟨N, 11, none⟩ = some (.bool h.to.pc) ∧ w'.cell? ⟨N, 12, none⟩ = some (.int .i64 h.fn) ∧ w'.cell? ⟨N, 13, none⟩ = some (.slice a l c) ∧ w'.cell? ⟨N', 0, none⟩ = some (.int .i64 h'.kind) ∧ w'.cell? ⟨N', 1, none⟩ = some (.int .i64 h'.op) ∧ w'.cell? ⟨N', 2, none⟩ = some (.int .i64 h'.num) ∧ w'.cell? ⟨N', 3, none⟩ = some (.string ⟨h'.text.toArray⟩) ∧ w'.cell? ⟨N', 4, none⟩ = some (.int .i64 h'.ref.row) ∧ w'.cell? ⟨N', 5, none⟩ = some (.int .i64 h'.ref.col) ∧ w'.cell? ⟨N', 6, none⟩ = some (.bool h'.ref.pr) ∧ w'.cell? ⟨N', 7, none⟩ = some (.bool h'.ref.pc) ∧ w'.cell? ⟨N', 8, none⟩ = some (.int .i64 h'.to.row) ∧ w'.cell? ⟨N', 9, none⟩ = some (.int .i64 h'.to.col) ∧ w'.cell? ⟨N', 10, none⟩ = some (.bool h'.to.pr) ∧ w'.cell? ⟨N', 11, none⟩ = some (.bool h'.to.pc) ∧ w'.cell? ⟨N', 12, none⟩ = some (.int .i64 h'.fn) ∧ w'.cell? ⟨N', 13, none⟩ = some (.slice a' l' c')) ∧ PS w0 h ks a l c N h' ks' a' l' c' N' w')) := fun w0 N N' W q =>
    (refs_any h ks W W.heap.size a l c (Nat.le_refl _) q.2.t1 hn).mono fun e w' r => ⟨by rw [hx]; exact r.1, (q.2.step r.2).full⟩
  have c2 : ∀ w0 N N' W, ((W.cell? ⟨N, 0, none⟩ = some (.int .i64 h.kind) ∧ W.cell? ⟨N, 1, none⟩ = some (.int .i64 h.op) ∧ W.cell? ⟨N, 2, none⟩ = some (.int .i64 h.num) ∧ W.cell? ⟨N, 3, none⟩ = some (.string ⟨h.text.toArray⟩) ∧ W.cell? ⟨N, 4, none⟩ = some (.int .i64 h.ref.row) ∧ W.cell? ⟨N, 5, none⟩ = some (.int .i64 h.ref.col) ∧ W.cell? ⟨N, 6, none⟩ = some (.bool h.ref.pr) ∧ W.cell? ⟨N, 7, none⟩ = some (.bool h.ref.pc) ∧ W.cell? ⟨N, 8, none⟩ = some (.int .i64 h.to.row) ∧ W.cell? ⟨N, 9, none⟩ = some (.int .i64 h.to.col) ∧ W.cell? ⟨N, 10, none⟩ = some (.bool h.to.pr) ∧ W.cell? ⟨N, 11, none⟩ = some (.bool h.to.pc) ∧ W.cell? ⟨N, 12, none⟩ = some (.int .i64 h.fn) ∧ W.cell? ⟨N, 13, none⟩ = some (.slice a l c) ∧ W.cell? ⟨N', 0, none⟩ = some (.int .i64 h'.kind) ∧ W.cell? ⟨N', 1, none⟩ = some (.int .i64 h'.op) ∧ W.cell? ⟨N', 2, none⟩ = some (.int .i64 h'.num) ∧ W.cell? ⟨N', 3, none⟩ = some (.string ⟨h'.text.toArray⟩) ∧ W.cell? ⟨N', 4, none⟩ = some (.int .i64 h'.ref.row) ∧ W.cell? ⟨N', 5, none⟩ = some (.int .i64 h'.ref.col) ∧ W.cell? ⟨N', 6, none⟩ = some (.bool h'.ref.pr) ∧ W.cell? ⟨N', 7, none⟩ = some (.bool h'.ref.pc) ∧ W.cell? ⟨N', 8, none⟩ = some (.int .i64 h'.to.row) ∧ W.cell? ⟨N', 9, none⟩ = some (.int .i64 h'.to.col) ∧ W.cell? ⟨N', 10, none⟩ = some (.bool h'.to.pr) ∧ W.cell? ⟨N', 11, none⟩ = some (.bool h'.to.pc) ∧ W.cell? ⟨N', 12, none⟩ = some (.int .i64 h'.fn) ∧ W.cell? ⟨N', 13, none⟩ = some (.slice a' l' c')) ∧ PS w0 h ks a l c N h' ks' a' l' c' N' W) → Calls Try.prog 40 #[.agg #[.int .i64 h'.kind, .int .i64 h'.op, .int .i64 h'.num, .string ⟨h'.text.toArray⟩, .int .i64 h'.ref.row, .int .i64 h'.ref.col, .bool h'.ref.pr, .bool h'.ref.pc, .int .i64 h'.to.row, .int .i64 h'.to.col, .bool h'.to.pr, .bool h'.to.pc, .int .i64 h'.fn, .slice a' l' c']] W (fun e w' => e = .returned (.int .i64 (y : Int)) ∧ ((w'.cell? ⟨N, 0, none⟩ = some (.int .i64 h.kind) ∧ w'.cell? ⟨N, 1, none⟩ = some (.int .i64 h.op) ∧ w'.cell? ⟨N, 2, none⟩ = some (.int .i64 h.num) ∧ w'.cell? ⟨N, 3, none⟩ = some (.string ⟨h.text.toArray⟩) ∧ w'.cell? ⟨N, 4, none⟩ = some (.int .i64 h.ref.row) ∧ w'.cell? ⟨N, 5, none⟩ = some (.int .i64 h.ref.col) ∧ w'.cell? ⟨N, 6, none⟩ = some (.bool h.ref.pr) ∧ w'.cell? ⟨N, 7, none⟩ = some (.bool h.ref.pc) ∧ w'.cell? ⟨N, 8, none⟩ = some (.int .i64 h.to.row) ∧ w'.cell? ⟨N, 9, none⟩ = some (.int .i64 h.to.col) ∧ w'.cell? ⟨N, 10, none⟩ = some (.bool h.to.pr) ∧ w'.cell? ⟨N, 11, none⟩ = some (.bool h.to.pc) ∧ w'.cell? ⟨N, 12, none⟩ = some (.int .i64 h.fn) ∧ w'.cell? ⟨N, 13, none⟩ = some (.slice a l c) ∧ w'.cell? ⟨N', 0, none⟩ = some (.int .i64 h'.kind) ∧ w'.cell? ⟨N', 1, none⟩ = some (.int .i64 h'.op) ∧ w'.cell? ⟨N', 2, none⟩ = some (.int .i64 h'.num) ∧ w'.cell? ⟨N', 3, none⟩ = some (.string ⟨h'.text.toArray⟩) ∧ w'.cell? ⟨N', 4, none⟩ = some (.int .i64 h'.ref.row) ∧ w'.cell? ⟨N', 5, none⟩ = some (.int .i64 h'.ref.col) ∧ w'.cell? ⟨N', 6, none⟩ = some (.bool h'.ref.pr) ∧ w'.cell? ⟨N', 7, none⟩ = some (.bool h'.ref.pc) ∧ w'.cell? ⟨N', 8, none⟩ = some (.int .i64 h'.to.row) ∧ w'.cell? ⟨N', 9, none⟩ = some (.int .i64 h'.to.col) ∧ w'.cell? ⟨N', 10, none⟩ = some (.bool h'.to.pr) ∧ w'.cell? ⟨N', 11, none⟩ = some (.bool h'.to.pc) ∧ w'.cell? ⟨N', 12, none⟩ = some (.int .i64 h'.fn) ∧ w'.cell? ⟨N', 13, none⟩ = some (.slice a' l' c')) ∧ PS w0 h ks a l c N h' ks' a' l' c' N' w')) := fun w0 N N' W q =>
    (refs_any h' ks' W W.heap.size a' l' c' (Nat.le_refl _) q.2.t2 hn').mono fun e w' r => ⟨by rw [hy]; exact r.1, (q.2.step r.2).full⟩
  rw [← hx, ← hy]
  have C1 := Lib.hid c1; have C2 := Lib.hid c2; have P0 := Lib.hid p0; have B0 := Lib.hid b0
  clear tv tv' b0 p0 c1 c2 hx hy
  go_enter Try.func39, Try.ntmps39
  go_wp2_with fail
  have hd0 := P0.out.full
  have hd1 := (P0.out.step (Below.refl _ _).drew).full
  generalize hw2 : (w.alloc (.cells #[.int .i64 h.kind, .int .i64 h.op, .int .i64 h.num, .string ⟨h.text.toArray⟩, .int .i64 h.ref.row, .int .i64 h.ref.col, .bool h.ref.pr, .bool h.ref.pc, .int .i64 h.to.row, .int .i64 h.to.col, .bool h.to.pr, .bool h.to.pc, .int .i64 h.fn, .slice a l c] 29)).alloc (.cells #[.int .i64 h'.kind, .int .i64 h'.op, .int .i64 h'.num, .string ⟨h'.text.toArray⟩, .int .i64 h'.ref.row, .int .i64 h'.ref.col, .bool h'.ref.pr, .bool h'.ref.pc, .int .i64 h'.to.row, .int .i64 h'.to.col, .bool h'.to.pr, .bool h'.to.pc, .int .i64 h'.fn, .slice a' l' c'] 29) = w2 at hd0 hd1 P0 B0 ⊢
  have C1' := Lib.hid (C1.out w2 w.heap.size (w.heap.size + 1)); have C2' := Lib.hid (C2.out w2 w.heap.size (w.heap.size + 1))
  clear C1 C2 hw2
  go_region_held3 (fun W => ((W.cell? ⟨w.heap.size, 0, none⟩ = some (.int .i64 h.kind) ∧ W.cell? ⟨w.heap.size, 1, none⟩ = some (.int .i64 h.op) ∧ W.cell? ⟨w.heap.size, 2, none⟩ = some (.int .i64 h.num) ∧ W.cell? ⟨w.heap.size, 3, none⟩ = some (.string ⟨h.text.toArray⟩) ∧ W.cell? ⟨w.heap.size, 4, none⟩ = some (.int .i64 h.ref.row) ∧ W.cell? ⟨w.heap.size, 5, none⟩ = some (.int .i64 h.ref.col) ∧ W.cell? ⟨w.heap.size, 6, none⟩ = some (.bool h.ref.pr) ∧ W.cell? ⟨w.heap.size, 7, none⟩ = some (.bool h.ref.pc) ∧ W.cell? ⟨w.heap.size, 8, none⟩ = some (.int .i64 h.to.row) ∧ W.cell? ⟨w.heap.size, 9, none⟩ = some (.int .i64 h.to.col) ∧ W.cell? ⟨w.heap.size, 10, none⟩ = some (.bool h.to.pr) ∧ W.cell? ⟨w.heap.size, 11, none⟩ = some (.bool h.to.pc) ∧ W.cell? ⟨w.heap.size, 12, none⟩ = some (.int .i64 h.fn) ∧ W.cell? ⟨w.heap.size, 13, none⟩ = some (.slice a l c) ∧ W.cell? ⟨(w.heap.size + 1), 0, none⟩ = some (.int .i64 h'.kind) ∧ W.cell? ⟨(w.heap.size + 1), 1, none⟩ = some (.int .i64 h'.op) ∧ W.cell? ⟨(w.heap.size + 1), 2, none⟩ = some (.int .i64 h'.num) ∧ W.cell? ⟨(w.heap.size + 1), 3, none⟩ = some (.string ⟨h'.text.toArray⟩) ∧ W.cell? ⟨(w.heap.size + 1), 4, none⟩ = some (.int .i64 h'.ref.row) ∧ W.cell? ⟨(w.heap.size + 1), 5, none⟩ = some (.int .i64 h'.ref.col) ∧ W.cell? ⟨(w.heap.size + 1), 6, none⟩ = some (.bool h'.ref.pr) ∧ W.cell? ⟨(w.heap.size + 1), 7, none⟩ = some (.bool h'.ref.pc) ∧ W.cell? ⟨(w.heap.size + 1), 8, none⟩ = some (.int .i64 h'.to.row) ∧ W.cell? ⟨(w.heap.size + 1), 9, none⟩ = some (.int .i64 h'.to.col) ∧ W.cell? ⟨(w.heap.size + 1), 10, none⟩ = some (.bool h'.to.pr) ∧ W.cell? ⟨(w.heap.size + 1), 11, none⟩ = some (.bool h'.to.pc) ∧ W.cell? ⟨(w.heap.size + 1), 12, none⟩ = some (.int .i64 h'.fn) ∧ W.cell? ⟨(w.heap.size + 1), 13, none⟩ = some (.slice a' l' c')) ∧ PS w2 h ks a l c w.heap.size h' ks' a' l' c' (w.heap.size + 1) W)) (first | with_reducible assumption | with_reducible exact hd0 | with_reducible exact hd1 | exact hS') (first
      | (go_at_call 40
         with_reducible refine (C1'.out _ (by assumption)).mono ?_
         rintro e w' ⟨rfl, hS'⟩)
      | (go_at_call 40
         with_reducible refine (C2'.out _ (by assumption)).mono ?_
         rintro e w' ⟨rfl, hS'⟩))
  all_goals
    have HS := Lib.hid hS'.2.bel
    clear hS' hd0 hd1
    go_wp2
    go_ret
    exact ⟨ret_bool (by rw [Bool.eq_iff_iff]; simp; try omega), B0.out.trans (HS.out.mono B0.out.size)⟩

set_option maxRecDepth 100000 in
set_option maxHeartbeats 4000000 in
theorem sound_any (nd : Hd) (ks : Trees) (w : World) (B : Nat) (ka : Option Addr) (kl kc : Nat) (hB : B ≤ w.heap.size) (tv : TreeV w B nd ks ka kl) :
    Calls Try.prog 36 #[.agg #[.int .i64 nd.kind, .int .i64 nd.op, .int .i64 nd.num, .string ⟨nd.text.toArray⟩, .int .i64 nd.ref.row, .int .i64 nd.ref.col, .bool nd.ref.pr, .bool nd.ref.pc, .int .i64 nd.to.row, .int .i64 nd.to.col, .bool nd.to.pr, .bool nd.to.pc, .int .i64 nd.fn, .slice ka kl kc]] w fun e w' => e = .returned (.bool (smallB nd ks && decide (mayE nd ks = 0))) ∧ Below w.heap.size w w' := by
  have b0 := ext_alloc (Below.refl _ w) (.cells #[.int .i64 nd.kind, .int .i64 nd.op, .int .i64 nd.num, .string ⟨nd.text.toArray⟩, .int .i64 nd.ref.row, .int .i64 nd.ref.col, .bool nd.ref.pr, .bool nd.ref.pc, .int .i64 nd.to.row, .int .i64 nd.to.col, .bool nd.to.pr, .bool nd.to.pc, .int .i64 nd.fn, .slice ka kl kc] 29)
  have HT := Lib.hid (tv.kept (b0.mono hB) (Nat.le_refl _))
  have B0 := Lib.hid b0
  clear tv b0
  obtain ⟨s, hs⟩ : ∃ s, smallB nd ks = s := ⟨_, rfl⟩
  obtain ⟨m, hm⟩ : ∃ m, mayE nd ks = m := ⟨_, rfl⟩
  have HS := Lib.hid hs; have HM := Lib.hid hm
  rw [hs, hm]
  clear hs hm
  go_enter Try.func36, Try.ntmps36
  go_wp2_with fail
  refine (small_any nd ks _ B ka kl kc (by simp; omega) HT.out).mono ?_
  rintro e w2 ⟨rfl, b2⟩
  have B2 := Lib.hid (B0.out.trans (b2.mono B0.out.size))
  have T2 := Lib.hid (HT.out.kept (b2.mono (by simp; omega)) (Nat.le_refl _))
  obtain ⟨z, cb⟩ := kept_block b2
  rw [HS.out]
  cases s
  · clear b2
    go_wp2
    go_ret
    exact ⟨ret_bool (by simp), B2.out⟩
  · have hh : B ≤ w2.heap.size := by omega
    clear b2
    go_wp2_with fail
    refine (may_any nd ks _ B ka kl kc hh T2.out).mono ?_
    rintro e w3 ⟨rfl, b3⟩
    rw [HM.out]
    go_wp2
    go_ret
    exact ⟨ret_bool (by rw [Bool.eq_iff_iff]; simp), B2.out.trans (b3.mono B2.out.size)⟩
end Go.Proofs.Ytkjfeakbhfkldaa
