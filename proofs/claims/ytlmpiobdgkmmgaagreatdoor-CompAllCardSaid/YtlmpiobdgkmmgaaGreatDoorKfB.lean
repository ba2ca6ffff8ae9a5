/- Lay. -/
import Derived.Test.YtlmpiobdgkmmgaaGreatDoorKcF
import Derived.Test.YtlmpiobdgkmmgaaGreatDoorKcE
import Derived.Test.YtlmpiobdgkmmgaaGreatDoorKfA
import Derived.WalkSpells
import Derived.Lib.SliceRun
set_option maxRecDepth 1000000
set_option maxHeartbeats 16000000
namespace Go.Proofs.YtlmpiobdgkmmgaaGreatDoor
open Go.RowKit
structure BxL (w : World) (A C : Obj) (W : World) : Prop where
 bel : Below w.heap.size w W
 b0 : W.heap[w.heap.size]? = some A
 b1 : W.heap[w.heap.size + 1]? = some C
theorem BxL.lt {w W : World} {A C : Obj} (p : BxL w A C W) : w.heap.size + 1 < W.heap.size := lt_of_block p.b1
theorem BxL.new (w : World) (A C : Obj) : BxL w A C ((w.alloc A).alloc C) := ⟨ext_alloc (ext_alloc (Below.refl _ w) A) C, heap_alloc2_old w A C, heap_alloc2_new w A C⟩
theorem BxL.keep {w W W' : World} {A C : Obj} (p : BxL w A C W) (b : Below (w.heap.size + 2) W W') : BxL w A C W' :=
 ⟨p.bel.trans (b.mono (by omega)), (b.block _ (by omega)).trans p.b0, (b.block _ (by omega)).trans p.b1⟩
def markL (n : Nat) : List Value := [.int .i64 (-7), .int .i64 0, .int .i64 n, .string ⟨#[]⟩, .int .i64 0, .int .i64 0, .bool false, .bool false, .int .i64 0, .int .i64 0, .bool false, .bool false, .int .i64 0, .slice none 0 0]
def LMk (w : World) (ok : Nat → Prop) (ka : Option Addr) (kl kc : Nat) : Prop := ∃ g cur, ka = some ⟨g, 0, none⟩ ∧ ok g ∧ kl < kc ∧ kc ≤ 9223372036854775807 ∧ w.heap[g]? = some (.cells cur 34 (0, 0)) ∧ cur.size = kc * 14 ∧ ∀ i x, (markL kl)[i]? = some x → cur[kl * 14 + i]? = some x
def LRow (w : World) (ok : Nat → Prop) : Trees → Option Addr → Nat → Prop
 | .nil, _, _ => True
 | .cons h ks rest, a, i => (∃ b off ka kl kc, a = some ⟨b, off, none⟩ ∧ ok b ∧ NodeAt w b (off + i * 14) h (.slice ka kl kc) ∧ kl = ks.len ∧ kl ≤ 9223372036854775807 ∧ h.ok ∧ LMk w ok ka kl kc ∧ LRow w ok ks ka 0) ∧ LRow w ok rest a (i + 1)
theorem LMk.kept {w w' : World} {ok ok' : Nat → Prop} (hk : ∀ b, ok b → ok' b ∧ w'.heap[b]? = w.heap[b]?) {ka : Option Addr} {kl kc : Nat} (m : LMk w ok ka kl kc) : LMk w' ok' ka kl kc := by
 obtain ⟨g, cur, e, og, h1, h2, h3, h4, h5⟩ := m
 exact ⟨g, cur, e, (hk g og).1, h1, h2, (hk g og).2.trans h3, h4, h5⟩
theorem LRow.kept {w w' : World} {ok ok' : Nat → Prop} (hk : ∀ b, ok b → ok' b ∧ w'.heap[b]? = w.heap[b]?) : ∀ {ts : Trees} {a : Option Addr} {i : Nat}, LRow w ok ts a i → LRow w' ok' ts a i
 | .nil, _, _, _ => trivial
 | .cons _ _ _, _, _, ⟨⟨b, off, ka, kl, kc, e, lt, n, l, m, o, mk, k⟩, r⟩ => ⟨⟨b, off, ka, kl, kc, e, (hk b lt).1, n.same (hk b lt).2, l, m, o, mk.kept hk, LRow.kept hk k⟩, LRow.kept hk r⟩
theorem LRow.plain {w : World} {ok : Nat → Prop} : ∀ {ts : Trees} {a : Option Addr} {i : Nat}, LRow w ok ts a i → RowX w ok ts a i
 | .nil, _, _, _ => trivial
 | .cons _ _ _, _, _, ⟨⟨b, off, ka, kl, kc, e, lt, n, l, m, o, _, k⟩, r⟩ => ⟨⟨b, off, ka, kl, kc, e, lt, n, l, m, o, LRow.plain k⟩, LRow.plain r⟩
structure LTree (w : World) (ok : Nat → Prop) (h : Hd) (ks : Trees) (ka : Option Addr) (kl kc : Nat) : Prop where
 len : kl = ks.len
 max : kl ≤ 9223372036854775807
 hok : h.ok
 mark : LMk w ok ka kl kc
 row : LRow w ok ks ka 0
theorem LTree.kept {w w' : World} {ok ok' : Nat → Prop} {h : Hd} {ks : Trees} {ka : Option Addr} {kl kc : Nat} (t : LTree w ok h ks ka kl kc) (hk : ∀ b, ok b → ok' b ∧ w'.heap[b]? = w.heap[b]?) : LTree w' ok' h ks ka kl kc := ⟨t.len, t.max, t.hok, t.mark.kept hk, t.row.kept hk⟩
theorem LTree.plain {w : World} {ok : Nat → Prop} {h : Hd} {ks : Trees} {ka : Option Addr} {kl kc : Nat} (t : LTree w ok h ks ka kl kc) : TreeX w ok h ks ka kl := ⟨t.len, t.max, t.hok, t.row.plain⟩
def LdM (w : World) (ok : Nat → Prop) : Trees → List Value → Prop
 | .nil, cs => cs = []
 | .cons h k r, cs => ∃ ka kl kc cs', cs = h.vals (.slice ka kl kc) ++ cs' ∧ LTree w ok h k ka kl kc ∧ LdM w ok r cs'
theorem LdM.kept {w w' : World} {ok ok' : Nat → Prop} (hk : ∀ b, ok b → ok' b ∧ w'.heap[b]? = w.heap[b]?) : ∀ {ts : Trees} {cs : List Value}, LdM w ok ts cs → LdM w' ok' ts cs
 | .nil, _, h => h
 | .cons _ _ _, _, ⟨ka, kl, kc, cs', e, t, r⟩ => ⟨ka, kl, kc, cs', e, t.kept hk, LdM.kept hk r⟩
theorem LdM.snoc {w : World} {ok : Nat → Prop} {h : Hd} {k : Trees} {ka : Option Addr} {kl kc : Nat} (t : LTree w ok h k ka kl kc) : ∀ {ts : Trees} {cs : List Value}, LdM w ok ts cs → LdM w ok (ts.app (.cons h k .nil)) (cs ++ h.vals (.slice ka kl kc))
 | .nil, _, e => by subst e; exact ⟨ka, kl, kc, [], by simp, t, rfl⟩
 | .cons _ _ _, _, ⟨ka', kl', kc', cs', e, t', r⟩ => ⟨ka', kl', kc', cs' ++ h.vals (.slice ka kl kc), by rw [e, List.append_assoc], t', LdM.snoc t r⟩
theorem LdM.row {w : World} {ok : Nat → Prop} {g : Nat} {cur : Array Value} {T : TypeId} (hg : w.heap[g]? = some (.cells cur T (0, 0))) (og : ok g) : ∀ {ts : Trees} {cs : List Value} (i : Nat) (pre post : List Value), LdM w ok ts cs → cur.toList = pre ++ (cs ++ post) → pre.length = i * 14 → LRow w ok ts (some ⟨g, 0, none⟩) i
 | .nil, _, _, _, _, _, _, _ => trivial
 | .cons h k r, cs, i, pre, post, ⟨ka, kl, kc, cs', e, t, q⟩, hc, hp => by
  subst e
  refine ⟨⟨g, 0, ka, kl, kc, rfl, og, node_in i hg pre (cs' ++ post) (by rw [hc, List.append_assoc]) hp, t.len, t.max, t.hok, t.mark, t.row⟩, LdM.row hg og (i + 1) (pre ++ h.vals (.slice ka kl kc)) post q (by rw [hc]; simp only [List.append_assoc]) (by rw [List.length_append, Hd.vals_len, hp]; omega)⟩
theorem LdM.tree {w : World} {ok : Nat → Prop} {base n : Nat} {ts : Trees} {cs : List Value} {l : Value} {h : Hd} {F : List Nat} (hn : n = ts.len) (o : w.ownsRow base 34 14 l (n + 1) (cs ++ markL n)) (og : ∀ g, l.ownBlock = some g → ok g) (r : LdM w ok ts cs) (oc : OwnCells w ts cs F) (hok : h.ok) :
 ∃ g c, l = .slice (some ⟨g, 0, none⟩) (n + 1) c ∧ n < c ∧ c ≤ 9223372036854775807 ∧ LTree w ok h ts (some ⟨g, 0, none⟩) n c ∧ OwnV w ts (.slice (some ⟨g, 0, none⟩) n c) (g :: F) := by
 have hc : cs.length = n * 14 := by rw [oc.length, hn]
 rcases o.2 with ⟨_, e2⟩ | ⟨g, cap, cur, e1, -, hb, h1, h2, h3, h4⟩
 ·omega
 ·subst e1
  have hm : maxLen = 9223372036854775807 := rfl
  have hl : cur.toList = (cs ++ markL n) ++ cur.toList.drop ((n + 1) * 14) := by rw [← h4, List.take_append_drop]
  refine ⟨g, cap, rfl, by omega, by omega, ⟨hn, by omega, hok, ⟨g, cur, rfl, og g rfl, by omega, by omega, hb, h3, fun i x hx => ?_⟩, ?_⟩, ⟨cs, [g], F, ⟨by rw [hc, hn], .inr ⟨g, cap, cur, by rw [hn], hb, by omega, h2, h3, ?_, rfl⟩⟩, oc, rfl⟩⟩
  ·have hi : i < 14 := by rcases Nat.lt_or_ge i 14 with q | q; exact q; rw [List.getElem?_eq_none (by simpa [markL] using q)] at hx; cases hx
   rw [← Array.getElem?_toList, hl, List.append_assoc, List.getElem?_append_right (by omega), hc, Nat.add_sub_cancel_left, List.getElem?_append_left (by simpa [markL] using hi)]
   exact hx
  ·exact LdM.row hb (og g rfl) 0 [] (markL n ++ cur.toList.drop ((n + 1) * 14)) r (by rw [List.nil_append, ← List.append_assoc]; exact hl) rfl
  ·rw [hl, List.append_assoc, ← hn, ← hc, List.take_left']
   rfl
def RLay (h : Hd) (ks : Trees) : Prop := ∀ (w : World) (B : Nat) (ka : Option Addr) (kl kc : Nat), B ≤ w.heap.size → TreeV w B h ks ka kl → ks.nodes ≤ 100000 →
 Calls Tryz.prog 11 #[.agg #[.int .i64 h.kind, .int .i64 h.op, .int .i64 h.num, .string ⟨h.text.toArray⟩, .int .i64 h.ref.row, .int .i64 h.ref.col, .bool h.ref.pr, .bool h.ref.pc, .int .i64 h.to.row, .int .i64 h.to.col, .bool h.to.pr, .bool h.to.pc, .int .i64 h.fn, .slice ka kl kc]] w fun e w' => ∃ xa xl xc F, e = .returned (.agg #[.int .i64 h.kind, .int .i64 h.op, .int .i64 h.num, .string ⟨h.text.toArray⟩, .int .i64 h.ref.row, .int .i64 h.ref.col, .bool h.ref.pr, .bool h.ref.pc, .int .i64 h.to.row, .int .i64 h.to.col, .bool h.to.pr, .bool h.to.pc, .int .i64 h.fn, .slice xa xl xc]) ∧ Below w.heap.size w w' ∧ Fresh w' w.heap.size ks (.slice xa xl xc) F ∧ LTree w' (fun b => w.heap.size ≤ b ∧ b < w'.heap.size) h ks xa xl xc
def OkLy (w : World) (l : Value) (W : World) (b : Nat) : Prop := b < W.heap.size ∧ l.ownBlock ≠ some b ∧ w.heap.size + 2 ≤ b
def LyRel (nd : Hd) (ks : Trees) (kl kc B : Nat) (ka : Option Addr) (w wr : World) (l i : Value) : Prop :=
 ∃ (j : Nat) (dn rest : Trees) (cs : List Value) (F : List Nat), i = .int .i64 j ∧ j = dn.len ∧ dn.app rest = ks ∧ RowIn wr B rest ka j ∧ AllT RLay rest ∧ rest.nodes ≤ 100000 ∧ Hid (BxL w (.cells #[.int .i64 nd.kind, .int .i64 nd.op, .int .i64 nd.num, .string ⟨nd.text.toArray⟩, .int .i64 nd.ref.row, .int .i64 nd.ref.col, .bool nd.ref.pr, .bool nd.ref.pc, .int .i64 nd.to.row, .int .i64 nd.to.col, .bool nd.to.pr, .bool nd.to.pc, .int .i64 nd.fn, .slice ka kl kc] 34) (.cells #[.int .i64 0, .int .i64 0, .int .i64 0, .string ⟨#[]⟩, .int .i64 0, .int .i64 0, .bool false, .bool false, .int .i64 0, .int .i64 0, .bool false, .bool false, .int .i64 0, .slice none 0 0] 34) wr) ∧ Hid (wr.ownsRow (w.heap.size + 2) 34 14 l dn.len cs) ∧ Hid (LdM wr (OkLy w l wr) dn cs) ∧ Hid (OwnCells wr dn cs F) ∧ Hid ((ownList l ++ F).Nodup ∧ (∀ b ∈ ownList l ++ F, w.heap.size + 2 ≤ b) ∧ ∀ b ∈ ownList l ++ F, b < wr.heap.size)
theorem lay_step (nd : Hd) (ks : Trees) (ih : AllT RLay ks) : RLay nd ks := by
 intro w B ka kl kc hB tv hn
 have hm := tv.max
 obtain ⟨i0, hi, hz0, hz1, hz2⟩ := info_parts infoExpr
 have hkl : kl ≤ 100000 := by rw [tv.len]; exact Nat.le_trans (len_le_nodes ks) hn
 have P0 := Lib.hid (BxL.new w (.cells #[.int .i64 nd.kind, .int .i64 nd.op, .int .i64 nd.num, .string ⟨nd.text.toArray⟩, .int .i64 nd.ref.row, .int .i64 nd.ref.col, .bool nd.ref.pr, .bool nd.ref.pc, .int .i64 nd.to.row, .int .i64 nd.to.col, .bool nd.to.pr, .bool nd.to.pc, .int .i64 nd.fn, .slice ka kl kc] 34) (.cells #[.int .i64 0, .int .i64 0, .int .i64 0, .string ⟨#[]⟩, .int .i64 0, .int .i64 0, .bool false, .bool false, .int .i64 0, .int .i64 0, .bool false, .bool false, .int .i64 0, .slice none 0 0] 34))
 have HI := Lib.hid ih; have HT := Lib.hid tv; have HN := Lib.hid hn
 clear ih tv hn
 go_enter Tryz.func11, Tryz.ntmps11
 go_wp2_with (at_make; refine wpList_make_own _ rfl _ _ 22 rfl (w.heap.size + 2) 34 i0 _ 14 Tryz.underlying22 hi hz0 hz1 .i64 .i64 _ (kl + 1) rfl rfl (by go_num) (by rw [hz2]; omega) (by unfold maxLen; omega) (by simp) ?_)
 intro w1 hown1 hgrow1
 have b1 : Below (w.heap.size + 2) ((w.alloc (.cells #[.int .i64 nd.kind, .int .i64 nd.op, .int .i64 nd.num, .string ⟨nd.text.toArray⟩, .int .i64 nd.ref.row, .int .i64 nd.ref.col, .bool nd.ref.pr, .bool nd.ref.pc, .int .i64 nd.to.row, .int .i64 nd.to.col, .bool nd.to.pr, .bool nd.to.pc, .int .i64 nd.fn, .slice ka kl kc] 34)).alloc (.cells #[.int .i64 0, .int .i64 0, .int .i64 0, .string ⟨#[]⟩, .int .i64 0, .int .i64 0, .bool false, .bool false, .int .i64 0, .int .i64 0, .bool false, .bool false, .int .i64 0, .slice none 0 0] 34)) w1 := (Below.refl _ _).grown hgrow1 (by simp) (by simp)
 have P1 := Lib.hid (P0.out.keep b1)
 have c0 := cells_of_block P1.out.b0
 have OW1 := Lib.hid hown1
 clear hown1 hgrow1 b1
 go_wp2_with fail
 clear c0
 go_loopw [3, 4] (fun l i wr => LyRel nd ks kl kc B ka w wr l i) (fun _ i _ => kl - (intOf i).toNat)
 case atStart =>
  exact ⟨0, .nil, ks, [], [], rfl, rfl, rfl, HT.out.row.kept (P1.out.bel.mono hB) (Nat.le_refl _), HI.out, HN.out, P1, OW1, Lib.hid rfl, Lib.hid ⟨rfl, rfl⟩, Lib.hid ⟨by unfold ownList; split <;> simp, fun b hb => (OW1.out.lt b (mem_ownList.1 (by simpa using hb))).1, fun b hb => (OW1.out.lt b (mem_ownList.1 (by simpa using hb))).2⟩⟩
 case round =>
  obtain ⟨j, dn, rest, cs, F, rfl, hj, happ, hrow, hall, hno, HP, HOW, HRD, HOC, HFF⟩ := hrel
  have hlen : kl = j + rest.len := by rw [HT.out.len, ← happ, Trees.app_len, hj]
  have c0 := cells_of_block HP.out.b0
  have hlt3 := HP.out.lt
  by_cases hlt : j < kl
  ·obtain ⟨h', k', r', rfl⟩ := trees_cons (rest := rest) (by omega)
   obtain ⟨b1, off, ka', kl', kc', rfl, hb1, N1, tv1⟩ := hrow.head
   have hl1 := N1.1
   have RG := Lib.hid (show wr.rangeAt b1 (off + j * 14) [.int .i64 h'.kind, .int .i64 h'.op, .int .i64 h'.num, .string ⟨h'.text.toArray⟩, .int .i64 h'.ref.row, .int .i64 h'.ref.col, .bool h'.ref.pr, .bool h'.ref.pc, .int .i64 h'.to.row, .int .i64 h'.to.col, .bool h'.to.pr, .bool h'.to.pc, .int .i64 h'.fn, .slice ka' kl' kc'] from fun q x hx => N1.2 q x hx)
   have hno1 : k'.nodes ≤ 100000 := by simp only [Trees.nodes] at hno; omega
   have hno2 : r'.nodes ≤ 100000 := by simp only [Trees.nodes] at hno; omega
   have CA := Lib.hid (hall.1 wr B ka' kl' kc' (by omega) tv1 hno1)
   have HA := Lib.hid happ; have HJ := Lib.hid hj; have HLen := Lib.hid hlen; have HAll := Lib.hid hall.2; have HRow := Lib.hid hrow.2
   have hji : (j : Int) < (kl : Int) := by omega
   have hj0 : (0 : Int) ≤ (j : Int) := by omega
   have hdl : dn.len ≤ 100000 := by omega
   have OKH := Lib.hid tv1.ok
   clear happ hj hlen hall hrow tv1 N1 hno hno1
   go_wp2_with (refine wpList_load_rng (N := b1) (off := off + j * 14) (vs := [.int .i64 h'.kind, .int .i64 h'.op, .int .i64 h'.num, .string ⟨h'.text.toArray⟩, .int .i64 h'.ref.row, .int .i64 h'.ref.col, .bool h'.ref.pr, .bool h'.ref.pc, .int .i64 h'.to.row, .int .i64 h'.to.col, .bool h'.to.pr, .bool h'.to.pc, .int .i64 h'.fn, .slice ka' kl' kc']) rfl rfl rfl RG.out rfl ?_)
   refine CA.out.mono ?_
   rintro e w2 ⟨xa, xl, xc, F2, rfl, b2, f2, x2⟩
   have hs2 := b2.size
   have own3 : w2.ownsRow (w.heap.size + 2) 34 14 u3 dn.len cs := ((slot_of HOW.out).kept fun b hb => b2.block b (HOW.out.lt b (mem_ownList.1 hb)).2).owns fun b hb => (HOW.out.lt b (mem_ownList.1 hb)).1
   have B2 := Lib.hid b2; have X2 := Lib.hid x2; have FF2 := Lib.hid f2
   clear b2 x2 f2 c0 CA
   go_wp2_with (at_builtin; refine wpList_append_own_at _ rfl _ _ 22 rfl (w.heap.size + 2) 34 i0 _ 14 120 Tryz.underlying22 hi hz0 hz1 hz2 rfl (by decide) u3 dn.len cs rfl (own3.alloc _) ⟨w2.heap.size, 0, none⟩ 1 1 (Hd.vals h' (.slice xa xl xc)) rfl rfl (World.news_of_block (heap_alloc_new w2 _)) (by simp [Value.oneCell', Hd.vals]) (by unfold maxLen; omega) (by omega) (by simp; omega) ?_)
   intro v' w4 hown4 hgrow _ hloc
   have hl : ∀ k, u3.ownBlock = some k → w.heap.size + 2 ≤ k ∧ k < wr.heap.size := fun k hk => HOW.out.lt k hk
   have b4 : Below (w.heap.size + 2) wr w4 := ((B2.out.mono (by omega)).alloc (by omega) _).grown hgrow (by simp; omega) (fun k hk => (hl k hk).1)
   have s4 : w2.heap.size + 1 ≤ w4.heap.size := by have := hgrow.size; simpa using this
   have hloc' : v'.ownBlock = u3.ownBlock ∨ v'.ownBlock = some (w2.heap.size + 1) := by simpa using hloc
   have hnb : ∀ b, b < w2.heap.size → v'.ownBlock = some b → u3.ownBlock = some b := fun b hb e => by
    rcases hloc' with q | q
    ·rw [q] at e; exact e
    ·rw [q] at e; injection e with e; omega
   have same : ∀ b, b < w2.heap.size → u3.ownBlock ≠ some b → w4.heap[b]? = w2.heap[b]? := fun b hb hne => (hgrow.block b (by simp; omega) (fun e => hne e.symm)).trans (Below.heap_alloc _ _ _ hb)
   have r4 : LdM w4 (OkLy w v' w4) (dn.app (.cons h' k' .nil)) (cs ++ (Hd.vals h' (.slice xa xl xc))) := by
    refine LdM.snoc (X2.out.kept fun b hb => ?_) (HRD.out.kept fun b hb => ?_)
    ·have hne : u3.ownBlock ≠ some b := fun e => by have := hl b e; omega
     exact ⟨⟨by omega, fun e => hne (hnb b (by omega) e), by omega⟩, same b (by omega) hne⟩
    ·obtain ⟨q1, q2, q3⟩ := hb
     exact ⟨⟨by omega, fun e => q2 (hnb b (by omega) e), q3⟩, (same b (by omega) q2).trans (B2.out.block b q1)⟩
   have fr4 := Fresh.step HOC.out HFF.out.1 HFF.out.2.1 HFF.out.2.2 B2.out FF2.out OKH.out (by omega) hgrow (by simpa using hown4) hloc'
   have oc4 : OwnCells w4 (dn.app (.cons h' k' .nil)) (cs ++ (Hd.vals h' (.slice xa xl xc))) (F ++ F2) := by
    refine OwnCells.snoc (HOC.out.kept fun b hb => ?_) OKH.out (FF2.out.own.kept fun b hb => ?_)
    ·have q1 := HFF.out.2.2 b (by simp [hb])
     have q2 : u3.ownBlock ≠ some b := fun e => (List.nodup_append.1 HFF.out.1).2.2 b (mem_ownList.2 e) b hb rfl
     exact (same b (by omega) q2).trans (B2.out.block b q1)
    ·exact same b (FF2.out.lt b hb) (fun e => by have := (hl b e).2; have := FF2.out.new b hb; omega)
   have R4 := Lib.hid r4; have OC4 := Lib.hid oc4
   have NF4 := Lib.hid (And.intro fr4.once (And.intro fr4.new fr4.lt))
   have ROW4 := Lib.hid (HRow.out.kept (b4.mono (by omega)) (Nat.le_refl _))
   have P4 := Lib.hid (HP.out.keep b4)
   have own4 : w4.ownsRow (w.heap.size + 2) 34 14 v' (dn.app (.cons h' k' .nil)).len (cs ++ (Hd.vals h' (.slice xa xl xc))) := by rw [Trees.app_len]; exact hown4
   have OWN4 := Lib.hid own4
   clear own4 hown4 hgrow hloc hloc' hnb same r4 oc4 fr4 own3 b4 hl
   go_wp2
   exact ⟨⟨j + 1, dn.app (.cons h' k' .nil), r', _, _, by go_num, by rw [Trees.app_len, HJ.out]; rfl, by rw [Trees.app_cons]; exact HA.out, ROW4.out, HAll.out, hno2, P4, OWN4, R4, OC4, NF4⟩, by simp [intOf]; have := HLen.out; simp only [Trees.len] at this; omega⟩
  ·have hz : rest.len = 0 := by omega
   obtain rfl := trees_nil hz
   rw [Trees.app_nil] at happ
   subst happ
   obtain ⟨la, lc, rfl⟩ : ∃ a c, u3 = .slice a dn.len c := (slot_of HOW.out).slice
   have hdl : dn.len ≤ 100000 := by omega
   clear hrow hall hj hlen
   go_wp2_with (at_builtin; refine wpList_append_own_at _ rfl _ _ 22 rfl (w.heap.size + 2) 34 i0 _ 14 120 Tryz.underlying22 hi hz0 hz1 hz2 rfl (by decide) (.slice la dn.len lc) dn.len cs rfl (HOW.out.alloc _) ⟨wr.heap.size, 0, none⟩ 1 1 (markL dn.len) rfl rfl (World.news_of_block (heap_alloc_new wr _)) (by simp [Value.oneCell', markL]) (by unfold maxLen; omega) (by omega) (by simp; omega) ?_)
   intro v' w4 hown4 hgrow _ hloc
   have hl : ∀ k, (Value.slice la dn.len lc).ownBlock = some k → w.heap.size + 2 ≤ k ∧ k < wr.heap.size := fun k hk => HOW.out.lt k hk
   have b4 : Below (w.heap.size + 2) wr w4 := ((Below.refl _ wr).alloc (by omega) _).grown hgrow (by simp; omega) (fun k hk => (hl k hk).1)
   have s4 : wr.heap.size + 1 ≤ w4.heap.size := by have := hgrow.size; simpa using this
   have hloc' : v'.ownBlock = (Value.slice la dn.len lc).ownBlock ∨ v'.ownBlock = some (wr.heap.size + 1) := by simpa using hloc
   have same : ∀ b, b < wr.heap.size → (Value.slice la dn.len lc).ownBlock ≠ some b → w4.heap[b]? = wr.heap[b]? := fun b hb hne => (hgrow.block b (by simp; omega) (fun e => hne e.symm)).trans (Below.heap_alloc _ _ _ hb)
   have r4 : LdM w4 (fun b => w.heap.size + 2 ≤ b ∧ b < w4.heap.size) dn cs := HRD.out.kept fun b hb => ⟨⟨hb.2.2, by have := hb.1; omega⟩, same b hb.1 hb.2.1⟩
   have hq : ∀ b ∈ F, (Value.slice la dn.len lc).ownBlock ≠ some b := fun b hb e => (List.nodup_append.1 HFF.out.1).2.2 b (mem_ownList.2 e) b hb rfl
   have oc4 : OwnCells w4 dn cs F := HOC.out.kept fun b hb => same b (HFF.out.2.2 b (by simp [hb])) (hq b hb)
   have hvb := fun b (hb : v'.ownBlock = some b) => hown4.lt b hb
   obtain ⟨g, cp, rfl, hcp, hcm, mt, ov⟩ := LdM.tree (h := nd) rfl hown4 (fun g hg => hown4.lt g hg) r4 oc4 HT.out.ok
   have hg : w.heap.size + 2 ≤ g ∧ g < w4.heap.size := hvb g rfl
   have fr4 : Fresh w4 (w.heap.size + 2) dn (.slice (some ⟨g, 0, none⟩) dn.len cp) (g :: F) := by
    refine ⟨ov, List.nodup_cons.2 ⟨fun hm => ?_, (List.nodup_append.1 HFF.out.1).2.1⟩, fun b hb => ?_, fun b hb => ?_⟩
    ·have := HFF.out.2.2 g (by simp [hm])
     rcases hloc' with q | q
     ·exact hq g hm q.symm
     ·simp [Value.ownBlock] at q; omega
    ·rcases List.mem_cons.1 hb with q | q
     ·subst q; exact hg.1
     ·exact HFF.out.2.1 b (by simp [q])
    ·rcases List.mem_cons.1 hb with q | q
     ·subst q; exact hg.2
     ·have := HFF.out.2.2 b (by simp [q]); omega
   have P4 := Lib.hid (HP.out.keep b4)
   have c0 := cells_of_block P4.out.b0
   have c1 := cells_of_block P4.out.b1
   have f0 := frees_of_block P4.out.b0
   have f1 := frees_of_block P4.out.b1
   have hlt4 := P4.out.lt
   have T5 := Lib.hid mt; have F5 := Lib.hid fr4
   clear hown4 hgrow hloc hloc' same r4 oc4 b4 hl mt ov fr4 s4 hq hvb
   go_wp2
   refine bodyPost_ret (v := .agg #[.int .i64 nd.kind, .int .i64 nd.op, .int .i64 nd.num, .string ⟨nd.text.toArray⟩, .int .i64 nd.ref.row, .int .i64 nd.ref.col, .bool nd.ref.pr, .bool nd.ref.pc, .int .i64 nd.to.row, .int .i64 nd.to.col, .bool nd.to.pr, .bool nd.to.pc, .int .i64 nd.fn, .slice (some ⟨g, 0, none⟩) dn.len cp]) (by simp [results, Tryz.results11, go_sem, c1]) rfl ?_
   refine ⟨_, dn.len, cp, g :: F, rfl, ?_, ?_, ?_⟩
   ·repeat (refine Below.setCell ?_ (by simp; try omega) _)
    exact P4.out.bel
   ·refine ⟨F5.out.own.kept fun b hb => ?_, F5.out.once, fun b hb => by have := F5.out.new b hb; omega, fun b hb => by simpa [World.setCell] using F5.out.lt b hb⟩
    have := F5.out.new b hb
    repeat rw [Below.heap_setCell _ _ _ _ (by simp; omega)]
   ·refine T5.out.kept fun b hb => ?_
    refine ⟨⟨by omega, by simpa [World.setCell] using hb.2⟩, ?_⟩
    repeat rw [Below.heap_setCell _ _ _ _ (by simp; omega)]
theorem lay_any (h : Hd) (ks : Trees) : RLay h ks := lay_step h ks (allT lay_step ks)
end Go.Proofs.YtlmpiobdgkmmgaaGreatDoor
