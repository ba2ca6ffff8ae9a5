/- Trees in memory of their own, a mark behind each list (law10's Twin). -/
import Derived.Test.YtkjfeakbhfkldaaMhC
import Derived.Test.YtkjfeakbhfkldaaTreeJ
import Derived.Test.YtkjfeakbhfkldaaTreeQ
import Derived.Test.YtkjfeakbhfkldaaMhV
import Derived.WalkSpells
import Derived.Lib.SliceRun
namespace Go.Proofs.Ytkjfeakbhfkldaa
open Go.RowKit

/-- Behind a list of kids that is there lies a mark. -/
def Mk (w : World) (ok : Nat → Prop) (ka : Option Addr) (kl kc : Nat) : Prop := ka = none ∨ ∃ g cur, ka = some ⟨g, 0, none⟩ ∧ ok g ∧ kl < kc ∧ kc ≤ 9223372036854775807 ∧ w.heap[g]? = some (.cells cur 29 (0, 0)) ∧ cur.size = kc * 14 ∧ cur[kl * 14]? = some (.int .i64 (-7))
/-- A row of trees, a mark behind each of their lists. -/
def MRow (w : World) (ok : Nat → Prop) : Trees → Option Addr → Nat → Prop
  | .nil, _, _ => True
  | .cons h ks rest, a, i => (∃ b off ka kl kc, a = some ⟨b, off, none⟩ ∧ ok b ∧ NodeAt w b (off + i * 14) h (.slice ka kl kc) ∧ kl = ks.len ∧ kl ≤ 9223372036854775807 ∧ h.ok ∧ Mk w ok ka kl kc ∧ MRow w ok ks ka 0) ∧ MRow w ok rest a (i + 1)
theorem Mk.kept {w w' : World} {ok ok' : Nat → Prop} (hk : ∀ b, ok b → ok' b ∧ w'.heap[b]? = w.heap[b]?) {ka : Option Addr} {kl kc : Nat} (m : Mk w ok ka kl kc) : Mk w' ok' ka kl kc := by
  rcases m with m | ⟨g, cur, e, og, h1, h2, h3, h4, h5⟩
  · exact .inl m
  · exact .inr ⟨g, cur, e, (hk g og).1, h1, h2, (hk g og).2.trans h3, h4, h5⟩
theorem MRow.kept {w w' : World} {ok ok' : Nat → Prop} (hk : ∀ b, ok b → ok' b ∧ w'.heap[b]? = w.heap[b]?) : ∀ {ts : Trees} {a : Option Addr} {i : Nat}, MRow w ok ts a i → MRow w' ok' ts a i
  | .nil, _, _, _ => trivial
  | .cons _ _ _, _, _, ⟨⟨b, off, ka, kl, kc, e, lt, n, l, m, o, mk, k⟩, r⟩ => ⟨⟨b, off, ka, kl, kc, e, (hk b lt).1, n.same (hk b lt).2, l, m, o, mk.kept hk, MRow.kept hk k⟩, MRow.kept hk r⟩
theorem MRow.plain {w : World} {ok : Nat → Prop} : ∀ {ts : Trees} {a : Option Addr} {i : Nat}, MRow w ok ts a i → RowX w ok ts a i
  | .nil, _, _, _ => trivial
  | .cons _ _ _, _, _, ⟨⟨b, off, ka, kl, kc, e, lt, n, l, m, o, _, k⟩, r⟩ => ⟨⟨b, off, ka, kl, kc, e, lt, n, l, m, o, MRow.plain k⟩, MRow.plain r⟩
structure MTree (w : World) (ok : Nat → Prop) (h : Hd) (ks : Trees) (ka : Option Addr) (kl kc : Nat) : Prop where
  len : kl = ks.len
  max : kl ≤ 9223372036854775807
  hok : h.ok
  mark : Mk w ok ka kl kc
  row : MRow w ok ks ka 0
theorem MTree.kept {w w' : World} {ok ok' : Nat → Prop} {h : Hd} {ks : Trees} {ka : Option Addr} {kl kc : Nat} (t : MTree w ok h ks ka kl kc) (hk : ∀ b, ok b → ok' b ∧ w'.heap[b]? = w.heap[b]?) : MTree w' ok' h ks ka kl kc := ⟨t.len, t.max, t.hok, t.mark.kept hk, t.row.kept hk⟩
theorem MTree.plain {w : World} {ok : Nat → Prop} {h : Hd} {ks : Trees} {ka : Option Addr} {kl kc : Nat} (t : MTree w ok h ks ka kl kc) : TreeX w ok h ks ka kl := ⟨t.len, t.max, t.hok, t.row.plain⟩
/-- Cells that hold a list of such trees. -/
def RdM (w : World) (ok : Nat → Prop) : Trees → List Value → Prop
  | .nil, cs => cs = []
  | .cons h k r, cs => ∃ ka kl kc cs', cs = h.vals (.slice ka kl kc) ++ cs' ∧ MTree w ok h k ka kl kc ∧ RdM w ok r cs'
theorem RdM.kept {w w' : World} {ok ok' : Nat → Prop} (hk : ∀ b, ok b → ok' b ∧ w'.heap[b]? = w.heap[b]?) : ∀ {ts : Trees} {cs : List Value}, RdM w ok ts cs → RdM w' ok' ts cs
  | .nil, _, h => h
  | .cons _ _ _, _, ⟨ka, kl, kc, cs', e, t, r⟩ => ⟨ka, kl, kc, cs', e, t.kept hk, RdM.kept hk r⟩
theorem RdM.snoc {w : World} {ok : Nat → Prop} {h : Hd} {k : Trees} {ka : Option Addr} {kl kc : Nat} (t : MTree w ok h k ka kl kc) : ∀ {ts : Trees} {cs : List Value}, RdM w ok ts cs → RdM w ok (ts.app (.cons h k .nil)) (cs ++ h.vals (.slice ka kl kc))
  | .nil, _, e => by subst e; exact ⟨ka, kl, kc, [], by simp, t, rfl⟩
  | .cons _ _ _, _, ⟨ka', kl', kc', cs', e, t', r⟩ => ⟨ka', kl', kc', cs' ++ h.vals (.slice ka kl kc), by rw [e, List.append_assoc], t', RdM.snoc t r⟩
theorem RdM.row {w : World} {ok : Nat → Prop} {g : Nat} {cur : Array Value} {T : TypeId} (hg : w.heap[g]? = some (.cells cur T (0, 0))) (og : ok g) : ∀ {ts : Trees} {cs : List Value} (i : Nat) (pre post : List Value), RdM w ok ts cs → cur.toList = pre ++ (cs ++ post) → pre.length = i * 14 → MRow w ok ts (some ⟨g, 0, none⟩) i
  | .nil, _, _, _, _, _, _, _ => trivial
  | .cons h k r, cs, i, pre, post, ⟨ka, kl, kc, cs', e, t, q⟩, hc, hp => by
    subst e
    refine ⟨⟨g, 0, ka, kl, kc, rfl, og, node_in i hg pre (cs' ++ post) (by rw [hc, List.append_assoc]) hp, t.len, t.max, t.hok, t.mark, t.row⟩, RdM.row hg og (i + 1) (pre ++ h.vals (.slice ka kl kc)) post q (by rw [hc]; simp only [List.append_assoc]) (by rw [List.length_append, Hd.vals_len, hp]; omega)⟩
/-- A list and the mark behind it. -/
theorem RdM.tree {w : World} {ok : Nat → Prop} {base n : Nat} {ts : Trees} {cs mr : List Value} {l : Value} {h : Hd} (hn : n = ts.len) (hc : cs.length = n * 14) (o : w.ownsRow base 29 14 l (n + 1) (cs ++ .int .i64 (-7) :: mr)) (og : ∀ g, l.ownBlock = some g → ok g) (r : RdM w ok ts cs) (hok : h.ok) :
    ∃ g c, l = .slice (some ⟨g, 0, none⟩) (n + 1) c ∧ n < c ∧ c ≤ 9223372036854775807 ∧ MTree w ok h ts (some ⟨g, 0, none⟩) n c := by
  rcases o.2 with ⟨_, e2⟩ | ⟨g, cap, cur, e1, -, hb, h1, h2, h3, h4⟩
  · omega
  · subst e1
    have hm : maxLen = 9223372036854775807 := rfl
    have hl : cur.toList = (cs ++ .int .i64 (-7) :: mr) ++ cur.toList.drop ((n + 1) * 14) := by rw [← h4, List.take_append_drop]
    refine ⟨g, cap, rfl, by omega, by omega, hn, by omega, hok, .inr ⟨g, cur, rfl, og g rfl, by omega, by omega, hb, h3, ?_⟩, ?_⟩
    · rw [← Array.getElem?_toList, hl, List.append_assoc, List.getElem?_append_right (by omega), hc, Nat.sub_self]
      rfl
    · exact RdM.row hb (og g rfl) 0 [] (.int .i64 (-7) :: mr ++ cur.toList.drop ((n + 1) * 14)) r (by rw [List.nil_append, ← List.append_assoc]; exact hl) rfl

def RTw (h : Hd) (ks : Trees) : Prop := ∀ (w : World) (B : Nat) (ka : Option Addr) (kl kc : Nat), B ≤ w.heap.size → TreeV w B h ks ka kl → ks.nodes ≤ 100000 →
  Calls Try.prog 32 #[.agg #[.int .i64 h.kind, .int .i64 h.op, .int .i64 h.num, .string ⟨h.text.toArray⟩, .int .i64 h.ref.row, .int .i64 h.ref.col, .bool h.ref.pr, .bool h.ref.pc, .int .i64 h.to.row, .int .i64 h.to.col, .bool h.to.pr, .bool h.to.pc, .int .i64 h.fn, .slice ka kl kc]] w fun e w' => ∃ xa xl xc, e = .returned (.agg #[.int .i64 h.kind, .int .i64 h.op, .int .i64 h.num, .string ⟨h.text.toArray⟩, .int .i64 h.ref.row, .int .i64 h.ref.col, .bool h.ref.pr, .bool h.ref.pc, .int .i64 h.to.row, .int .i64 h.to.col, .bool h.to.pr, .bool h.to.pc, .int .i64 h.fn, .slice xa xl xc]) ∧ Below w.heap.size w w' ∧ MTree w' (fun b => w.heap.size ≤ b ∧ b < w'.heap.size) h ks xa xl xc
def OkT (w : World) (l : Value) (W : World) (b : Nat) : Prop := b < W.heap.size ∧ l.ownBlock ≠ some b ∧ w.heap.size + 2 ≤ b
def TwRel (nd : Hd) (ks : Trees) (kl kc B : Nat) (ka : Option Addr) (w wr : World) (l i : Value) : Prop :=
  ∃ (j : Nat) (dn rest : Trees) (cs : List Value), i = .int .i64 j ∧ j = dn.len ∧ dn.app rest = ks ∧ RowIn wr B rest ka j ∧ AllT RTw rest ∧ rest.nodes ≤ 100000 ∧ Hid (Bx2 w (.cells #[.int .i64 nd.kind, .int .i64 nd.op, .int .i64 nd.num, .string ⟨nd.text.toArray⟩, .int .i64 nd.ref.row, .int .i64 nd.ref.col, .bool nd.ref.pr, .bool nd.ref.pc, .int .i64 nd.to.row, .int .i64 nd.to.col, .bool nd.to.pr, .bool nd.to.pc, .int .i64 nd.fn, .slice ka kl kc] 29) (.cells #[.int .i64 0, .int .i64 0, .int .i64 0, .string ⟨#[]⟩, .int .i64 0, .int .i64 0, .bool false, .bool false, .int .i64 0, .int .i64 0, .bool false, .bool false, .int .i64 0, .slice none 0 0] 29) wr) ∧ Hid (wr.ownsRow (w.heap.size + 2) 29 14 l dn.len cs) ∧ Hid (RdM wr (OkT w l wr) dn cs)

set_option maxRecDepth 100000 in
set_option maxHeartbeats 4000000 in
theorem twin10_step (nd : Hd) (ks : Trees) (ih : AllT RTw ks) : RTw nd ks := by
  intro w B ka kl kc hB tv hn
  have hm := tv.max
  obtain ⟨i0, hi, hz0, hz1, hz2⟩ := info_parts infoExpr
  have hkl : kl ≤ 100000 := by rw [tv.len]; exact Nat.le_trans (len_le_nodes ks) hn
  have P0 := Lib.hid (Bx2.new w (.cells #[.int .i64 nd.kind, .int .i64 nd.op, .int .i64 nd.num, .string ⟨nd.text.toArray⟩, .int .i64 nd.ref.row, .int .i64 nd.ref.col, .bool nd.ref.pr, .bool nd.ref.pc, .int .i64 nd.to.row, .int .i64 nd.to.col, .bool nd.to.pr, .bool nd.to.pc, .int .i64 nd.fn, .slice ka kl kc] 29) (.cells #[.int .i64 0, .int .i64 0, .int .i64 0, .string ⟨#[]⟩, .int .i64 0, .int .i64 0, .bool false, .bool false, .int .i64 0, .int .i64 0, .bool false, .bool false, .int .i64 0, .slice none 0 0] 29))
  have HI := Lib.hid ih; have HT := Lib.hid tv; have HN := Lib.hid hn
  clear ih tv hn
  have qS : ∀ (W : World) (a : Option Addr) (n c : Nat), (binOp .eql 27 (.slice a n c) (.slice none 0 0)).run Try.prog W = .ok (.bool a.isNone) W := fun W a n c => Lib.run_eql_slice_nil W _ _ a n c 0 0 Try.underlying27
  cases ka with
  | none =>
    have hks : ks = .nil := by
      cases hks : ks with
      | nil => rfl
      | cons h k r =>
        have := HT.out.row
        rw [hks] at this
        obtain ⟨⟨b, off, ka, kl, kc, e, -⟩, -⟩ := this
        exact absurd e (by simp)
    subst hks
    have hl0 : kl = 0 := HT.out.len
    subst hl0
    go_enter Try.func32, Try.ntmps32
    go_wp2
    refine bodyPost_ret (v := .agg #[.int .i64 nd.kind, .int .i64 nd.op, .int .i64 nd.num, .string ⟨nd.text.toArray⟩, .int .i64 nd.ref.row, .int .i64 nd.ref.col, .bool nd.ref.pr, .bool nd.ref.pc, .int .i64 nd.to.row, .int .i64 nd.to.col, .bool nd.to.pr, .bool nd.to.pc, .int .i64 nd.fn, .slice none 0 kc]) (by simp [results, Try.results32, go_sem]) rfl ?_
    refine ⟨none, 0, kc, rfl, ?_, rfl, by omega, HT.out.ok, .inl rfl, trivial⟩
    exact ext_alloc (ext_alloc (Below.refl _ w) _) _
  | some ad =>
    go_enter Try.func32, Try.ntmps32
    go_wp2_with (at_make; refine wpList_make_own _ rfl _ _ 27 rfl (w.heap.size + 2) 29 i0 _ 14 Try.underlying27 hi hz0 hz1 .i64 .i64 _ (kl + 1) rfl rfl (by go_num) (by rw [hz2]; omega) (by unfold maxLen; omega) (by simp) ?_)
    intro w1 hown1 hgrow1
    have b1 : Below (w.heap.size + 2) ((w.alloc (.cells #[.int .i64 nd.kind, .int .i64 nd.op, .int .i64 nd.num, .string ⟨nd.text.toArray⟩, .int .i64 nd.ref.row, .int .i64 nd.ref.col, .bool nd.ref.pr, .bool nd.ref.pc, .int .i64 nd.to.row, .int .i64 nd.to.col, .bool nd.to.pr, .bool nd.to.pc, .int .i64 nd.fn, .slice (some ad) kl kc] 29)).alloc (.cells #[.int .i64 0, .int .i64 0, .int .i64 0, .string ⟨#[]⟩, .int .i64 0, .int .i64 0, .bool false, .bool false, .int .i64 0, .int .i64 0, .bool false, .bool false, .int .i64 0, .slice none 0 0] 29)) w1 := (Below.refl _ _).grown hgrow1 (by simp) (by simp)
    have P1 := Lib.hid (P0.out.keep b1)
    have c0 := cells_of_block P1.out.b0
    have OW1 := Lib.hid hown1
    clear hown1 hgrow1 b1
    go_wp2_with fail
    clear c0
    go_loopw [3, 4] (fun l i wr => TwRel nd ks kl kc B (some ad) w wr l i) (fun _ i _ => kl - (intOf i).toNat)
    case atStart =>
      exact ⟨0, .nil, ks, [], rfl, rfl, rfl, HT.out.row.kept (P1.out.bel.mono hB) (Nat.le_refl _), HI.out, HN.out, P1, OW1, Lib.hid rfl⟩
    case round =>
      obtain ⟨j, dn, rest, cs, rfl, hj, happ, hrow, hall, hno, HP, HOW, HRD⟩ := hrel
      have hlen : kl = j + rest.len := by rw [HT.out.len, ← happ, Trees.app_len, hj]
      have c0 := cells_of_block HP.out.b0
      have hlt3 := HP.out.lt
      by_cases hlt : j < kl
      · obtain ⟨h', k', r', rfl⟩ := trees_cons (rest := rest) (by omega)
        obtain ⟨b1, off, ka', kl', kc', ea, hb1, N1, tv1⟩ := hrow.head
        obtain rfl := Option.some.inj ea
        obtain ⟨hl1, d0, d1, d2, d3, d4, d5, d6, d7, d8, d9, d10, d11, d12, d13, y5, y6, y7, y9, y10, y11⟩ := N1.facts
        clear y5 y6 y7 y9 y10 y11
        have hno1 : k'.nodes ≤ 100000 := by simp only [Trees.nodes] at hno; omega
        have hno2 : r'.nodes ≤ 100000 := by simp only [Trees.nodes] at hno; omega
        have CA := Lib.hid (hall.1 wr B ka' kl' kc' (by omega) tv1 hno1)
        have HA := Lib.hid happ; have HJ := Lib.hid hj; have HLen := Lib.hid hlen; have HAll := Lib.hid hall.2; have HRow := Lib.hid hrow.2
        have hji : (j : Int) < (kl : Int) := by omega
        have hdl : dn.len ≤ 100000 := by omega
        clear happ hj hlen hall hrow tv1 N1 hno hno1
        go_wp2_with fail
        refine CA.out.mono ?_
        rintro e w2 ⟨xa, xl, xc, rfl, b2, x2⟩
        have hs2 := b2.size
        have hx := heap_alloc_new w2 (.cells #[.int .i64 h'.kind, .int .i64 h'.op, .int .i64 h'.num, .string ⟨h'.text.toArray⟩, .int .i64 h'.ref.row, .int .i64 h'.ref.col, .bool h'.ref.pr, .bool h'.ref.pc, .int .i64 h'.to.row, .int .i64 h'.to.col, .bool h'.to.pr, .bool h'.to.pc, .int .i64 h'.fn, .slice xa xl xc] 29)
        have hb3 : Below wr.heap.size wr (w2.alloc (.cells #[.int .i64 h'.kind, .int .i64 h'.op, .int .i64 h'.num, .string ⟨h'.text.toArray⟩, .int .i64 h'.ref.row, .int .i64 h'.ref.col, .bool h'.ref.pr, .bool h'.ref.pc, .int .i64 h'.to.row, .int .i64 h'.to.col, .bool h'.to.pr, .bool h'.to.pc, .int .i64 h'.fn, .slice xa xl xc] 29)) := b2.alloc hs2 _
        have hX3 : MTree (w2.alloc (.cells #[.int .i64 h'.kind, .int .i64 h'.op, .int .i64 h'.num, .string ⟨h'.text.toArray⟩, .int .i64 h'.ref.row, .int .i64 h'.ref.col, .bool h'.ref.pr, .bool h'.ref.pc, .int .i64 h'.to.row, .int .i64 h'.to.col, .bool h'.to.pr, .bool h'.to.pc, .int .i64 h'.fn, .slice xa xl xc] 29)) (fun b => wr.heap.size ≤ b ∧ b < (w2.alloc (.cells #[.int .i64 h'.kind, .int .i64 h'.op, .int .i64 h'.num, .string ⟨h'.text.toArray⟩, .int .i64 h'.ref.row, .int .i64 h'.ref.col, .bool h'.ref.pr, .bool h'.ref.pc, .int .i64 h'.to.row, .int .i64 h'.to.col, .bool h'.to.pr, .bool h'.to.pc, .int .i64 h'.fn, .slice xa xl xc] 29)).heap.size) h' k' xa xl xc := x2.kept fun b hb => ⟨⟨hb.1, by simp; omega⟩, Below.heap_alloc _ _ _ hb.2⟩
        have ck := cells_of_block hx
        have own3 : (w2.alloc (.cells #[.int .i64 h'.kind, .int .i64 h'.op, .int .i64 h'.num, .string ⟨h'.text.toArray⟩, .int .i64 h'.ref.row, .int .i64 h'.ref.col, .bool h'.ref.pr, .bool h'.ref.pc, .int .i64 h'.to.row, .int .i64 h'.to.col, .bool h'.to.pr, .bool h'.to.pc, .int .i64 h'.fn, .slice xa xl xc] 29)).ownsRow (w.heap.size + 2) 29 14 u3 dn.len cs := ((slot_of HOW.out).kept fun b hb => hb3.block b (HOW.out.lt b (mem_ownList.1 hb)).2).owns fun b hb => (HOW.out.lt b (mem_ownList.1 hb)).1
        have hs3 : (w2.alloc (.cells #[.int .i64 h'.kind, .int .i64 h'.op, .int .i64 h'.num, .string ⟨h'.text.toArray⟩, .int .i64 h'.ref.row, .int .i64 h'.ref.col, .bool h'.ref.pr, .bool h'.ref.pc, .int .i64 h'.to.row, .int .i64 h'.to.col, .bool h'.to.pr, .bool h'.to.pc, .int .i64 h'.fn, .slice xa xl xc] 29)).heap.size = w2.heap.size + 1 := by simp
        have B3 := Lib.hid hb3; have X3 := Lib.hid hX3
        clear hb3 hX3 hx x2 b2 c0 d0 d1 d2 d3 d4 d5 d6 d7 d8 d9 d10 d11 d12 d13 CA
        go_wp2_with (at_builtin; refine wpList_append_own_at _ rfl _ _ 27 rfl (w.heap.size + 2) 29 i0 _ 14 120 Try.underlying27 hi hz0 hz1 hz2 rfl (by decide) u3 dn.len cs rfl (own3.alloc _) ⟨w2.heap.size + 1, 0, none⟩ 1 1 (Hd.vals h' (.slice xa xl xc)) rfl rfl (by rw [← hs3]; exact World.news_of_block (heap_alloc_new (w2.alloc (.cells #[.int .i64 h'.kind, .int .i64 h'.op, .int .i64 h'.num, .string ⟨h'.text.toArray⟩, .int .i64 h'.ref.row, .int .i64 h'.ref.col, .bool h'.ref.pr, .bool h'.ref.pc, .int .i64 h'.to.row, .int .i64 h'.to.col, .bool h'.to.pr, .bool h'.to.pc, .int .i64 h'.fn, .slice xa xl xc] 29)) _)) (by simp [Value.oneCell', Hd.vals]) (by unfold maxLen; omega) (by omega) (by simp; omega) ?_)
        intro v' w4 hown4 hgrow _ hloc
        have hl : ∀ k, u3.ownBlock = some k → w.heap.size + 2 ≤ k ∧ k < wr.heap.size := fun k hk => HOW.out.lt k hk
        have b4 : Below (w.heap.size + 2) wr w4 := ((B3.out.mono (by omega)).alloc (by omega) _).grown hgrow (by simp; omega) (fun k hk => (hl k hk).1)
        have s4 : w2.heap.size + 1 + 1 ≤ w4.heap.size := by have := hgrow.size; simpa using this
        have hloc' : v'.ownBlock = u3.ownBlock ∨ v'.ownBlock = some (w2.heap.size + 1 + 1) := by simpa using hloc
        have hnb : ∀ b, b < w2.heap.size + 1 → v'.ownBlock = some b → u3.ownBlock = some b := fun b hb e => by
          rcases hloc' with q | q
          · rw [q] at e; exact e
          · rw [q] at e; injection e with e; omega
        have same : ∀ b, b < w2.heap.size + 1 → u3.ownBlock ≠ some b → w4.heap[b]? = (w2.alloc (.cells #[.int .i64 h'.kind, .int .i64 h'.op, .int .i64 h'.num, .string ⟨h'.text.toArray⟩, .int .i64 h'.ref.row, .int .i64 h'.ref.col, .bool h'.ref.pr, .bool h'.ref.pc, .int .i64 h'.to.row, .int .i64 h'.to.col, .bool h'.to.pr, .bool h'.to.pc, .int .i64 h'.fn, .slice xa xl xc] 29)).heap[b]? := fun b hb hne => (hgrow.block b (by simp; omega) (fun e => hne e.symm)).trans (Below.heap_alloc _ _ _ (by omega))
        have r4 : RdM w4 (OkT w v' w4) (dn.app (.cons h' k' .nil)) (cs ++ (Hd.vals h' (.slice xa xl xc))) := by
          refine RdM.snoc (X3.out.kept fun b hb => ?_) (HRD.out.kept fun b hb => ?_)
          · have hne : u3.ownBlock ≠ some b := fun e => by have := hl b e; omega
            exact ⟨⟨by omega, fun e => hne (hnb b (by omega) e), by omega⟩, same b (by omega) hne⟩
          · obtain ⟨q1, q2, q3⟩ := hb
            exact ⟨⟨by omega, fun e => q2 (hnb b (by omega) e), q3⟩, (same b (by omega) q2).trans (B3.out.block b q1)⟩
        have R4 := Lib.hid r4
        have ROW4 := Lib.hid (HRow.out.kept (b4.mono (by omega)) (Nat.le_refl _))
        have P4 := Lib.hid (HP.out.keep b4)
        have own4 : w4.ownsRow (w.heap.size + 2) 29 14 v' (dn.app (.cons h' k' .nil)).len (cs ++ (Hd.vals h' (.slice xa xl xc))) := by rw [Trees.app_len]; exact hown4
        have OWN4 := Lib.hid own4
        clear own4 hown4 hgrow hloc hloc' hnb same r4 own3 b4 hl ck
        go_wp2
        exact ⟨⟨j + 1, dn.app (.cons h' k' .nil), r', _, by go_num, by rw [Trees.app_len, HJ.out]; rfl, by rw [Trees.app_cons]; exact HA.out, ROW4.out, HAll.out, hno2, P4, OWN4, R4⟩, by simp [intOf]; have := HLen.out; simp only [Trees.len] at this; omega⟩
      · have hz : rest.len = 0 := by omega
        obtain rfl := trees_nil hz
        rw [Trees.app_nil] at happ
        subst happ
        obtain ⟨la, lc, rfl⟩ : ∃ a c, u3 = .slice a dn.len c := (slot_of HOW.out).slice
        have hdl : dn.len ≤ 100000 := by omega
        have hcs := HOW.out.1
        clear hrow hall hj hlen
        go_wp2_with (at_builtin; refine wpList_append_own_at _ rfl _ _ 27 rfl (w.heap.size + 2) 29 i0 _ 14 120 Try.underlying27 hi hz0 hz1 hz2 rfl (by decide) (.slice la dn.len lc) dn.len cs rfl (HOW.out.alloc _) ⟨wr.heap.size, 0, none⟩ 1 1 [.int .i64 (-7), .int .i64 0, .int .i64 0, .string ⟨#[]⟩, .int .i64 0, .int .i64 0, .bool false, .bool false, .int .i64 0, .int .i64 0, .bool false, .bool false, .int .i64 0, .slice none 0 0] rfl rfl (World.news_of_block (heap_alloc_new wr _)) (by simp [Value.oneCell']) (by unfold maxLen; omega) (by omega) (by simp; omega) ?_)
        intro v' w4 hown4 hgrow _ hloc
        have hl : ∀ k, (Value.slice la dn.len lc).ownBlock = some k → w.heap.size + 2 ≤ k ∧ k < wr.heap.size := fun k hk => HOW.out.lt k hk
        have b4 : Below (w.heap.size + 2) wr w4 := ((Below.refl _ wr).alloc (by omega) _).grown hgrow (by simp; omega) (fun k hk => (hl k hk).1)
        have s4 : wr.heap.size + 1 ≤ w4.heap.size := by have := hgrow.size; simpa using this
        have hloc' : v'.ownBlock = (Value.slice la dn.len lc).ownBlock ∨ v'.ownBlock = some (wr.heap.size + 1) := by simpa using hloc
        have same : ∀ b, b < wr.heap.size → (Value.slice la dn.len lc).ownBlock ≠ some b → w4.heap[b]? = wr.heap[b]? := fun b hb hne => (hgrow.block b (by simp; omega) (fun e => hne e.symm)).trans (Below.heap_alloc _ _ _ hb)
        have r4 : RdM w4 (fun b => w.heap.size + 2 ≤ b ∧ b < w4.heap.size) dn cs := HRD.out.kept fun b hb => ⟨⟨hb.2.2, by have := hb.1; omega⟩, same b hb.1 hb.2.1⟩
        obtain ⟨g, cp, rfl, hcp, hcm, mt⟩ := RdM.tree (h := nd) rfl hcs hown4 (fun g hg => hown4.lt g hg) r4 HT.out.ok
        have P4 := Lib.hid (HP.out.keep b4)
        have c0 := cells_of_block P4.out.b0
        have c1 := cells_of_block P4.out.b1
        have f0 := frees_of_block P4.out.b0
        have f1 := frees_of_block P4.out.b1
        have hlt4 := P4.out.lt
        have T5 := Lib.hid mt
        clear hown4 hgrow hloc hloc' same r4 b4 hl mt s4 hcs
        go_wp2
        refine bodyPost_ret (v := .agg #[.int .i64 nd.kind, .int .i64 nd.op, .int .i64 nd.num, .string ⟨nd.text.toArray⟩, .int .i64 nd.ref.row, .int .i64 nd.ref.col, .bool nd.ref.pr, .bool nd.ref.pc, .int .i64 nd.to.row, .int .i64 nd.to.col, .bool nd.to.pr, .bool nd.to.pc, .int .i64 nd.fn, .slice (some ⟨g, 0, none⟩) dn.len cp]) (by simp [results, Try.results32, go_sem, c1]) rfl ?_
        refine ⟨_, dn.len, cp, rfl, ?_, ?_⟩
        · repeat (refine Below.setCell ?_ (by simp; try omega) _)
          exact P4.out.bel
        · refine T5.out.kept fun b hb => ?_
          refine ⟨⟨by omega, by simpa [World.setCell] using hb.2⟩, ?_⟩
          repeat rw [Below.heap_setCell _ _ _ _ (by simp; omega)]
theorem twin10_any (h : Hd) (ks : Trees) : RTw h ks := twin10_step h ks (allT twin10_step ks)
end Go.Proofs.Ytkjfeakbhfkldaa
