/- Shifting: the reference's tree with its references moved. -/
import Derived.Test.YtkjfeakbhfkldaaMhB
import Derived.Test.YtkjfeakbhfkldaaTreeL0
import Derived.Deep.RegionHeld3
import Derived.Deep.RegionLaw
namespace Go.Proofs.Ytkjfeakbhfkldaa
open Go.RowKit

theorem fits5 {h : Hd} {n : Nat} (f : fitsV h n = true) (k : h.kind = 5) : placeB h.ref = true ∧ n = 0 := by
  simp only [fitsV, fitsB, k] at f
  simp at f
  exact ⟨f.1.1.2, by omega⟩
theorem fits6 {h : Hd} {n : Nat} (f : fitsV h n = true) (k : h.kind = 6) : placeB h.ref = true ∧ placeB h.to = true ∧ n = 0 := by
  simp only [fitsV, fitsB, k] at f
  simp at f
  exact ⟨f.1.1.2, f.1.2, by omega⟩
theorem place_i64 {r : RefT} (h : placeB r = true) : I64 r.row ∧ I64 r.col := by
  have := place_on h
  unfold I64; omega
theorem mv1_on {m : Mv} {r x : RefT} (h : mv1 m r = some x) : placeB x = true := by
  unfold mv1 at h
  (repeat' split at h) <;> simp_all
theorem mv2_on {m : Mv} {r t : RefT} {p : RefT × RefT} (h : mv2 m r t = some p) : placeB p.1 = true ∧ placeB p.2 = true := by
  unfold mv2 at h
  (repeat' split at h) <;> simp_all
  all_goals (subst h; simp_all)
theorem lost_ok : lostH.ok := ⟨by simp [lostH], by simp [lostH, I64], by simp [lostH, I64], by simp [lostH, I64], by simp [lostH, I64], by simp [lostH, I64], by simp [lostH, I64], by simp [lostH, I64], by simp [lostH, I64]⟩
theorem mvH_ok {m : Mv} {h : Hd} (ok : h.ok) : (mvH m h).ok := by
  unfold mvH
  split
  · split
    · rename_i r e
      have := place_i64 (mv1_on e)
      exact ⟨ok.text, ok.kind, ok.op, ok.num, this.1, this.2, ok.trow, ok.tcol, ok.fn⟩
    · exact lost_ok
  · split
    · split
      · rename_i r t e
        have := mv2_on e
        exact ⟨ok.text, ok.kind, ok.op, ok.num, (place_i64 this.1).1, (place_i64 this.1).2, (place_i64 this.2).1, (place_i64 this.2).2, ok.fn⟩
      · exact lost_ok
    · exact ok
theorem mvK_app (m : Mv) : ∀ a b, mvK m (a.app b) = (mvK m a).app (mvK m b)
  | .nil, _ => rfl
  | .cons _ _ r, b => by simp only [Trees.app, mvK]; rw [mvK_app m r b]

/-- Cells that hold a list of trees, each of which can be read off blocks that ok names. -/
def RdX (w : World) (ok : Nat → Prop) : Trees → List Value → Prop
  | .nil, cs => cs = []
  | .cons h k r, cs => ∃ ka kl kc cs', cs = h.vals (.slice ka kl kc) ++ cs' ∧ TreeX w ok h k ka kl ∧ RdX w ok r cs'
theorem RdX.kept {w w' : World} {ok ok' : Nat → Prop} (hk : ∀ b, ok b → ok' b ∧ w'.heap[b]? = w.heap[b]?) : ∀ {ts : Trees} {cs : List Value}, RdX w ok ts cs → RdX w' ok' ts cs
  | .nil, _, h => h
  | .cons _ _ _, _, ⟨ka, kl, kc, cs', e, t, r⟩ => ⟨ka, kl, kc, cs', e, t.kept hk, RdX.kept hk r⟩
theorem RdX.snoc {w : World} {ok : Nat → Prop} {h : Hd} {k : Trees} {ka : Option Addr} {kl kc : Nat} (t : TreeX w ok h k ka kl) : ∀ {ts : Trees} {cs : List Value}, RdX w ok ts cs → RdX w ok (ts.app (.cons h k .nil)) (cs ++ h.vals (.slice ka kl kc))
  | .nil, _, e => by subst e; exact ⟨ka, kl, kc, [], by simp, t, rfl⟩
  | .cons _ _ _, _, ⟨ka', kl', kc', cs', e, t', r⟩ => ⟨ka', kl', kc', cs' ++ h.vals (.slice ka kl kc), by rw [e, List.append_assoc], t', RdX.snoc t r⟩
theorem RdX.row {w : World} {ok : Nat → Prop} {g : Nat} {cur : Array Value} {T : TypeId} (hg : w.heap[g]? = some (.cells cur T (0, 0))) (og : ok g) : ∀ {ts : Trees} {cs : List Value} (i : Nat) (pre post : List Value), RdX w ok ts cs → cur.toList = pre ++ (cs ++ post) → pre.length = i * 14 → RowX w ok ts (some ⟨g, 0, none⟩) i
  | .nil, _, _, _, _, _, _, _ => trivial
  | .cons h k r, cs, i, pre, post, ⟨ka, kl, kc, cs', e, t, q⟩, hc, hp => by
    subst e
    refine ⟨⟨g, 0, ka, kl, kc, rfl, og, node_in i hg pre (cs' ++ post) (by rw [hc, List.append_assoc]) hp, t.len, t.max, t.hok, t.row⟩, RdX.row hg og (i + 1) (pre ++ h.vals (.slice ka kl kc)) post q (by rw [hc]; simp only [List.append_assoc]) (by rw [List.length_append, Hd.vals_len, hp]; omega)⟩
theorem RdX.tree {w : World} {ok : Nat → Prop} {base : Nat} {ts : Trees} {cs : List Value} {l : Value} {h : Hd} (o : w.ownsRow base 29 14 l ts.len cs) (og : ∀ g, l.ownBlock = some g → ok g) (r : RdX w ok ts cs) (hok : h.ok) : ∃ a c, l = .slice a ts.len c ∧ TreeX w ok h ts a ts.len := by
  rcases o.2 with ⟨e1, e2⟩ | ⟨g, cap, cur, e1, -, hb, h1, h2, h3, h4⟩
  · subst e1
    have : ts = .nil := trees_nil e2
    subst this
    exact ⟨none, 0, rfl, rfl, by simp [Trees.len], hok, trivial⟩
  · subst e1
    refine ⟨_, _, rfl, rfl, by have : maxLen = 9223372036854775807 := rfl; omega, hok, ?_⟩
    exact RdX.row hb (og g rfl) 0 [] (cur.toList.drop (ts.len * 14)) r (by rw [← h4, List.nil_append, List.take_append_drop]) (by simp)

theorem Bx3.keep {w W W' : World} {A B C : Obj} (p : Bx3 w A B C W) (b : Below (w.heap.size + 3) W W') : Bx3 w A B C W' :=
  ⟨p.bel.trans (b.mono (by omega)), (b.block _ (by omega)).trans p.b0, (b.block _ (by omega)).trans p.b1, (b.block _ (by omega)).trans p.b2⟩

def OkR (w : World) (B : Nat) (W : World) (b : Nat) : Prop := b < B ∨ (w.heap.size ≤ b ∧ b < W.heap.size)
def AllMPost (m : Mv) (h : Hd) (ks : Trees) (B : Nat) (w : World) (e : Ending) (w' : World) : Prop :=
  ∃ xa xl xc, e = .returned (.agg #[.int .i64 (mvH m h).kind, .int .i64 (mvH m h).op, .int .i64 (mvH m h).num, .string ⟨(mvH m h).text.toArray⟩, .int .i64 (mvH m h).ref.row, .int .i64 (mvH m h).ref.col, .bool (mvH m h).ref.pr, .bool (mvH m h).ref.pc, .int .i64 (mvH m h).to.row, .int .i64 (mvH m h).to.col, .bool (mvH m h).to.pr, .bool (mvH m h).to.pc, .int .i64 (mvH m h).fn, .slice xa xl xc]) ∧ Below w.heap.size w w' ∧ TreeX w' (OkR w B w') (mvH m h) (mvK m ks) xa xl
def RMv (m : Mv) (h : Hd) (ks : Trees) : Prop := ∀ (w : World) (B : Nat) (ka : Option Addr) (kl kc : Nat), B ≤ w.heap.size → TreeV w B h ks ka kl → treeFits h ks = true → ks.nodes ≤ 100000 →
  Calls Try.prog 84 #[.agg #[.int .i64 m.what, .int .i64 m.dr, .int .i64 m.dc, .int .i64 m.at_, .int .i64 m.n], .agg #[.int .i64 h.kind, .int .i64 h.op, .int .i64 h.num, .string ⟨h.text.toArray⟩, .int .i64 h.ref.row, .int .i64 h.ref.col, .bool h.ref.pr, .bool h.ref.pc, .int .i64 h.to.row, .int .i64 h.to.col, .bool h.to.pr, .bool h.to.pc, .int .i64 h.fn, .slice ka kl kc]] w (AllMPost m h ks B w)

set_option maxRecDepth 100000 in
set_option maxHeartbeats 4000000 in
theorem refAllM_ref (m : Mv) (nd : Hd) (ks : Trees) (ok : m.ok) (hk : nd.kind = 5 ∨ nd.kind = 6) : RMv m nd ks := by
  intro w B ka kl kc hB tv tf hn
  simp only [treeFits, Bool.and_eq_true] at tf
  have hl : ks.len = 0 := by rcases hk with k | k; exact (fits5 tf.1 k).2; exact (fits6 tf.1 k).2.2
  have hkl := tv.len
  obtain rfl := trees_nil hl
  simp only [Trees.len] at hkl
  subst hkl
  have hok := mvH_ok (m := m) tv.ok
  have HO := Lib.hid hok
  have P0 := Lib.hid (Bx3.new w (.cells #[.int .i64 m.what, .int .i64 m.dr, .int .i64 m.dc, .int .i64 m.at_, .int .i64 m.n] 112) (.cells #[.int .i64 nd.kind, .int .i64 nd.op, .int .i64 nd.num, .string ⟨nd.text.toArray⟩, .int .i64 nd.ref.row, .int .i64 nd.ref.col, .bool nd.ref.pr, .bool nd.ref.pc, .int .i64 nd.to.row, .int .i64 nd.to.col, .bool nd.to.pr, .bool nd.to.pc, .int .i64 nd.fn, .slice ka 0 kc] 29) (.cells #[.int .i64 0, .int .i64 0, .int .i64 0, .string ⟨#[]⟩, .int .i64 0, .int .i64 0, .bool false, .bool false, .int .i64 0, .int .i64 0, .bool false, .bool false, .int .i64 0, .slice none 0 0] 29))
  have TF := Lib.hid tf.1
  have OK := Lib.hid ok
  clear tv hn hok ok
  rcases hk with k | k
  · have cS := fun W => refSingle_any m nd ka kc W OK.out k (fits5 TF.out k).1
    have k1 : (nd.kind == 5) = true := by simp [k]
    have KK := Lib.hid k
    clear k
    go_enter Try.func84, Try.ntmps84
    go_wp2_with fail
    refine (cS _).mono ?_
    rintro e w1 ⟨xa, xc, rfl, b1⟩
    have p1 := P0.out.step b1
    have c2 := cells_of_block p1.b2
    have f2 := frees_of_block p1.b2
    have B1 := Lib.hid p1.bel
    clear p1 b1
    go_wp2
    refine bodyPost_ret (v := .agg #[.int .i64 (mvH m nd).kind, .int .i64 (mvH m nd).op, .int .i64 (mvH m nd).num, .string ⟨(mvH m nd).text.toArray⟩, .int .i64 (mvH m nd).ref.row, .int .i64 (mvH m nd).ref.col, .bool (mvH m nd).ref.pr, .bool (mvH m nd).ref.pc, .int .i64 (mvH m nd).to.row, .int .i64 (mvH m nd).to.col, .bool (mvH m nd).to.pr, .bool (mvH m nd).to.pc, .int .i64 (mvH m nd).fn, .slice xa 0 xc]) (by simp [results, Try.results84, go_sem, c2]) rfl ?_
    refine ⟨xa, 0, xc, rfl, ?_, rfl, by omega, HO.out, trivial⟩
    repeat (refine Below.setCell ?_ (by simp; try omega) _)
    exact B1.out
  · have cS := fun W => refDouble_any m nd ka kc W OK.out k (fits6 TF.out k).1 (fits6 TF.out k).2.1
    have k1 : (nd.kind == 5) = false := by simp [k]
    have k2 : (nd.kind == 6) = true := by simp [k]
    have KK := Lib.hid k
    clear k
    go_enter Try.func84, Try.ntmps84
    go_wp2_with fail
    refine (cS _).mono ?_
    rintro e w1 ⟨xa, xc, rfl, b1⟩
    have p1 := P0.out.step b1
    have c2 := cells_of_block p1.b2
    have f2 := frees_of_block p1.b2
    have B1 := Lib.hid p1.bel
    clear p1 b1
    go_wp2
    refine bodyPost_ret (v := .agg #[.int .i64 (mvH m nd).kind, .int .i64 (mvH m nd).op, .int .i64 (mvH m nd).num, .string ⟨(mvH m nd).text.toArray⟩, .int .i64 (mvH m nd).ref.row, .int .i64 (mvH m nd).ref.col, .bool (mvH m nd).ref.pr, .bool (mvH m nd).ref.pc, .int .i64 (mvH m nd).to.row, .int .i64 (mvH m nd).to.col, .bool (mvH m nd).to.pr, .bool (mvH m nd).to.pc, .int .i64 (mvH m nd).fn, .slice xa 0 xc]) (by simp [results, Try.results84, go_sem, c2]) rfl ?_
    refine ⟨xa, 0, xc, rfl, ?_, rfl, by omega, HO.out, trivial⟩
    repeat (refine Below.setCell ?_ (by simp; try omega) _)
    exact B1.out
end Go.Proofs.Ytkjfeakbhfkldaa
/- Shifting: the reference's tree with its references moved: a node that is none, and all. -/
namespace Go.Proofs.Ytkjfeakbhfkldaa
open Go.RowKit

theorem kept_new {w w' : World} {cs : Array Value} {T : TypeId} (h : Below (w.alloc (.cells cs T)).drew.heap.size (w.alloc (.cells cs T)).drew w') : w'.heap[w.heap.size]? = some (.cells cs T (0, 0)) :=
  (h.block _ (by simp)).trans (heap_alloc_new _ _)
def OkL (w : World) (B : Nat) (l : Value) (W : World) (b : Nat) : Prop := b < W.heap.size ∧ l.ownBlock ≠ some b ∧ (b < B ∨ w.heap.size + 3 ≤ b)
def MRel (m : Mv) (nd : Hd) (ks : Trees) (kl kc B : Nat) (ka : Option Addr) (w wr : World) (l i : Value) : Prop :=
  ∃ (j : Nat) (dn rest : Trees) (cs : List Value), i = .int .i64 j ∧ j = dn.len ∧ dn.app rest = ks ∧ RowIn wr B rest ka j ∧ AllT (RMv m) rest ∧ rest.nodes ≤ 100000 ∧ allFits rest = true ∧ Hid (Bx3 w (.cells #[.int .i64 m.what, .int .i64 m.dr, .int .i64 m.dc, .int .i64 m.at_, .int .i64 m.n] 112) (.cells #[.int .i64 nd.kind, .int .i64 nd.op, .int .i64 nd.num, .string ⟨nd.text.toArray⟩, .int .i64 nd.ref.row, .int .i64 nd.ref.col, .bool nd.ref.pr, .bool nd.ref.pc, .int .i64 nd.to.row, .int .i64 nd.to.col, .bool nd.to.pr, .bool nd.to.pc, .int .i64 nd.fn, .slice ka kl kc] 29) (.cells #[.int .i64 0, .int .i64 0, .int .i64 0, .string ⟨#[]⟩, .int .i64 0, .int .i64 0, .bool false, .bool false, .int .i64 0, .int .i64 0, .bool false, .bool false, .int .i64 0, .slice none 0 0] 29) wr) ∧ Hid (wr.ownsRow (w.heap.size + 3) 29 14 l dn.len cs) ∧ Hid (RdX wr (OkL w B l wr) (mvK m dn) cs)

set_option maxRecDepth 100000 in
set_option maxHeartbeats 4000000 in
theorem refAllM_step (m : Mv) (ok : m.ok) (nd : Hd) (ks : Trees) (ih : AllT (RMv m) ks) : RMv m nd ks := by
  by_cases k5 : nd.kind = 5
  · exact refAllM_ref m nd ks ok (.inl k5)
  by_cases k6 : nd.kind = 6
  · exact refAllM_ref m nd ks ok (.inr k6)
  intro w B ka kl kc hB tv tf hn
  simp only [treeFits, Bool.and_eq_true] at tf
  have hm := tv.max
  obtain ⟨i0, hi, hz0, hz1, hz2⟩ := info_parts infoExpr
  have hkl : kl ≤ 100000 := by rw [tv.len]; exact Nat.le_trans (len_le_nodes ks) hn
  have hH : mvH m nd = nd := by simp [mvH, k5, k6]
  have HH := Lib.hid hH
  have k1 : (nd.kind == 5) = false := by simp [k5]
  have k2 : (nd.kind == 6) = false := by simp [k6]
  have P0 := Lib.hid (Bx3.new w (.cells #[.int .i64 m.what, .int .i64 m.dr, .int .i64 m.dc, .int .i64 m.at_, .int .i64 m.n] 112) (.cells #[.int .i64 nd.kind, .int .i64 nd.op, .int .i64 nd.num, .string ⟨nd.text.toArray⟩, .int .i64 nd.ref.row, .int .i64 nd.ref.col, .bool nd.ref.pr, .bool nd.ref.pc, .int .i64 nd.to.row, .int .i64 nd.to.col, .bool nd.to.pr, .bool nd.to.pc, .int .i64 nd.fn, .slice ka kl kc] 29) (.cells #[.int .i64 0, .int .i64 0, .int .i64 0, .string ⟨#[]⟩, .int .i64 0, .int .i64 0, .bool false, .bool false, .int .i64 0, .int .i64 0, .bool false, .bool false, .int .i64 0, .slice none 0 0] 29))
  have AF := Lib.hid tf.2
  have HI := Lib.hid ih; have HT := Lib.hid tv; have HN := Lib.hid hn
  clear ih tv tf hn k5 k6 hH ok
  go_enter Try.func84, Try.ntmps84
  go_wp2_with fail
  clear k1 k2
  go_loopw [5, 6] (fun l i wr => MRel m nd ks kl kc B ka w wr l i) (fun _ i _ => kl - (intOf i).toNat)
  case atStart =>
    exact ⟨0, .nil, ks, [], rfl, rfl, rfl, HT.out.row.kept (P0.out.bel.mono hB) (Nat.le_refl _), HI.out, HN.out, AF.out, P0, Lib.hid ⟨rfl, .inl ⟨rfl, rfl⟩⟩, Lib.hid rfl⟩
  case round =>
    obtain ⟨j, dn, rest, cs, rfl, hj, happ, hrow, hall, hno, hfit, HP, HOW, HRD⟩ := hrel
    have hlen : kl = j + rest.len := by rw [HT.out.len, ← happ, Trees.app_len, hj]
    have c0 := cells_of_block HP.out.b0
    have c1 := cells_of_block HP.out.b1
    have c2 := cells_of_block HP.out.b2
    have hlt3 := HP.out.lt
    by_cases hlt : j < kl
    · obtain ⟨h', k', r', rfl⟩ := trees_cons (rest := rest) (by omega)
      obtain ⟨b1, off, ka', kl', kc', rfl, hb1, N1, tv1⟩ := hrow.head
      obtain ⟨hl1, d0, d1, d2, d3, d4, d5, d6, d7, d8, d9, d10, d11, d12, d13, y5, y6, y7, y9, y10, y11⟩ := N1.facts
      clear y5 y6 y7 y9 y10 y11 d0 d1 d2 d3 d4 d5 d6 d7 d8 d9 d10 d11 d12 d13
      have hS : ∀ W, Below wr.heap.size wr W → (((∀ o, W.cell? ⟨w.heap.size, o, none⟩ = (#[.int .i64 m.what, .int .i64 m.dr, .int .i64 m.dc, .int .i64 m.at_, .int .i64 m.n] : Array Value)[o]?) ∧ W.cell? ⟨w.heap.size + 1, 13, none⟩ = some (.slice (some ⟨b1, off, none⟩) kl kc) ∧ W.cell? ⟨b1, off + j * 14, none⟩ = some (.int .i64 h'.kind) ∧ W.cell? ⟨b1, off + j * 14 + 1, none⟩ = some (.int .i64 h'.op) ∧ W.cell? ⟨b1, off + j * 14 + 2, none⟩ = some (.int .i64 h'.num) ∧ W.cell? ⟨b1, off + j * 14 + 3, none⟩ = some (.string ⟨h'.text.toArray⟩) ∧ W.cell? ⟨b1, off + j * 14 + 4, none⟩ = some (.int .i64 h'.ref.row) ∧ W.cell? ⟨b1, off + j * 14 + 5, none⟩ = some (.int .i64 h'.ref.col) ∧ W.cell? ⟨b1, off + j * 14 + 6, none⟩ = some (.bool h'.ref.pr) ∧ W.cell? ⟨b1, off + j * 14 + 7, none⟩ = some (.bool h'.ref.pc) ∧ W.cell? ⟨b1, off + j * 14 + 8, none⟩ = some (.int .i64 h'.to.row) ∧ W.cell? ⟨b1, off + j * 14 + 9, none⟩ = some (.int .i64 h'.to.col) ∧ W.cell? ⟨b1, off + j * 14 + 10, none⟩ = some (.bool h'.to.pr) ∧ W.cell? ⟨b1, off + j * 14 + 11, none⟩ = some (.bool h'.to.pc) ∧ W.cell? ⟨b1, off + j * 14 + 12, none⟩ = some (.int .i64 h'.fn) ∧ W.cell? ⟨b1, off + j * 14 + 13, none⟩ = some (.slice ka' kl' kc')) ∧ Below wr.heap.size wr W) := fun W hb => by
        have q := HP.out.step hb
        have e0 := cells_of_block q.b0
        have e1 := cells_of_block q.b1
        obtain ⟨-, d0, d1, d2, d3, d4, d5, d6, d7, d8, d9, d10, d11, d12, d13, -, -, -, -, -, -⟩ := (N1.kept hb hl1).facts
        exact ⟨⟨e0, e1 13, d0, d1, d2, d3, d4, d5, d6, d7, d8, d9, d10, d11, d12, d13⟩, hb⟩
      have hno1 : k'.nodes ≤ 100000 := by simp only [Trees.nodes] at hno; omega
      have hno2 : r'.nodes ≤ 100000 := by simp only [Trees.nodes] at hno; omega
      simp only [allFits, Bool.and_eq_true] at hfit
      have tf' : treeFits h' k' = true := by simp only [treeFits, Bool.and_eq_true]; exact hfit.1
      have cA : ∀ W, (((∀ o, W.cell? ⟨w.heap.size, o, none⟩ = (#[.int .i64 m.what, .int .i64 m.dr, .int .i64 m.dc, .int .i64 m.at_, .int .i64 m.n] : Array Value)[o]?) ∧ W.cell? ⟨w.heap.size + 1, 13, none⟩ = some (.slice (some ⟨b1, off, none⟩) kl kc) ∧ W.cell? ⟨b1, off + j * 14, none⟩ = some (.int .i64 h'.kind) ∧ W.cell? ⟨b1, off + j * 14 + 1, none⟩ = some (.int .i64 h'.op) ∧ W.cell? ⟨b1, off + j * 14 + 2, none⟩ = some (.int .i64 h'.num) ∧ W.cell? ⟨b1, off + j * 14 + 3, none⟩ = some (.string ⟨h'.text.toArray⟩) ∧ W.cell? ⟨b1, off + j * 14 + 4, none⟩ = some (.int .i64 h'.ref.row) ∧ W.cell? ⟨b1, off + j * 14 + 5, none⟩ = some (.int .i64 h'.ref.col) ∧ W.cell? ⟨b1, off + j * 14 + 6, none⟩ = some (.bool h'.ref.pr) ∧ W.cell? ⟨b1, off + j * 14 + 7, none⟩ = some (.bool h'.ref.pc) ∧ W.cell? ⟨b1, off + j * 14 + 8, none⟩ = some (.int .i64 h'.to.row) ∧ W.cell? ⟨b1, off + j * 14 + 9, none⟩ = some (.int .i64 h'.to.col) ∧ W.cell? ⟨b1, off + j * 14 + 10, none⟩ = some (.bool h'.to.pr) ∧ W.cell? ⟨b1, off + j * 14 + 11, none⟩ = some (.bool h'.to.pc) ∧ W.cell? ⟨b1, off + j * 14 + 12, none⟩ = some (.int .i64 h'.fn) ∧ W.cell? ⟨b1, off + j * 14 + 13, none⟩ = some (.slice ka' kl' kc')) ∧ Below wr.heap.size wr W) → Calls Try.prog 84 #[.agg #[.int .i64 m.what, .int .i64 m.dr, .int .i64 m.dc, .int .i64 m.at_, .int .i64 m.n], .agg #[.int .i64 h'.kind, .int .i64 h'.op, .int .i64 h'.num, .string ⟨h'.text.toArray⟩, .int .i64 h'.ref.row, .int .i64 h'.ref.col, .bool h'.ref.pr, .bool h'.ref.pc, .int .i64 h'.to.row, .int .i64 h'.to.col, .bool h'.to.pr, .bool h'.to.pc, .int .i64 h'.fn, .slice ka' kl' kc']] W (fun e w' => ∃ xa xl xc, e = .returned (.agg #[.int .i64 (mvH m h').kind, .int .i64 (mvH m h').op, .int .i64 (mvH m h').num, .string ⟨(mvH m h').text.toArray⟩, .int .i64 (mvH m h').ref.row, .int .i64 (mvH m h').ref.col, .bool (mvH m h').ref.pr, .bool (mvH m h').ref.pc, .int .i64 (mvH m h').to.row, .int .i64 (mvH m h').to.col, .bool (mvH m h').to.pr, .bool (mvH m h').to.pc, .int .i64 (mvH m h').fn, .slice xa xl xc]) ∧ Below W.heap.size W w' ∧ (((∀ o, w'.cell? ⟨w.heap.size, o, none⟩ = (#[.int .i64 m.what, .int .i64 m.dr, .int .i64 m.dc, .int .i64 m.at_, .int .i64 m.n] : Array Value)[o]?) ∧ w'.cell? ⟨w.heap.size + 1, 13, none⟩ = some (.slice (some ⟨b1, off, none⟩) kl kc) ∧ w'.cell? ⟨b1, off + j * 14, none⟩ = some (.int .i64 h'.kind) ∧ w'.cell? ⟨b1, off + j * 14 + 1, none⟩ = some (.int .i64 h'.op) ∧ w'.cell? ⟨b1, off + j * 14 + 2, none⟩ = some (.int .i64 h'.num) ∧ w'.cell? ⟨b1, off + j * 14 + 3, none⟩ = some (.string ⟨h'.text.toArray⟩) ∧ w'.cell? ⟨b1, off + j * 14 + 4, none⟩ = some (.int .i64 h'.ref.row) ∧ w'.cell? ⟨b1, off + j * 14 + 5, none⟩ = some (.int .i64 h'.ref.col) ∧ w'.cell? ⟨b1, off + j * 14 + 6, none⟩ = some (.bool h'.ref.pr) ∧ w'.cell? ⟨b1, off + j * 14 + 7, none⟩ = some (.bool h'.ref.pc) ∧ w'.cell? ⟨b1, off + j * 14 + 8, none⟩ = some (.int .i64 h'.to.row) ∧ w'.cell? ⟨b1, off + j * 14 + 9, none⟩ = some (.int .i64 h'.to.col) ∧ w'.cell? ⟨b1, off + j * 14 + 10, none⟩ = some (.bool h'.to.pr) ∧ w'.cell? ⟨b1, off + j * 14 + 11, none⟩ = some (.bool h'.to.pc) ∧ w'.cell? ⟨b1, off + j * 14 + 12, none⟩ = some (.int .i64 h'.fn) ∧ w'.cell? ⟨b1, off + j * 14 + 13, none⟩ = some (.slice ka' kl' kc')) ∧ Below wr.heap.size wr w') ∧ TreeX w' (OkR W B w') (mvH m h') (mvK m k') xa xl) :=
        fun W q => (hall.1 W B ka' kl' kc' (by have := q.2.size; omega) (tv1.kept (q.2.mono (by omega)) (Nat.le_refl _)) tf' hno1).mono fun e w' ⟨xa, xl, xc, r1, r2, r3⟩ => ⟨xa, xl, xc, r1, r2, hS _ (q.2.trans (r2.mono q.2.size)), r3⟩
      have CA := Lib.hid cA; have HS0 := Lib.hid hS
      have hd0 := hS wr (Below.refl _ _)
      have hd1 := hS wr.drew (drew_below0 rfl)
      have HA := Lib.hid happ; have HJ := Lib.hid hj; have HLen := Lib.hid hlen; have HAll := Lib.hid hall.2; have HRow := Lib.hid hrow.2; have HF := Lib.hid hfit.2
      have hji : (j : Int) < (kl : Int) := by omega
      clear happ hj hlen hall hrow hfit cA hS tf' tv1 N1 hno hno1
      go_wp2_with fail
      clear hd0 hd1
      obtain ⟨⟨e0, e13, d0, d1, d2, d3, d4, d5, d6, d7, d8, d9, d10, d11, d12, d13⟩, -⟩ := HS0.out wr (Below.refl _ _)
      have l0 : w.heap.size < wr.heap.size := by omega
      have l1 : w.heap.size + 1 < wr.heap.size := by omega
      have n0 : ¬ w.heap.size = wr.heap.size := by omega
      have n1 : ¬ w.heap.size + 1 = wr.heap.size := by omega
      have n2 : ¬ b1 = wr.heap.size := by omega
      refine (fun (key : ∀ (kb : Nat) (W3 : World) (xa : Option Addr) (xl xc : Nat), W3.heap[kb]? = some (.cells #[.int .i64 (mvH m h').kind, .int .i64 (mvH m h').op, .int .i64 (mvH m h').num, .string ⟨(mvH m h').text.toArray⟩, .int .i64 (mvH m h').ref.row, .int .i64 (mvH m h').ref.col, .bool (mvH m h').ref.pr, .bool (mvH m h').ref.pc, .int .i64 (mvH m h').to.row, .int .i64 (mvH m h').to.col, .bool (mvH m h').to.pr, .bool (mvH m h').to.pc, .int .i64 (mvH m h').fn, .slice xa xl xc] 29 (0, 0)) ∧ Below wr.heap.size wr W3 ∧ TreeX W3 (fun b => b < B ∨ (wr.heap.size ≤ b ∧ b < W3.heap.size)) (mvH m h') (mvK m k') xa xl → (?KeyQ : Nat → World → Option Addr → Nat → Nat → Prop) kb W3 xa xl xc) => ?kmain) ?klater
      case kmain =>
        go_region_law (first
          | (go_simp
             go_at_call 84
             first
               | (with_reducible refine (CA.out wr.drew (HS0.out _ (drew_below0 rfl))).mono ?_)
               | (with_reducible refine (CA.out (wr.alloc (.cells #[.int .i64 0, .int .i64 0, .int .i64 0, .string ⟨#[]⟩, .int .i64 0, .int .i64 0, .bool false, .bool false, .int .i64 0, .int .i64 0, .bool false, .bool false, .int .i64 0, .slice none 0 0] 29)).drew (HS0.out _ ((ext_alloc (Below.refl _ _) _).drew))).mono ?_)
             rintro e w' ⟨xa, xl, xc, rfl, hb', hS', hX'⟩
             have hq := hS'.2
             clear hS'
             try with_reducible have bz := kept_new hb'
             try have cz := cells_of_block bz
             try have fz := frees_of_block bz
             try have lz := lt_of_block bz
             try have BZ := Lib.hid bz
             try clear bz))
        all_goals
          first
            | (have hx : (World.setCells w' wr.heap.size 0 [.int .i64 (mvH m h').kind, .int .i64 (mvH m h').op, .int .i64 (mvH m h').num, .string ⟨(mvH m h').text.toArray⟩, .int .i64 (mvH m h').ref.row, .int .i64 (mvH m h').ref.col, .bool (mvH m h').ref.pr, .bool (mvH m h').ref.pc, .int .i64 (mvH m h').to.row, .int .i64 (mvH m h').to.col, .bool (mvH m h').to.pr, .bool (mvH m h').to.pc, .int .i64 (mvH m h').fn, .slice xa xl xc]).heap[wr.heap.size]? = some (.cells #[.int .i64 (mvH m h').kind, .int .i64 (mvH m h').op, .int .i64 (mvH m h').num, .string ⟨(mvH m h').text.toArray⟩, .int .i64 (mvH m h').ref.row, .int .i64 (mvH m h').ref.col, .bool (mvH m h').ref.pr, .bool (mvH m h').ref.pc, .int .i64 (mvH m h').to.row, .int .i64 (mvH m h').to.col, .bool (mvH m h').to.pr, .bool (mvH m h').to.pc, .int .i64 (mvH m h').fn, .slice xa xl xc] 29 (0, 0)) := setCells_all (vs := [.int .i64 (mvH m h').kind, .int .i64 (mvH m h').op, .int .i64 (mvH m h').num, .string ⟨(mvH m h').text.toArray⟩, .int .i64 (mvH m h').ref.row, .int .i64 (mvH m h').ref.col, .bool (mvH m h').ref.pr, .bool (mvH m h').ref.pc, .int .i64 (mvH m h').to.row, .int .i64 (mvH m h').to.col, .bool (mvH m h').to.pr, .bool (mvH m h').to.pc, .int .i64 (mvH m h').fn, .slice xa xl xc]) BZ.out rfl
               have hb3 : Below wr.heap.size wr (World.setCells w' wr.heap.size 0 [.int .i64 (mvH m h').kind, .int .i64 (mvH m h').op, .int .i64 (mvH m h').num, .string ⟨(mvH m h').text.toArray⟩, .int .i64 (mvH m h').ref.row, .int .i64 (mvH m h').ref.col, .bool (mvH m h').ref.pr, .bool (mvH m h').ref.pc, .int .i64 (mvH m h').to.row, .int .i64 (mvH m h').to.col, .bool (mvH m h').to.pr, .bool (mvH m h').to.pc, .int .i64 (mvH m h').fn, .slice xa xl xc]) := setCells_below (Nat.le_refl _) [.int .i64 (mvH m h').kind, .int .i64 (mvH m h').op, .int .i64 (mvH m h').num, .string ⟨(mvH m h').text.toArray⟩, .int .i64 (mvH m h').ref.row, .int .i64 (mvH m h').ref.col, .bool (mvH m h').ref.pr, .bool (mvH m h').ref.pc, .int .i64 (mvH m h').to.row, .int .i64 (mvH m h').to.col, .bool (mvH m h').to.pr, .bool (mvH m h').to.pc, .int .i64 (mvH m h').fn, .slice xa xl xc] 0 hq
               have hk3 : ∀ k, k ≠ wr.heap.size → (World.setCells w' wr.heap.size 0 [.int .i64 (mvH m h').kind, .int .i64 (mvH m h').op, .int .i64 (mvH m h').num, .string ⟨(mvH m h').text.toArray⟩, .int .i64 (mvH m h').ref.row, .int .i64 (mvH m h').ref.col, .bool (mvH m h').ref.pr, .bool (mvH m h').ref.pc, .int .i64 (mvH m h').to.row, .int .i64 (mvH m h').to.col, .bool (mvH m h').to.pr, .bool (mvH m h').to.pc, .int .i64 (mvH m h').fn, .slice xa xl xc]).heap[k]? = w'.heap[k]? := fun k hk => setCells_other hk [.int .i64 (mvH m h').kind, .int .i64 (mvH m h').op, .int .i64 (mvH m h').num, .string ⟨(mvH m h').text.toArray⟩, .int .i64 (mvH m h').ref.row, .int .i64 (mvH m h').ref.col, .bool (mvH m h').ref.pr, .bool (mvH m h').ref.pc, .int .i64 (mvH m h').to.row, .int .i64 (mvH m h').to.col, .bool (mvH m h').to.pr, .bool (mvH m h').to.pc, .int .i64 (mvH m h').fn, .slice xa xl xc] 0 w'
               have hz3 : (World.setCells w' wr.heap.size 0 [.int .i64 (mvH m h').kind, .int .i64 (mvH m h').op, .int .i64 (mvH m h').num, .string ⟨(mvH m h').text.toArray⟩, .int .i64 (mvH m h').ref.row, .int .i64 (mvH m h').ref.col, .bool (mvH m h').ref.pr, .bool (mvH m h').ref.pc, .int .i64 (mvH m h').to.row, .int .i64 (mvH m h').to.col, .bool (mvH m h').to.pr, .bool (mvH m h').to.pc, .int .i64 (mvH m h').fn, .slice xa xl xc]).heap.size = w'.heap.size := setCells_size [.int .i64 (mvH m h').kind, .int .i64 (mvH m h').op, .int .i64 (mvH m h').num, .string ⟨(mvH m h').text.toArray⟩, .int .i64 (mvH m h').ref.row, .int .i64 (mvH m h').ref.col, .bool (mvH m h').ref.pr, .bool (mvH m h').ref.pc, .int .i64 (mvH m h').to.row, .int .i64 (mvH m h').to.col, .bool (mvH m h').to.pr, .bool (mvH m h').to.pc, .int .i64 (mvH m h').fn, .slice xa xl xc] 0 wr.heap.size w'
               have hX3 : TreeX (World.setCells w' wr.heap.size 0 [.int .i64 (mvH m h').kind, .int .i64 (mvH m h').op, .int .i64 (mvH m h').num, .string ⟨(mvH m h').text.toArray⟩, .int .i64 (mvH m h').ref.row, .int .i64 (mvH m h').ref.col, .bool (mvH m h').ref.pr, .bool (mvH m h').ref.pc, .int .i64 (mvH m h').to.row, .int .i64 (mvH m h').to.col, .bool (mvH m h').to.pr, .bool (mvH m h').to.pc, .int .i64 (mvH m h').fn, .slice xa xl xc]) (fun b => b < B ∨ (wr.heap.size ≤ b ∧ b < (World.setCells w' wr.heap.size 0 [.int .i64 (mvH m h').kind, .int .i64 (mvH m h').op, .int .i64 (mvH m h').num, .string ⟨(mvH m h').text.toArray⟩, .int .i64 (mvH m h').ref.row, .int .i64 (mvH m h').ref.col, .bool (mvH m h').ref.pr, .bool (mvH m h').ref.pc, .int .i64 (mvH m h').to.row, .int .i64 (mvH m h').to.col, .bool (mvH m h').to.pr, .bool (mvH m h').to.pc, .int .i64 (mvH m h').fn, .slice xa xl xc]).heap.size)) (mvH m h') (mvK m k') xa xl := hX'.kept fun b hb => by
                 rcases hb with q | ⟨q1, q2⟩
                 · exact ⟨.inl q, hk3 b (by omega)⟩
                 · have q1' : wr.heap.size + 1 ≤ b := by simpa using q1
                   exact ⟨.inr ⟨by omega, by omega⟩, hk3 b (by omega)⟩
               change Exit.then _ _ Exit.normal _ (World.setCells w' wr.heap.size 0 [.int .i64 (mvH m h').kind, .int .i64 (mvH m h').op, .int .i64 (mvH m h').num, .string ⟨(mvH m h').text.toArray⟩, .int .i64 (mvH m h').ref.row, .int .i64 (mvH m h').ref.col, .bool (mvH m h').ref.pr, .bool (mvH m h').ref.pc, .int .i64 (mvH m h').to.row, .int .i64 (mvH m h').to.col, .bool (mvH m h').to.pr, .bool (mvH m h').to.pc, .int .i64 (mvH m h').fn, .slice xa xl xc])
               generalize (World.setCells w' wr.heap.size 0 [.int .i64 (mvH m h').kind, .int .i64 (mvH m h').op, .int .i64 (mvH m h').num, .string ⟨(mvH m h').text.toArray⟩, .int .i64 (mvH m h').ref.row, .int .i64 (mvH m h').ref.col, .bool (mvH m h').ref.pr, .bool (mvH m h').ref.pc, .int .i64 (mvH m h').to.row, .int .i64 (mvH m h').to.col, .bool (mvH m h').to.pr, .bool (mvH m h').to.pc, .int .i64 (mvH m h').fn, .slice xa xl xc]) = w3 at hx hb3 hX3 ⊢
               generalize wr.heap.size = kb at hx ⊢
               exact key kb w3 xa xl xc ⟨hx, hb3, hX3⟩)
            | (have hx := heap_alloc_new w' (.cells #[.int .i64 (mvH m h').kind, .int .i64 (mvH m h').op, .int .i64 (mvH m h').num, .string ⟨(mvH m h').text.toArray⟩, .int .i64 (mvH m h').ref.row, .int .i64 (mvH m h').ref.col, .bool (mvH m h').ref.pr, .bool (mvH m h').ref.pc, .int .i64 (mvH m h').to.row, .int .i64 (mvH m h').to.col, .bool (mvH m h').to.pr, .bool (mvH m h').to.pc, .int .i64 (mvH m h').fn, .slice xa xl xc] 29)
               have hb3 : Below wr.heap.size wr (w'.alloc (.cells #[.int .i64 (mvH m h').kind, .int .i64 (mvH m h').op, .int .i64 (mvH m h').num, .string ⟨(mvH m h').text.toArray⟩, .int .i64 (mvH m h').ref.row, .int .i64 (mvH m h').ref.col, .bool (mvH m h').ref.pr, .bool (mvH m h').ref.pc, .int .i64 (mvH m h').to.row, .int .i64 (mvH m h').to.col, .bool (mvH m h').to.pr, .bool (mvH m h').to.pc, .int .i64 (mvH m h').fn, .slice xa xl xc] 29)) := ext_alloc hq _
               have hX3 : TreeX (w'.alloc (.cells #[.int .i64 (mvH m h').kind, .int .i64 (mvH m h').op, .int .i64 (mvH m h').num, .string ⟨(mvH m h').text.toArray⟩, .int .i64 (mvH m h').ref.row, .int .i64 (mvH m h').ref.col, .bool (mvH m h').ref.pr, .bool (mvH m h').ref.pc, .int .i64 (mvH m h').to.row, .int .i64 (mvH m h').to.col, .bool (mvH m h').to.pr, .bool (mvH m h').to.pc, .int .i64 (mvH m h').fn, .slice xa xl xc] 29)) (fun b => b < B ∨ (wr.heap.size ≤ b ∧ b < (w'.alloc (.cells #[.int .i64 (mvH m h').kind, .int .i64 (mvH m h').op, .int .i64 (mvH m h').num, .string ⟨(mvH m h').text.toArray⟩, .int .i64 (mvH m h').ref.row, .int .i64 (mvH m h').ref.col, .bool (mvH m h').ref.pr, .bool (mvH m h').ref.pc, .int .i64 (mvH m h').to.row, .int .i64 (mvH m h').to.col, .bool (mvH m h').to.pr, .bool (mvH m h').to.pc, .int .i64 (mvH m h').fn, .slice xa xl xc] 29)).heap.size)) (mvH m h') (mvK m k') xa xl := hX'.kept fun b hb => by
                 have hsz := hq.size
                 rcases hb with q | ⟨q1, q2⟩
                 · exact ⟨.inl q, Below.heap_alloc _ _ _ (by omega)⟩
                 · exact ⟨.inr ⟨q1, by simp; omega⟩, Below.heap_alloc _ _ _ q2⟩
               generalize w'.alloc (.cells #[.int .i64 (mvH m h').kind, .int .i64 (mvH m h').op, .int .i64 (mvH m h').num, .string ⟨(mvH m h').text.toArray⟩, .int .i64 (mvH m h').ref.row, .int .i64 (mvH m h').ref.col, .bool (mvH m h').ref.pr, .bool (mvH m h').ref.pc, .int .i64 (mvH m h').to.row, .int .i64 (mvH m h').to.col, .bool (mvH m h').to.pr, .bool (mvH m h').to.pc, .int .i64 (mvH m h').fn, .slice xa xl xc] 29) = w3 at hx hb3 hX3 ⊢
               generalize w'.heap.size = kb at hx ⊢
               exact key kb w3 xa xl xc ⟨hx, hb3, hX3⟩)
      case klater =>
        intro kb w3 xa xl xc ⟨hx, hb3, hX3⟩
        clear e0 e13 d0 d1 d2 d3 d4 d5 d6 d7 d8 d9 d10 d11 d12 d13 c0 c1 c2 l0 l1 n0 n1 n2 CA HS0
        have ck := cells_of_block hx
        have lk := lt_of_block hx
        have own3 : w3.ownsRow (w.heap.size + 3) 29 14 u5 dn.len cs := ((slot_of HOW.out).kept fun b hb => hb3.block b (HOW.out.lt b (mem_ownList.1 hb)).2).owns fun b hb => (HOW.out.lt b (mem_ownList.1 hb)).1
        have hjl : dn.len ≤ 100000 := by have := HJ.out; omega
        have h33 := hb3.size
        have B3 := Lib.hid hb3; have X3 := Lib.hid hX3
        clear hb3 hX3 hx
        go_wp2_with (at_builtin; refine wpList_append_own_at _ rfl _ _ 27 rfl (w.heap.size + 3) 29 i0 _ 14 120 Try.underlying27 hi hz0 hz1 hz2 rfl (by decide) u5 dn.len cs rfl (own3.alloc _) ⟨w3.heap.size, 0, none⟩ 1 1 (Hd.vals (mvH m h') (.slice xa xl xc)) rfl rfl (World.news_of_block (heap_alloc_new w3 _)) (by simp [Value.oneCell', Hd.vals]) (by unfold maxLen; omega) (by omega) (by simp; omega) ?_)
        intro v' w4 hown4 hgrow _ hloc
        have hl : ∀ k, u5.ownBlock = some k → w.heap.size + 3 ≤ k ∧ k < wr.heap.size := fun k hk => HOW.out.lt k hk
        have b4 : Below (w.heap.size + 3) wr w4 := ((B3.out.mono (by omega)).alloc (by omega) _).grown hgrow (by simp; omega) (fun k hk => (hl k hk).1)
        have s4 : w3.heap.size + 1 ≤ w4.heap.size := by have := hgrow.size; simpa using this
        have hloc' : v'.ownBlock = u5.ownBlock ∨ v'.ownBlock = some (w3.heap.size + 1) := by simpa using hloc
        have hnb : ∀ b, b < w3.heap.size → v'.ownBlock = some b → u5.ownBlock = some b := fun b hb e => by
          rcases hloc' with q | q
          · rw [q] at e; exact e
          · rw [q] at e; injection e with e; omega
        have same : ∀ b, b < w3.heap.size → u5.ownBlock ≠ some b → w4.heap[b]? = w3.heap[b]? := fun b hb hne => (hgrow.block b (by simp; omega) (fun e => hne e.symm)).trans (Below.heap_alloc _ _ _ hb)
        have r4 : RdX w4 (OkL w B v' w4) (mvK m (dn.app (.cons h' k' .nil))) (cs ++ Hd.vals (mvH m h') (.slice xa xl xc)) := by
          rw [mvK_app]
          show RdX w4 _ ((mvK m dn).app (.cons (mvH m h') (mvK m k') .nil)) _
          refine RdX.snoc (X3.out.kept fun b hb => ?_) (HRD.out.kept fun b hb => ?_)
          · have hB' : b < w3.heap.size := by rcases hb with q | q <;> omega
            have hne : u5.ownBlock ≠ some b := fun e => by have := hl b e; rcases hb with q | q <;> omega
            exact ⟨⟨by omega, fun e => hne (hnb b hB' e), by rcases hb with q | q; exact .inl q; exact .inr (by omega)⟩, same b hB' hne⟩
          · obtain ⟨q1, q2, q3⟩ := hb
            exact ⟨⟨by omega, fun e => q2 (hnb b (by omega) e), q3⟩, (same b (by omega) q2).trans (B3.out.block b q1)⟩
        have R4 := Lib.hid r4
        have ROW4 := Lib.hid (HRow.out.kept (b4.mono (by omega)) (Nat.le_refl _))
        have P4 := Lib.hid (HP.out.keep b4)
        have own4 : w4.ownsRow (w.heap.size + 3) 29 14 v' (dn.app (.cons h' k' .nil)).len (cs ++ Hd.vals (mvH m h') (.slice xa xl xc)) := by rw [Trees.app_len]; exact hown4
        have OWN4 := Lib.hid own4
        clear own4 hown4 hgrow hloc hloc' hnb same r4 own3 b4 hl ck
        go_wp2
        exact ⟨⟨j + 1, dn.app (.cons h' k' .nil), r', _, by go_num, by rw [Trees.app_len, HJ.out]; rfl, by rw [Trees.app_cons]; exact HA.out, ROW4.out, HAll.out, hno2, HF.out, P4, OWN4, R4⟩, by simp [intOf]; have := HLen.out; simp only [Trees.len] at this; omega⟩
    · have hz : rest.len = 0 := by omega
      obtain rfl := trees_nil hz
      rw [Trees.app_nil] at happ
      subst happ
      have f1 := frees_of_block HP.out.b1
      have f2 := frees_of_block HP.out.b2
      obtain ⟨la, lc, rfl⟩ : ∃ a c, u5 = .slice a dn.len c := (slot_of HOW.out).slice
      have r5 : RdX wr (fun b => b < B ∨ (w.heap.size + 3 ≤ b ∧ b < wr.heap.size)) (mvK m dn) cs := HRD.out.kept fun b hb => ⟨by rcases hb.2.2 with q | q; exact .inl q; exact .inr ⟨q, hb.1⟩, rfl⟩
      obtain ⟨a5, c5, e5, t5⟩ := RdX.tree (h := nd) (by rw [mvK_len]; exact HOW.out) (fun g hg => .inr (HOW.out.lt g hg)) r5 HT.out.ok
      rw [mvK_len] at e5 t5
      simp only [Value.slice.injEq] at e5
      obtain ⟨rfl, -, rfl⟩ := e5
      have T5 := Lib.hid t5
      have BE := Lib.hid HP.out.bel
      clear t5 r5 hrow hall hfit
      go_wp2
      refine bodyPost_ret (v := .agg #[.int .i64 nd.kind, .int .i64 nd.op, .int .i64 nd.num, .string ⟨nd.text.toArray⟩, .int .i64 nd.ref.row, .int .i64 nd.ref.col, .bool nd.ref.pr, .bool nd.ref.pc, .int .i64 nd.to.row, .int .i64 nd.to.col, .bool nd.to.pr, .bool nd.to.pc, .int .i64 nd.fn, .slice la dn.len lc]) (by simp [results, Try.results84, go_sem, c2]) rfl ?_
      refine ⟨la, dn.len, lc, by rw [HH.out], ?_, ?_⟩
      · repeat (refine Below.setCell ?_ (by simp; try omega) _)
        exact BE.out
      · rw [HH.out]
        refine T5.out.kept fun b hb => ?_
        have hh : b ≠ w.heap.size + 1 ∧ b ≠ w.heap.size + 1 + 1 := by rcases hb with q | q <;> omega
        refine ⟨?_, ?_⟩
        · rcases hb with q | q
          · exact .inl q
          · exact .inr ⟨by omega, by simpa [World.setCell] using q.2⟩
        · repeat rw [Below.heap_setCell _ _ _ _ (by simp; omega)]
theorem refAllM_any (m : Mv) (ok : m.ok) (h : Hd) (ks : Trees) : RMv m h ks := refAllM_step m ok h ks (allT (refAllM_step m ok) ks)
end Go.Proofs.Ytkjfeakbhfkldaa
