/- Law 17's spoil: a code's lists are written over and grown in their own room; nothing else is changed. -/
import Derived.Test.YtlmpiobdgkmmgaaGreatDoorKeB
import Derived.Test.YtlmpiobdgkmmgaaGreatDoorCrT
import Derived.ArgAppend
set_option maxRecDepth 1000000
set_option maxHeartbeats 16000000
namespace Go.Proofs.YtlmpiobdgkmmgaaGreatDoor
open Go.RowKit Go.Lib
def Fbn (b N : Nat) : List Nat := (List.range N).filter fun x => decide (b ≤ x)
theorem mem_Fbn {b N x : Nat} : x ∈ Fbn b N ↔ b ≤ x ∧ x < N := by
 unfold Fbn
 rw [List.mem_filter, List.mem_range, decide_eq_true_eq]
 exact And.comm
def CodeN (b N : Nat) (W : World) (vI vC : Value) (ps : List PI) (cs : List PV) : Prop := ∃ (cl : Nat → Nat) (ts : List Value), ts.length = ps.length ∧ Rw b N cl 0 47 6 W vI ps.length (insC ps ts) ∧ Rw b N cl 1 54 3 W vC cs.length (conC cs) ∧ ∀ (i : Nat) (p : PI) (t : Value), ps[i]? = some p → ts[i]? = some t → TRow b N cl (10 + i) W t p.t
theorem CodeV.toN {b : Nat} {W : World} {vI vC : Value} {ps : List PI} {cs : List PV} (h : CodeV b W vI vC ps cs) : CodeN b W.heap.size W vI vC ps cs := h
theorem CodeN.keep {b N : Nat} {W W' : World} {vI vC : Value} {ps : List PI} {cs : List PV} (h : CodeN b N W vI vC ps cs) (k : ∀ x, b ≤ x → x < N → W'.heap[x]? = W.heap[x]?) : CodeN b N W' vI vC ps cs := by
 obtain ⟨cl, ts, h1, h2, h3, h4⟩ := h
 refine ⟨cl, ts, h1, ⟨own_row9 h2.own fun x hx => k x (h2.own.lt x hx).1 (h2.cls x hx).2, h2.cls⟩, ⟨own_row9 h3.own fun x hx => k x (h3.own.lt x hx).1 (h3.cls x hx).2, h3.cls⟩, fun i p t hp ht => ?_⟩
 rcases h4 i p t hp ht with q | ⟨g, cap, cur, e, q1, q2, q3, q4, q5⟩
 ·exact .inl q
 ·exact .inr ⟨g, cap, cur, e, q1, q2, q3, (k g q3 q2).trans q4, q5⟩
theorem CodeN.slices {b N : Nat} {W : World} {vI vC : Value} {ps : List PI} {cs : List PV} (h : CodeN b N W vI vC ps cs) : ∃ a1 k1 a2 k2, vI = .slice a1 ps.length k1 ∧ vC = .slice a2 cs.length k2 := by
 obtain ⟨cl, ts, h1, h2, h3, h4⟩ := h
 obtain ⟨a1, k1, e1⟩ := h2.own.slice9
 obtain ⟨a2, k2, e2⟩ := h3.own.slice9
 exact ⟨a1, k1, a2, k2, e1, e2⟩
theorem CodeN.toA {b N b' : Nat} {W : World} {vI vC : Value} {ps : List PI} {cs : List PV} (h : CodeN b N W vI vC ps cs) (hb : N ≤ b') (wf : ∀ p ∈ ps, (Lit.int .i64 p.op).wf = true) (nI : ps.length ≤ 1000000000) (nC : cs.length ≤ 1000000000) (long : longS ps ≤ 1000000000000000) : CodeA W b' vI vC ps cs := by
 obtain ⟨cl, ts, h1, h2, h3, h4⟩ := h
 refine ⟨?_, ?_, wf, nI, nC, long⟩
 ·rcases h2.own.2 with ⟨e, h0⟩ | ⟨g, cap, cur, e, hbg, hg, r⟩
  ·exact ⟨none, 0, by rw [e, h0], fun q => absurd q (by omega)⟩
  ·refine ⟨_, cap, e, fun _ => ⟨g, 0, rfl, fun i p hp => ?_⟩⟩
   have hi := (List.getElem?_eq_some_iff.1 hp).1
   obtain ⟨t, ht⟩ : ∃ t, ts[i]? = some t := ⟨ts[i]'(by omega), List.getElem?_eq_getElem (by omega)⟩
   have hlt : g < b' := Nat.lt_of_lt_of_le (h2.cls g (by rw [e]; rfl)).2 hb
   have c : ∀ j, j < 6 → W.cell? ⟨g, 0 + i * 6 + j, none⟩ = (insV p t)[j]? := fun j hj => by
    rw [Nat.zero_add, ← insC_get ps ts i j p t hp ht hj]
    have o := h2.own
    rw [e] at o
    exact own_cell o _ (by rw [insC_len ps ts h1]; omega)
   exact ⟨t, hlt, c 0 (by omega), c 1 (by omega), c 2 (by omega), c 3 (by omega), c 4 (by omega), c 5 (by omega), (h4 i p t hp ht).insT hb⟩
 ·rcases h3.own.2 with ⟨e, h0⟩ | ⟨g, cap, cur, e, hbg, hg, r⟩
  ·exact ⟨none, 0, by rw [e, h0], fun q => absurd q (by omega)⟩
  ·refine ⟨_, cap, e, fun _ => ⟨g, 0, rfl, Nat.lt_of_lt_of_le (h3.cls g (by rw [e]; rfl)).2 hb, fun i v hv => ?_⟩⟩
   have hi := (List.getElem?_eq_some_iff.1 hv).1
   have c : ∀ j, j < 3 → W.cell? ⟨g, 0 + i * 3 + j, none⟩ = (conV v)[j]? := fun j hj => by
    rw [Nat.zero_add, ← conC_get cs i j v hv hj]
    have o := h3.own
    rw [e] at o
    exact own_cell o _ (by rw [conC_len cs]; omega)
   exact ⟨c 0 (by omega), c 1 (by omega), c 2 (by omega)⟩
structure SpS (b N X g kI : Nat) (aC : Option Addr) (kC : Nat) (bx : Array Value) (ts : List Value) (W0 : World) (j : Nat) (W : World) : Prop where
 ins : ∃ cur, W.heap[g]? = some (.cells cur 47 (0, 0)) ∧ cur.size = kI * 6 ∧ ∀ (m : Nat) (t : Value), j ≤ m → ts[m]? = some t → cur[m * 6 + 5]? = some t
 con : 0 < kC → ∃ gc cur, aC = some ⟨gc, 0, none⟩ ∧ b ≤ gc ∧ gc < N ∧ W.heap[gc]? = some (.cells cur 54 (0, 0)) ∧ cur.size = kC * 3
 tab : ∀ (m : Nat) (t : Value), j ≤ m → ts[m]? = some t → t = .slice none 0 0 ∨ ∃ n gm cap cur, t = .slice (some ⟨gm, 0, none⟩) n cap ∧ b ≤ gm ∧ gm < N ∧ W.heap[gm]? = some (.cells cur 3 (0, 0)) ∧ n ≤ cap ∧ cap ≤ cur.size ∧ n ≤ 1000000000000000
 box : W.heap[X]? = some (.cells bx 27 (0, 0))
 spd : Spd (Fbn b N) W0 W
section
variable {b N X g kI kC : Nat} {aC : Option Addr} {bx : Array Value} {ts : List Value} {W0 W W' : World} {j : Nat}
theorem SpS.below (s : SpS b N X g kI aC kC bx ts W0 j W) (k : Below W.heap.size W W') : SpS b N X g kI aC kC bx ts W0 j W' where
 ins := by obtain ⟨cur, h, r⟩ := s.ins; exact ⟨cur, (k.block g (lt_of_block h)).trans h, r⟩
 con := fun q => by obtain ⟨gc, cur, h1, h2, h3, h, r⟩ := s.con q; exact ⟨gc, cur, h1, h2, h3, (k.block gc (lt_of_block h)).trans h, r⟩
 tab := fun m t hm ht => (s.tab m t hm ht).imp id fun ⟨n, gm, cap, cur, h1, h2, h3, h, r⟩ => ⟨n, gm, cap, cur, h1, h2, h3, (k.block gm (lt_of_block h)).trans h, r⟩
 box := (k.block X (lt_of_block s.box)).trans s.box
 spd := s.spd.ext k
theorem SpS.write {y off j' : Nat} {vs : List Value} {cur : Array Value} {T : TypeId} (s : SpS b N X g kI aC kC bx ts W0 j W) (hX : N ≤ X) (hy : W.heap[y]? = some (.cells cur T (0, 0))) (hl : off + vs.length ≤ cur.size) (hb : b ≤ y) (hN : y < N)
 (hi : y = g → ∀ m, j' ≤ m → m < ts.length → m * 6 + 5 < off ∨ off + vs.length ≤ m * 6 + 5) (hj : j ≤ j') : SpS b N X g kI aC kC bx ts W0 j' (W.setCells y off vs) := by
 obtain ⟨cur2, w1, w2⟩ := setCells_sized (vs := vs) hy hl
 have shp : ∀ {x : Nat} {c : Array Value} {U : TypeId}, W.heap[x]? = some (.cells c U (0, 0)) → ∃ c', (W.setCells y off vs).heap[x]? = some (.cells c' U (0, 0)) ∧ c'.size = c.size := fun {x c U} h => by
  by_cases e : x = y
  ·subst e
   rw [hy] at h
   cases h
   exact ⟨cur2, w1, w2⟩
  ·exact ⟨c, (setCells_other e vs off W).trans h, rfl⟩
 refine ⟨?_, fun q => ?_, fun m t hm ht => ?_, ?_, s.spd.cells (.inl (mem_Fbn.2 ⟨hb, hN⟩)) _ _⟩
 ·obtain ⟨c, h, r1, r2⟩ := s.ins
  obtain ⟨c', h', e⟩ := shp h
  refine ⟨c', h', by omega, fun m t hm ht => ?_⟩
  have h0 := r2 m t (by omega) ht
  have hmt : m < ts.length := (List.getElem?_eq_some_iff.1 ht).1
  rw [← cells_of_block h', World.cell?_setCells_out y vs off W ⟨g, m * 6 + 5, none⟩ (fun e1 _ => (hi e1.symm m hm hmt)), cells_of_block h]
  exact h0
 ·obtain ⟨gc, c, h1, h2, h3, h, r⟩ := s.con q
  obtain ⟨c', h', e⟩ := shp h
  exact ⟨gc, c', h1, h2, h3, h', by omega⟩
 ·refine (s.tab m t (by omega) ht).imp id fun ⟨n, gm, cap, c, h1, h2, h3, h, r1, r2, r3⟩ => ?_
  obtain ⟨c', h', e⟩ := shp h
  exact ⟨n, gm, cap, c', h1, h2, h3, h', r1, by omega, r3⟩
 ·exact (setCells_other (by omega) vs off W).trans s.box
theorem wpList_append_room9 {P : Program} (w : World) {ops : Array Oper} {rest : List Oper} {o : Oper} {a : Act} {Q : Exit → Act → World → Prop} (hg : o.guard = none) (s x : Operand) (t : TypeId) (hop : o.op = Op.call { callee := Callee.builtin Builtin.append, args := #[s, x], argTypes := #[t, t] })
 (e : TypeId) (i : TypeInfo) (size : Nat) (h1 : P.underlying t = some (.slice e)) (h2 : P.info? e = some i) (h4 : i.size = size) (b off n cap : Nat) (hs : a.eval s = .slice (some ⟨b, off, none⟩) n cap)
 (ad : Addr) (m c : Nat) (news : List Value) (hx : a.eval x = .slice (some ad) m c) (hn : news.length = m * size) (hc : ∀ j u, news[j]? = some u → w.cell? (ad.add j) = some u) (h1c : ∀ u ∈ news, u.oneCell' = true)
 (hroom : n + m ≤ cap) (hspare : ∀ j, j < news.length → (w.cell? ⟨b, off + n * size + j, none⟩).isSome = true ∧ w.frozen? ⟨b, off + n * size + j, none⟩ = false)
 (hK : wpList P ops Q rest (a.put o.dst (.slice (some ⟨b, off, none⟩) (n + m) cap)) (w.setCells b (off + n * size) news)) : wpList P ops Q (o :: rest) a w := by
 refine wpList_plain hg fun K hK' => ?_
 subst h4
 have hrun := run_append_room_cells (P := P) w t o.type e i h1 h2 b off n cap ad m c news hn hc h1c hroom (fun j hj => (hspare j hj).1) (fun j hj => (hspare j hj).2)
 unfold Oper.wp
 simp [execOp, hop, resolve, invoke, builtin, hs, hx, hrun, Result.andThen]
 exact hK' _ _ hK
end
theorem spare9 {W : World} {y off n : Nat} {cur : Array Value} {T : TypeId} (hy : W.heap[y]? = some (.cells cur T (0, 0))) (hl : off + n ≤ cur.size) : ∀ j, j < n → (W.cell? ⟨y, off + j, none⟩).isSome = true ∧ W.frozen? ⟨y, off + j, none⟩ = false := fun j hj => by
 refine ⟨?_, frees_of_block hy _⟩
 rw [cells_of_block hy]
 have : off + j < cur.size := by omega
 simp [this]
def lenV (l : Value) : Nat := match l with | .slice _ m _ => m | _ => 0
theorem infoInt9 : (Tryz.prog.info? 3).map (·.size) = some 1 := by kernel_rfl
theorem size9 {T : TypeId} {n : Nat} (h : (Tryz.prog.info? T).map (·.size) = some n) : ∃ i, Tryz.prog.info? T = some i ∧ i.size = n := Option.map_eq_some_iff.1 h
theorem spoil17_any {b N : Nat} {vI vC : Value} {ps : List PI} {cs : List PV} (W : World) (h : CodeN b N W vI vC ps cs) (hN : N ≤ W.heap.size) (h0 : 0 < ps.length) (nI : ps.length ≤ 1000000000) (nC : cs.length ≤ 1000000000) (long : longS ps ≤ 1000000000000000) :
 Calls Tryz.prog 14 #[.agg #[vI, vC]] W fun e w' => e = .returned (.tuple #[]) ∧ Spd (Fbn b N) W w' := by
 obtain ⟨iT, hiT, hsT⟩ := size9 infoInt9
 obtain ⟨iI, hiI, hsI⟩ := size9 infoIns9
 obtain ⟨iC, hiC, hsC⟩ := size9 infoValC
 obtain ⟨cl, ts, h1, h2, h3, h4⟩ := h
 obtain ⟨g, kI, cur, rfl, hbg, hg, hnk, hkm, hsz, htk⟩ : ∃ g cap cur, vI = .slice (some ⟨g, 0, none⟩) ps.length cap ∧ b ≤ g ∧ W.heap[g]? = some (.cells cur 47 (0, 0)) ∧ ps.length ≤ cap ∧ cap ≤ maxLen ∧ cur.size = cap * 6 ∧ cur.toList.take (ps.length * 6) = insC ps ts := by
  rcases h2.own.2 with ⟨e, q⟩ | q
  ·omega
  ·exact q
 have hgN : g < N := (h2.cls g rfl).2
 obtain ⟨aC, kC, rfl⟩ := h3.own.slice9
 have hcC : cs.length ≤ kC ∧ (0 < kC → ∃ gc cur, aC = some ⟨gc, 0, none⟩ ∧ b ≤ gc ∧ gc < N ∧ W.heap[gc]? = some (.cells cur 54 (0, 0)) ∧ cur.size = kC * 3) ∧ kC ≤ maxLen := by
  rcases h3.own.2 with ⟨e, q⟩ | ⟨gc, cap, cur, e, q1, q2, q3, q4, q5, q6⟩
  ·simp only [Value.slice.injEq] at e
   obtain ⟨-, e2, rfl⟩ := e
   exact ⟨by omega, fun q => by omega, Nat.zero_le _⟩
  ·simp only [Value.slice.injEq] at e
   obtain ⟨rfl, -, rfl⟩ := e
   exact ⟨q3, fun _ => ⟨gc, cur, rfl, q1, (h3.cls gc rfl).2, q2, q5⟩, q4⟩
 obtain ⟨hnc, hcon, hkc⟩ := hcC
 have hkm : kI ≤ 9223372036854775807 := hkm
 have hkc : kC ≤ 9223372036854775807 := hkc
 obtain ⟨w0, hw0⟩ : ∃ w0, w0 = W.alloc (.cells #[.slice (some ⟨g, 0, none⟩) ps.length kI, .slice aC cs.length kC] 27) := ⟨_, rfl⟩
 obtain ⟨X, hX⟩ : ∃ X, W.heap.size = X := ⟨_, rfl⟩
 obtain ⟨ni, hni⟩ : ∃ ni, ps.length = ni := ⟨_, rfl⟩
 obtain ⟨nc, hncc⟩ : ∃ nc, cs.length = nc := ⟨_, rfl⟩
 have S0 : SpS b N X g kI aC kC #[.slice (some ⟨g, 0, none⟩) ni kI, .slice aC nc kC] ts W 0 w0 := by
  have k : Below X W w0 := by rw [hw0, ← hX]; exact ext_alloc (Below.refl _ _) _
  have lt : ∀ {x : Nat} {o : Obj}, W.heap[x]? = some o → w0.heap[x]? = some o := fun {x o} q => (k.block x (by rw [← hX]; exact lt_of_block q)).trans q
  refine ⟨⟨cur, lt hg, hsz, fun m t _ ht => ?_⟩, fun q => ?_, fun m t _ ht => ?_, ?_, Spd.of (by rw [hX]; exact k)⟩
  ·have hm : m < ps.length := by have := (List.getElem?_eq_some_iff.1 ht).1; omega
   obtain ⟨p, hp⟩ : ∃ p, ps[m]? = some p := ⟨_, List.getElem?_eq_getElem hm⟩
   have q := insC_get ps ts m 5 p t hp ht (by omega)
   rw [← htk, List.getElem?_take_of_lt (by omega)] at q
   rw [← Array.getElem?_toList, q]
   rfl
  ·obtain ⟨gc, c, q1, q2, q3, q4, q5⟩ := hcon q
   exact ⟨gc, c, q1, q2, q3, lt q4, q5⟩
  ·have hm : m < ps.length := by have := (List.getElem?_eq_some_iff.1 ht).1; omega
   obtain ⟨p, hp⟩ : ∃ p, ps[m]? = some p := ⟨_, List.getElem?_eq_getElem hm⟩
   have hlo := longS_one hp
   rcases h4 m p t hp ht with ⟨-, q⟩ | ⟨gm, cap, c, e, q1, q2, q3, q4, ⟨q5, q6⟩, q7, q8⟩
   ·exact .inl q
   ·exact .inr ⟨_, gm, cap, c, e, q3, q2, lt q4, q6, q7, by omega⟩
  ·rw [hw0, ← hX, ← hni, ← hncc]
   exact heap_alloc_new _ _
 have hts : ts.length = ni := by rw [h1, hni]
 have HNX : N ≤ X := by omega
 have HS0 := Lib.hid S0
 have HTS := Lib.hid hts
 rw [hni] at h0 nI hnk hw0 ⊢
 rw [hncc] at nC hnc hw0 ⊢
 clear h1 h2 h3 h4 S0 hts hcon hg htk hsz hni hncc hN long
 go_enter Tryz.func14, Tryz.ntmps14
 go_upto_region 1 with (fail)
 rw [← hw0]
 clear hw0 hX
 go_wp2_with fail
 go_loopw [2] (fun iv wr => ∃ j : Nat, iv = .int .i64 (j : Int) ∧ j ≤ ni ∧ Hid (SpS b N X g kI aC kC #[.slice (some ⟨g, 0, none⟩) ni kI, .slice aC nc kC] ts W j wr)) (fun iv _ => ni - (RowKit.intOf iv).toNat)
 case atStart => exact ⟨0, rfl, Nat.zero_le _, HS0⟩
 case round =>
  obtain ⟨j, rfl, hj, HS⟩ := hrel
  obtain ⟨w1, hw1⟩ : ∃ w1, wr = w1 := ⟨_, rfl⟩
  rw [hw1] at HS ⊢
  clear hw1 wr
  have x0 : w1.cell? ⟨X, 0, none⟩ = some (.slice (some ⟨g, 0, none⟩) ni kI) := (cells_of_block HS.out.box 0).trans rfl
  have x1 : w1.cell? ⟨X, 1, none⟩ = some (.slice aC nc kC) := (cells_of_block HS.out.box 1).trans rfl
  have hX1 : X < w1.heap.size := lt_of_block HS.out.box
  by_cases hlt : j < ni
  ·obtain ⟨t, ht⟩ : ∃ t, ts[j]? = some t := ⟨_, List.getElem?_eq_getElem (by have := HTS.out; omega)⟩
   have HT := Lib.hid ht
   obtain ⟨ci, ei, li, gi⟩ := HS.out.ins
   have i5 : w1.cell? ⟨g, j * 6 + 5, none⟩ = some t := by rw [cells_of_block ei]; exact gi j t (Nat.le_refl _) ht
   have hg1 : g < w1.heap.size := lt_of_block ei
   clear gi ht
   rcases HS.out.tab j t (Nat.le_refl _) HT.out with rfl | ⟨n, gm, cap, curm, rfl, t1, t2, t3, t4, t5, t6⟩
   ·go_wp2_with fail
    go_loopw [3] (fun kv wr => kv = .int .i64 0 ∧ wr = w1) (fun _ _ => 0)
    case atStart => exact ⟨rfl, rfl⟩
    case round =>
     obtain ⟨rfl, hw⟩ := hrel
     rw [hw]
     clear hw wr
     go_wp2_with fail
     go_loopw [4] (fun lv wr => lv = .slice none 0 0 ∧ wr = w1) (fun _ _ => 0)
     case atStart => exact ⟨rfl, rfl⟩
     case round =>
      obtain ⟨rfl, hw⟩ := hrel
      rw [hw]
      clear hw wr
      have EI := Lib.hid ei
      clear ei
      go_wp2_with (refine wpList_store_mem (N := g) (off := j * 6) (vs := [.int .i64 99, .int .i64 0, .int .i64 0, .int .i64 0, .int .i64 0, .slice none 0 0]) infoIns9 rfl rfl rfl rfl EI.out (by simp only [List.length_cons, List.length_nil]; omega) rfl (by simp [Value.oneCell']) ?_; intro w5 hw5; have EW := Lib.hid hw5; clear hw5)
      have HS5 := Lib.hid (show SpS b N X g kI aC kC #[.slice (some ⟨g, 0, none⟩) ni kI, .slice aC nc kC] ts W (j + 1) w5 by rw [EW.out]; exact HS.out.write HNX EI.out (by simp only [List.length_cons, List.length_nil]; omega) hbg hgN (fun _ m h1 _ => .inr (by simp only [List.length_cons, List.length_nil]; omega)) (Nat.le_succ _))
      go_wp2
      exact ⟨⟨j + 1, by go_num, by omega, HS5⟩, by simp [RowKit.intOf]; omega⟩
   ·clear t3 t5 curm
    go_wp2_with fail
    go_loopw [3] (fun kv wr => ∃ k : Nat, kv = .int .i64 (k : Int) ∧ k ≤ n ∧ Hid (SpS b N X g kI aC kC #[.slice (some ⟨g, 0, none⟩) ni kI, .slice aC nc kC] ts W j wr)) (fun kv _ => n - (RowKit.intOf kv).toNat)
    case atStart => exact ⟨0, rfl, Nat.zero_le _, HS⟩
    case round =>
     obtain ⟨k, rfl, hk, HS2⟩ := hrel
     obtain ⟨w2, hw2⟩ : ∃ w2, wr = w2 := ⟨_, rfl⟩
     rw [hw2] at HS2 ⊢
     clear hw2 wr x0 x1 i5 ei
     have x0 : w2.cell? ⟨X, 0, none⟩ = some (.slice (some ⟨g, 0, none⟩) ni kI) := (cells_of_block HS2.out.box 0).trans rfl
     have hX2 : X < w2.heap.size := lt_of_block HS2.out.box
     obtain ⟨ci, ei, li, gi⟩ := HS2.out.ins
     have i5 : w2.cell? ⟨g, j * 6 + 5, none⟩ = some (.slice (some ⟨gm, 0, none⟩) n cap) := by rw [cells_of_block ei]; exact gi j _ (Nat.le_refl _) HT.out
     have hg2 : g < w2.heap.size := lt_of_block ei
     obtain ⟨cm, em, lm⟩ : ∃ cm, w2.heap[gm]? = some (.cells cm 3 (0, 0)) ∧ cap ≤ cm.size := by
      rcases HS2.out.tab j _ (Nat.le_refl _) HT.out with q | ⟨n', gm', cap', c', e, q1, q2, q3, q4, q5, q6⟩
      ·cases q
      ·simp only [Value.slice.injEq, Option.some.injEq, Addr.mk.injEq, and_true] at e
       obtain ⟨rfl, rfl, rfl⟩ := e
       exact ⟨c', q3, q5⟩
     have hne : gm ≠ g := fun e => by rw [e, ei] at em; cases em
     have EM := Lib.hid em; have EI := Lib.hid ei
     clear gi em ei
     by_cases hkn : k < n
     ·obtain ⟨u, hu⟩ : ∃ u, cm[k]? = some u := ⟨_, Array.getElem?_eq_getElem (by omega)⟩
      have m0 : w2.cell? ⟨gm, k, none⟩ = some u := by rw [cells_of_block EM.out]; exact hu
      have f0 : w2.frozen? ⟨gm, k, none⟩ = false := frees_of_block EM.out _
      have hgm2 : gm < w2.heap.size := lt_of_block EM.out
      have HS3 := Lib.hid (show SpS b N X g kI aC kC #[.slice (some ⟨g, 0, none⟩) ni kI, .slice aC nc kC] ts W j (w2.setCell ⟨gm, k, none⟩ (.int .i64 (-9))) from HS2.out.write (vs := [.int .i64 (-9)]) HNX EM.out (by simp only [List.length_singleton]; omega) t1 t2 (fun e => absurd e hne) (Nat.le_refl _))
      go_wp2
      exact ⟨⟨k + 1, by go_num, by omega, HS3⟩, by simp [RowKit.intOf]; omega⟩
     ·clear lm
      go_wp2_with fail
      go_loopw [4] (fun lv wr => ∃ m : Nat, lv = .slice (some ⟨gm, 0, none⟩) m cap ∧ m ≤ cap ∧ Hid (SpS b N X g kI aC kC #[.slice (some ⟨g, 0, none⟩) ni kI, .slice aC nc kC] ts W j wr)) (fun lv _ => cap - lenV lv)
      case atStart => exact ⟨n, rfl, t4, HS2⟩
      case round =>
       obtain ⟨m, rfl, hm, HS4⟩ := hrel
       obtain ⟨w4, hw4⟩ : ∃ w4, wr = w4 := ⟨_, rfl⟩
       rw [hw4] at HS4 ⊢
       clear hw4 wr x0 i5 EM EI
       have x0 : w4.cell? ⟨X, 0, none⟩ = some (.slice (some ⟨g, 0, none⟩) ni kI) := (cells_of_block HS4.out.box 0).trans rfl
       have hX4 : X < w4.heap.size := lt_of_block HS4.out.box
       obtain ⟨ci, ei, li, gi⟩ := HS4.out.ins
       have i5 : w4.cell? ⟨g, j * 6 + 5, none⟩ = some (.slice (some ⟨gm, 0, none⟩) n cap) := by rw [cells_of_block ei]; exact gi j _ (Nat.le_refl _) HT.out
       have hg4 : g < w4.heap.size := lt_of_block ei
       obtain ⟨cm, em, lm⟩ : ∃ cm, w4.heap[gm]? = some (.cells cm 3 (0, 0)) ∧ cap ≤ cm.size := by
        rcases HS4.out.tab j _ (Nat.le_refl _) HT.out with q | ⟨n', gm', cap', c', e, q1, q2, q3, q4, q5, q6⟩
        ·cases q
        ·simp only [Value.slice.injEq, Option.some.injEq, Addr.mk.injEq, and_true] at e
         obtain ⟨rfl, rfl, rfl⟩ := e
         exact ⟨c', q3, q5⟩
       have hgm4 : gm < w4.heap.size := lt_of_block em
       have EM := Lib.hid em; have EI := Lib.hid ei
       clear gi em ei
       by_cases hmc : m < cap
       ·by_cases hm9 : m < 9000
        ·obtain ⟨o8, ho8⟩ : ∃ o8, o8 = Obj.cells #[.int .i64 (-8)] 3 := ⟨_, rfl⟩
         have E8 := Lib.hid (show (w4.alloc o8).heap[gm]? = some (.cells cm 3 (0, 0)) from (Below.heap_alloc _ _ _ hgm4).trans EM.out)
         have HS6 := Lib.hid (show SpS b N X g kI aC kC #[.slice (some ⟨g, 0, none⟩) ni kI, .slice aC nc kC] ts W j ((w4.alloc o8).setCells gm (0 + m * 1) [.int .i64 (-8)]) from (HS4.out.below (ext_alloc (Below.refl _ _) _)).write HNX E8.out (by simp only [List.length_singleton]; omega) t1 t2 (fun e => absurd e hne) (Nat.le_refl _))
         rw [ho8] at HS6 E8
         rw [Nat.zero_add, Nat.mul_one] at HS6
         clear ho8
         go_wp2_with (at_builtin; refine wpList_append_room9 _ rfl _ _ 45 rfl 3 iT 1 Tryz.underlying45 hiT hsT gm 0 m cap rfl ⟨w4.heap.size, 0, none⟩ 1 1 [.int .i64 (-8)] rfl rfl (World.news_of_block (heap_alloc_new w4 _)) (by simp [Value.oneCell']) (by omega) (spare9 E8.out (by simp only [List.length_singleton]; omega)) ?_)
         go_wp2
         exact ⟨⟨m + 1, rfl, by omega, HS6⟩, by simp [lenV]; omega⟩
        ·go_wp2_with (refine wpList_store_mem (N := g) (off := j * 6) (vs := [.int .i64 99, .int .i64 0, .int .i64 0, .int .i64 0, .int .i64 0, .slice none 0 0]) infoIns9 rfl rfl rfl rfl EI.out (by simp only [List.length_cons, List.length_nil]; omega) rfl (by simp [Value.oneCell']) ?_; intro w5 hw5; have EW := Lib.hid hw5; clear hw5)
         have HS5 := Lib.hid (show SpS b N X g kI aC kC #[.slice (some ⟨g, 0, none⟩) ni kI, .slice aC nc kC] ts W (j + 1) w5 by rw [EW.out]; exact HS4.out.write HNX EI.out (by simp only [List.length_cons, List.length_nil]; omega) hbg hgN (fun _ m h1 _ => .inr (by simp only [List.length_cons, List.length_nil]; omega)) (Nat.le_succ _))
         go_wp2
         exact ⟨⟨j + 1, by go_num, by omega, HS5⟩, by simp [RowKit.intOf]; omega⟩
       ·go_wp2_with (refine wpList_store_mem (N := g) (off := j * 6) (vs := [.int .i64 99, .int .i64 0, .int .i64 0, .int .i64 0, .int .i64 0, .slice none 0 0]) infoIns9 rfl rfl rfl rfl EI.out (by simp only [List.length_cons, List.length_nil]; omega) rfl (by simp [Value.oneCell']) ?_; intro w5 hw5; have EW := Lib.hid hw5; clear hw5)
        have HS5 := Lib.hid (show SpS b N X g kI aC kC #[.slice (some ⟨g, 0, none⟩) ni kI, .slice aC nc kC] ts W (j + 1) w5 by rw [EW.out]; exact HS4.out.write HNX EI.out (by simp only [List.length_cons, List.length_nil]; omega) hbg hgN (fun _ m h1 _ => .inr (by simp only [List.length_cons, List.length_nil]; omega)) (Nat.le_succ _))
        go_wp2
        exact ⟨⟨j + 1, by go_num, by omega, HS5⟩, by simp [RowKit.intOf]; omega⟩
  ·have hjn : j = ni := by omega
   rw [hjn] at HS
   clear hjn
   go_wp2_with fail
   clear x0 x1 hlt hj
   go_loopw [5] (fun iv wr => ∃ i : Nat, iv = .int .i64 (i : Int) ∧ i ≤ nc ∧ Hid (SpS b N X g kI aC kC #[.slice (some ⟨g, 0, none⟩) ni kI, .slice aC nc kC] ts W ni wr)) (fun iv _ => nc - (RowKit.intOf iv).toNat)
   case atStart => exact ⟨0, rfl, Nat.zero_le _, HS⟩
   case round =>
    obtain ⟨i, rfl, hi, HS2⟩ := hrel
    obtain ⟨w2, hw2⟩ : ∃ w2, wr = w2 := ⟨_, rfl⟩
    rw [hw2] at HS2 ⊢
    clear hw2 wr
    have x0 : w2.cell? ⟨X, 0, none⟩ = some (.slice (some ⟨g, 0, none⟩) ni kI) := (cells_of_block HS2.out.box 0).trans rfl
    have x1 : w2.cell? ⟨X, 1, none⟩ = some (.slice aC nc kC) := (cells_of_block HS2.out.box 1).trans rfl
    have hX2 : X < w2.heap.size := lt_of_block HS2.out.box
    by_cases hin : i < nc
    ·obtain ⟨gc, cc, rfl, c1, c2, c3, c4⟩ := HS2.out.con (by omega)
     obtain ⟨ci, ei, li, gi⟩ := HS2.out.ins
     have hne : gc ≠ g := fun e => by rw [e, ei] at c3; cases c3
     have EC := Lib.hid c3
     have hgc2 : gc < w2.heap.size := lt_of_block c3
     clear gi ei c3
     go_wp2_with (refine wpList_store_mem (N := gc) (off := i * 3) (vs := [.int .i64 99, .int .i64 0, .string ⟨#[]⟩]) infoValC rfl rfl rfl rfl EC.out (by simp only [List.length_cons, List.length_nil]; omega) rfl (by simp [Value.oneCell']) ?_; intro w5 hw5; have EW := Lib.hid hw5; clear hw5)
     have HS5 := Lib.hid (show SpS b N X g kI (some ⟨gc, 0, none⟩) kC #[.slice (some ⟨g, 0, none⟩) ni kI, .slice (some ⟨gc, 0, none⟩) nc kC] ts W ni w5 by rw [EW.out]; exact HS2.out.write HNX EC.out (by simp only [List.length_cons, List.length_nil]; omega) c1 c2 (fun e => absurd e hne) (Nat.le_refl _))
     go_wp2
     exact ⟨⟨i + 1, by go_num, by omega, HS5⟩, by simp [RowKit.intOf]; omega⟩
    ·go_upto_region 16 with (fail)
     clear hin hi
     go_quiet (fail)
     go_wp2_with fail
     clear x0 x1 hX2
     go_loopw [6] (fun lv wr => ∃ m : Nat, lv = .slice (some ⟨g, 0, none⟩) m kI ∧ m ≤ kI ∧ Hid (SpS b N X g kI aC kC #[.slice (some ⟨g, 0, none⟩) ni kI, .slice aC nc kC] ts W ni wr)) (fun lv _ => kI - lenV lv)
     case atStart => exact ⟨ni, rfl, hnk, Lib.hid (HS2.out.below (below_drewN (Below.refl _ _)))⟩
     case round =>
      obtain ⟨m, rfl, hm, HS4⟩ := hrel
      obtain ⟨w4, hw4⟩ : ∃ w4, wr = w4 := ⟨_, rfl⟩
      rw [hw4] at HS4 ⊢
      clear hw4 wr
      by_cases hmn : (m : Int) < min (kI : Int) 20000
      ·obtain ⟨ci, ei, li, gi⟩ := HS4.out.ins
       have hg4 : g < w4.heap.size := lt_of_block ei
       obtain ⟨o8, ho8⟩ : ∃ o8, o8 = Obj.cells #[.int .i64 98, .int .i64 0, .int .i64 0, .int .i64 0, .int .i64 0, .slice none 0 0] 47 := ⟨_, rfl⟩
       have E8 := Lib.hid (show (w4.alloc o8).heap[g]? = some (.cells ci 47 (0, 0)) from (Below.heap_alloc _ _ _ hg4).trans ei)
       have HS6 := Lib.hid (show SpS b N X g kI aC kC #[.slice (some ⟨g, 0, none⟩) ni kI, .slice aC nc kC] ts W ni ((w4.alloc o8).setCells g (0 + m * 6) [.int .i64 98, .int .i64 0, .int .i64 0, .int .i64 0, .int .i64 0, .slice none 0 0]) from (HS4.out.below (ext_alloc (Below.refl _ _) _)).write HNX E8.out (by simp only [List.length_cons, List.length_nil]; omega) hbg hgN (fun _ m' h1 h2 => by have := HTS.out; omega) (Nat.le_refl _))
       rw [ho8] at HS6 E8
       rw [Nat.zero_add] at HS6
       clear ho8 ei gi
       go_wp2_with (at_builtin; refine wpList_append_room9 _ rfl _ _ 24 rfl 47 iI 6 Tryz.underlying24 hiI hsI g 0 m kI rfl ⟨w4.heap.size, 0, none⟩ 1 1 [.int .i64 98, .int .i64 0, .int .i64 0, .int .i64 0, .int .i64 0, .slice none 0 0] rfl rfl (World.news_of_block (heap_alloc_new w4 _)) (by simp [Value.oneCell']) (by omega) (spare9 E8.out (by simp only [List.length_cons, List.length_nil]; omega)) ?_)
       go_wp2
       exact ⟨⟨m + 1, rfl, by omega, HS6⟩, by simp [lenV]; omega⟩
      ·have x0 : w4.cell? ⟨X, 0, none⟩ = some (.slice (some ⟨g, 0, none⟩) ni kI) := (cells_of_block HS4.out.box 0).trans rfl
       have x1 : w4.cell? ⟨X, 1, none⟩ = some (.slice aC nc kC) := (cells_of_block HS4.out.box 1).trans rfl
       have hX4 : X < w4.heap.size := lt_of_block HS4.out.box
       go_upto_region 19 with (fail)
       clear hmn hm
       go_quiet (fail)
       go_wp2_with fail
       clear x0 x1 hX4
       go_loopw [8] (fun lv wr => ∃ m : Nat, lv = .slice aC m kC ∧ m ≤ kC ∧ Hid (SpS b N X g kI aC kC #[.slice (some ⟨g, 0, none⟩) ni kI, .slice aC nc kC] ts W ni wr)) (fun lv _ => kC - lenV lv)
       case atStart => exact ⟨nc, rfl, hnc, Lib.hid (HS4.out.below (below_drewN (Below.refl _ _)))⟩
       case round =>
        obtain ⟨p, rfl, hp, HS7⟩ := hrel
        obtain ⟨w7, hw7⟩ : ∃ w7, wr = w7 := ⟨_, rfl⟩
        rw [hw7] at HS7 ⊢
        clear hw7 wr
        by_cases hpn : (p : Int) < min (kC : Int) 20000
        ·obtain ⟨gc, cc, rfl, c1, c2, c3, c4⟩ := HS7.out.con (by omega)
         obtain ⟨ci, ei, li, gi⟩ := HS7.out.ins
         have hne : gc ≠ g := fun e => by rw [e, ei] at c3; cases c3
         have hgc7 : gc < w7.heap.size := lt_of_block c3
         obtain ⟨o8, ho8⟩ : ∃ o8, o8 = Obj.cells #[.int .i64 98, .int .i64 0, .string ⟨#[]⟩] 54 := ⟨_, rfl⟩
         have E8 := Lib.hid (show (w7.alloc o8).heap[gc]? = some (.cells cc 54 (0, 0)) from (Below.heap_alloc _ _ _ hgc7).trans c3)
         have HS8 := Lib.hid (show SpS b N X g kI (some ⟨gc, 0, none⟩) kC #[.slice (some ⟨g, 0, none⟩) ni kI, .slice (some ⟨gc, 0, none⟩) nc kC] ts W ni ((w7.alloc o8).setCells gc (0 + p * 3) [.int .i64 98, .int .i64 0, .string ⟨#[]⟩]) from (HS7.out.below (ext_alloc (Below.refl _ _) _)).write HNX E8.out (by simp only [List.length_cons, List.length_nil]; omega) c1 c2 (fun e => absurd e hne) (Nat.le_refl _))
         rw [ho8] at HS8 E8
         rw [Nat.zero_add] at HS8
         clear ho8 ei gi c3
         go_wp2_with (at_builtin; refine wpList_append_room9 _ rfl _ _ 25 rfl 54 iC 3 Tryz.underlying25 hiC hsC gc 0 p kC rfl ⟨w7.heap.size, 0, none⟩ 1 1 [.int .i64 98, .int .i64 0, .string ⟨#[]⟩] rfl rfl (World.news_of_block (heap_alloc_new w7 _)) (by simp [Value.oneCell']) (by omega) (spare9 E8.out (by simp only [List.length_cons, List.length_nil]; omega)) ?_)
         go_wp2
         exact ⟨⟨p + 1, rfl, by omega, HS8⟩, by simp [lenV]; omega⟩
        ·go_wp2
         go_end0
         exact ⟨rfl, HS7.out.spd⟩
end Go.Proofs.YtlmpiobdgkmmgaaGreatDoor
