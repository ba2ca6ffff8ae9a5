/- Trees laid with marks. -/
import Derived.Test.YtlmpiobdgkmmgaaGreatDoorKcF
import Derived.Test.YtlmpiobdgkmmgaaGreatDoorKcE
set_option maxRecDepth 1000000
set_option maxHeartbeats 16000000
namespace Go.Proofs.YtlmpiobdgkmmgaaGreatDoor
open Go.RowKit
structure Spd (F : List Nat) (w w' : World) : Prop where
 os : w'.os = w.os
 tape : w'.tape = w.tape
 output : w'.output = w.output
 size : w.heap.size ≤ w'.heap.size
 same : ∀ k, k < w.heap.size → k ∉ F → w'.heap[k]? = w.heap[k]?
section
variable {F F' : List Nat} {w w' w2 : World}
theorem Spd.refl (F : List Nat) (w : World) : Spd F w w := ⟨rfl, rfl, rfl, Nat.le_refl _, fun _ _ _ => rfl⟩
theorem Spd.trans (h : Spd F w w') (k : Spd F' w' w2) (hs : ∀ b ∈ F', b ∈ F ∨ w.heap.size ≤ b) : Spd F w w2 :=
 ⟨k.os.trans h.os, k.tape.trans h.tape, k.output.trans h.output, Nat.le_trans h.size k.size, fun i hi hn => (k.same i (Nat.lt_of_lt_of_le hi h.size) fun hm => by rcases hs i hm with q | q; exact hn q; omega).trans (h.same i hi hn)⟩
theorem Spd.of (h : Below w.heap.size w w') : Spd F w w' := ⟨h.os, h.tape, h.output, h.size, fun k hk _ => h.block k hk⟩
theorem Spd.ext (h : Spd F w w') (b : Below w'.heap.size w' w2) : Spd F w w2 := h.trans (Spd.of (F := []) b) (by simp)
theorem Spd.below (h : Spd F w w') {B : Nat} (hB : B ≤ w.heap.size) (hF : ∀ b ∈ F, B ≤ b) : Below B w w' := ⟨h.os, h.tape, h.output, h.size, fun k hk => h.same k (Nat.lt_of_lt_of_le hk hB) fun hm => by have := hF k hm; omega⟩
theorem Spd.cells (h : Spd F w w') {N : Nat} (hN : N ∈ F ∨ w.heap.size ≤ N) (off : Nat) (vs : List Value) : Spd F w (w'.setCells N off vs) := by
 have b := setCells_below (Nat.le_refl N) vs off (Below.refl N w')
 exact ⟨b.os.trans h.os, b.tape.trans h.tape, b.output.trans h.output, Nat.le_trans h.size b.size, fun k hk hn => (setCells_other (fun e => by subst e; rcases hN with q | q; exact hn q; omega) vs off w').trans (h.same k hk hn)⟩
theorem Spd.grown (h : Spd F w w') {row : Option Nat} (hg : w'.grownBy w2 row) (hr : ∀ k, row = some k → k ∈ F ∨ w.heap.size ≤ k) : Spd F w w2 := by
 have b := (Below.refl 0 w').grown hg (Nat.zero_le _) (fun _ _ => Nat.zero_le _)
 exact ⟨b.os.trans h.os, b.tape.trans h.tape, b.output.trans h.output, Nat.le_trans h.size b.size, fun k hk hn => (hg.block k (Nat.lt_of_lt_of_le hk h.size) (fun e => by rcases hr k e.symm with q | q; exact hn q; omega)).trans (h.same k hk hn)⟩
end
theorem setCells_sized {W : World} {N off : Nat} {cs : Array Value} {T : TypeId} {fr : Nat × Nat} {vs : List Value} (h : W.heap[N]? = some (.cells cs T fr)) (hl : off + vs.length ≤ cs.size) : ∃ cs', (W.setCells N off vs).heap[N]? = some (.cells cs' T fr) ∧ cs'.size = cs.size :=
 ⟨_, setCells_blk vs off W cs h hl, by simp; omega⟩
section
variable {ops : Array Oper} {Q : Exit → Act → World → Prop} {rest : List Oper} {a : Act} {o : Oper} {s x y : Operand} {w : World} {N off : Nat} {cs : Array Value} {T' : TypeId} {vs : List Value}
theorem wpList_load_rng (hg : o.guard = none) (ho : o.op = Op.load 34 s) (ha : a.eval s = .pointer (some ⟨N, off, none⟩)) (hr : w.rangeAt N off vs) (hl : vs.length = 14) (h : wpList Tryz.prog ops Q rest (a.put o.dst (.agg vs.toArray)) w) : wpList Tryz.prog ops Q (o :: rest) a w :=
 wpList_load_mid hg _ s ho N off ha vs _ hr Tryz.underlying34 rfl (by simpa [hl] using infoExprS) h
theorem wpList_store_mem {T : TypeId} {n : Nat} (hi : (Tryz.prog.info? T).map (·.size) = some n) (hg : o.guard = none) (ho : o.op = Op.store T x y) (hx : a.eval x = .pointer (some ⟨N, off, none⟩)) (hy : a.eval y = .agg vs.toArray) (hb : w.heap[N]? = some (.cells cs T' (0, 0)))
 (hl : off + vs.length ≤ cs.size) (hn : vs.length = n) (h1 : ∀ v ∈ vs, v.oneCell' = true) (h : ∀ W', W' = w.setCells N off vs → wpList Tryz.prog ops Q rest (a.put o.dst undef) W') : wpList Tryz.prog ops Q (o :: rest) a w := by
 refine wpList_store_mid hg T x y ho N off vs.toArray hx hy (fun j hj => ⟨?_, frees_of_block hb _⟩) (by simpa [hn] using hi) (all_oneCell_toArray h1) (by simpa using h _ rfl)
 have : off + j < cs.size := by simp at hj; omega
 rw [cells_of_block hb]; simp [this]
end
theorem kid_range {W : World} {g j : Nat} {cur : Array Value} {T : TypeId} {h : Hd} {v : Value} {pre cs' : List Value} {n : Nat} (hg : W.heap[g]? = some (.cells cur T (0, 0))) (ht : cur.toList.take n = pre ++ (h.vals v ++ cs')) (hp : pre.length = j * 14) : W.rangeAt g (j * 14) (h.vals v) := fun i x hx => by
 have hi : i < 14 := by rcases Nat.lt_or_ge i 14 with q | q; exact q; rw [List.getElem?_eq_none (by rw [Hd.vals_len]; exact q)] at hx; cases hx
 have hl : cur.toList = (pre ++ (h.vals v ++ cs')) ++ cur.toList.drop n := by rw [← ht, List.take_append_drop]
 rw [cells_of_block hg, ← Array.getElem?_toList, hl, List.append_assoc, List.getElem?_append_right (by omega), hp, Nat.add_sub_cancel_left, List.append_assoc, List.getElem?_append_left (by rw [Hd.vals_len]; exact hi)]
 exact hx
def RSp (h : Hd) (ks : Trees) : Prop := ∀ (w : World) (F : List Nat) (ka : Option Addr) (kl kc : Nat), OwnV w ks (.slice ka kl kc) F → F.Nodup → (∀ b ∈ F, b < w.heap.size) → ks.nodes ≤ 100000 →
 Calls Tryz.prog 38 #[.agg #[.int .i64 h.kind, .int .i64 h.op, .int .i64 h.num, .string ⟨h.text.toArray⟩, .int .i64 h.ref.row, .int .i64 h.ref.col, .bool h.ref.pr, .bool h.ref.pc, .int .i64 h.to.row, .int .i64 h.to.col, .bool h.to.pr, .bool h.to.pc, .int .i64 h.fn, .slice ka kl kc]] w fun e w' => e = .returned (.tuple #[]) ∧ Spd F w w'
def Sp1 (nd : Hd) (g kl cap : Nat) (cs : List Value) (F : List Nat) (w wr : World) (i : Value) : Prop :=
 ∃ (j : Nat) (rest : Trees) (pre cs' : List Value) (F2 : List Nat), i = .int .i64 j ∧ Hid (j + rest.len = kl) ∧ Hid (cs = pre ++ cs' ∧ pre.length = j * 14) ∧ Hid (Slot wr (.slice (some ⟨g, 0, none⟩) kl cap) kl cs [g]) ∧ OwnCells wr rest cs' F2 ∧ Hid ((g :: F2).Nodup ∧ ∀ b ∈ F2, b ∈ F ∧ b < w.heap.size) ∧ AllT RSp rest ∧ rest.nodes ≤ 100000 ∧ wr.heap[w.heap.size]? = some (.cells #[.int .i64 nd.kind, .int .i64 nd.op, .int .i64 nd.num, .string ⟨nd.text.toArray⟩, .int .i64 nd.ref.row, .int .i64 nd.ref.col, .bool nd.ref.pr, .bool nd.ref.pc, .int .i64 nd.to.row, .int .i64 nd.to.col, .bool nd.to.pr, .bool nd.to.pc, .int .i64 nd.fn, .slice (some ⟨g, 0, none⟩) kl cap] 34 (0, 0)) ∧ Hid (Spd F w wr)
def Sp2 (nd : Hd) (g kl cap : Nat) (F : List Nat) (w wr : World) (i : Value) : Prop :=
 ∃ (j : Nat) (cur : Array Value), i = .int .i64 j ∧ j ≤ kl ∧ wr.heap[g]? = some (.cells cur 34 (0, 0)) ∧ cur.size = cap * 14 ∧ wr.heap[w.heap.size]? = some (.cells #[.int .i64 nd.kind, .int .i64 nd.op, .int .i64 nd.num, .string ⟨nd.text.toArray⟩, .int .i64 nd.ref.row, .int .i64 nd.ref.col, .bool nd.ref.pr, .bool nd.ref.pc, .int .i64 nd.to.row, .int .i64 nd.to.col, .bool nd.to.pr, .bool nd.to.pc, .int .i64 nd.fn, .slice (some ⟨g, 0, none⟩) kl cap] 34 (0, 0)) ∧ Hid (Spd F w wr)
def Sp3 (kl : Nat) (F : List Nat) (w wr : World) (l : Value) : Prop :=
 ∃ (la : Option Addr) (m lc : Nat) (cs : List Value), l = .slice la m lc ∧ kl ≤ m ∧ m ≤ kl + 5000 ∧ Hid (wr.ownsRow 0 34 14 (.slice la m lc) m cs) ∧ Hid (∀ b, (Value.slice la m lc).ownBlock = some b → b ∈ F ∨ w.heap.size ≤ b) ∧ Hid (Spd F w wr)
def lenOf (l : Value) : Nat := match l with | .slice _ m _ => m | _ => 0
theorem spoil_nil (nd : Hd) (w : World) : Calls Tryz.prog 38 #[.agg #[.int .i64 nd.kind, .int .i64 nd.op, .int .i64 nd.num, .string ⟨nd.text.toArray⟩, .int .i64 nd.ref.row, .int .i64 nd.ref.col, .bool nd.ref.pr, .bool nd.ref.pc, .int .i64 nd.to.row, .int .i64 nd.to.col, .bool nd.to.pr, .bool nd.to.pc, .int .i64 nd.fn, .slice none 0 0]] w fun e w' => e = .returned (.tuple #[]) ∧ Spd [] w w' := by
 have B0 := Lib.hid (ext_alloc (Below.refl _ w) (.cells #[.int .i64 nd.kind, .int .i64 nd.op, .int .i64 nd.num, .string ⟨nd.text.toArray⟩, .int .i64 nd.ref.row, .int .i64 nd.ref.col, .bool nd.ref.pr, .bool nd.ref.pc, .int .i64 nd.to.row, .int .i64 nd.to.col, .bool nd.to.pr, .bool nd.to.pc, .int .i64 nd.fn, .slice none 0 0] 34))
 go_enter Tryz.func38, Tryz.ntmps38
 go_wp2_with fail
 go_loop [2] (fun i => i = .int .i64 0) (fun _ => 0)
 case atStart => rfl
 case round =>
  obtain rfl := hrel
  go_wp2_with fail
  go_loop [3] (fun i => i = .int .i64 0) (fun _ => 0)
  case atStart => rfl
  case round =>
   obtain rfl := hrel
   go_wp2_with fail
   go_loop [4] (fun l => l = .slice none 0 0) (fun _ => 0)
   case atStart => rfl
   case round =>
    obtain rfl := hrel
    go_wp2
    go_end0
    exact ⟨rfl, Spd.of B0.out⟩
theorem spoil_some (nd : Hd) (ks : Trees) (ih : AllT RSp ks) (w : World) (g kl cap : Nat) (cs : List Value) (F' : List Nat) (hkl : kl = ks.len) (s : Slot w (.slice (some ⟨g, 0, none⟩) kl cap) kl cs [g]) (oc : OwnCells w ks cs F') (nd' : (g :: F').Nodup) (hF : ∀ b ∈ g :: F', b < w.heap.size) (hn : ks.nodes ≤ 100000) :
 Calls Tryz.prog 38 #[.agg #[.int .i64 nd.kind, .int .i64 nd.op, .int .i64 nd.num, .string ⟨nd.text.toArray⟩, .int .i64 nd.ref.row, .int .i64 nd.ref.col, .bool nd.ref.pr, .bool nd.ref.pc, .int .i64 nd.to.row, .int .i64 nd.to.col, .bool nd.to.pr, .bool nd.to.pc, .int .i64 nd.fn, .slice (some ⟨g, 0, none⟩) kl cap]] w fun e w' => e = .returned (.tuple #[]) ∧ Spd (g :: F') w w' := by
 obtain ⟨i0, hi, hz0, hz1, hz2⟩ := info_parts infoExpr
 have hk5 : kl ≤ 100000 := by rw [hkl]; exact Nat.le_trans (len_le_nodes ks) hn
 obtain ⟨hcl, hcm⟩ : kl ≤ cap ∧ cap ≤ 9223372036854775807 := by
  rcases s.2 with ⟨e, -⟩ | ⟨g', cap', cur, e, -, h1, h2, -⟩
  ·simp at e
  ·simp only [Value.slice.injEq] at e
   have : maxLen = 9223372036854775807 := rfl
   omega
 have b0 := ext_alloc (Below.refl _ w) (.cells #[.int .i64 nd.kind, .int .i64 nd.op, .int .i64 nd.num, .string ⟨nd.text.toArray⟩, .int .i64 nd.ref.row, .int .i64 nd.ref.col, .bool nd.ref.pr, .bool nd.ref.pc, .int .i64 nd.to.row, .int .i64 nd.to.col, .bool nd.to.pr, .bool nd.to.pc, .int .i64 nd.fn, .slice (some ⟨g, 0, none⟩) kl cap] 34)
 have hgw : g < w.heap.size := hF g (by simp)
 have S0 := Lib.hid (s.kept (w' := w.alloc (.cells #[.int .i64 nd.kind, .int .i64 nd.op, .int .i64 nd.num, .string ⟨nd.text.toArray⟩, .int .i64 nd.ref.row, .int .i64 nd.ref.col, .bool nd.ref.pr, .bool nd.ref.pc, .int .i64 nd.to.row, .int .i64 nd.to.col, .bool nd.to.pr, .bool nd.to.pc, .int .i64 nd.fn, .slice (some ⟨g, 0, none⟩) kl cap] 34)) fun b hb => Below.heap_alloc _ _ _ (by simp at hb; omega))
 have O0 := Lib.hid (oc.kept (w' := w.alloc (.cells #[.int .i64 nd.kind, .int .i64 nd.op, .int .i64 nd.num, .string ⟨nd.text.toArray⟩, .int .i64 nd.ref.row, .int .i64 nd.ref.col, .bool nd.ref.pr, .bool nd.ref.pc, .int .i64 nd.to.row, .int .i64 nd.to.col, .bool nd.to.pr, .bool nd.to.pc, .int .i64 nd.fn, .slice (some ⟨g, 0, none⟩) kl cap] 34)) fun b hb => Below.heap_alloc _ _ _ (hF b (by simp [hb])))
 have ND' := Lib.hid nd'; have HF := Lib.hid hF; have HI := Lib.hid ih; have HN := Lib.hid hn; have HKL := Lib.hid hkl
 have B0 := Lib.hid b0
 have H0 := Lib.hid (heap_alloc_new w (.cells #[.int .i64 nd.kind, .int .i64 nd.op, .int .i64 nd.num, .string ⟨nd.text.toArray⟩, .int .i64 nd.ref.row, .int .i64 nd.ref.col, .bool nd.ref.pr, .bool nd.ref.pc, .int .i64 nd.to.row, .int .i64 nd.to.col, .bool nd.to.pr, .bool nd.to.pc, .int .i64 nd.fn, .slice (some ⟨g, 0, none⟩) kl cap] 34))
 clear s oc nd' hF ih hn hkl b0
 rcases Nat.lt_or_ge (kl + 5000) cap with hc | hc
 ·have hci : (kl : Int) + 5000 < (cap : Int) ∨ (cap : Int) ≤ (kl : Int) + 5000 := by omega
  go_enter Tryz.func38, Tryz.ntmps38
  go_wp2_with fail
  go_loopw [2] (fun i wr => Sp1 nd g kl cap cs (g :: F') w wr i) (fun i _ => kl - (intOf i).toNat)
  case atStart => exact ⟨0, ks, [], cs, F', rfl, Lib.hid (by rw [HKL.out]; omega), Lib.hid ⟨rfl, rfl⟩, S0, O0.out, Lib.hid ⟨ND'.out, fun b hb => ⟨by simp [hb], HF.out b (by simp [hb])⟩⟩, HI.out, HN.out, H0.out, Lib.hid (Spd.of B0.out)⟩
  case round =>
   obtain ⟨j, rest, pre, cs', F2, rfl, HJ, HCS, HSL, ho, HND, hall, hno, hbx, HSP⟩ := hrel
   have c0 := cells_of_block hbx
   have HBX := Lib.hid hbx
   have hlen := HJ.out
   by_cases hlt : j < kl
   ·obtain ⟨h', k', r', rfl⟩ := trees_cons (rest := rest) (by omega)
    obtain ⟨v, cs2, cs1, G1, F1, F3, ecs, okh, sk, o1, o2, eF⟩ := ho
    obtain ⟨xa, xc, rfl⟩ : ∃ a c, v = .slice a k'.len c := sk.slice
    have hj0 : (0 : Int) ≤ (j : Int) := by omega
    have hji : (j : Int) < (kl : Int) := by omega
    obtain ⟨cur, hcur, htk⟩ : ∃ cur, wr.heap[g]? = some (.cells cur 34 (0, 0)) ∧ cur.toList.take (kl * 14) = cs := by
     rcases HSL.out.2 with ⟨e, -⟩ | ⟨g', cap', cur, e, h0, -, -, -, h4, h5⟩
     ·simp at e
     ·simp only [Value.slice.injEq, Option.some.injEq, Addr.mk.injEq] at e
      obtain ⟨⟨rfl, -⟩, -, -⟩ := e
      exact ⟨cur, h0, h4⟩
    have RG := Lib.hid (kid_range hcur (by rw [htk, HCS.out.1, ecs]) HCS.out.2)
    have hno1 : k'.nodes ≤ 100000 := by simp only [Trees.nodes] at hno; omega
    have hno2 : r'.nodes ≤ 100000 := by simp only [Trees.nodes] at hno; omega
    have hnd := HND.out
    rw [eF] at hnd
    have hnk : (G1 ++ F1).Nodup := (List.nodup_append.1 (List.nodup_cons.1 hnd.1).2).1
    have hsz := HSP.out.size
    have hltk : ∀ b ∈ G1 ++ F1, b < wr.heap.size := fun b hb => by have := (hnd.2 b (by simp only [List.mem_append] at hb ⊢; exact .inl hb)).2; omega
    have CA := Lib.hid (hall.1 wr (G1 ++ F1) xa k'.len xc ⟨cs1, G1, F1, sk, o1, rfl⟩ hnk hltk hno1)
    have HAll := Lib.hid hall.2
    have hgk : g ∉ G1 ++ F1 := fun hm => (List.nodup_cons.1 hnd.1).1 (by simp only [List.mem_append] at hm ⊢; exact .inl hm)
    have hdis : ∀ b ∈ F3, b ∉ G1 ++ F1 := fun b hb hm => (List.nodup_append.1 (List.nodup_cons.1 hnd.1).2).2.2 b hm b hb rfl
    have hF3 : ∀ b ∈ F3, b ∈ g :: F' ∧ b < w.heap.size := fun b hb => hnd.2 b (by simp [hb])
    have hFk : ∀ b ∈ G1 ++ F1, b ∈ g :: F' ∧ b < w.heap.size := fun b hb => hnd.2 b (by simp only [List.mem_append] at hb ⊢; exact .inl hb)
    have hn3 : (g :: F3).Nodup := List.nodup_cons.2 ⟨fun hm => (List.nodup_cons.1 hnd.1).1 (by simp [hm]), (List.nodup_append.1 (List.nodup_cons.1 hnd.1).2).2.1⟩
    have D := Lib.hid (And.intro hgk (And.intro hdis (And.intro hF3 (And.intro hFk hn3))))
    have O2 := Lib.hid o2; have ECS := Lib.hid ecs
    clear hnd hnk hltk hgk hdis hF3 hFk hn3 o1 o2 ecs eF sk hall hlen hno hcur htk hbx HND
    go_wp2_with (refine wpList_load_rng (N := g) (off := j * 14) (vs := [.int .i64 h'.kind, .int .i64 h'.op, .int .i64 h'.num, .string ⟨h'.text.toArray⟩, .int .i64 h'.ref.row, .int .i64 h'.ref.col, .bool h'.ref.pr, .bool h'.ref.pc, .int .i64 h'.to.row, .int .i64 h'.to.col, .bool h'.to.pr, .bool h'.to.pc, .int .i64 h'.fn, .slice xa k'.len xc]) rfl rfl rfl RG.out rfl ?_)
    refine CA.out.mono ?_
    rintro e w2 ⟨rfl, sp⟩
    obtain ⟨hgk, hdis, hF3, hFk, hn3⟩ := D.out
    have hg2 : w2.heap[g]? = wr.heap[g]? := sp.same g (by omega) hgk
    have SL2 := Lib.hid (HSL.out.kept (w' := w2) fun b hb => by simp at hb; subst hb; exact hg2)
    have O3 := Lib.hid (O2.out.kept (w' := w2) fun b hb => sp.same b (by have := (hF3 b hb).2; omega) (hdis b hb))
    have BX2 := Lib.hid ((sp.same w.heap.size (lt_of_block HBX.out) (fun hm => by have := (hFk _ hm).2; omega)).trans HBX.out)
    have SP2 := Lib.hid (HSP.out.trans sp fun b hb => .inl (hFk b hb).1)
    have HND2 := Lib.hid (And.intro hn3 hF3)
    have HJ2 := Lib.hid (show (j + 1) + r'.len = kl by have := HJ.out; simp only [Trees.len] at this; omega)
    have HCS2 := Lib.hid (show cs = (pre ++ h'.vals (.slice xa k'.len xc)) ++ cs2 ∧ (pre ++ h'.vals (.slice xa k'.len xc)).length = (j + 1) * 14 from ⟨by rw [HCS.out.1, ECS.out, List.append_assoc], by rw [List.length_append, HCS.out.2, Hd.vals_len]; omega⟩)
    clear sp hgk hdis hF3 hFk hn3 hg2 c0
    go_wp2
    exact ⟨⟨j + 1, r', _, _, _, by go_num, HJ2, HCS2, SL2, O3.out, HND2, HAll.out, hno2, BX2.out, SP2⟩, by simp [intOf]; omega⟩
   ·have hg2 : ∃ cur, wr.heap[g]? = some (.cells cur 34 (0, 0)) ∧ cur.size = cap * 14 := by
     rcases HSL.out.2 with ⟨e, -⟩ | ⟨g', cap', cur, e, h0, -, -, h3, -⟩
     ·simp at e
     ·simp only [Value.slice.injEq, Option.some.injEq, Addr.mk.injEq] at e
      obtain ⟨⟨rfl, -⟩, -, rfl⟩ := e
      exact ⟨cur, h0, h3⟩
    obtain ⟨cur, h1, h2⟩ := hg2
    have HG1 := Lib.hid h1; have HG2 := Lib.hid h2
    clear h1 h2 ho hall hno hlen hbx HND HSL HCS HJ
    go_wp2_with fail
    clear c0
    go_loopw [3] (fun i wr => Sp2 nd g kl cap (g :: F') w wr i) (fun i _ => kl - (intOf i).toNat)
    case atStart => exact ⟨0, cur, rfl, Nat.zero_le _, HG1.out, HG2.out, HBX.out, HSP⟩
    case round =>
     obtain ⟨j, cur, rfl, hj, hg1, hg2, hbx, HSP⟩ := hrel
     have c0 := cells_of_block hbx
     have HG1 := Lib.hid hg1; have HG2 := Lib.hid hg2; have HBX := Lib.hid hbx
     clear hg1 hg2 hbx
     by_cases hlt : j < kl
     ·have hji : (j : Int) < (kl : Int) := by omega
      have hj0 : (0 : Int) ≤ (j : Int) := by omega
      have hroom : j * 14 + 14 ≤ cur.size := by rw [HG2.out]; omega
      go_wp2_with (refine wpList_store_mem (N := g) (off := j * 14) (vs := [.int .i64 99, .int .i64 0, .int .i64 j, .string ⟨#[115, 112, 111, 105, 108, 116]⟩, .int .i64 0, .int .i64 0, .bool false, .bool false, .int .i64 0, .int .i64 0, .bool false, .bool false, .int .i64 0, .slice none 0 0]) infoExprS rfl rfl rfl rfl HG1.out hroom rfl (by simp [Value.oneCell']) ?_; intro w2 hw2; have EW := Lib.hid hw2; clear hw2)
      obtain ⟨cur2, h1, h2⟩ := setCells_sized (vs := [.int .i64 99, .int .i64 0, .int .i64 j, .string ⟨#[115, 112, 111, 105, 108, 116]⟩, .int .i64 0, .int .i64 0, .bool false, .bool false, .int .i64 0, .int .i64 0, .bool false, .bool false, .int .i64 0, .slice none 0 0]) HG1.out hroom
      rw [← EW.out] at h1
      have BX2 : w2.heap[w.heap.size]? = some (.cells #[.int .i64 nd.kind, .int .i64 nd.op, .int .i64 nd.num, .string ⟨nd.text.toArray⟩, .int .i64 nd.ref.row, .int .i64 nd.ref.col, .bool nd.ref.pr, .bool nd.ref.pc, .int .i64 nd.to.row, .int .i64 nd.to.col, .bool nd.to.pr, .bool nd.to.pc, .int .i64 nd.fn, .slice (some ⟨g, 0, none⟩) kl cap] 34 (0, 0)) := by rw [EW.out]; exact (setCells_other (by omega) _ _ _).trans HBX.out
      have SP2 : Spd (g :: F') w w2 := by rw [EW.out]; exact HSP.out.cells (.inl (by simp)) _ _
      exact ⟨⟨j + 1, cur2, by go_num, by omega, h1, by rw [h2, HG2.out], BX2, Lib.hid SP2⟩, by simp [intOf]; omega⟩
     ·go_wp2_with fail
      clear c0
      go_loopw [4] (fun l wr => Sp3 kl (g :: F') w wr l) (fun l _ => kl + 5000 - lenOf l)
      case atStart =>
       refine ⟨some ⟨g, 0, none⟩, kl, cap, cur.toList.take (kl * 14), rfl, Nat.le_refl _, by omega, Lib.hid ⟨by rw [List.length_take, Array.length_toList, HG2.out]; omega, .inr ⟨g, cap, cur, rfl, Nat.zero_le _, HG1.out, hcl, ?_, HG2.out, rfl⟩⟩, Lib.hid (fun b hb => ?_), HSP⟩
       ·have : maxLen = 9223372036854775807 := rfl
        omega
       ·simp [Value.ownBlock] at hb; exact .inl (by simp [hb])
      case round =>
       obtain ⟨la, m, lc, cs3, rfl, hm1, hm2, HOW, HOB, HSP3⟩ := hrel
       have hmx : (m : Int) ≤ 105000 := by omega
       by_cases hmc : (m : Int) < ((kl : Int) + 5000)
       ·go_wp2_with (at_builtin; refine wpList_append_own_at _ rfl _ _ 22 rfl 0 34 i0 _ 14 120 Tryz.underlying22 hi hz0 hz1 hz2 rfl (by decide) (.slice la m lc) m cs3 rfl (HOW.out.alloc _) ⟨wr.heap.size, 0, none⟩ 1 1 [.int .i64 98, .int .i64 0, .int .i64 0, .string ⟨#[103, 114, 111, 119, 110]⟩, .int .i64 0, .int .i64 0, .bool false, .bool false, .int .i64 0, .int .i64 0, .bool false, .bool false, .int .i64 0, .slice none 0 0] rfl rfl (World.news_of_block (heap_alloc_new wr _)) (by simp [Value.oneCell']) (by unfold maxLen; omega) (by omega) (Nat.zero_le _) ?_)
        intro v' w4 hown4 hgrow _ hloc
        obtain ⟨la', lc', rfl⟩ : ∃ a c, v' = .slice a (m + 1) c := (slot_of hown4).slice
        have h4 : Spd (g :: F') w (wr.alloc (.cells #[.int .i64 98, .int .i64 0, .int .i64 0, .string ⟨#[103, 114, 111, 119, 110]⟩, .int .i64 0, .int .i64 0, .bool false, .bool false, .int .i64 0, .int .i64 0, .bool false, .bool false, .int .i64 0, .slice none 0 0] 34)) := HSP3.out.ext ((Below.refl _ wr).alloc (Nat.le_refl _) _)
        have SP4 := Lib.hid (h4.grown hgrow HOB.out)
        have hob : ∀ b, (Value.slice la' (m + 1) lc').ownBlock = some b → b ∈ g :: F' ∨ w.heap.size ≤ b := fun b hb => by
         rcases hloc with q | q
         ·exact HOB.out b (q.symm.trans hb)
         ·rw [q] at hb; injection hb with hb; have := HSP3.out.size; exact .inr (by omega)
        have HOB4 := Lib.hid hob; have HOW4 := Lib.hid hown4
        clear hown4 hgrow hloc h4 hob
        go_wp2
        exact ⟨⟨la', m + 1, lc', _, rfl, by omega, by omega, HOW4, HOB4, SP4⟩, by simp [lenOf]; omega⟩
       ·go_wp2
        go_end0
        exact ⟨rfl, HSP3.out⟩
 ·have hci : (kl : Int) + 5000 < (cap : Int) ∨ (cap : Int) ≤ (kl : Int) + 5000 := by omega
  go_enter Tryz.func38, Tryz.ntmps38
  go_wp2_with fail
  go_loopw [2] (fun i wr => Sp1 nd g kl cap cs (g :: F') w wr i) (fun i _ => kl - (intOf i).toNat)
  case atStart => exact ⟨0, ks, [], cs, F', rfl, Lib.hid (by rw [HKL.out]; omega), Lib.hid ⟨rfl, rfl⟩, S0, O0.out, Lib.hid ⟨ND'.out, fun b hb => ⟨by simp [hb], HF.out b (by simp [hb])⟩⟩, HI.out, HN.out, H0.out, Lib.hid (Spd.of B0.out)⟩
  case round =>
   obtain ⟨j, rest, pre, cs', F2, rfl, HJ, HCS, HSL, ho, HND, hall, hno, hbx, HSP⟩ := hrel
   have c0 := cells_of_block hbx
   have HBX := Lib.hid hbx
   have hlen := HJ.out
   by_cases hlt : j < kl
   ·obtain ⟨h', k', r', rfl⟩ := trees_cons (rest := rest) (by omega)
    obtain ⟨v, cs2, cs1, G1, F1, F3, ecs, okh, sk, o1, o2, eF⟩ := ho
    obtain ⟨xa, xc, rfl⟩ : ∃ a c, v = .slice a k'.len c := sk.slice
    have hj0 : (0 : Int) ≤ (j : Int) := by omega
    have hji : (j : Int) < (kl : Int) := by omega
    obtain ⟨cur, hcur, htk⟩ : ∃ cur, wr.heap[g]? = some (.cells cur 34 (0, 0)) ∧ cur.toList.take (kl * 14) = cs := by
     rcases HSL.out.2 with ⟨e, -⟩ | ⟨g', cap', cur, e, h0, -, -, -, h4, h5⟩
     ·simp at e
     ·simp only [Value.slice.injEq, Option.some.injEq, Addr.mk.injEq] at e
      obtain ⟨⟨rfl, -⟩, -, -⟩ := e
      exact ⟨cur, h0, h4⟩
    have RG := Lib.hid (kid_range hcur (by rw [htk, HCS.out.1, ecs]) HCS.out.2)
    have hno1 : k'.nodes ≤ 100000 := by simp only [Trees.nodes] at hno; omega
    have hno2 : r'.nodes ≤ 100000 := by simp only [Trees.nodes] at hno; omega
    have hnd := HND.out
    rw [eF] at hnd
    have hnk : (G1 ++ F1).Nodup := (List.nodup_append.1 (List.nodup_cons.1 hnd.1).2).1
    have hsz := HSP.out.size
    have hltk : ∀ b ∈ G1 ++ F1, b < wr.heap.size := fun b hb => by have := (hnd.2 b (by simp only [List.mem_append] at hb ⊢; exact .inl hb)).2; omega
    have CA := Lib.hid (hall.1 wr (G1 ++ F1) xa k'.len xc ⟨cs1, G1, F1, sk, o1, rfl⟩ hnk hltk hno1)
    have HAll := Lib.hid hall.2
    have hgk : g ∉ G1 ++ F1 := fun hm => (List.nodup_cons.1 hnd.1).1 (by simp only [List.mem_append] at hm ⊢; exact .inl hm)
    have hdis : ∀ b ∈ F3, b ∉ G1 ++ F1 := fun b hb hm => (List.nodup_append.1 (List.nodup_cons.1 hnd.1).2).2.2 b hm b hb rfl
    have hF3 : ∀ b ∈ F3, b ∈ g :: F' ∧ b < w.heap.size := fun b hb => hnd.2 b (by simp [hb])
    have hFk : ∀ b ∈ G1 ++ F1, b ∈ g :: F' ∧ b < w.heap.size := fun b hb => hnd.2 b (by simp only [List.mem_append] at hb ⊢; exact .inl hb)
    have hn3 : (g :: F3).Nodup := List.nodup_cons.2 ⟨fun hm => (List.nodup_cons.1 hnd.1).1 (by simp [hm]), (List.nodup_append.1 (List.nodup_cons.1 hnd.1).2).2.1⟩
    have D := Lib.hid (And.intro hgk (And.intro hdis (And.intro hF3 (And.intro hFk hn3))))
    have O2 := Lib.hid o2; have ECS := Lib.hid ecs
    clear hnd hnk hltk hgk hdis hF3 hFk hn3 o1 o2 ecs eF sk hall hlen hno hcur htk hbx HND
    go_wp2_with (refine wpList_load_rng (N := g) (off := j * 14) (vs := [.int .i64 h'.kind, .int .i64 h'.op, .int .i64 h'.num, .string ⟨h'.text.toArray⟩, .int .i64 h'.ref.row, .int .i64 h'.ref.col, .bool h'.ref.pr, .bool h'.ref.pc, .int .i64 h'.to.row, .int .i64 h'.to.col, .bool h'.to.pr, .bool h'.to.pc, .int .i64 h'.fn, .slice xa k'.len xc]) rfl rfl rfl RG.out rfl ?_)
    refine CA.out.mono ?_
    rintro e w2 ⟨rfl, sp⟩
    obtain ⟨hgk, hdis, hF3, hFk, hn3⟩ := D.out
    have hg2 : w2.heap[g]? = wr.heap[g]? := sp.same g (by omega) hgk
    have SL2 := Lib.hid (HSL.out.kept (w' := w2) fun b hb => by simp at hb; subst hb; exact hg2)
    have O3 := Lib.hid (O2.out.kept (w' := w2) fun b hb => sp.same b (by have := (hF3 b hb).2; omega) (hdis b hb))
    have BX2 := Lib.hid ((sp.same w.heap.size (lt_of_block HBX.out) (fun hm => by have := (hFk _ hm).2; omega)).trans HBX.out)
    have SP2 := Lib.hid (HSP.out.trans sp fun b hb => .inl (hFk b hb).1)
    have HND2 := Lib.hid (And.intro hn3 hF3)
    have HJ2 := Lib.hid (show (j + 1) + r'.len = kl by have := HJ.out; simp only [Trees.len] at this; omega)
    have HCS2 := Lib.hid (show cs = (pre ++ h'.vals (.slice xa k'.len xc)) ++ cs2 ∧ (pre ++ h'.vals (.slice xa k'.len xc)).length = (j + 1) * 14 from ⟨by rw [HCS.out.1, ECS.out, List.append_assoc], by rw [List.length_append, HCS.out.2, Hd.vals_len]; omega⟩)
    clear sp hgk hdis hF3 hFk hn3 hg2 c0
    go_wp2
    exact ⟨⟨j + 1, r', _, _, _, by go_num, HJ2, HCS2, SL2, O3.out, HND2, HAll.out, hno2, BX2.out, SP2⟩, by simp [intOf]; omega⟩
   ·have hg2 : ∃ cur, wr.heap[g]? = some (.cells cur 34 (0, 0)) ∧ cur.size = cap * 14 := by
     rcases HSL.out.2 with ⟨e, -⟩ | ⟨g', cap', cur, e, h0, -, -, h3, -⟩
     ·simp at e
     ·simp only [Value.slice.injEq, Option.some.injEq, Addr.mk.injEq] at e
      obtain ⟨⟨rfl, -⟩, -, rfl⟩ := e
      exact ⟨cur, h0, h3⟩
    obtain ⟨cur, h1, h2⟩ := hg2
    have HG1 := Lib.hid h1; have HG2 := Lib.hid h2
    clear h1 h2 ho hall hno hlen hbx HND HSL HCS HJ
    go_wp2_with fail
    clear c0
    go_loopw [3] (fun i wr => Sp2 nd g kl cap (g :: F') w wr i) (fun i _ => kl - (intOf i).toNat)
    case atStart => exact ⟨0, cur, rfl, Nat.zero_le _, HG1.out, HG2.out, HBX.out, HSP⟩
    case round =>
     obtain ⟨j, cur, rfl, hj, hg1, hg2, hbx, HSP⟩ := hrel
     have c0 := cells_of_block hbx
     have HG1 := Lib.hid hg1; have HG2 := Lib.hid hg2; have HBX := Lib.hid hbx
     clear hg1 hg2 hbx
     by_cases hlt : j < kl
     ·have hji : (j : Int) < (kl : Int) := by omega
      have hj0 : (0 : Int) ≤ (j : Int) := by omega
      have hroom : j * 14 + 14 ≤ cur.size := by rw [HG2.out]; omega
      go_wp2_with (refine wpList_store_mem (N := g) (off := j * 14) (vs := [.int .i64 99, .int .i64 0, .int .i64 j, .string ⟨#[115, 112, 111, 105, 108, 116]⟩, .int .i64 0, .int .i64 0, .bool false, .bool false, .int .i64 0, .int .i64 0, .bool false, .bool false, .int .i64 0, .slice none 0 0]) infoExprS rfl rfl rfl rfl HG1.out hroom rfl (by simp [Value.oneCell']) ?_; intro w2 hw2; have EW := Lib.hid hw2; clear hw2)
      obtain ⟨cur2, h1, h2⟩ := setCells_sized (vs := [.int .i64 99, .int .i64 0, .int .i64 j, .string ⟨#[115, 112, 111, 105, 108, 116]⟩, .int .i64 0, .int .i64 0, .bool false, .bool false, .int .i64 0, .int .i64 0, .bool false, .bool false, .int .i64 0, .slice none 0 0]) HG1.out hroom
      rw [← EW.out] at h1
      have BX2 : w2.heap[w.heap.size]? = some (.cells #[.int .i64 nd.kind, .int .i64 nd.op, .int .i64 nd.num, .string ⟨nd.text.toArray⟩, .int .i64 nd.ref.row, .int .i64 nd.ref.col, .bool nd.ref.pr, .bool nd.ref.pc, .int .i64 nd.to.row, .int .i64 nd.to.col, .bool nd.to.pr, .bool nd.to.pc, .int .i64 nd.fn, .slice (some ⟨g, 0, none⟩) kl cap] 34 (0, 0)) := by rw [EW.out]; exact (setCells_other (by omega) _ _ _).trans HBX.out
      have SP2 : Spd (g :: F') w w2 := by rw [EW.out]; exact HSP.out.cells (.inl (by simp)) _ _
      exact ⟨⟨j + 1, cur2, by go_num, by omega, h1, by rw [h2, HG2.out], BX2, Lib.hid SP2⟩, by simp [intOf]; omega⟩
     ·go_wp2_with fail
      clear c0
      go_loopw [4] (fun l wr => Sp3 kl (g :: F') w wr l) (fun l _ => kl + 5000 - lenOf l)
      case atStart =>
       refine ⟨some ⟨g, 0, none⟩, kl, cap, cur.toList.take (kl * 14), rfl, Nat.le_refl _, by omega, Lib.hid ⟨by rw [List.length_take, Array.length_toList, HG2.out]; omega, .inr ⟨g, cap, cur, rfl, Nat.zero_le _, HG1.out, hcl, ?_, HG2.out, rfl⟩⟩, Lib.hid (fun b hb => ?_), HSP⟩
       ·have : maxLen = 9223372036854775807 := rfl
        omega
       ·simp [Value.ownBlock] at hb; exact .inl (by simp [hb])
      case round =>
       obtain ⟨la, m, lc, cs3, rfl, hm1, hm2, HOW, HOB, HSP3⟩ := hrel
       have hmx : (m : Int) ≤ 105000 := by omega
       by_cases hmc : (m : Int) < (cap : Int)
       ·go_wp2_with (at_builtin; refine wpList_append_own_at _ rfl _ _ 22 rfl 0 34 i0 _ 14 120 Tryz.underlying22 hi hz0 hz1 hz2 rfl (by decide) (.slice la m lc) m cs3 rfl (HOW.out.alloc _) ⟨wr.heap.size, 0, none⟩ 1 1 [.int .i64 98, .int .i64 0, .int .i64 0, .string ⟨#[103, 114, 111, 119, 110]⟩, .int .i64 0, .int .i64 0, .bool false, .bool false, .int .i64 0, .int .i64 0, .bool false, .bool false, .int .i64 0, .slice none 0 0] rfl rfl (World.news_of_block (heap_alloc_new wr _)) (by simp [Value.oneCell']) (by unfold maxLen; omega) (by omega) (Nat.zero_le _) ?_)
        intro v' w4 hown4 hgrow _ hloc
        obtain ⟨la', lc', rfl⟩ : ∃ a c, v' = .slice a (m + 1) c := (slot_of hown4).slice
        have h4 : Spd (g :: F') w (wr.alloc (.cells #[.int .i64 98, .int .i64 0, .int .i64 0, .string ⟨#[103, 114, 111, 119, 110]⟩, .int .i64 0, .int .i64 0, .bool false, .bool false, .int .i64 0, .int .i64 0, .bool false, .bool false, .int .i64 0, .slice none 0 0] 34)) := HSP3.out.ext ((Below.refl _ wr).alloc (Nat.le_refl _) _)
        have SP4 := Lib.hid (h4.grown hgrow HOB.out)
        have hob : ∀ b, (Value.slice la' (m + 1) lc').ownBlock = some b → b ∈ g :: F' ∨ w.heap.size ≤ b := fun b hb => by
         rcases hloc with q | q
         ·exact HOB.out b (q.symm.trans hb)
         ·rw [q] at hb; injection hb with hb; have := HSP3.out.size; exact .inr (by omega)
        have HOB4 := Lib.hid hob; have HOW4 := Lib.hid hown4
        clear hown4 hgrow hloc h4 hob
        go_wp2
        exact ⟨⟨la', m + 1, lc', _, rfl, by omega, by omega, HOW4, HOB4, SP4⟩, by simp [lenOf]; omega⟩
       ·go_wp2
        go_end0
        exact ⟨rfl, HSP3.out⟩
theorem spoil_step (nd : Hd) (ks : Trees) (ih : AllT RSp ks) : RSp nd ks := by
 intro w F ka kl kc ho hn hF hk
 obtain ⟨cs, G, F', s, oc, rfl⟩ := ho
 rcases s.2 with ⟨e, h0, e3⟩ | ⟨g, cap, cur, e, h0, h1, h2, h3, h4, h5⟩
 ·simp only [Value.slice.injEq] at e
  obtain ⟨rfl, rfl, rfl⟩ := e
  obtain rfl := trees_nil h0
  obtain ⟨rfl, rfl⟩ := oc
  subst e3
  exact spoil_nil nd w
 ·simp only [Value.slice.injEq] at e
  obtain ⟨rfl, rfl, rfl⟩ := e
  subst h5
  exact spoil_some nd ks ih w g ks.len kc cs F' rfl s oc hn hF hk
theorem spoil_any (h : Hd) (ks : Trees) : RSp h ks := spoil_step h ks (allT spoil_step ks)
end Go.Proofs.YtlmpiobdgkmmgaaGreatDoor
