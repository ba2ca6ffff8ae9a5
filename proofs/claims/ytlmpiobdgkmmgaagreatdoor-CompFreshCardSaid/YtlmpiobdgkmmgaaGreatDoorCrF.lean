/- CompFresh: every list of an answer is new memory: the walk. -/
import Derived.Test.YtlmpiobdgkmmgaaGreatDoorKcS
import Derived.Test.YtlmpiobdgkmmgaaGreatDoorCrE
import Derived.Test.YtlmpiobdgkmmgaaGreatDoorCrO
set_option maxRecDepth 1000000
set_option maxHeartbeats 16000000
namespace Go.Proofs.YtlmpiobdgkmmgaaGreatDoor
open Go.RowKit Go.Lib
theorem box_rng {w : World} {N : Nat} {cs : Array Value} {T : TypeId} (h : w.heap[N]? = some (.cells cs T (0, 0))) : w.rangeAt N 0 cs.toList := fun j v hv => by rw [cells_of_block h, ← hv]; simp
theorem OwnV.tv {w : World} {h : Hd} {ks : Trees} {a : Option Addr} {l c : Nat} {F : List Nat} (o : OwnV w ks (.slice a l c) F) (hF : ∀ b ∈ F, b < w.heap.size) (ok : h.ok) : TreeV w w.heap.size h ks a l := by
 obtain ⟨ka', kc', e', t'⟩ := o.tree (Nat.le_refl _) hF ok
 simp only [Value.slice.injEq] at e'
 obtain ⟨rfl, rfl, rfl⟩ := e'
 exact t'
theorem blk_below8 {w w' : World} {X : Nat} {o : Obj} (b : Below w.heap.size w w') (h : w.heap[X]? = some o) : w'.heap[X]? = some o := (b.block X (lt_of_block h)).trans h
theorem same_self (h : Hd) (k : Trees) : sameB h h k k = true := by simp [sameB]
theorem mayE_fine7 {h : Hd} {k : Trees} (m : mayE h k = 0) : k.nodes ≤ 100000 := by have := may_nodes m; omega
theorem codeN_A {b N b' : Nat} {W : World} {vI vC : Value} {h : Hd} {ks : Trees} (m : mayE h ks = 0) (c : CodeN b N W vI vC (codeT h ks).1 (codeT h ks).2) (hb : N ≤ b') : CodeA W b' vI vC (codeT h ks).1 (codeT h ks).2 := by
 obtain ⟨h1, h2, h3, h4⟩ := codeT_size h ks
 have := may_nodes m
 refine c.toA hb (fun p hp => ?_) (by omega) (by omega) (by omega)
 have q := h3 p hp
 show (Lit.int .i64 p.op).wf = true
 simp only [Lit.wf, IntKind.min, IntKind.max, IntKind.signed, IntKind.bits, Bool.and_eq_true, decide_eq_true_eq, if_true]
 omega
def NE (f : CF) : Prop := ∀ n cs, 0 < (f n cs).1.length
theorem ne_seq {f g : CF} (h : NE g) : NE (seqF f g) := fun n cs => by
 unfold seqF
 simp only [List.length_append]
 have := h (n + (f n cs).1.length) (f n cs).2
 omega
theorem ne_seq1 {f g : CF} (h : NE f) : NE (seqF f g) := fun n cs => by
 unfold seqF
 simp only [List.length_append]
 have := h n cs
 omega
theorem ne_ins (x : PI) : NE (insF x) := fun _ _ => Nat.one_pos
theorem ne_con (v : PV) : NE (conF v) := fun _ _ => Nat.one_pos
theorem ne_head {F : Int → CF} {x : Int → PI} : NE (headF F x) := fun n cs => ne_seq1 (ne_ins _) n cs
theorem ne_end {F : Int → CF} {x : PI} : NE (endF F x) := fun n cs => ne_seq (ne_ins _) n cs
theorem ne_rc (r : Rc) : NE (rcF r) := by
 unfold rcF
 split
 ·exact ne_ins _
 ·exact ne_con _
theorem ne_area (h : Hd) (l : List KC) : NE (areaF h l) := by
 unfold areaF
 split
 ·exact ne_rc _
 split
 ·exact ne_rc _
 split
 ·exact ne_con _
 split
 ·exact ne_con _
 split
 ·exact ne_seq (ne_ins _)
 ·exact ne_seq fun n cs => ne_seq (ne_ins _) n cs
theorem ne_if (l : List KC) : NE (ifF l) := fun _ _ => Nat.succ_pos _
theorem ne_lazy (h : Hd) (l : List KC) : NE (lazyF h l) := by
 unfold lazyF
 split
 ·exact ne_seq (ne_if l)
 split
 ·exact ne_seq ne_head
 split
 ·exact ne_seq fun n cs => ne_head n cs
 ·exact ne_seq ne_head
theorem ne_val (h : Hd) (l : List KC) : NE (valF h l) := by
 unfold valF
 split
 ·exact ne_con _
 split
 ·exact ne_con _
 split
 ·exact ne_con _
 split
 ·exact ne_con _
 split
 ·exact ne_ins _
 split
 ·exact ne_con _
 split
 ·exact ne_seq (ne_ins _)
 split
 ·exact ne_seq ne_head
 unfold callF
 split
 ·exact ne_end
 split
 ·exact ne_lazy h l
 split
 ·split
  ·exact ne_ins _
  ·exact ne_seq (ne_ins _)
 split
 ·exact ne_seq (ne_ins _)
 ·exact ne_end
theorem spoilT {b N : Nat} {W : World} {vI vC : Value} {h : Hd} {ks : Trees} (m : mayE h ks = 0) (c : CodeN b N W vI vC (codeT h ks).1 (codeT h ks).2) (hN : N ≤ W.heap.size) : Calls Tryz.prog 14 #[.agg #[vI, vC]] W fun e w' => e = .returned (.tuple #[]) ∧ Spd (Fbn b N) W w' := by
 obtain ⟨h1, h2, h3, h4⟩ := codeT_size h ks
 have := may_nodes m
 refine spoil17_any W c hN ?_ (by omega) (by omega) (by omega)
 unfold codeT
 rw [if_pos m]
 exact ne_val h (kcs ks) 0 []
theorem infoCodeZ : (Tryz.prog.info? 27).map (fun i => (i.zero, i.size, i.bytes)) = some (some (.agg #[.slice none 0 0, .slice none 0 0]), 2, 48) := by kernel_rfl
theorem ext_alloc_at {B : Nat} {a b : World} {o : Obj} (h : Below B a b) (hB : B ≤ b.heap.size := by omega) : Below B a (b.alloc o) := h.alloc hB o
def CfRel (w : World) (len : Nat) (a : Option Addr) (wr : World) (vK vW i : Value) : Prop :=
 ∃ (j : Nat) (rest : Trees) (K : List Ent), i = .int .i64 j ∧ j + rest.len = len ∧ (RowIn w w.heap.size rest a j ∧ CapsIn w w.heap.size rest a j) ∧ j ≤ 200 ∧ K.length ≤ 2 * j ∧ Hid (FsS w.heap.size wr.heap.size K vK vW wr) ∧ Hid (Below w.heap.size w wr)
theorem compFresh_any (w : World) (a : Option Addr) (len cap : Nat) (ts : Trees) (hl : len = ts.len) (_hmax : len ≤ 9223372036854775807) (row : RowIn w w.heap.size ts a 0) (cps : CapsIn w w.heap.size ts a 0) : Calls Tryz.prog 4 #[.slice a len cap] w (TruePost w) := by
 obtain ⟨iC, hiC, hiz⟩ := Option.map_eq_some_iff.1 infoCodeZ
 simp only [Prod.mk.injEq] at hiz
 obtain ⟨hz0, hz1, hz2⟩ := hiz
 have ROW := Lib.hid row; have HL := Lib.hid hl; have CPS := Lib.hid cps
 clear row hl cps
 go_enter Tryz.func4, Tryz.ntmps4
 go_wp2_with fail
 refine (begun17_any w).mono ?_
 rintro e w1 ⟨rfl, b1⟩
 have B1 := Lib.hid b1
 clear b1
 go_wp2
 go_loopw [3, 4, 5] (fun vK vW i wr => CfRel w len a wr vK vW i) (fun _ _ i _ => len - (RowKit.intOf i).toNat)
 case atStart => exact ⟨0, ts, [], rfl, (by have := HL.out; omega), ⟨ROW.out, CPS.out⟩, by omega, Nat.zero_le _, Lib.hid ((FsS.nil B1.out.size).up B1.out.size (Nat.le_refl _)), B1⟩
 case round =>
  obtain ⟨j, rest, K, rfl, hj, ⟨hrow, hcap⟩, hj2, hK2, HFS, HB⟩ := hrel
  obtain ⟨w0, hw0⟩ : ∃ w0, wr = w0 := ⟨_, rfl⟩
  rw [hw0] at HFS HB ⊢
  clear hw0 wr
  have hbw : w.heap.size ≤ w0.heap.size := HB.out.size
  by_cases hlt : j < len
  rotate_left
  ·obtain ⟨aK, cK, rfl⟩ := HFS.out.rk.slice9
   obtain ⟨aW, cW, rfl⟩ := HFS.out.rw.slice9
   obtain ⟨n2, hn2⟩ : ∃ n2, K.length = n2 := ⟨_, rfl⟩
   have HN2 := Lib.hid hn2
   rw [hn2] at hK2 HFS ⊢
   clear hn2 hrow hcap hj ROW CPS B1
   go_wp2_with fail
   go_loopw [15] (fun iv wr => ∃ i : Nat, iv = .int .i64 (i : Int) ∧ i ≤ n2 ∧ Hid (FsT w.heap.size K (.slice aK n2 cK) (.slice aW n2 cW) w w0.heap.size i wr)) (fun iv _ => n2 - (RowKit.intOf iv).toNat)
   case atStart => exact ⟨0, rfl, Nat.zero_le _, Lib.hid (HFS.out.toT HB.out)⟩
   case round =>
    obtain ⟨i, rfl, hi, HT⟩ := hrel
    obtain ⟨w2, hw2⟩ : ∃ w2, wr = w2 := ⟨_, rfl⟩
    rw [hw2] at HT ⊢
    clear hw2 wr
    by_cases hin : i < n2
    ·obtain ⟨e, he⟩ : ∃ e, K[i]? = some e := ⟨_, List.getElem?_eq_getElem (by have := HN2.out; omega)⟩
     obtain ⟨y, kcap, e1, ly, r0, r1⟩ := row_get (f := Ent.vI) (g := Ent.vC) HT.out.rk he
     obtain ⟨y', wcap, e2, ly', u0, u1⟩ := row_get (f := Ent.wI) (g := Ent.wC) HT.out.rw he
     rw [HN2.out] at e1 e2
     simp only [Value.slice.injEq, true_and] at e1 e2
     obtain ⟨rfl, rfl⟩ := e1
     obtain ⟨rfl, rfl⟩ := e2
     obtain ⟨may, kc, wc⟩ := HT.out.ent i e (Nat.le_refl _) he
     have hle := HT.out.le
     have hlt2 := HFS.out.lt e (List.mem_of_getElem? he)
     obtain ⟨a1, k1, a2, k2, hvI, hvC⟩ := kc.slices
     obtain ⟨a3, k3, a4, k4, hwI, hwC⟩ := wc.slices
     have KC := Lib.hid kc
     have KA := Lib.hid (codeN_A (b' := w2.heap.size) may kc (by omega))
     have WA := Lib.hid (codeN_A (b' := w2.heap.size) may wc (by omega))
     have HE := Lib.hid he
     have HM := Lib.hid may
     rw [hvI] at r0 KA
     rw [hvC] at r1 KA
     rw [hwI] at u0 WA
     rw [hwC] at u1 WA
     obtain ⟨ni, hni⟩ : ∃ ni, (codeT e.h e.k).1.length = ni := ⟨_, rfl⟩
     obtain ⟨nc, hnc⟩ : ∃ nc, (codeT e.h e.k).2.length = nc := ⟨_, rfl⟩
     simp only [Ent.ps, Ent.cs] at r0 r1 u0 u1 KA WA hvI hvC
     rw [hni] at r0 u0 KA WA hvI
     rw [hnc] at r1 u1 KA WA hvC
     have HVI := Lib.hid hvI; have HVC := Lib.hid hvC
     have RKC := Lib.hid (show ∀ q x, ([.slice a1 ni k1, .slice a2 nc k2] : List Value)[q]? = some x → w2.cell? ⟨y, i * 2 + q, none⟩ = some x from fun q x h => by
      match q with
      | 0 => cases h; exact r0
      | 1 => cases h; exact r1
      | q + 2 => simp at h)
     have RWC := Lib.hid (show ∀ q x, ([.slice a3 ni k3, .slice a4 nc k4] : List Value)[q]? = some x → w2.cell? ⟨y', i * 2 + q, none⟩ = some x from fun q x h => by
      match q with
      | 0 => cases h; exact u0
      | 1 => cases h; exact u1
      | q + 2 => simp at h)
     have hN3 : e.N ≤ w2.heap.size := by omega
     clear kc wc may he hvI hvC hwI hwC hni hnc r0 r1 u0 u1 hlt2
     go_upto_region 23 with (fail)
     refine wp_region_noPanic ?_
     refine wp_region_held_drew (S := fun W => Below w2.heap.size w2 W) (by kernel_rfl) (Below.refl _ _).drew (fun hS1 => ?_)
     refine wpV 0 ⟨some 99, .move (.tmp 3), 39, "law.go:122", #[], none⟩ (.slice (some ⟨y, 0, none⟩) n2 cK) hS1 ?_
     try simp only [Act.put, List.setIfInBounds_toArray, List.set_cons_zero, List.set_cons_succ]
     refine wpV 1 ⟨some 100, .move (.tmp 15), 3, "law.go:122", #[], none⟩ (.int .i64 i) hS1 ?_
     try simp only [Act.put, List.setIfInBounds_toArray, List.set_cons_zero, List.set_cons_succ]
     refine wpV 2 ⟨some 101, .indexAddr 39 (.tmp 99) (.tmp 100), 0, "law.go:122", #[⟨0, .data⟩, ⟨1, .data⟩], none⟩ (.pointer (some ⟨y, i * 2, none⟩)) hS1 ?_
     try simp only [Act.put, List.setIfInBounds_toArray, List.set_cons_zero, List.set_cons_succ]
     refine wpT 3 ⟨some 102, .load 27 (.tmp 101), 27, "law.go:122", #[⟨2, .data⟩], none⟩ (.agg #[.slice a1 ni k1, .slice a2 nc k2]) (yieldsIf_load_mid (by rfl) 27 _ rfl y (i * 2) rfl [.slice a1 ni k1, .slice a2 nc k2] _ (fun W hW => fun q x hx => (World.cell?_of_block (a := ⟨y, i * 2 + q, none⟩) (hW.block y (by omega))).trans (RKC.out q x hx)) Tryz.underlying27 rfl infoCode9) hS1 ?_
     try simp only [Act.put, List.setIfInBounds_toArray, List.set_cons_zero, List.set_cons_succ]
     refine wpV 4 ⟨some 103, .move (.tmp 4), 39, "law.go:122", #[], none⟩ (.slice (some ⟨y', 0, none⟩) n2 cW) hS1 ?_
     try simp only [Act.put, List.setIfInBounds_toArray, List.set_cons_zero, List.set_cons_succ]
     refine wpV 5 ⟨some 104, .move (.tmp 15), 3, "law.go:122", #[], none⟩ (.int .i64 i) hS1 ?_
     try simp only [Act.put, List.setIfInBounds_toArray, List.set_cons_zero, List.set_cons_succ]
     refine wpV 6 ⟨some 105, .indexAddr 39 (.tmp 103) (.tmp 104), 0, "law.go:122", #[⟨4, .data⟩, ⟨5, .data⟩], none⟩ (.pointer (some ⟨y', i * 2, none⟩)) hS1 ?_
     try simp only [Act.put, List.setIfInBounds_toArray, List.set_cons_zero, List.set_cons_succ]
     refine wpT 7 ⟨some 106, .load 27 (.tmp 105), 27, "law.go:122", #[⟨6, .data⟩], none⟩ (.agg #[.slice a3 ni k3, .slice a4 nc k4]) (yieldsIf_load_mid (by rfl) 27 _ rfl y' (i * 2) rfl [.slice a3 ni k3, .slice a4 nc k4] _ (fun W hW => fun q x hx => (World.cell?_of_block (a := ⟨y', i * 2 + q, none⟩) (hW.block y' (by omega))).trans (RWC.out q x hx)) Tryz.underlying27 rfl infoCode9) hS1 ?_
     try simp only [Act.put, List.setIfInBounds_toArray, List.set_cons_zero, List.set_cons_succ]
     refine wpAnyH_ready (rs := [8]) (by kernel_rfl) (by simp) ?_
     refine AllReadyH.cons (o := ⟨some 107, .call { callee := .value (.func 10), args := #[.tmp 102, .tmp 106], argTypes := #[27, 27] }, 4, "law.go:122", #[⟨3, .data⟩, ⟨7, .data⟩], none⟩) rfl (fun K hK => ?_) AllReadyH.nil
     refine wanted_wp10 (by rfl) ?_
     go_simp
     go_at_call 10
     with_reducible refine (eq17_any w2.drew (KA.out.kept hS1) (WA.out.kept hS1) hS1.size hS1.size).mono ?_
     rintro e w3 ⟨rfl, bn⟩
     rw [EqB_self]
     refine hK.out _ _ (hS1.trans (bn.mono hS1.size)) (fun hS1 => ?_)
     clear hK K bn
     try simp only [Act.put, List.setIfInBounds_toArray, List.set_cons_zero, List.set_cons_succ]
     refine wpV 9 ⟨some 108, .unOp Go.UnOp.not 4 (.tmp 107), 4, "law.go:122", #[⟨8, .data⟩], none⟩ (.bool false) hS1 ?_
     try simp only [Act.put, List.setIfInBounds_toArray, List.set_cons_zero, List.set_cons_succ]
     refine wpAnyH_done (by kernel_rfl) ?_ _
     refine NoPanic.normal ?_
     have HT3 := Lib.hid (HT.out.below HFS.out (hS1.mono hle))
     have KC3 := Lib.hid (KC.out.keep (W' := w3) fun x _ hx => hS1.block x (by omega))
     have v0 : w3.cell? ⟨y, i * 2, none⟩ = some (.slice a1 ni k1) := (hS1.cell (p := ⟨y, i * 2, none⟩) ly).trans (RKC.out 0 _ rfl)
     have v1 : w3.cell? ⟨y, i * 2 + 1, none⟩ = some (.slice a2 nc k2) := (hS1.cell (p := ⟨y, i * 2 + 1, none⟩) ly).trans (RKC.out 1 _ rfl)
     have ly3 : y < w3.heap.size := by have := hS1.size; omega
     have hz3 := hS1.size
     clear hS1 KA WA RKC RWC KC
     have SP := Lib.hid (spoilT (W := w3) HM.out KC3.out (by omega))
     rw [HVI.out, HVC.out] at SP
     go_wp2_with fail
     refine SP.out.mono ?_
     rintro en w4 ⟨rfl, sp⟩
     have HT4 := Lib.hid (HT3.out.spoil HFS.out HE.out sp)
     clear sp SP v0 v1
     go_wp2
     exact ⟨⟨i + 1, by go_num, by omega, HT4⟩, by simp [RowKit.intOf]; omega⟩
    ·have BE := Lib.hid HT.out.bel
     clear HT
     go_wp2
     go_ret
     exact ⟨rfl, BE.out⟩
  by_cases hl2 : j < 200
  rotate_left
  ·obtain ⟨aK, cK, rfl⟩ := HFS.out.rk.slice9
   obtain ⟨aW, cW, rfl⟩ := HFS.out.rw.slice9
   obtain ⟨n2, hn2⟩ : ∃ n2, K.length = n2 := ⟨_, rfl⟩
   have HN2 := Lib.hid hn2
   rw [hn2] at hK2 HFS ⊢
   clear hn2 hrow hcap hj ROW CPS B1
   go_wp2_with fail
   go_loopw [15] (fun iv wr => ∃ i : Nat, iv = .int .i64 (i : Int) ∧ i ≤ n2 ∧ Hid (FsT w.heap.size K (.slice aK n2 cK) (.slice aW n2 cW) w w0.heap.size i wr)) (fun iv _ => n2 - (RowKit.intOf iv).toNat)
   case atStart => exact ⟨0, rfl, Nat.zero_le _, Lib.hid (HFS.out.toT HB.out)⟩
   case round =>
    obtain ⟨i, rfl, hi, HT⟩ := hrel
    obtain ⟨w2, hw2⟩ : ∃ w2, wr = w2 := ⟨_, rfl⟩
    rw [hw2] at HT ⊢
    clear hw2 wr
    by_cases hin : i < n2
    ·obtain ⟨e, he⟩ : ∃ e, K[i]? = some e := ⟨_, List.getElem?_eq_getElem (by have := HN2.out; omega)⟩
     obtain ⟨y, kcap, e1, ly, r0, r1⟩ := row_get (f := Ent.vI) (g := Ent.vC) HT.out.rk he
     obtain ⟨y', wcap, e2, ly', u0, u1⟩ := row_get (f := Ent.wI) (g := Ent.wC) HT.out.rw he
     rw [HN2.out] at e1 e2
     simp only [Value.slice.injEq, true_and] at e1 e2
     obtain ⟨rfl, rfl⟩ := e1
     obtain ⟨rfl, rfl⟩ := e2
     obtain ⟨may, kc, wc⟩ := HT.out.ent i e (Nat.le_refl _) he
     have hle := HT.out.le
     have hlt2 := HFS.out.lt e (List.mem_of_getElem? he)
     obtain ⟨a1, k1, a2, k2, hvI, hvC⟩ := kc.slices
     obtain ⟨a3, k3, a4, k4, hwI, hwC⟩ := wc.slices
     have KC := Lib.hid kc
     have KA := Lib.hid (codeN_A (b' := w2.heap.size) may kc (by omega))
     have WA := Lib.hid (codeN_A (b' := w2.heap.size) may wc (by omega))
     have HE := Lib.hid he
     have HM := Lib.hid may
     rw [hvI] at r0 KA
     rw [hvC] at r1 KA
     rw [hwI] at u0 WA
     rw [hwC] at u1 WA
     obtain ⟨ni, hni⟩ : ∃ ni, (codeT e.h e.k).1.length = ni := ⟨_, rfl⟩
     obtain ⟨nc, hnc⟩ : ∃ nc, (codeT e.h e.k).2.length = nc := ⟨_, rfl⟩
     simp only [Ent.ps, Ent.cs] at r0 r1 u0 u1 KA WA hvI hvC
     rw [hni] at r0 u0 KA WA hvI
     rw [hnc] at r1 u1 KA WA hvC
     have HVI := Lib.hid hvI; have HVC := Lib.hid hvC
     have RKC := Lib.hid (show ∀ q x, ([.slice a1 ni k1, .slice a2 nc k2] : List Value)[q]? = some x → w2.cell? ⟨y, i * 2 + q, none⟩ = some x from fun q x h => by
      match q with
      | 0 => cases h; exact r0
      | 1 => cases h; exact r1
      | q + 2 => simp at h)
     have RWC := Lib.hid (show ∀ q x, ([.slice a3 ni k3, .slice a4 nc k4] : List Value)[q]? = some x → w2.cell? ⟨y', i * 2 + q, none⟩ = some x from fun q x h => by
      match q with
      | 0 => cases h; exact u0
      | 1 => cases h; exact u1
      | q + 2 => simp at h)
     have hN3 : e.N ≤ w2.heap.size := by omega
     clear kc wc may he hvI hvC hwI hwC hni hnc r0 r1 u0 u1 hlt2
     go_upto_region 23 with (fail)
     refine wp_region_noPanic ?_
     refine wp_region_held_drew (S := fun W => Below w2.heap.size w2 W) (by kernel_rfl) (Below.refl _ _).drew (fun hS1 => ?_)
     refine wpV 0 ⟨some 99, .move (.tmp 3), 39, "law.go:122", #[], none⟩ (.slice (some ⟨y, 0, none⟩) n2 cK) hS1 ?_
     try simp only [Act.put, List.setIfInBounds_toArray, List.set_cons_zero, List.set_cons_succ]
     refine wpV 1 ⟨some 100, .move (.tmp 15), 3, "law.go:122", #[], none⟩ (.int .i64 i) hS1 ?_
     try simp only [Act.put, List.setIfInBounds_toArray, List.set_cons_zero, List.set_cons_succ]
     refine wpV 2 ⟨some 101, .indexAddr 39 (.tmp 99) (.tmp 100), 0, "law.go:122", #[⟨0, .data⟩, ⟨1, .data⟩], none⟩ (.pointer (some ⟨y, i * 2, none⟩)) hS1 ?_
     try simp only [Act.put, List.setIfInBounds_toArray, List.set_cons_zero, List.set_cons_succ]
     refine wpT 3 ⟨some 102, .load 27 (.tmp 101), 27, "law.go:122", #[⟨2, .data⟩], none⟩ (.agg #[.slice a1 ni k1, .slice a2 nc k2]) (yieldsIf_load_mid (by rfl) 27 _ rfl y (i * 2) rfl [.slice a1 ni k1, .slice a2 nc k2] _ (fun W hW => fun q x hx => (World.cell?_of_block (a := ⟨y, i * 2 + q, none⟩) (hW.block y (by omega))).trans (RKC.out q x hx)) Tryz.underlying27 rfl infoCode9) hS1 ?_
     try simp only [Act.put, List.setIfInBounds_toArray, List.set_cons_zero, List.set_cons_succ]
     refine wpV 4 ⟨some 103, .move (.tmp 4), 39, "law.go:122", #[], none⟩ (.slice (some ⟨y', 0, none⟩) n2 cW) hS1 ?_
     try simp only [Act.put, List.setIfInBounds_toArray, List.set_cons_zero, List.set_cons_succ]
     refine wpV 5 ⟨some 104, .move (.tmp 15), 3, "law.go:122", #[], none⟩ (.int .i64 i) hS1 ?_
     try simp only [Act.put, List.setIfInBounds_toArray, List.set_cons_zero, List.set_cons_succ]
     refine wpV 6 ⟨some 105, .indexAddr 39 (.tmp 103) (.tmp 104), 0, "law.go:122", #[⟨4, .data⟩, ⟨5, .data⟩], none⟩ (.pointer (some ⟨y', i * 2, none⟩)) hS1 ?_
     try simp only [Act.put, List.setIfInBounds_toArray, List.set_cons_zero, List.set_cons_succ]
     refine wpT 7 ⟨some 106, .load 27 (.tmp 105), 27, "law.go:122", #[⟨6, .data⟩], none⟩ (.agg #[.slice a3 ni k3, .slice a4 nc k4]) (yieldsIf_load_mid (by rfl) 27 _ rfl y' (i * 2) rfl [.slice a3 ni k3, .slice a4 nc k4] _ (fun W hW => fun q x hx => (World.cell?_of_block (a := ⟨y', i * 2 + q, none⟩) (hW.block y' (by omega))).trans (RWC.out q x hx)) Tryz.underlying27 rfl infoCode9) hS1 ?_
     try simp only [Act.put, List.setIfInBounds_toArray, List.set_cons_zero, List.set_cons_succ]
     refine wpAnyH_ready (rs := [8]) (by kernel_rfl) (by simp) ?_
     refine AllReadyH.cons (o := ⟨some 107, .call { callee := .value (.func 10), args := #[.tmp 102, .tmp 106], argTypes := #[27, 27] }, 4, "law.go:122", #[⟨3, .data⟩, ⟨7, .data⟩], none⟩) rfl (fun K hK => ?_) AllReadyH.nil
     refine wanted_wp10 (by rfl) ?_
     go_simp
     go_at_call 10
     with_reducible refine (eq17_any w2.drew (KA.out.kept hS1) (WA.out.kept hS1) hS1.size hS1.size).mono ?_
     rintro e w3 ⟨rfl, bn⟩
     rw [EqB_self]
     refine hK.out _ _ (hS1.trans (bn.mono hS1.size)) (fun hS1 => ?_)
     clear hK K bn
     try simp only [Act.put, List.setIfInBounds_toArray, List.set_cons_zero, List.set_cons_succ]
     refine wpV 9 ⟨some 108, .unOp Go.UnOp.not 4 (.tmp 107), 4, "law.go:122", #[⟨8, .data⟩], none⟩ (.bool false) hS1 ?_
     try simp only [Act.put, List.setIfInBounds_toArray, List.set_cons_zero, List.set_cons_succ]
     refine wpAnyH_done (by kernel_rfl) ?_ _
     refine NoPanic.normal ?_
     have HT3 := Lib.hid (HT.out.below HFS.out (hS1.mono hle))
     have KC3 := Lib.hid (KC.out.keep (W' := w3) fun x _ hx => hS1.block x (by omega))
     have v0 : w3.cell? ⟨y, i * 2, none⟩ = some (.slice a1 ni k1) := (hS1.cell (p := ⟨y, i * 2, none⟩) ly).trans (RKC.out 0 _ rfl)
     have v1 : w3.cell? ⟨y, i * 2 + 1, none⟩ = some (.slice a2 nc k2) := (hS1.cell (p := ⟨y, i * 2 + 1, none⟩) ly).trans (RKC.out 1 _ rfl)
     have ly3 : y < w3.heap.size := by have := hS1.size; omega
     have hz3 := hS1.size
     clear hS1 KA WA RKC RWC KC
     have SP := Lib.hid (spoilT (W := w3) HM.out KC3.out (by omega))
     rw [HVI.out, HVC.out] at SP
     go_wp2_with fail
     refine SP.out.mono ?_
     rintro en w4 ⟨rfl, sp⟩
     have HT4 := Lib.hid (HT3.out.spoil HFS.out HE.out sp)
     clear sp SP v0 v1
     go_wp2
     exact ⟨⟨i + 1, by go_num, by omega, HT4⟩, by simp [RowKit.intOf]; omega⟩
    ·have BE := Lib.hid HT.out.bel
     clear HT
     go_wp2
     go_ret
     exact ⟨rfl, BE.out⟩
  obtain ⟨h', k', r', rfl⟩ : ∃ h' k' r', rest = .cons h' k' r' := by
   cases rest with
   | nil => exact absurd hj (by simp only [Trees.len]; omega)
   | cons x y z => exact ⟨x, y, z, rfl⟩
  obtain ⟨b1, off, ka', kl', kc', rfl, hb1, nd0, tv0⟩ := hrow.head
  obtain ⟨q1, q2, q3⟩ := caps_head nd0 hcap
  have HR := Lib.hid (And.intro hrow.2 q3)
  have ND := Lib.hid nd0; have TO := Lib.hid (show TreeCp w w.heap.size h' k' ka' kl' kc' from ⟨tv0, q1, q2⟩)
  have ND1 := Lib.hid (nd0.kept HB.out hb1)
  have hji : (j : Int) < (len : Int) := by omega
  have hj0 : (0 : Int) ≤ (j : Int) := by omega
  simp only [Trees.len] at hj
  have HJ := Lib.hid hj
  clear hrow nd0 tv0 hj hcap q1 q2 q3
  go_wp2_with (refine cpLoad ND1.out rfl rfl rfl ?_)
  refine (rformula_code h' k' w0 w.heap.size ka' kl' kc' hbw (TO.out.kept HB.out)).mono ?_
  rintro e w2 ⟨vI, vC, rfl, c2, b2⟩
  obtain ⟨a1, k1, a2, k2, rfl, rfl⟩ := c2.slices
  have Q2 := Lib.hid c2.toN
  have B2 := Lib.hid (HB.out.trans (b2.mono hbw))
  have F2 := Lib.hid (HFS.out.below b2)
  have hs2 : w0.heap.size ≤ w2.heap.size := b2.size
  clear b2 c2 ND1 HB HFS
  obtain ⟨me, hme⟩ : ∃ me, mayE h' k' = me := ⟨_, rfl⟩
  have HME := Lib.hid hme
  rw [hme]
  clear hme
  obtain ⟨ni, hni⟩ : ∃ ni, (codeT h' k').1.length = ni := ⟨_, rfl⟩
  obtain ⟨nc, hnc⟩ : ∃ nc, (codeT h' k').2.length = nc := ⟨_, rfl⟩
  have HNI := Lib.hid hni; have HNC := Lib.hid hnc
  rw [hni, hnc] at Q2 ⊢
  clear hni hnc
  go_upto_region 8 with (fail)
  obtain ⟨w3, hw3⟩ : ∃ w3, w3 = w2.alloc (.cells #[.slice a1 ni k1, .slice a2 nc k2] 27) := ⟨_, rfl⟩
  rw [← hw3]
  obtain ⟨X, hX⟩ : ∃ X, w2.heap.size = X := ⟨_, rfl⟩
  have bxX : w3.heap[X]? = some (.cells #[.slice a1 ni k1, .slice a2 nc k2] 27 (0, 0)) := by rw [hw3, ← hX]; exact heap_alloc_new _ _
  have bw3 : Below w2.heap.size w2 w3 := by rw [hw3]; exact ext_alloc (Below.refl _ _) _
  have hsw3 : w2.heap.size < w3.heap.size := by rw [hw3]; simp
  have hnX : w2.heap.size ≤ X ∧ X < w3.heap.size := by omega
  rw [hX]
  have BX := Lib.hid bxX
  clear hw3 hX bxX
  have B3 := Lib.hid (B2.out.trans (bw3.mono (Nat.le_trans hbw hs2)))
  have F3 := Lib.hid (F2.out.below (bw3.mono hs2))
  have Q3 := Lib.hid (Q2.out.keep (W' := w3) fun x _ hx => bw3.block x hx)
  have hs3 : w0.heap.size ≤ w3.heap.size := by omega
  clear bw3 B2 F2 Q2
  have ND3 := Lib.hid (ND.out.kept B3.out hb1)
  by_cases hm : me = 0
  rotate_left
  ·go_wp2
   go_roundw
   case rel => exact ⟨j + 1, r', K, by go_num, (by have := HJ.out; omega), HR.out, by omega, by omega, Lib.hid (F3.out.up hs3 (Nat.le_refl _)), B3⟩
   case measure => simp [RowKit.intOf]; omega
  subst hm
  have hno : k'.nodes ≤ 100000 := mayE_fine7 HME.out
  have TF3 := Lib.hid (TO.out.toTreeV.kept B3.out (Nat.le_refl _))
  go_wp2_with (refine cpLoad ND3.out rfl rfl rfl ?_)
  refine (lawOwn_any h' k' w3 w.heap.size ka' kl' kc' (Nat.le_trans hbw hs3) TF3.out hno).mono ?_
  rintro e w4 ⟨ta, tl, tc, Ft, rfl, b4, ft⟩
  have FT := Lib.hid ft
  have tv_ok := Lib.hid TO.out.ok
  have B4 := Lib.hid (B3.out.trans (b4.mono (Nat.le_trans hbw hs3)))
  have F4 := Lib.hid (F3.out.below (b4.mono hs3))
  have Q4 := Lib.hid (Q3.out.keep (W' := w4) fun x _ hx => b4.block x (by omega))
  have BX4 := Lib.hid (blk_below8 b4 BX.out)
  have hs4 : w3.heap.size ≤ w4.heap.size := b4.size
  clear ft b4 B3 F3 Q3 BX TF3 ND3
  go_upto_region 10 with (first
  | (refine wpList_store_mem (N := w4.heap.size) (off := 0) (vs := [.int .i64 h'.kind, .int .i64 h'.op, .int .i64 h'.num, .string ⟨h'.text.toArray⟩, .int .i64 h'.ref.row, .int .i64 h'.ref.col, .bool h'.ref.pr, .bool h'.ref.pc, .int .i64 h'.to.row, .int .i64 h'.to.col, .bool h'.to.pr, .bool h'.to.pc, .int .i64 h'.fn, .slice ta tl tc]) infoExprS rfl rfl rfl rfl (heap_alloc_new w4 (.cells #[.int .i64 0, .int .i64 0, .int .i64 0, .string ⟨#[]⟩, .int .i64 0, .int .i64 0, .bool false, .bool false, .int .i64 0, .int .i64 0, .bool false, .bool false, .int .i64 0, .slice none 0 0] 34)) (by simp) rfl (by simp [Value.oneCell']) ?_
     intro w5 hWn
     have BT5 := Lib.hid (show w5.heap[w4.heap.size]? = some (.cells #[.int .i64 h'.kind, .int .i64 h'.op, .int .i64 h'.num, .string ⟨h'.text.toArray⟩, .int .i64 h'.ref.row, .int .i64 h'.ref.col, .bool h'.ref.pr, .bool h'.ref.pc, .int .i64 h'.to.row, .int .i64 h'.to.col, .bool h'.to.pr, .bool h'.to.pc, .int .i64 h'.fn, .slice ta tl tc] 34 (0, 0)) by rw [hWn]; exact setCells_all (vs := [.int .i64 h'.kind, .int .i64 h'.op, .int .i64 h'.num, .string ⟨h'.text.toArray⟩, .int .i64 h'.ref.row, .int .i64 h'.ref.col, .bool h'.ref.pr, .bool h'.ref.pc, .int .i64 h'.to.row, .int .i64 h'.to.col, .bool h'.to.pr, .bool h'.to.pc, .int .i64 h'.fn, .slice ta tl tc]) (heap_alloc_new w4 (.cells #[.int .i64 0, .int .i64 0, .int .i64 0, .string ⟨#[]⟩, .int .i64 0, .int .i64 0, .bool false, .bool false, .int .i64 0, .int .i64 0, .bool false, .bool false, .int .i64 0, .slice none 0 0] 34)) rfl)
     have BN := Lib.hid (show Below w4.heap.size w4 w5 by rw [hWn]; exact setCells_below (Nat.le_refl _) _ _ (ext_alloc (Below.refl _ w4) _))
     clear hWn))
  obtain ⟨T, hT⟩ : ∃ T, w4.heap.size = T := ⟨_, rfl⟩
  rw [hT] at BT5 ⊢
  have hT5 : T < w5.heap.size := lt_of_block BT5.out
  have hs5 : w3.heap.size ≤ w5.heap.size := by omega
  have B5 := Lib.hid (B4.out.trans (BN.out.mono (by omega)))
  have F5 := Lib.hid (F4.out.below (BN.out.mono (by omega)))
  have Q5 := Lib.hid (Q4.out.keep (W' := w5) fun x _ hx => BN.out.block x (by omega))
  have BX5 := Lib.hid (blk_below8 BN.out BX4.out)
  have TT5 := Lib.hid ((FT.out.own.kept fun q hq => BN.out.block q (FT.out.lt q hq)).tv (h := h') (fun q hq => by have := FT.out.lt q hq; omega) tv_ok.out)
  clear BN B4 F4 Q4 BX4 FT hT
  have NT5 := Lib.hid (box_at BT5.out)
  go_wp2_with (refine cpLoad NT5.out rfl rfl rfl ?_)
  refine (formula_code h' k' w5 w5.heap.size ta tl tc (Nat.le_refl _) TT5.out).mono ?_
  rintro e w6 ⟨vI, vC, rfl, c6, b6⟩
  obtain ⟨a3, k3, a4, k4, rfl, rfl⟩ := c6.slices
  have X6 := Lib.hid c6.toN
  rw [HNI.out, HNC.out] at X6 ⊢
  rw [HME.out]
  have hs6 : w5.heap.size ≤ w6.heap.size := b6.size
  have B6 := Lib.hid (B5.out.trans (b6.mono (by omega)))
  have F6 := Lib.hid (F5.out.below (b6.mono (by omega)))
  have Q6 := Lib.hid (Q5.out.keep (W' := w6) fun x _ hx => b6.block x (by omega))
  have BX6 := Lib.hid (blk_below8 b6 BX5.out)
  have BT6 := Lib.hid (blk_below8 b6 BT5.out)
  have TT6 := Lib.hid (TT5.out.kept b6 (Nat.le_refl _))
  clear b6 c6 B5 F5 Q5 BX5 BT5 TT5 NT5
  go_upto_region 11 with (fail)
  obtain ⟨w7, hw7⟩ : ∃ w7, w7 = w6.alloc (.cells #[.slice a3 ni k3, .slice a4 nc k4] 27) := ⟨_, rfl⟩
  rw [← hw7]
  obtain ⟨Y, hY⟩ : ∃ Y, w6.heap.size = Y := ⟨_, rfl⟩
  have bxY : w7.heap[Y]? = some (.cells #[.slice a3 ni k3, .slice a4 nc k4] 27 (0, 0)) := by rw [hw7, ← hY]; exact heap_alloc_new _ _
  have bw7 : Below w6.heap.size w6 w7 := by rw [hw7]; exact ext_alloc (Below.refl _ _) _
  have hsw7 : w6.heap.size < w7.heap.size := by rw [hw7]; simp
  have hnY : w6.heap.size ≤ Y ∧ Y < w7.heap.size := by omega
  rw [hY]
  have BY := Lib.hid bxY
  clear hw7 hY bxY
  have B7 := Lib.hid (B6.out.trans (bw7.mono (by omega)))
  have F7 := Lib.hid (F6.out.below (bw7.mono (by omega)))
  have Q7 := Lib.hid (Q6.out.keep (W' := w7) fun x _ hx => bw7.block x (by omega))
  have X7 := Lib.hid (X6.out.keep (W' := w7) fun x _ hx => bw7.block x (by omega))
  have BX7 := Lib.hid (blk_below8 bw7 BX6.out)
  have BT7 := Lib.hid (blk_below8 bw7 BT6.out)
  have TT7 := Lib.hid (TT6.out.kept (bw7.mono hs6) (Nat.le_refl _))
  clear bw7 B6 F6 Q6 X6 BX6 BT6 TT6
  have NT7 := Lib.hid (box_at BT7.out)
  go_wp2_with (refine cpLoad NT7.out rfl rfl rfl ?_)
  refine (formula_code h' k' w7 w5.heap.size ta tl tc (by omega) TT7.out).mono ?_
  rintro e w8 ⟨vI, vC, rfl, c8, b8⟩
  obtain ⟨a5, k5, a6, k6, rfl, rfl⟩ := c8.slices
  have Y8 := Lib.hid c8.toN
  rw [HNI.out, HNC.out] at Y8 ⊢
  rw [HME.out]
  have hs8 : w7.heap.size ≤ w8.heap.size := b8.size
  have B8 := Lib.hid (B7.out.trans (b8.mono (by omega)))
  have F8 := Lib.hid (F7.out.below (b8.mono (by omega)))
  have Q8 := Lib.hid (Q7.out.keep (W' := w8) fun x _ hx => b8.block x (by omega))
  have X8 := Lib.hid (X7.out.keep (W' := w8) fun x _ hx => b8.block x (by omega))
  have BX8 := Lib.hid (blk_below8 b8 BX7.out)
  have BT8 := Lib.hid (blk_below8 b8 BT7.out)
  have BY8 := Lib.hid (blk_below8 b8 BY.out)
  have TT8 := Lib.hid (TT7.out.kept (b8.mono (by omega)) (Nat.le_refl _))
  clear b8 c8 B7 F7 Q7 X7 BX7 BT7 BY TT7 NT7
  go_upto_region 12 with (fail)
  obtain ⟨w9, hw9⟩ : ∃ w9, w9 = w8.alloc (.cells #[.slice a5 ni k5, .slice a6 nc k6] 27) := ⟨_, rfl⟩
  rw [← hw9]
  obtain ⟨Z, hZ⟩ : ∃ Z, w8.heap.size = Z := ⟨_, rfl⟩
  have bxZ : w9.heap[Z]? = some (.cells #[.slice a5 ni k5, .slice a6 nc k6] 27 (0, 0)) := by rw [hw9, ← hZ]; exact heap_alloc_new _ _
  have bw9 : Below w8.heap.size w8 w9 := by rw [hw9]; exact ext_alloc (Below.refl _ _) _
  have hsw9 : w8.heap.size < w9.heap.size := by rw [hw9]; simp
  have hnZ : w8.heap.size ≤ Z ∧ Z < w9.heap.size := by omega
  rw [hZ]
  have BZ := Lib.hid bxZ
  clear hw9 hZ bxZ
  have B9 := Lib.hid (B8.out.trans (bw9.mono (by omega)))
  have F9 := Lib.hid (F8.out.below (bw9.mono (by omega)))
  have Q9 := Lib.hid (Q8.out.keep (W' := w9) fun x _ hx => bw9.block x (by omega))
  have X9 := Lib.hid (X8.out.keep (W' := w9) fun x _ hx => bw9.block x (by omega))
  have Y9 := Lib.hid (Y8.out.keep (W' := w9) fun x _ hx => bw9.block x (by omega))
  have BX9 := Lib.hid (blk_below8 bw9 BX8.out)
  have BT9 := Lib.hid (blk_below8 bw9 BT8.out)
  have BY9 := Lib.hid (blk_below8 bw9 BY8.out)
  have TT9 := Lib.hid (TT8.out.kept (bw9.mono (by omega)) (Nat.le_refl _))
  clear bw9 B8 F8 Q8 X8 Y8 BX8 BT8 BY8 TT8
  have XA := Lib.hid (codeN_A (b' := w9.heap.size) HME.out (by have := X9.out; rw [← HNI.out, ← HNC.out] at this; exact this) (by omega))
  have QA := Lib.hid (codeN_A (b' := w9.heap.size) HME.out (by have := Q9.out; rw [← HNI.out, ← HNC.out] at this; exact this) (by omega))
  rw [HNI.out, HNC.out] at XA QA
  have cx0 : w9.cell? ⟨X, 0, none⟩ = some (.slice a1 ni k1) := (cells_of_block BX9.out 0).trans rfl
  have cx1 : w9.cell? ⟨X, 1, none⟩ = some (.slice a2 nc k2) := (cells_of_block BX9.out 1).trans rfl
  have cy0 : w9.cell? ⟨Y, 0, none⟩ = some (.slice a3 ni k3) := (cells_of_block BY9.out 0).trans rfl
  have cy1 : w9.cell? ⟨Y, 1, none⟩ = some (.slice a4 nc k4) := (cells_of_block BY9.out 1).trans rfl
  have lx9 : X < w9.heap.size := lt_of_block BX9.out
  have ly9 : Y < w9.heap.size := lt_of_block BY9.out
  go_wp2_with fail
  refine (eq17_any w9 XA.out QA.out (Nat.le_refl _) (Nat.le_refl _)).mono ?_
  rintro e w10 ⟨rfl, b10⟩
  rw [EqB_self]
  have hs10 : w9.heap.size ≤ w10.heap.size := b10.size
  have B10 := Lib.hid (B9.out.trans (b10.mono (by omega)))
  have F10 := Lib.hid (F9.out.below (b10.mono (by omega)))
  have Q10 := Lib.hid (Q9.out.keep (W' := w10) fun x _ hx => b10.block x (by omega))
  have X10 := Lib.hid (X9.out.keep (W' := w10) fun x _ hx => b10.block x (by omega))
  have Y10 := Lib.hid (Y9.out.keep (W' := w10) fun x _ hx => b10.block x (by omega))
  have BX10 := Lib.hid (blk_below8 b10 BX9.out)
  have BT10 := Lib.hid (blk_below8 b10 BT9.out)
  have BY10 := Lib.hid (blk_below8 b10 BY9.out)
  have BZ10 := Lib.hid (blk_below8 b10 BZ.out)
  have TT10 := Lib.hid (TT9.out.kept (b10.mono (by omega)) (Nat.le_refl _))
  clear b10 B9 F9 Q9 X9 Y9 BX9 BT9 BY9 BZ TT9 XA QA cx0 cx1 cy0 cy1 lx9 ly9
  have cy0 : w10.cell? ⟨Y, 0, none⟩ = some (.slice a3 ni k3) := (cells_of_block BY10.out 0).trans rfl
  have cy1 : w10.cell? ⟨Y, 1, none⟩ = some (.slice a4 nc k4) := (cells_of_block BY10.out 1).trans rfl
  have ly10 : Y < w10.heap.size := lt_of_block BY10.out
  have SP := Lib.hid (spoilT (W := w10) HME.out (by have := X10.out; rw [← HNI.out, ← HNC.out] at this; exact this) (by omega))
  rw [HNI.out, HNC.out] at SP
  go_wp2_with fail
  refine SP.out.mono ?_
  rintro e w11 ⟨rfl, sp⟩
  have hs11 : w10.heap.size ≤ w11.heap.size := sp.size
  have keep : ∀ x, x < w10.heap.size → (x < w5.heap.size ∨ w6.heap.size ≤ x) → w11.heap[x]? = w10.heap[x]? := fun x hx q => sp.same x hx (fun hf => by have := mem_Fbn.1 hf; omega)
  have s5 : Below w5.heap.size w10 w11 := sp.below (by omega) (fun x hx => (mem_Fbn.1 hx).1)
  have B11 := Lib.hid (B10.out.trans (s5.mono (by omega)))
  have F11 := Lib.hid (F10.out.below (s5.mono (by omega)))
  have Q11 := Lib.hid (Q10.out.keep (W' := w11) fun x _ hx => s5.block x (by omega))
  have Y11 := Lib.hid (Y10.out.keep (W' := w11) fun x hx hx2 => keep x (by omega) (.inr (by omega)))
  have BX11 := Lib.hid ((s5.block X (by omega)).trans BX10.out)
  have BT11 := Lib.hid ((s5.block T (by omega)).trans BT10.out)
  have BZ11 := Lib.hid ((keep Z (by omega) (.inr (by omega))).trans BZ10.out)
  have TT11 := Lib.hid (TT10.out.kept s5 (Nat.le_refl _))
  clear sp keep s5 SP B10 F10 Q10 X10 Y10 BX10 BT10 BY10 BZ10 TT10 cy0 cy1 ly10
  have NT11 := Lib.hid (box_at BT11.out)
  go_wp2_with (refine cpLoad NT11.out rfl rfl rfl ?_)
  refine (formula_code h' k' w11 w5.heap.size ta tl tc (by omega) TT11.out).mono ?_
  rintro e w12 ⟨vI, vC, rfl, c12, b12⟩
  obtain ⟨a7, k7, a8, k8, rfl, rfl⟩ := c12.slices
  have Z12 := Lib.hid c12.toN
  rw [HNI.out, HNC.out] at Z12 ⊢
  rw [HME.out]
  have hs12 : w11.heap.size ≤ w12.heap.size := b12.size
  have B12 := Lib.hid (B11.out.trans (b12.mono (by omega)))
  have F12 := Lib.hid (F11.out.below (b12.mono (by omega)))
  have Q12 := Lib.hid (Q11.out.keep (W' := w12) fun x _ hx => b12.block x (by omega))
  have Y12 := Lib.hid (Y11.out.keep (W' := w12) fun x _ hx => b12.block x (by omega))
  have BX12 := Lib.hid (blk_below8 b12 BX11.out)
  have BT12 := Lib.hid (blk_below8 b12 BT11.out)
  have BZ12 := Lib.hid (blk_below8 b12 BZ11.out)
  have TT12 := Lib.hid (TT11.out.kept (b12.mono (by omega)) (Nat.le_refl _))
  clear b12 c12 B11 F11 Q11 Y11 BX11 BT11 BZ11 TT11 NT11
  go_upto_region 16 with (fail)
  obtain ⟨w13, hw13⟩ : ∃ w13, w13 = w12.alloc (.cells #[.slice a7 ni k7, .slice a8 nc k8] 27) := ⟨_, rfl⟩
  rw [← hw13]
  obtain ⟨U, hU⟩ : ∃ U, w12.heap.size = U := ⟨_, rfl⟩
  have bxU : w13.heap[U]? = some (.cells #[.slice a7 ni k7, .slice a8 nc k8] 27 (0, 0)) := by rw [hw13, ← hU]; exact heap_alloc_new _ _
  have bw13 : Below w12.heap.size w12 w13 := by rw [hw13]; exact ext_alloc (Below.refl _ _) _
  have hsw13 : w12.heap.size < w13.heap.size := by rw [hw13]; simp
  have hnU : w12.heap.size ≤ U ∧ U < w13.heap.size := by omega
  rw [hU]
  have BU := Lib.hid bxU
  clear hw13 hU bxU
  have B13 := Lib.hid (B12.out.trans (bw13.mono (by omega)))
  have F13 := Lib.hid (F12.out.below (bw13.mono (by omega)))
  have Q13 := Lib.hid (Q12.out.keep (W' := w13) fun x _ hx => bw13.block x (by omega))
  have Y13 := Lib.hid (Y12.out.keep (W' := w13) fun x _ hx => bw13.block x (by omega))
  have Z13 := Lib.hid (Z12.out.keep (W' := w13) fun x _ hx => bw13.block x (by omega))
  have BX13 := Lib.hid (blk_below8 bw13 BX12.out)
  have BT13 := Lib.hid (blk_below8 bw13 BT12.out)
  have BZ13 := Lib.hid (blk_below8 bw13 BZ12.out)
  have BU13 := BU
  have TT13 := Lib.hid ((TT12.out.kept (bw13.mono (by omega)) (Nat.le_refl _)).mono (show w5.heap.size ≤ w13.heap.size by omega))
  have TO13 := Lib.hid (TO.out.toTreeV.kept B13.out (Nat.le_refl _))
  have ND13 := Lib.hid (ND.out.kept B13.out hb1)
  have hb13 : w.heap.size ≤ w13.heap.size := by omega
  clear bw13 B12 F12 Q12 Y12 Z12 BX12 BT12 BZ12 BU TT12
  have YA := Lib.hid (codeN_A (b' := w13.heap.size) HME.out (by have := Y13.out; rw [← HNI.out, ← HNC.out] at this; exact this) (by omega))
  have ZA := Lib.hid (codeN_A (b' := w13.heap.size) HME.out (by have := Z13.out; rw [← HNI.out, ← HNC.out] at this; exact this) (by omega))
  have QA := Lib.hid (codeN_A (b' := w13.heap.size) HME.out (by have := Q13.out; rw [← HNI.out, ← HNC.out] at this; exact this) (by omega))
  rw [HNI.out, HNC.out] at YA ZA QA
  refine wp_region_noPanic ?_
  refine wp_region_held_drew (S := fun W => Below w13.heap.size w13 W) (by kernel_rfl) (Below.refl _ _).drew (fun hS1 => ?_)
  refine wpT 0 ⟨some 64, .load 27 (.tmp 11), 27, "law.go:115", #[], none⟩ (.agg #[.slice a5 ni k5, .slice a6 nc k6]) (yieldsIf_load_mid (by rfl) 27 _ rfl Z 0 rfl [.slice a5 ni k5, .slice a6 nc k6] _ (fun W hW => box_rng ((hW.block Z (by omega)).trans BZ13.out)) Tryz.underlying27 rfl infoCode9) hS1 ?_
  try simp only [Act.put, List.setIfInBounds_toArray, List.set_cons_zero, List.set_cons_succ]
  refine wpT 1 ⟨some 65, .load 27 (.tmp 6), 27, "law.go:115", #[], none⟩ (.agg #[.slice a1 ni k1, .slice a2 nc k2]) (yieldsIf_load_mid (by rfl) 27 _ rfl X 0 rfl [.slice a1 ni k1, .slice a2 nc k2] _ (fun W hW => box_rng ((hW.block X (by omega)).trans BX13.out)) Tryz.underlying27 rfl infoCode9) hS1 ?_
  try simp only [Act.put, List.setIfInBounds_toArray, List.set_cons_zero, List.set_cons_succ]
  refine wpAnyH_ready (rs := [2]) (by kernel_rfl) (by simp) ?_
  refine AllReadyH.cons (o := ⟨some 66, .call { callee := .value (.func 10), args := #[.tmp 64, .tmp 65], argTypes := #[27, 27] }, 4, "law.go:115", #[⟨0, .data⟩, ⟨1, .data⟩], none⟩) rfl (fun K hK => ?_) AllReadyH.nil
  refine wanted_wp10 (by rfl) ?_
  go_simp
  go_at_call 10
  with_reducible refine (eq17_any w13.drew (YA.out.kept hS1) (QA.out.kept hS1) hS1.size hS1.size).mono ?_
  rintro e w14 ⟨rfl, bn⟩
  rw [EqB_self]
  refine hK.out _ _ (hS1.trans (bn.mono hS1.size)) (fun hS1 => ?_)
  clear hK K bn
  try simp only [Act.put, List.setIfInBounds_toArray, List.set_cons_zero, List.set_cons_succ]
  refine wpV 3 ⟨some 67, .unOp Go.UnOp.not 4 (.tmp 66), 4, "law.go:115", #[⟨2, .data⟩], none⟩ (.bool false) hS1 ?_
  try simp only [Act.put, List.setIfInBounds_toArray, List.set_cons_zero, List.set_cons_succ]
  refine wpV 4 ⟨some 68, .move (.tmp 67), 4, "law.go:115", #[⟨3, .data⟩, ⟨2, .chain⟩], none⟩ (.bool false) hS1 ?_
  try simp only [Act.put, List.setIfInBounds_toArray, List.set_cons_zero, List.set_cons_succ]
  refine wpT 5 ⟨some 69, .load 27 (.tmp 13), 27, "law.go:115", #[⟨4, .guard⟩], some (4, false)⟩ (.agg #[.slice a7 ni k7, .slice a8 nc k8]) (yieldsIf_load_mid (by rfl) 27 _ rfl U 0 rfl [.slice a7 ni k7, .slice a8 nc k8] _ (fun W hW => box_rng ((hW.block U (by omega)).trans BU13.out)) Tryz.underlying27 rfl infoCode9) hS1 ?_
  try simp only [Act.put, List.setIfInBounds_toArray, List.set_cons_zero, List.set_cons_succ]
  refine wpT 6 ⟨some 70, .load 27 (.tmp 6), 27, "law.go:115", #[⟨4, .guard⟩], some (4, false)⟩ (.agg #[.slice a1 ni k1, .slice a2 nc k2]) (yieldsIf_load_mid (by rfl) 27 _ rfl X 0 rfl [.slice a1 ni k1, .slice a2 nc k2] _ (fun W hW => box_rng ((hW.block X (by omega)).trans BX13.out)) Tryz.underlying27 rfl infoCode9) hS1 ?_
  try simp only [Act.put, List.setIfInBounds_toArray, List.set_cons_zero, List.set_cons_succ]
  refine wpAnyH_ready (rs := [7]) (by kernel_rfl) (by simp) ?_
  refine AllReadyH.cons (o := ⟨some 71, .call { callee := .value (.func 10), args := #[.tmp 69, .tmp 70], argTypes := #[27, 27] }, 4, "law.go:115", #[⟨5, .data⟩, ⟨6, .data⟩, ⟨4, .chain⟩, ⟨4, .guard⟩], some (4, false)⟩) rfl (fun K hK => ?_) AllReadyH.nil
  refine wanted_wp10 (by rfl) ?_
  go_simp
  go_at_call 10
  with_reducible refine (eq17_any w14 (ZA.out.kept hS1) (QA.out.kept hS1) hS1.size hS1.size).mono ?_
  rintro e w15 ⟨rfl, bn⟩
  rw [EqB_self]
  refine hK.out _ _ (hS1.trans (bn.mono hS1.size)) (fun hS1 => ?_)
  clear hK K bn
  try simp only [Act.put, List.setIfInBounds_toArray, List.set_cons_zero, List.set_cons_succ]
  refine wpV 8 ⟨some 72, .unOp Go.UnOp.not 4 (.tmp 71), 4, "law.go:115", #[⟨7, .data⟩, ⟨4, .guard⟩], some (4, false)⟩ (.bool false) hS1 ?_
  try simp only [Act.put, List.setIfInBounds_toArray, List.set_cons_zero, List.set_cons_succ]
  refine wpV 9 ⟨some 73, .pick (.tmp 68) (.const (Go.Value.bool true)) (.tmp 72), 4, "law.go:115", #[⟨4, .data⟩, ⟨8, .data⟩], none⟩ (.bool false) hS1 ?_
  try simp only [Act.put, List.setIfInBounds_toArray, List.set_cons_zero, List.set_cons_succ]
  refine wpV 10 ⟨some 74, .move (.tmp 73), 4, "law.go:115", #[⟨9, .data⟩, ⟨7, .chain⟩], none⟩ (.bool false) hS1 ?_
  try simp only [Act.put, List.setIfInBounds_toArray, List.set_cons_zero, List.set_cons_succ]
  refine wpT 11 ⟨some 75, .load 34 (.tmp 8), 34, "law.go:115", #[⟨10, .guard⟩], some (10, false)⟩ (.agg #[.int .i64 h'.kind, .int .i64 h'.op, .int .i64 h'.num, .string ⟨h'.text.toArray⟩, .int .i64 h'.ref.row, .int .i64 h'.ref.col, .bool h'.ref.pr, .bool h'.ref.pc, .int .i64 h'.to.row, .int .i64 h'.to.col, .bool h'.to.pr, .bool h'.to.pc, .int .i64 h'.fn, .slice ta tl tc]) (yieldsIf_load_mid (by rfl) 34 _ rfl T 0 rfl [.int .i64 h'.kind, .int .i64 h'.op, .int .i64 h'.num, .string ⟨h'.text.toArray⟩, .int .i64 h'.ref.row, .int .i64 h'.ref.col, .bool h'.ref.pr, .bool h'.ref.pc, .int .i64 h'.to.row, .int .i64 h'.to.col, .bool h'.to.pr, .bool h'.to.pc, .int .i64 h'.fn, .slice ta tl tc] _ (fun W hW => box_rng ((hW.block T (by omega)).trans BT13.out)) Tryz.underlying34 rfl infoExprS) hS1 ?_
  try simp only [Act.put, List.setIfInBounds_toArray, List.set_cons_zero, List.set_cons_succ]
  refine wpV 12 ⟨some 76, .move (.tmp 0), 22, "law.go:115", #[⟨10, .guard⟩], some (10, false)⟩ (.slice (some ⟨b1, off, none⟩) len cap) hS1 ?_
  try simp only [Act.put, List.setIfInBounds_toArray, List.set_cons_zero, List.set_cons_succ]
  refine wpV 13 ⟨some 77, .move (.tmp 5), 3, "law.go:115", #[⟨10, .guard⟩], some (10, false)⟩ (.int .i64 j) hS1 ?_
  try simp only [Act.put, List.setIfInBounds_toArray, List.set_cons_zero, List.set_cons_succ]
  refine wpV 14 ⟨some 78, .indexAddr 22 (.tmp 76) (.tmp 77), 0, "law.go:115", #[⟨12, .data⟩, ⟨13, .data⟩, ⟨10, .guard⟩], some (10, false)⟩ (.pointer (some ⟨b1, off + j * 14, none⟩)) hS1 ?_
  try simp only [Act.put, List.setIfInBounds_toArray, List.set_cons_zero, List.set_cons_succ]
  refine wpT 15 ⟨some 79, .load 34 (.tmp 78), 34, "law.go:115", #[⟨14, .data⟩, ⟨10, .guard⟩], some (10, false)⟩ (.agg #[.int .i64 h'.kind, .int .i64 h'.op, .int .i64 h'.num, .string ⟨h'.text.toArray⟩, .int .i64 h'.ref.row, .int .i64 h'.ref.col, .bool h'.ref.pr, .bool h'.ref.pc, .int .i64 h'.to.row, .int .i64 h'.to.col, .bool h'.to.pr, .bool h'.to.pc, .int .i64 h'.fn, .slice ka' kl' kc']) (yieldsIf_load_mid (by rfl) 34 _ rfl b1 (off + j * 14) rfl [.int .i64 h'.kind, .int .i64 h'.op, .int .i64 h'.num, .string ⟨h'.text.toArray⟩, .int .i64 h'.ref.row, .int .i64 h'.ref.col, .bool h'.ref.pr, .bool h'.ref.pc, .int .i64 h'.to.row, .int .i64 h'.to.col, .bool h'.to.pr, .bool h'.to.pc, .int .i64 h'.fn, .slice ka' kl' kc'] _ (fun W hW => fun q x hx => (World.cell?_of_block (a := ⟨b1, off + j * 14 + q, none⟩) (hW.block b1 (by omega))).trans (ND13.out.2 q x hx)) Tryz.underlying34 rfl infoExprS) hS1 ?_
  try simp only [Act.put, List.setIfInBounds_toArray, List.set_cons_zero, List.set_cons_succ]
  refine wpAnyH_ready (rs := [16]) (by kernel_rfl) (by simp) ?_
  refine AllReadyH.cons (o := ⟨some 80, .call { callee := .value (.func 15), args := #[.tmp 75, .tmp 79], argTypes := #[34, 34] }, 4, "law.go:115", #[⟨11, .data⟩, ⟨15, .data⟩, ⟨10, .chain⟩, ⟨10, .guard⟩], some (10, false)⟩) rfl (fun K hK => ?_) AllReadyH.nil
  refine wanted_wp10 (by rfl) ?_
  go_simp
  go_at_call 15
  have re := refEq_any h' k'
  unfold REq at re
  with_reducible refine (re h' k' w15 w13.heap.size w.heap.size ta ka' tl tc kl' kc' hS1.size (Nat.le_trans hb13 hS1.size) (TT13.out.kept hS1 (Nat.le_refl _)) (TO13.out.kept hS1 hb13)).mono ?_
  rintro e w16 ⟨rfl, bn⟩
  rw [same_self]
  clear re
  refine hK.out _ _ (hS1.trans (bn.mono hS1.size)) (fun hS1 => ?_)
  clear hK K bn
  try simp only [Act.put, List.setIfInBounds_toArray, List.set_cons_zero, List.set_cons_succ]
  refine wpV 17 ⟨some 81, .unOp Go.UnOp.not 4 (.tmp 80), 4, "law.go:115", #[⟨16, .data⟩, ⟨10, .guard⟩], some (10, false)⟩ (.bool false) hS1 ?_
  try simp only [Act.put, List.setIfInBounds_toArray, List.set_cons_zero, List.set_cons_succ]
  refine wpV 18 ⟨some 82, .pick (.tmp 74) (.const (Go.Value.bool true)) (.tmp 81), 4, "law.go:115", #[⟨10, .data⟩, ⟨17, .data⟩], none⟩ (.bool false) hS1 ?_
  try simp only [Act.put, List.setIfInBounds_toArray, List.set_cons_zero, List.set_cons_succ]
  refine wpAnyH_done (by kernel_rfl) ?_ _
  refine NoPanic.normal ?_
  have hs16 : w13.heap.size ≤ w16.heap.size := hS1.size
  have B16 := Lib.hid (B13.out.trans (hS1.mono (by omega)))
  have F16 := Lib.hid (F13.out.below (hS1.mono (by omega)))
  have Q16 := Lib.hid (Q13.out.keep (W' := w16) fun x _ hx => hS1.block x (by omega))
  have Y16 := Lib.hid (Y13.out.keep (W' := w16) fun x _ hx => hS1.block x (by omega))
  have Z16 := Lib.hid (Z13.out.keep (W' := w16) fun x _ hx => hS1.block x (by omega))
  have BX16 := Lib.hid (blk_below8 hS1 BX13.out)
  have BZ16 := Lib.hid (blk_below8 hS1 BZ13.out)
  have BU16 := Lib.hid (blk_below8 hS1 BU13.out)
  clear hS1 B13 F13 Q13 Y13 Z13 BX13 BT13 BZ13 BU13 TT13 TO13 ND13 YA ZA QA
  obtain ⟨aK, cK, rfl⟩ := F16.out.rk.slice9
  obtain ⟨aW, cW, rfl⟩ := F16.out.rw.slice9
  obtain ⟨n2, hn2⟩ : ∃ n2, K.length = n2 := ⟨_, rfl⟩
  have HN2 := Lib.hid hn2
  have RK := Lib.hid F16.out.rk
  have RW := Lib.hid F16.out.rw
  rw [hn2] at hK2 RK RW F16 ⊢
  clear hn2
  have cx0 : w16.cell? ⟨X, 0, none⟩ = some (.slice a1 ni k1) := (cells_of_block BX16.out 0).trans rfl
  have cx1 : w16.cell? ⟨X, 1, none⟩ = some (.slice a2 nc k2) := (cells_of_block BX16.out 1).trans rfl
  have cz0 : w16.cell? ⟨Z, 0, none⟩ = some (.slice a5 ni k5) := (cells_of_block BZ16.out 0).trans rfl
  have cz1 : w16.cell? ⟨Z, 1, none⟩ = some (.slice a6 nc k6) := (cells_of_block BZ16.out 1).trans rfl
  have cu0 : w16.cell? ⟨U, 0, none⟩ = some (.slice a7 ni k7) := (cells_of_block BU16.out 0).trans rfl
  have cu1 : w16.cell? ⟨U, 1, none⟩ = some (.slice a8 nc k8) := (cells_of_block BU16.out 1).trans rfl
  have lx : X < w16.heap.size := lt_of_block BX16.out
  have lz : Z < w16.heap.size := lt_of_block BZ16.out
  have lu : U < w16.heap.size := lt_of_block BU16.out
  have hX3 : w0.heap.size ≤ X := by omega
  go_wp2_with (at_builtin; refine wpList_append_own_at _ rfl _ _ 39 rfl w.heap.size 27 iC _ 2 48 Tryz.underlying39 hiC hz0 hz1 hz2 rfl (by decide) (.slice aK n2 cK) n2 (cellsK K) rfl (RK.out.alloc _) ⟨w16.heap.size, 0, none⟩ 2 2 [.slice a5 ni k5, .slice a6 nc k6, .slice a7 ni k7, .slice a8 nc k8] rfl rfl (World.news_of_block (heap_alloc_new w16 _)) (by simp [Value.oneCell']) (by unfold maxLen; omega) (by omega) (by simp; omega) ?_)
  intro vK' w17 hown17 hgrow17 _ hloc17
  have gs := grow_same9 hgrow17
  have okk := F16.out.okk; have okw := F16.out.okw
  have hlw0 : w0.heap.size ≤ w16.heap.size := F16.out.le
  have hz17 : w16.heap.size + 1 ≤ w17.heap.size := by have := hgrow17.size; simpa using this
  have BX17 := Lib.hid ((gs X lx (fun e => by have := (okk X e).1; omega)).trans BX16.out)
  have RW17 := Lib.hid (own_row9 RW.out fun x hx => gs x (by have := (okw x hx).1; omega) (fun e => F16.out.ne x e hx))
  have B17 := Lib.hid ((ext_alloc_at B16.out).grown hgrow17 (by simp; omega) (fun x hx => (RK.out.lt x hx).1))
  have G17 := Lib.hid hgrow17; have L17 := Lib.hid hloc17; have O17 := Lib.hid hown17
  clear cx0 cx1 cz0 cz1 cu0 cu1 lz lu okk okw gs hgrow17 hloc17 hown17
  have cx0 : w17.cell? ⟨X, 0, none⟩ = some (.slice a1 ni k1) := (cells_of_block BX17.out 0).trans rfl
  have cx1 : w17.cell? ⟨X, 1, none⟩ = some (.slice a2 nc k2) := (cells_of_block BX17.out 1).trans rfl
  have lx17 : X < w17.heap.size := lt_of_block BX17.out
  go_wp2_with (at_builtin; refine wpList_append_own_at _ rfl _ _ 39 rfl w.heap.size 27 iC _ 2 48 Tryz.underlying39 hiC hz0 hz1 hz2 rfl (by decide) (.slice aW n2 cW) n2 (cellsW K) rfl (RW17.out.alloc _) ⟨w17.heap.size, 0, none⟩ 2 2 [.slice a1 ni k1, .slice a2 nc k2, .slice a1 ni k1, .slice a2 nc k2] rfl rfl (World.news_of_block (heap_alloc_new w17 _)) (by simp [Value.oneCell']) (by unfold maxLen; omega) (by omega) (by simp; omega) ?_)
  intro vW' w18 hown18 hgrow18 _ hloc18
  have hz18 : w17.heap.size + 1 ≤ w18.heap.size := by have := hgrow18.size; simpa using this
  have B18 := Lib.hid ((ext_alloc_at B17.out).grown hgrow18 (by simp; omega) (fun x hx => (RW17.out.lt x hx).1))
  have gs1 := grow_same9 G17.out
  have gs2 := grow_same9 hgrow18
  have FS := Lib.hid (F16.out.push (W2 := w18) (vK' := vK') (vW' := vW') (e1 := ⟨.slice a5 ni k5, .slice a6 nc k6, .slice a1 ni k1, .slice a2 nc k2, w7.heap.size, w8.heap.size, w0.heap.size, w2.heap.size, h', k'⟩) (e2 := ⟨.slice a7 ni k7, .slice a8 nc k8, .slice a1 ni k1, .slice a2 nc k2, w11.heap.size, w12.heap.size, w0.heap.size, w2.heap.size, h', k'⟩)
   ⟨⟨HME.out, Y16.out, Q16.out⟩, by show w0.heap.size ≤ w7.heap.size; omega, by show w8.heap.size ≤ w16.heap.size; omega, Nat.le_refl _, by show w2.heap.size ≤ w16.heap.size; omega⟩
   ⟨⟨HME.out, Z16.out, Q16.out⟩, by show w0.heap.size ≤ w11.heap.size; omega, by show w12.heap.size ≤ w16.heap.size; omega, Nat.le_refl _, by show w2.heap.size ≤ w16.heap.size; omega⟩
   (by show w8.heap.size ≤ w11.heap.size; omega) (by show w2.heap.size ≤ w7.heap.size; omega) (by show w2.heap.size ≤ w11.heap.size; omega) (by show w2.heap.size ≤ w7.heap.size; omega) (by show w2.heap.size ≤ w11.heap.size; omega)
   (by
     rw [HN2.out]
     refine own_row9 O17.out fun x hx => gs2 x (O17.out.lt x hx).2 (fun e => ?_)
     rcases L17.out with q | q
     ·exact F16.out.ne x (q ▸ hx) e
     ·rw [q] at hx
      cases hx
      have := (F16.out.okw _ e).1
      try simp at this
      omega)
   (by rw [HN2.out]; exact hown18) (by omega) (fun x hx h1 h2 => (gs2 x (by omega) h2).trans (gs1 x hx h1))
   (L17.out.imp id fun q => ⟨_, q, by first | omega | (simp; done) | (simp; omega)⟩) (hloc18.imp id fun q => ⟨_, q, by first | omega | (simp; done) | (simp; omega)⟩)
   (fun x hx e => by
     rcases hloc18 with q | q
     ·rcases L17.out with r | r
      ·exact F16.out.ne x (r ▸ hx) (q ▸ e)
      ·rw [r] at hx
       cases hx
       have := (F16.out.okw _ (q ▸ e)).1
       try simp at this
       omega
     ·have h9 := (O17.out.lt x hx).2
      rw [q] at e
      cases e
      try simp at h9
      omega))
  have hK3 : (K ++ [(⟨.slice a5 ni k5, .slice a6 nc k6, .slice a1 ni k1, .slice a2 nc k2, w7.heap.size, w8.heap.size, w0.heap.size, w2.heap.size, h', k'⟩ : Ent), ⟨.slice a7 ni k7, .slice a8 nc k8, .slice a1 ni k1, .slice a2 nc k2, w11.heap.size, w12.heap.size, w0.heap.size, w2.heap.size, h', k'⟩]).length ≤ 2 * (j + 1) := by
   rw [List.length_append, HN2.out]
   simp only [List.length_cons, List.length_nil]
   omega
  have HK3 := Lib.hid hK3
  clear gs1 gs2 hgrow18 hloc18 hown18 hK3 cx0 cx1
  go_wp2
  go_roundw
  case rel => exact ⟨j + 1, r', _, by go_num, (by have := HJ.out; omega), HR.out, by omega, HK3.out, FS, B18⟩
  case measure => simp [RowKit.intOf]; omega
end Go.Proofs.YtlmpiobdgkmmgaaGreatDoor
