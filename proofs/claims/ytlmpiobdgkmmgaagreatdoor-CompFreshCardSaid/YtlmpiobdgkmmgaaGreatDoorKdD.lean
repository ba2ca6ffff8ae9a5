/- Code: numbers, tables. -/
import Derived.Test.YtlmpiobdgkmmgaaGreatDoorKdC
import Derived.Laws.OwnMore
set_option maxRecDepth 1000000
set_option maxHeartbeats 16000000
namespace Go.Proofs.YtlmpiobdgkmmgaaGreatDoor
open Go.RowKit Go.Lib
theorem infoExit : (Tryz.prog.info? 92).map (fun i => (i.zero, i.size, i.bytes)) = some (some (.agg #[.int .i64 0, .slice none 0 0]), 2, 32) := by kernel_rfl
def constS (s : List Int) (n kd : Int) : Option Exits := some [(n + 1, withS s 0 [if kd = 4 then 69 else 86])]
theorem const_any {b g o : Nat} {p : PI} {tv v : Value} {Q : Nat → Prop} {s : List Int} (n : Int) (W : World) (hp : InP W b g o p tv) (hb : b ≤ W.heap.size) (hs : St Q W v s) (hQ : ∀ x, W.heap.size ≤ x → Q x) (hsl : s.length ≤ 2000) (hn : 0 ≤ n ∧ n ≤ 100000) {cs : List PV} {cv : Value} {Bc bc : Nat} (hc : CoL W bc cv cs) (hB : W.cell? ⟨Bc, 0, none⟩ = some cv) (hlo : 0 ≤ p.a) (hhi : p.a ≤ (cs.length : Int) - 1) : Calls Tryz.prog 73 #[.pointer (some ⟨g, o, none⟩), .int .i64 n, v, .pointer (some ⟨Bc, 0, none⟩)] W (StepPost Q W (some [(n + 1, withS s 0 [if kindC cs p.a = 4 then 69 else 86])])) := by
 have HP := Lib.hid hp; have HS := Lib.hid hs; have HQ := Lib.hid hQ
 have hgl := hp.lt
 have hg1 : g < W.heap.size := by omega
 obtain ⟨hn1, hn2⟩ := hn
 obtain ⟨a, kc, rfl, -⟩ := hs
 obtain ⟨ns, hns⟩ : ∃ ns, s.length = ns := ⟨_, rfl⟩
 rw [hns] at hsl ⊢
 have HN := Lib.hid hns
 clear hp hns hQ
 have c1 := HP.out.c1
 obtain ⟨m, hm⟩ : ∃ m : Nat, p.a = (m : Int) := ⟨p.a.toNat, by omega⟩
 rw [hm] at c1 hlo hhi ⊢
 obtain ⟨gc, hgc⟩ : ∃ gc, cs[m]? = some gc := ⟨_, List.getElem?_eq_getElem (by omega)⟩
 have hk : kindC cs (m : Int) = gc.kind := by unfold kindC; rw [Int.toNat_natCast, hgc]
 rw [hk]
 obtain ⟨ca, ck, rfl, rc⟩ := hc
 obtain ⟨G, off, rfl, -, cc⟩ := rc (by omega)
 have c0 := (cc m gc hgc).1
 have hml : m < cs.length := by omega
 obtain ⟨nc, hnc⟩ : ∃ nc, cs.length = nc := ⟨_, rfl⟩
 rw [hnc] at hml hB
 obtain ⟨kd, hkd⟩ : ∃ kd, gc.kind = kd := ⟨_, rfl⟩
 rw [hkd] at c0 ⊢
 have hs1 := HS.out
 rw [HN.out] at hs1
 have HS := Lib.hid hs1
 have HR : Hid (∀ z : Int, (if kd = 4 then (69 : Int) else 86) = z → some [(n + 1, withS s 0 [if kd = 4 then (69 : Int) else 86])] = some [(n + 1, withS s 0 [z])]) := Lib.hid fun z hz => by rw [hz]
 have HCF : Hid (constS s n kd = some [(n + 1, withS s 0 [if kd = 4 then (69 : Int) else 86])]) := Lib.hid rfl
 clear hm hk rc cc hgc hnc hkd hlo hhi hs1
 change Calls Tryz.prog 73 _ W (StepPost Q W (constS s n kd))
 by_cases hq : kd = 4
 ·subst hq
  go_enter Tryz.func73, Tryz.ntmps73
  go_upto_region 2 with (fail)
  go_quiet (fail)
  generalize hwd : World.drewN _ _ = wd
  have BB := Lib.hid (show Below W.heap.size W wd by rw [← hwd]; exact below_dN _ _ _)
  have HS := Lib.hid (HS.out.below BB.out)
  clear hwd c0 c1 hB
  have HR2 := Lib.hid (HCF.out.trans (HR.out 69 (if_pos rfl)))
  clear HR HCF
  go_wp2_with fail
  refine (with_lit (s := s) (l := [69]) 0 _ _ rfl (HS.out.below (ext_alloc (Below.refl _ _) _)) (lit1 (w := wd) (Q := fun _ => True) 69 fun _ _ => trivial) (by rw [HN.out]; omega) (by simp) (by rw [HN.out]; omega)).mono ?_
  rintro e w2 ⟨v2, rfl, t2, b2⟩
  have B2 := ext_trans (ext_alloc BB.out (.cells #[.int .u8 69] 96)) b2
  have E := Lib.hid (step1 (Q := Q) (W := W) (n := n) rfl (t2.up (by have := BB.out.size; simp; omega) HQ.out) (HQ.out _ B2.size) B2)
  obtain ⟨a2, n2, k2, rfl⟩ := t2.form
  clear t2 b2 B2
  go_wp2_with fail
  go_ret2
  exact StepPost.yes HR2.out E.out.1 E.out.2
 ·have hqd : decide (kd = 4) = false := decide_eq_false hq
  go_enter Tryz.func73, Tryz.ntmps73
  go_upto_region 2 with (fail)
  go_quiet (fail)
  generalize hwd : World.drewN _ _ = wd
  have BB := Lib.hid (show Below W.heap.size W wd by rw [← hwd]; exact below_dN _ _ _)
  have HS := Lib.hid (HS.out.below BB.out)
  clear hwd c0 c1 hB
  have HR2 := Lib.hid (HCF.out.trans (HR.out 86 (if_neg hq)))
  clear HR HCF
  go_wp2_with fail
  refine (with_lit (s := s) (l := [86]) 0 _ _ rfl (HS.out.below (ext_alloc (Below.refl _ _) _)) (lit1 (w := wd) (Q := fun _ => True) 86 fun _ _ => trivial) (by rw [HN.out]; omega) (by simp) (by rw [HN.out]; omega)).mono ?_
  rintro e w2 ⟨v2, rfl, t2, b2⟩
  have B2 := ext_trans (ext_alloc BB.out (.cells #[.int .u8 86] 96)) b2
  have E := Lib.hid (step1 (Q := Q) (W := W) (n := n) rfl (t2.up (by have := BB.out.size; simp; omega) HQ.out) (HQ.out _ B2.size) B2)
  obtain ⟨a2, n2, k2, rfl⟩ := t2.form
  clear t2 b2 B2
  go_wp2_with fail
  go_ret2
  exact StepPost.yes HR2.out E.out.1 E.out.2
theorem infoParts9 {e : TypeId} {z : Value} {sz by_ : Nat} (h : (Tryz.prog.info? e).map (fun i => (i.zero, i.size, i.bytes)) = some (some z, sz, by_)) : ∃ i, Tryz.prog.info? e = some i ∧ i.zero = some z ∧ i.size = sz ∧ i.bytes = by_ := by
 rcases q : Tryz.prog.info? e with _ | i
 ·rw [q] at h; simp at h
 ·rw [q] at h
  simp only [Option.map_some, Option.some.injEq, Prod.mk.injEq] at h
  exact ⟨i, rfl, h.1, h.2.1, h.2.2⟩
theorem ExL.ofRow {Q : Nat → Prop} {W : World} {b n : Nat} {v : Value} {l : List (Int × Value × List Int)} (h : W.ownsRow b 92 2 v n (exC l)) (h0 : 0 < n) (hn : n = l.length) (hq : ∀ g, b ≤ g → Q g) (hs : ∀ t ∈ l, St Q W t.2.1 t.2.2) : ExL Q W v (exO l) := by
 rcases h.2 with ⟨-, h1⟩ | ⟨g, cap, cur, e1, hb, hg, -⟩
 ·omega
 ·subst e1
  refine ExL.mk_ (by rw [hn]) (hq g hb) (lt_of_block hg) (fun j u hj => ?_) hs
  have := World.ownsRow.cells h (g := g) rfl j u hj
  rw [← this]
  congr 1
  simp [Addr.add]
theorem _root_.Go.World.ownsRow.belowZ {w w' : World} {b0 z n : Nat} {e : TypeId} {v : Value} {xs : List Value} (h : w.ownsRow b0 e z v n xs) (b : Below w.heap.size w w') : w'.ownsRow b0 e z v n xs := by
 rcases h.2 with ⟨e1, h0⟩ | ⟨g, cap, cur, e1, hb, hg, r⟩
 ·exact ⟨h.1, .inl ⟨e1, h0⟩⟩
 ·exact ⟨h.1, .inr ⟨g, cap, cur, e1, hb, (b.block g (lt_of_block hg)).trans hg, r⟩⟩
theorem newsC (w : World) (l : List Value) (T : TypeId) : ∀ (j : Nat) (u : Value), l[j]? = some u → (w.alloc (.cells l.toArray T)).cell? ((⟨w.heap.size, 0, none⟩ : Addr).add j) = some u := by
 intro j u hj
 rw [Addr.add_lit, World.cell?_alloc_at _ _ _ _ rfl, List.getElem?_toArray, Nat.zero_add]
 exact hj
theorem exC_app (l : List (Int × Value × List Int)) (x : Int) (v : Value) (s : List Int) : exC (l ++ [(x, v, s)]) = exC l ++ [Value.int .i64 x, v] := by simp [exC]
theorem exO_app (l : List (Int × Value × List Int)) (x : Int) (v : Value) (s : List Int) : exO (l ++ [(x, v, s)]) = exO l ++ [(x, s)] := by simp [exO]
theorem choose_any {b g o : Nat} {p : PI} {tv v : Value} {Q : Nat → Prop} {s : List Int} (n : Int) (W : World) (hp : InP W b g o p tv) (hb : b ≤ W.heap.size) (hs : St Q W v s) (hQ : ∀ x, W.heap.size ≤ x → Q x) (hsl : s.length ≤ 2000) (hn : 0 ≤ n ∧ n ≤ 100000) (ht : p.t.length ≤ 10000) : Calls Tryz.prog 116 #[.pointer (some ⟨g, o, none⟩), .int .i64 n, v] W (StepPost Q W (chooseS p s)) := by
 have HP := Lib.hid hp; have HS := Lib.hid hs; have HQ := Lib.hid hQ
 have hgl := hp.lt
 have hg1 : g < W.heap.size := by omega
 obtain ⟨hn1, hn2⟩ := hn
 obtain ⟨a, kc, rfl, -⟩ := hs
 obtain ⟨ns, hns⟩ : ∃ ns, s.length = ns := ⟨_, rfl⟩
 rw [hns] at hsl ⊢
 have HN := Lib.hid hns
 obtain ⟨ta, tk, rfl, -⟩ := id HP.out.t
 obtain ⟨tl, htl⟩ : ∃ tl, p.t = tl := ⟨_, rfl⟩
 obtain ⟨nt, hnt⟩ : ∃ nt, tl.length = nt := ⟨_, rfl⟩
 have HTI : Hid (InsT W b (.slice ta nt tk) tl) := Lib.hid (by rw [← hnt, ← htl]; exact HP.out.t)
 have C5 := Lib.hid HP.out.c5
 rw [htl] at ht
 rw [htl, hnt] at C5
 rw [hnt] at ht
 have HNT := Lib.hid hnt
 clear hp hns hQ
 have HW : ∀ r : Option Exits, (if endsS s [86] = true then some ((p.a, withS s 1 [69]) :: p.t.map fun x => (x, withS s 1 [])) else none) = r → Hid (chooseS p s = r) := fun r h => Lib.hid h
 try rw [HN.out] at HW
 rw [htl] at HW
 clear htl hnt
 obtain ⟨x, hx⟩ : ∃ x, p.a = x := ⟨_, rfl⟩
 obtain ⟨y, hy⟩ : ∃ y, p.b = y := ⟨_, rfl⟩
 have c1 := HP.out.c1; have c2 := HP.out.c2
 rw [hx] at c1
 rw [hy] at c2
 try rw [hx]
 try rw [hy]
 try rw [hx] at HW
 try rw [hy] at HW
 clear hx hy
 have hs1 := HS.out
 rw [HN.out] at hs1
 have HS := Lib.hid hs1
 clear hs1
 have HS0 := HS
 obtain ⟨i0, hi, hz0, hz1, hz2⟩ := infoParts9 infoExit
 go_enter Tryz.func116, Tryz.ntmps116
 go_wp2_with fail
 refine (ends_any _ (s := s) (l := [86]) (HS.out.below (ext_alloc (Below.refl W.heap.size W) (.cells #[.int .u8 86] 96))) (lit1 (w := W) (Q := fun _ => True) 86 fun _ _ => trivial) (by rw [HN.out]; omega) (by simp)).mono ?_
 rintro e w' ⟨rfl, rfl⟩
 have BB := Lib.hid (ext_alloc (Below.refl W.heap.size W) (.cells #[.int .u8 86] 96))
 have HS := Lib.hid (HS.out.below (ext_alloc (Below.refl W.heap.size W) (.cells #[.int .u8 86] 96)))
 have hgc : g < (W.alloc (.cells #[.int .u8 86] 96)).heap.size := by simp; omega
 have hgb : (W.alloc (.cells #[.int .u8 86] 96)).heap[g]? = W.heap[g]? := Below.heap_alloc _ _ _ hg1
 generalize W.alloc (.cells #[.int .u8 86] 96) = w0 at BB HS hgc hgb ⊢
 have c1 := (World.cell?_of_block (a := ⟨g, o + 1, none⟩) hgb).trans c1
 have c2 := (World.cell?_of_block (a := ⟨g, o + 2, none⟩) hgb).trans c2
 cases he : endsS s [86]
 ·have HR := HW none (by rw [he]; rfl)
  clear HW
  clear he
  go_wp2_with fail
  go_ret2
  exact StepPost.no HR.out BB.out
 ·have hle := ends_le he
  rw [HN.out] at hle
  simp only [List.length_cons, List.length_nil] at hle
  have HR := HW (some ((x, withS s 1 [69]) :: tl.map fun x => (x, withS s 1 []))) (by rw [he]; rfl)
  clear HW he hgb
  go_upto_region 3 with (fail)
  refine wp_region_noPanic ?_
  refine wp_region_held_drew (S := fun w => w.heap[g]? = w0.heap[g]?) (by kernel_rfl) rfl (fun hS1 => ?_)
  have HS := Lib.hid (HS.out.below (Below.refl _ w0).drew)
  have BB := Lib.hid (BB.out.drew)
  have hgc : g < w0.drew.heap.size := hgc
  generalize hwd : w0.drew = wd at HS BB hgc hS1 ⊢
  clear hwd
  refine wpV 0 ⟨some 15, .move (.tmp 0), 80, "may.go:176", #[], none⟩ (.pointer (some ⟨g, o, none⟩)) hS1 ?_
  try simp only [Act.put, List.setIfInBounds_toArray, List.set_cons_zero, List.set_cons_succ]
  refine wpV 1 ⟨some 16, .nilCheck (.tmp 15), 0, "may.go:176", #[⟨0, .data⟩], none⟩ (.pointer (some ⟨g, o, none⟩)) hS1 ?_
  try simp only [Act.put, List.setIfInBounds_toArray, List.set_cons_zero, List.set_cons_succ]
  refine wpV 2 ⟨some 17, .fieldAddr 47 (.tmp 16) 1, 0, "may.go:176", #[⟨1, .data⟩], none⟩ (.pointer (some ⟨g, o + 1, none⟩)) hS1 ?_
  try simp only [Act.put, List.setIfInBounds_toArray, List.set_cons_zero, List.set_cons_succ]
  refine wpT 3 ⟨some 18, .load 3 (.tmp 17), 3, "may.go:176", #[⟨2, .data⟩], none⟩ (.int .i64 x) (Or.inl ⟨by rfl, fun W hW => by have e := (World.cell?_of_block (a := ⟨g, o + 1, none⟩) hW).trans c1; go_simp; done⟩) hS1 ?_
  try simp only [Act.put, List.setIfInBounds_toArray, List.set_cons_zero, List.set_cons_succ]
  refine wpV 4 ⟨some 19, .move (.tmp 2), 90, "may.go:176", #[], none⟩ (.slice a ns kc) hS1 ?_
  try simp only [Act.put, List.setIfInBounds_toArray, List.set_cons_zero, List.set_cons_succ]
  refine wpAnyH_ready (rs := [5]) (by kernel_rfl) (by simp) ?_
  refine AllReadyH.cons (o := ⟨some 20, .buildSlice 89 1 #[(0, .const (Go.Value.int Go.IntKind.u8 69))], 89, "may.go:176", #[], none⟩) rfl (fun K hK => ?_) ?_
  ·refine wantedC (by rfl) ?_
   go_simp
   have bE := ext_alloc (Below.refl wd.heap.size wd) (.cells #[.int .u8 69] 96)
   have tE := lit1 (w := wd) (Q := fun _ => True) 69 (fun _ _ => trivial)
   have TE := Lib.hid tE
   have HS := Lib.hid (HS.out.below bE)
   have hS2 := (bE.block g hgc).trans hS1
   have hgc : g < (wd.alloc (.cells #[.int .u8 69] 96)).heap.size := by have := bE.size; omega
   have BB := Lib.hid (ext_trans BB.out bE)
   clear tE bE
   refine hK.out _ _ hS2 (fun hS1 => ?_)
   clear hK K
   generalize wd.alloc (.cells #[.int .u8 69] 96) = wE at TE HS  hS2 hgc BB hS1 ⊢
   try simp only [Act.put, List.setIfInBounds_toArray, List.set_cons_zero, List.set_cons_succ]
   refine wpAnyH_ready (rs := [6]) (by kernel_rfl) (by simp) ?_
   refine AllReadyH.cons (o := ⟨some 21, .call { callee := .value (.func 74), args := #[.tmp 19, .const (Go.Value.int Go.IntKind.i64 1), .tmp 20], argTypes := #[90, 3, 89] }, 90, "may.go:176", #[⟨4, .data⟩, ⟨5, .data⟩], none⟩) rfl (fun K hK => ?_) ?_
   ·refine wantedC (by rfl) ?_
    go_simp
    go_at_call 74
    refine (with_lit (s := s) (l := [69]) 1 _ wE (by first | rfl | (push_cast; rfl)) HS.out TE.out (by rw [HN.out]; omega) (by simp) (by rw [HN.out]; omega)).mono ?_
    rintro e w1 ⟨v1, rfl, t1, b1⟩
    have T1 := Lib.hid (t1.up BB.out.size HQ.out)
    have HS := Lib.hid (HS.out.below b1)
    have TE := Lib.hid (TE.out.below b1)
    have hS2 := (b1.block g hgc).trans hS1
    have hgc : g < w1.heap.size := by have := b1.size; omega
    have BB := Lib.hid (ext_trans BB.out b1)
    obtain ⟨a1, n1, k1, rfl⟩ := t1.form
    clear t1 b1
    refine hK.out _ _ hS2 (fun hS1 => ?_)
    clear hK K
    try simp only [Act.put, List.setIfInBounds_toArray, List.set_cons_zero, List.set_cons_succ]
    refine wpV 7 ⟨some 22, .build 92 #[(0, .tmp 18), (1, .tmp 21)], 92, "may.go:176", #[⟨3, .data⟩, ⟨6, .data⟩], none⟩ (.agg #[.int .i64 x, .slice a1 n1 k1]) hS1 ?_
    try simp only [Act.put, List.setIfInBounds_toArray, List.set_cons_zero, List.set_cons_succ]
    refine wpAnyH_ready (rs := [8]) (by kernel_rfl) (by simp) ?_
    refine AllReadyH.cons (o := ⟨some 23, .buildSlice 83 1 #[(0, .tmp 22)], 83, "may.go:176", #[⟨7, .data⟩], none⟩) rfl (fun K hK => ?_) ?_
    ·refine wantedC (by rfl) ?_
     go_simp
     have E := Lib.hid (ExL.lit [(x, .slice a1 n1 k1, withS s 1 [69])] 92 1 rfl (HQ.out _ BB.out.size) _ rfl (fun t ht => by
      simp only [List.mem_cons, List.not_mem_nil, or_false] at ht
      rcases ht with rfl
      ·exact T1.out))
     have BZ := Lib.hid BB.out.size
     have BB := Lib.hid (ext_alloc BB.out (.cells #[.int .i64 x, .slice a1 n1 k1] 92))
     refine hK.out _ _ ((Below.heap_alloc _ _ _ hgc).trans hS1) (fun hS1 => ?_)
     clear hK K
     try simp only [Act.put, List.setIfInBounds_toArray, List.set_cons_zero, List.set_cons_succ]
     refine wpV 9 ⟨some 8, .assign (.tmp 23), 83, "may.go:176", #[⟨8, .data⟩, ⟨6, .chain⟩, ⟨0, .phase⟩, ⟨1, .phase⟩, ⟨2, .phase⟩, ⟨3, .phase⟩, ⟨4, .phase⟩, ⟨5, .phase⟩, ⟨6, .phase⟩, ⟨7, .phase⟩, ⟨8, .phase⟩], none⟩ (.slice (some ⟨w1.heap.size, 0, none⟩) 1 1) hS1 ?_
     try simp only [Act.put, List.setIfInBounds_toArray, List.set_cons_zero, List.set_cons_succ]
     refine wpAnyH_done (by kernel_rfl) ?_ _
     refine NoPanic.normal ?_
     have ROW : Hid ((w1.alloc (.cells #[.int .i64 x, .slice a1 n1 k1] 92)).ownsRow W.heap.size 92 2 (.slice (some ⟨w1.heap.size, 0, none⟩) 1 1) 1 (exC [(x, .slice a1 n1 k1, withS s 1 [69])])) := Lib.hid ⟨rfl, .inr ⟨_, 1, #[.int .i64 x, .slice a1 n1 k1], rfl, BZ.out, heap_alloc_new w1 _, Nat.le_refl _, by unfold maxLen; omega, rfl, rfl⟩⟩
     have T1 : Hid (St (fun g => Q g ∧ (Value.slice (some ⟨w1.heap.size, 0, none⟩) 1 1).ownBlock ≠ some g) (w1.alloc (.cells #[.int .i64 x, .slice a1 n1 k1] 92)) (.slice a1 n1 k1) (withS s 1 [69])) := Lib.hid (T1.out.kept (fun z hq hz => ⟨hq, fun e => by simp [Value.ownBlock] at e; omega⟩) (fun z _ hz => Below.heap_alloc _ _ _ hz) (by simp))
     have c5 := (BB.out.cell (p := ⟨g, o + 5, none⟩) hg1).trans C5.out
     have HZZ := Lib.hid BB.out.size
     clear E BZ c1 c2 hS1 hS2 HS TE
     generalize w1.alloc (.cells #[.int .i64 x, .slice a1 n1 k1] 92) = w2 at ROW T1 c5 BB HZZ hgc ⊢
     generalize (Value.slice (some ⟨w1.heap.size, 0, none⟩) 1 1) = lv0 at ROW T1 ⊢
     go_wp2_with fail
     go_loopw [29, 8] (fun iv lv wr => ∃ (j : Nat) (L : List (Int × Value × List Int)), iv = .int .i64 (j : Int) ∧ j ≤ nt ∧ Hid (L.length = j + 1) ∧ Hid (exO L = (x, withS s 1 [69]) :: (tl.take j).map fun x => (x, withS s 1 [])) ∧ Hid (wr.ownsRow W.heap.size 92 2 lv (j + 1) (exC L)) ∧ Hid (∀ t ∈ L, St (fun g => Q g ∧ lv.ownBlock ≠ some g) wr t.2.1 t.2.2) ∧ Hid (Below W.heap.size W wr)) (fun iv _ _ => nt - (intOf iv).toNat)
     case atStart => exact ⟨0, [(x, .slice a1 n1 k1, withS s 1 [69])], rfl, Nat.zero_le _, Lib.hid rfl, Lib.hid rfl, ROW, Lib.hid (fun t ht => by simp at ht; subst ht; exact T1.out), BB⟩
     case round =>
      clear ROW T1 c5 BB HZZ
      obtain ⟨j, L, rfl, hj, HLN, HE, HROW, HST, HB⟩ := hrel
      by_cases hjl : j < nt
      ·obtain ⟨y, hy⟩ : ∃ y, tl[j]? = some y := ⟨_, List.getElem?_eq_getElem (by have := HNT.out; omega)⟩
       obtain ⟨ta', tk', e1, r1⟩ := HTI.out.below HB.out hb
       simp only [Value.slice.injEq] at e1
       obtain ⟨rfl, -, rfl⟩ := e1
       obtain ⟨gt, ot, rfl, -, ct⟩ := r1 (by have := HNT.out; omega)
       have c0 := ct j y hy
       have HY := Lib.hid hy
       clear ct r1 hy
       go_wp2_with fail
       refine (with_lit (s := s) (l := []) 1 _ wr (by first | rfl | (push_cast; rfl)) (HS0.out.below HB.out) (St.nil (fun _ => True) _) (by rw [HN.out]; omega) (by simp) (by rw [HN.out]; omega)).mono ?_
       rintro e w3 ⟨v3, rfl, t3, b3⟩
       have T3 : Hid (St (fun g => Q g ∧ u8.ownBlock ≠ some g) w3 v3 (withS s 1 [])) := Lib.hid (t3.kept (fun z hz _ => ⟨HQ.out z (Nat.le_trans HB.out.size hz), fun e => by have := (World.ownsRow.lt HROW.out z e).2; omega⟩) (fun _ _ _ => rfl) (Nat.le_refl _))
       have ROW3 := Lib.hid (World.ownsRow.belowZ HROW.out b3)
       have HST3 : Hid (∀ t ∈ L, St (fun g => Q g ∧ u8.ownBlock ≠ some g) w3 t.2.1 t.2.2) := Lib.hid fun t ht => (HST.out t ht).below b3
       have B3 := Lib.hid (HB.out.trans (b3.mono HB.out.size))
       obtain ⟨a3, n3, k3, rfl⟩ := t3.form
       have HZ3 := Lib.hid B3.out.size
       clear t3 b3 HROW HST HB c0
       go_wp2_with (at_builtin; refine wpList_append_own_at _ rfl _ _ 83 rfl W.heap.size 92 i0 _ 2 32 Tryz.underlying83 hi hz0 hz1 hz2 rfl (by decide) u8 (j + 1) (exC L) rfl (World.ownsRow.alloc ROW3.out _) ⟨w3.heap.size, 0, none⟩ 1 1 [.int .i64 y, .slice a3 n3 k3] rfl rfl (newsC w3 [.int .i64 y, .slice a3 n3 k3] _) (by simp [Value.oneCell']) (by unfold maxLen; omega) (by omega) (by have := HZ3.out; simp; omega) ?_)
       rintro v4 w4 o4 g4 - hat
       have hz4 : w3.heap.size ≤ w4.heap.size := Nat.le_trans (by simp) g4.size
       have hup : ∀ {u : Value} {l : List Int}, St (fun g => Q g ∧ u8.ownBlock ≠ some g) w3 u l → St (fun g => Q g ∧ v4.ownBlock ≠ some g) w4 u l := fun h => h.kept (fun z hq hz => ⟨hq.1, fun e => by
        rcases hat with q | q
        ·exact hq.2 (by rw [← q, e])
        ·rw [q] at e; simp at e; omega⟩) (fun z hq hz => (g4.block z (by simp; omega) (fun e => hq.2 e.symm)).trans (Below.heap_alloc _ _ _ hz)) hz4
       have HST4 : Hid (∀ t ∈ L ++ [(y, Value.slice a3 n3 k3, withS s 1 [])], St (fun g => Q g ∧ v4.ownBlock ≠ some g) w4 t.2.1 t.2.2) := Lib.hid fun t ht => by
        rcases List.mem_append.1 ht with q | q
        ·exact hup (HST3.out t q)
        ·simp at q; subst q; exact hup T3.out
       have HROW4 : Hid (w4.ownsRow W.heap.size 92 2 v4 (j + 1 + 1) (exC (L ++ [(y, Value.slice a3 n3 k3, withS s 1 [])]))) := Lib.hid (by rw [exC_app]; exact o4)
       have HE4 : Hid (exO (L ++ [(y, Value.slice a3 n3 k3, withS s 1 [])]) = (x, withS s 1 [69]) :: (tl.take (j + 1)).map fun x => (x, withS s 1 [])) := Lib.hid (by
        rw [exO_app, HE.out, List.take_add_one, HY.out]
        simp)
       have HLN4 : Hid ((L ++ [(y, Value.slice a3 n3 k3, withS s 1 [])]).length = j + 1 + 1) := Lib.hid (by rw [List.length_append, HLN.out]; rfl)
       have HB4 := Lib.hid ((B3.out.alloc HZ3.out _).grown g4 (by have := HZ3.out; simp; omega) (fun k hk => (World.ownsRow.lt ROW3.out k hk).1))
       clear o4 g4 hat hup hz4 HST3 ROW3 T3 B3 HE HLN HY
       go_wp2
       exact ⟨⟨j + 1, _, by go_num, by omega, HLN4, HE4, HROW4, HST4, HB4⟩, by simp [intOf]; omega⟩
      ·have hjn : j = nt := by omega
       have HEE := Lib.hid (ExL.ofRow (Q := Q) HROW.out (Nat.succ_pos _) HLN.out.symm HQ.out (fun t ht => (HST.out t ht).kept (fun _ q _ => q.1) (fun _ _ _ => rfl) (Nat.le_refl _)))
       have HE2 := HE.out
       rw [List.take_of_length_le (by have := HNT.out; omega)] at HE2
       rw [HE2] at HEE
       clear HE2 HE HST HROW HLN
       go_wp2
       go_ret2
       exact StepPost.yes HR.out HB.out HEE.out
    exact AllReadyH.nil
   exact AllReadyH.nil
  exact AllReadyH.nil
end Go.Proofs.YtlmpiobdgkmmgaaGreatDoor
namespace Go.Proofs.YtlmpiobdgkmmgaaGreatDoor
open Go.RowKit Go.Lib
theorem setSameC {w : World} {g i : Nat} {cur : Array Value} {T : TypeId} {u : Value} (h : w.heap[g]? = some (.cells cur T (0, 0))) : (w.setCell ⟨g, i, none⟩ u).heap[g]? = some (.cells (cur.setIfInBounds i u) T (0, 0)) := by
 simp [World.setCell, Array.getElem?_modify, h]
theorem setSizeC (w : World) (p : Addr) (u : Value) : (w.setCell p u).heap.size = w.heap.size := by simp [World.setCell]
theorem heap_setCell_otherC (w : World) (g o k : Nat) (v : Value) (h : k ≠ g) : (w.setCell ⟨g, o, none⟩ v).heap[k]? = w.heap[k]? := by
 simp [World.setCell, Array.getElem?_modify, Ne.symm h]
theorem own_set1 {W : World} {b g n c i : Nat} {e : TypeId} {xs : List Value} (h : W.ownsRow b e 1 (.slice (some ⟨g, 0, none⟩) n c) n xs) (u : Value) : (W.setCell ⟨g, i, none⟩ u).ownsRow b e 1 (.slice (some ⟨g, 0, none⟩) n c) n (xs.set i u) := by
 refine ⟨by rw [List.length_set]; exact h.1, ?_⟩
 rcases h.2 with ⟨e1, -⟩ | ⟨g', c', cur, e1, hb, hg, h1, h2, h3, h4⟩
 ·cases e1
 ·simp only [Value.slice.injEq, Option.some.injEq, Addr.mk.injEq, and_true, true_and] at e1
  obtain ⟨rfl, rfl⟩ := e1
  refine .inr ⟨g, c, _, rfl, hb, setSameC hg, h1, h2, by simpa using h3, ?_⟩
  rw [Array.toList_setIfInBounds, List.take_set, h4]
theorem own_frz1 {W : World} {b g n c : Nat} {e : TypeId} {xs : List Value} (h : W.ownsRow b e 1 (.slice (some ⟨g, 0, none⟩) n c) n xs) : ∀ o, W.frozen? ⟨g, o, none⟩ = false := by
 rcases h.2 with ⟨e1, -⟩ | ⟨g', c', cur, e1, hb, hg, h1, h2, h3, h4⟩
 ·cases e1
 ·simp only [Value.slice.injEq, Option.some.injEq, Addr.mk.injEq, and_true, true_and] at e1
  obtain ⟨rfl, rfl⟩ := e1
  intro o
  simp [World.frozen?, hg]
theorem own_formC {w : World} {b n z : Nat} {e : TypeId} {v : Value} {xs : List Value} (h : w.ownsRow b e z v n xs) (h0 : 0 < n) : ∃ g cap, v = .slice (some ⟨g, 0, none⟩) n cap ∧ b ≤ g ∧ g < w.heap.size := by
 rcases h.2 with ⟨-, h1⟩ | ⟨g, cap, cur, e1, hb, hg, -⟩
 ·omega
 ·exact ⟨g, cap, e1, hb, lt_of_block hg⟩
theorem drop_step {a dn : List Int} {j : Nat} {x : Int} (hx : a[j]? = some x) : dn ++ a.drop j = (dn ++ [x]) ++ a.drop (j + 1) := by
 obtain ⟨h1, rfl⟩ := List.getElem?_eq_some_iff.1 hx
 rw [List.drop_eq_getElem_cons h1]
 simp
theorem soV_set {a dn : List Int} {j : Nat} {x y : Int} (hd : dn.length = j) (hx : a[j]? = some x) : (soV (dn ++ a.drop j)).set j (.int .u8 y) = soV ((dn ++ [y]) ++ a.drop (j + 1)) := by
 subst hd
 obtain ⟨h1, e⟩ := List.getElem?_eq_some_iff.1 hx
 rw [List.drop_eq_getElem_cons h1]
 simp only [soV, List.map_append, List.map_cons, List.append_assoc, List.singleton_append]
 rw [List.set_append_right _ _ (by rw [List.length_map]; exact Nat.le_refl _), List.length_map, Nat.sub_self]
 rfl
def MeetPost (W : World) (r : Option (List Int)) (e : Ending) (w' : World) : Prop :=
 Below W.heap.size W w' ∧ match r with
  | none => e = .returned (.tuple #[.slice none 0 0, .bool false])
  | some l => ∃ v, e = .returned (.tuple #[v, .bool true]) ∧ St (fun g => W.heap.size ≤ g) w' v l
theorem MeetPost.no {W w' : World} {r : Option (List Int)} (h : r = none) (b : Below W.heap.size W w') : MeetPost W r (.returned (.tuple #[.slice none 0 0, .bool false])) w' := ⟨b, by subst h; rfl⟩
theorem MeetPost.yes {W w' : World} {r : Option (List Int)} {l : List Int} {v : Value} (h : r = some l) (b : Below W.heap.size W w') (e : St (fun g => W.heap.size ≤ g) w' v l) : MeetPost W r (.returned (.tuple #[v, .bool true])) w' := ⟨b, by subst h; exact ⟨v, rfl, e⟩⟩
theorem meetS_len : ∀ (a b : List Int), a.length ≠ b.length → meetS a b = none
 | [], [], h => absurd rfl h
 | [], _ :: _, _ => rfl
 | _ :: _, [], _ => rfl
 | x :: r, y :: q, h => by
  have := meetS_len r q (by simpa using h)
  unfold meetS
  rw [this]
  split
  ·rfl
  ·split <;> rfl
theorem meetS_step {a b : List Int} {j : Nat} {x y : Int} (hx : a[j]? = some x) (hy : b[j]? = some y) : meetS (a.drop j) (b.drop j) = if x = 69 then (meetS (a.drop (j + 1)) (b.drop (j + 1))).map (y :: ·) else if y ≠ 69 ∧ y ≠ x then none else (meetS (a.drop (j + 1)) (b.drop (j + 1))).map (x :: ·) := by
 obtain ⟨h1, rfl⟩ := List.getElem?_eq_some_iff.1 hx
 obtain ⟨h2, rfl⟩ := List.getElem?_eq_some_iff.1 hy
 rw [List.drop_eq_getElem_cons h1, List.drop_eq_getElem_cons h2]
 rfl
theorem meetS_end (a b : List Int) : meetS (a.drop a.length) (b.drop a.length) = if b.length ≤ a.length then some [] else none := by
 rw [List.drop_eq_nil_of_le (Nat.le_refl _)]
 split
 ·rename_i h
  rw [List.drop_eq_nil_of_le h]; rfl
 ·rename_i h
  have : 0 < (b.drop a.length).length := by rw [List.length_drop]; omega
  cases hb : b.drop a.length with
  | nil => rw [hb] at this; simp at this
  | cons y q => rfl
theorem meet_any {Qa Qb : Nat → Prop} {v u : Value} {a b : List Int} (W : World) (ha : St Qa W v a) (hb : St Qb W u b) (h1 : a.length ≤ 2000) :
 Calls Tryz.prog 48 #[v, u] W (MeetPost W (meetS a b)) := by
 have HA := Lib.hid ha; have HB0 := Lib.hid hb
 obtain ⟨aa, ak, rfl, -, -⟩ := ha
 obtain ⟨ba, bk, rfl, -, -⟩ := hb
 obtain ⟨na, hna⟩ : ∃ na, a.length = na := ⟨_, rfl⟩
 obtain ⟨nb, hnb⟩ : ∃ nb, b.length = nb := ⟨_, rfl⟩
 rw [hna] at h1 HA ⊢
 rw [hnb] at HB0 ⊢
 have HNA := Lib.hid hna; have HNB := Lib.hid hnb
 clear hna hnb
 by_cases hne : na = nb
 ·subst hne
  go_enter Tryz.func48, Tryz.ntmps48
  go_wp2_with (at_builtin; refine wpList_append_so (W := W) rfl _ _ 90 90 96 rfl Tryz.underlying90 Tryz.underlying90 W.heap.size (.slice none 0 0) 0 [] rfl (World.ownsRow_nil _ _ _ _) (.slice aa na ak) a rfl HA.out (by rw [HNA.out]; omega) (Nat.le_refl _) ?_)
  rintro v1 w1 o1 g1 -
  have B1 := Lib.hid ((Below.refl W.heap.size W).grown g1 (Nat.le_refl _) (fun k hk => by simp [Value.ownBlock] at hk))
  rw [HNA.out] at o1
  have O1 := Lib.hid o1
  have hs1 : ∃ va vk, v1 = .slice va na vk := by
   rcases o1.2 with ⟨e1, h0⟩ | ⟨g, c, cur, e1, -⟩
   ·exact ⟨_, _, by rw [e1, h0]⟩
   ·exact ⟨_, _, e1⟩
  obtain ⟨va, vk, rfl⟩ := hs1
  clear o1 g1 HA
  go_wp2_with fail
  go_loopw [17] (fun iv wr => ∃ (j : Nat) (dn : List Int), iv = .int .i64 (j : Int) ∧ j ≤ na ∧ Hid (dn.length = j) ∧ Hid (meetS a b = (meetS (a.drop j) (b.drop j)).map (dn ++ ·)) ∧ Hid (wr.ownsRow W.heap.size 96 1 (.slice va na vk) na (soV (dn ++ a.drop j))) ∧ Hid (Below W.heap.size W wr)) (fun iv _ => na - (intOf iv).toNat)
  case atStart => exact ⟨0, [], rfl, Nat.zero_le _, Lib.hid rfl, Lib.hid (by simp), O1, B1⟩
  case round =>
   clear O1 B1
   obtain ⟨j, dn, rfl, hj, HD, HM, HO, HB⟩ := hrel
   by_cases hjl : j < na
   ·obtain ⟨x, hx⟩ : ∃ x, a[j]? = some x := ⟨_, List.getElem?_eq_getElem (by have := HNA.out; omega)⟩
    obtain ⟨y, hy⟩ : ∃ y, b[j]? = some y := ⟨_, List.getElem?_eq_getElem (by have := HNB.out; omega)⟩
    have HS := Lib.hid (meetS_step hx hy)
    obtain ⟨ba', bk', e1, -, r1⟩ := HB0.out.below HB.out
    simp only [Value.slice.injEq] at e1
    obtain ⟨rfl, -, rfl⟩ := e1
    obtain ⟨G, off, rfl, -, hG, cb⟩ := r1 (by have := HNB.out; omega)
    have cy := cb j y hy
    have hlt : 0 < na := by omega
    obtain ⟨g, c, e2, hbg, hgl⟩ := own_formC HO.out hlt
    simp only [Value.slice.injEq, true_and] at e2
    obtain ⟨rfl, rfl⟩ := e2
    have cx : wr.cell? ⟨g, j, none⟩ = some (.int .u8 x) := by
     have := World.ownsRow.cells HO.out (g := g) rfl j (.int .u8 x) (by
      simp only [soV, List.getElem?_map]
      rw [List.getElem?_append_right (by have := HD.out; omega), HD.out, Nat.sub_self, List.getElem?_drop, Nat.add_zero, hx]
      rfl)
     rw [← this]
     congr 1
     simp [Addr.add]
    have fx := own_frz1 HO.out j
    have HX := Lib.hid hx
    clear cb r1 hx hy
    by_cases x69 : x = 69
    ·subst x69
     have HM2 : Hid (meetS a b = (meetS (a.drop (j + 1)) (b.drop (j + 1))).map ((dn ++ [y]) ++ ·)) := Lib.hid (by
      rw [HM.out, HS.out, if_pos rfl, Option.map_map]
      congr 1
      funext l
      simp)
     have HO2 : Hid ((wr.setCell ⟨g, j, none⟩ (.int .u8 y)).ownsRow W.heap.size 96 1 (.slice (some ⟨g, 0, none⟩) na vk) na (soV ((dn ++ [y]) ++ a.drop (j + 1)))) := Lib.hid (by
      have := own_set1 HO.out (i := j) (.int .u8 y)
      rw [soV_set HD.out HX.out] at this
      exact this)
     have HB2 := Lib.hid (HB.out.setCell (p := ⟨g, j, none⟩) hbg (.int .u8 y))
     have HD2 : Hid ((dn ++ [y]).length = j + 1) := Lib.hid (by rw [List.length_append, HD.out]; rfl)
     clear HM HO HB HD HS HX
     go_wp2
     exact ⟨⟨j + 1, _, by go_num, by omega, HD2, HM2, HO2, HB2⟩, by simp [intOf]; omega⟩
    ·have x69d : decide (x = 69) = false := decide_eq_false x69
     have x69b : (x == 69) = false := by simpa using x69
     by_cases hyx : y = 69 ∨ y = x
     ·have HM2 : Hid (meetS a b = (meetS (a.drop (j + 1)) (b.drop (j + 1))).map ((dn ++ [x]) ++ ·)) := Lib.hid (by
       rw [HM.out, HS.out, if_neg x69, if_neg (fun h => hyx.elim h.1 h.2), Option.map_map]
       congr 1
       funext l
       simp)
      have HO2 : Hid (wr.ownsRow W.heap.size 96 1 (.slice (some ⟨g, 0, none⟩) na vk) na (soV ((dn ++ [x]) ++ a.drop (j + 1)))) := Lib.hid (by
       rw [← drop_step HX.out]
       exact HO.out)
      have HD2 : Hid ((dn ++ [x]).length = j + 1) := Lib.hid (by rw [List.length_append, HD.out]; rfl)
      clear HM HO HD HS HX
      rcases hyx with rfl | rfl
      ·go_upto_region 9 with (fail)
       go_quiet (fail)
       generalize hwd : World.drewN _ _ = wd
       have BD : Below wr.heap.size wr wd := by rw [← hwd]; exact below_dN _ _ _
       have HB2 := Lib.hid (HB.out.trans (BD.mono HB.out.size))
       have HO3 := Lib.hid (World.ownsRow.belowZ HO2.out BD)
       clear hwd BD HO2 HB
       go_wp2
       exact ⟨⟨j + 1, _, by go_num, by omega, HD2, HM2, HO3, HB2⟩, by simp [intOf]; omega⟩
      ·go_upto_region 9 with (fail)
       go_quiet (fail)
       generalize hwd : World.drewN _ _ = wd
       have BD : Below wr.heap.size wr wd := by rw [← hwd]; exact below_dN _ _ _
       have HB2 := Lib.hid (HB.out.trans (BD.mono HB.out.size))
       have HO3 := Lib.hid (World.ownsRow.belowZ HO2.out BD)
       clear hwd BD HO2 HB
       go_wp2
       exact ⟨⟨j + 1, _, by go_num, by omega, HD2, HM2, HO3, HB2⟩, by simp [intOf]; omega⟩
     ·have HR : Hid (meetS a b = none) := Lib.hid (by
       rw [HM.out, HS.out, if_neg x69, if_pos ⟨fun e => hyx (.inl e), fun e => hyx (.inr e)⟩]
       rfl)
      have y69 : ¬ y = 69 := fun e => hyx (.inl e)
      have yx : ¬ y = x := fun e => hyx (.inr e)
      have y69d : decide (y = 69) = false := decide_eq_false y69
      have y69b : (y == 69) = false := by simpa using y69
      have yxd : decide (y = x) = false := decide_eq_false yx
      have yxb : (y == x) = false := by simpa using yx
      have y69n : (y != 69) = true := by simpa using y69
      have yxn : (y != x) = true := by simpa using yx
      clear HM HO HD HS HX hyx
      go_upto_region 9 with (fail)
      go_quiet (fail)
      generalize hwd : World.drewN _ _ = wd
      have HB2 := Lib.hid (HB.out.trans ((by rw [← hwd]; exact below_dN _ _ _ : Below wr.heap.size wr wd).mono HB.out.size))
      clear hwd
      go_wp2
      go_ret2
      exact MeetPost.no HR.out HB2.out
   ·have hjn : j = na := by omega
    have HR : Hid (meetS a b = some dn) := Lib.hid (by
     rw [HM.out, hjn]
     have := meetS_end a b
     rw [HNA.out, HNB.out, if_pos (Nat.le_refl _)] at this
     rw [this]
     simp)
    have HT : Hid (St (fun g => W.heap.size ≤ g) wr (.slice va na vk) dn) := Lib.hid (by
     have := HO.out
     rw [List.drop_eq_nil_of_le (by have := HNA.out; omega), List.append_nil] at this
     exact St.ofRow this (fun _ h => h))
    clear HM HO HD
    go_wp2
    go_ret2
    exact MeetPost.yes HR.out HB.out HT.out
 ·have HR := Lib.hid (meetS_len a b (by rw [HNA.out, HNB.out]; exact hne))
  have hneq : ((na : Int) == (nb : Int)) = false := by simpa using (by omega : ¬ (na : Int) = (nb : Int))
  go_enter Tryz.func48, Tryz.ntmps48
  go_wp2_with fail
  go_ret2
  exact MeetPost.no HR.out (Below.refl _ _)
end Go.Proofs.YtlmpiobdgkmmgaaGreatDoor
namespace Go.Proofs.YtlmpiobdgkmmgaaGreatDoor
open Go.RowKit Go.Lib
structure KnR (kb lb n i b0 : Nat) (kn : Kn) (kl ll : List Value) (w : World) : Prop where
 kr : w.ownsRow b0 90 1 (.slice (some ⟨kb, 0, none⟩) (n + 1) (n + 1)) (n + 1) kl
 lr : w.ownsRow b0 4 1 (.slice (some ⟨lb, 0, none⟩) (n + 1) (n + 1)) (n + 1) ll
 ne : kb ≠ lb
 at_ : ∀ j : Nat, i ≤ j → j ≤ n → ll[j]? = some (.bool (kn j).isSome) ∧ ∀ s, kn j = some s → s.length ≤ 1024 ∧ ∃ v, kl[j]? = some v ∧ St (fun g => g ≠ kb ∧ g ≠ lb) w v s
theorem row_lt {w : World} {b0 g n c : Nat} {T : TypeId} {xs : List Value} (h : w.ownsRow b0 T 1 (.slice (some ⟨g, 0, none⟩) n c) n xs) : b0 ≤ g ∧ g < w.heap.size := World.ownsRow.lt h g rfl
theorem row_cell {w : World} {b0 g n c : Nat} {T : TypeId} {xs : List Value} (h : w.ownsRow b0 T 1 (.slice (some ⟨g, 0, none⟩) n c) n xs) {j : Nat} {v : Value} (hj : xs[j]? = some v) : w.cell? ⟨g, j, none⟩ = some v := by
 have := World.ownsRow.cells h (g := g) rfl j v hj
 rw [← this]
 congr 1
 simp [Addr.add]
theorem row_len {w : World} {b0 g n c : Nat} {T : TypeId} {xs : List Value} (h : w.ownsRow b0 T 1 (.slice (some ⟨g, 0, none⟩) n c) n xs) : xs.length = n := by
 have := h.1
 rwa [Nat.mul_one] at this
theorem row_other {w : World} {b0 n z : Nat} {T : TypeId} {v : Value} {xs : List Value} (h : w.ownsRow b0 T z v n xs) {g o : Nat} (hne : v.ownBlock ≠ some g) (u : Value) : (w.setCell ⟨g, o, none⟩ u).ownsRow b0 T z v n xs := by
 rcases h.2 with ⟨e1, h0⟩ | ⟨k, cap, cur, e1, hb, hk, r⟩
 ·exact ⟨h.1, .inl ⟨e1, h0⟩⟩
 ·refine ⟨h.1, .inr ⟨k, cap, cur, e1, hb, (heap_setCell_otherC _ _ _ _ _ ?_).trans hk, r⟩⟩
  intro e
  exact hne (by rw [e1, e]; rfl)
section
variable {kb lb n i b0 : Nat} {kn : Kn} {kl ll : List Value} {w w' : World}
theorem KnR.below (h : KnR kb lb n i b0 kn kl ll w) (b : Below w.heap.size w w') : KnR kb lb n i b0 kn kl ll w' :=
 ⟨World.ownsRow.belowZ h.kr b, World.ownsRow.belowZ h.lr b, h.ne, fun j h1 h2 => ⟨(h.at_ j h1 h2).1, fun s hs => by
  obtain ⟨hl, v, hv, t⟩ := (h.at_ j h1 h2).2 s hs
  exact ⟨hl, v, hv, t.below b⟩⟩⟩
theorem KnR.set (h : KnR kb lb n i b0 kn kl ll w) {x : Nat} (hx : x ≤ n) {v : Value} {u : List Int} (hu : u.length ≤ 1024) (t : St (fun g => g ≠ kb ∧ g ≠ lb) w v u) :
 KnR kb lb n i b0 (fun y => if y = (x : Int) then some u else kn y) (kl.set x v) (ll.set x (.bool true)) ((w.setCell ⟨kb, x, none⟩ v).setCell ⟨lb, x, none⟩ (.bool true)) := by
 have hkl := row_len h.kr
 have hll := row_len h.lr
 have k1 : ∀ g, g ≠ kb ∧ g ≠ lb → ((w.setCell ⟨kb, x, none⟩ v).setCell ⟨lb, x, none⟩ (.bool true)).heap[g]? = w.heap[g]? := fun g hg =>
  (heap_setCell_otherC _ _ _ _ _ hg.2).trans (heap_setCell_otherC _ _ _ _ _ hg.1)
 have hz : w.heap.size ≤ ((w.setCell ⟨kb, x, none⟩ v).setCell ⟨lb, x, none⟩ (.bool true)).heap.size := by rw [setSizeC, setSizeC]; exact Nat.le_refl _
 have keep : ∀ {v' : Value} {s : List Int}, St (fun g => g ≠ kb ∧ g ≠ lb) w v' s → St (fun g => g ≠ kb ∧ g ≠ lb) ((w.setCell ⟨kb, x, none⟩ v).setCell ⟨lb, x, none⟩ (.bool true)) v' s := fun t => t.kept (fun _ q _ => q) (fun g q _ => k1 g q) hz
 refine ⟨row_other (own_set1 h.kr v) (by intro e; cases e; exact h.ne rfl) _, own_set1 (row_other h.lr (by intro e; cases e; exact h.ne rfl) _) _, h.ne, fun j h1 h2 => ?_⟩
 by_cases hj : j = x
 ·subst hj
  simp only [if_true]
  refine ⟨by rw [List.getElem?_set_self (by omega)]; rfl, fun s hs => ?_⟩
  cases hs
  exact ⟨hu, v, List.getElem?_set_self (by omega), keep t⟩
 ·have e1 : ¬ ((j : Int) = (x : Int)) := by omega
  simp only [if_neg e1]
  obtain ⟨a1, a2⟩ := h.at_ j h1 h2
  refine ⟨by rw [List.getElem?_set_ne (fun e => hj e.symm)]; exact a1, fun s hs => ?_⟩
  obtain ⟨hl, v', hv, t'⟩ := a2 s hs
  exact ⟨hl, v', by rw [List.getElem?_set_ne (fun e => hj e.symm)]; exact hv, keep t'⟩
theorem KnR.next (h : KnR kb lb n i b0 kn kl ll w) : KnR kb lb n (i + 1) b0 kn (kl.set i (.slice none 0 0)) ll (w.setCell ⟨kb, i, none⟩ (.slice none 0 0)) := by
 refine ⟨own_set1 h.kr _, row_other h.lr (by intro e; cases e; exact h.ne rfl) _, h.ne, fun j h1 h2 => ?_⟩
 obtain ⟨a1, a2⟩ := h.at_ j (by omega) h2
 refine ⟨a1, fun s hs => ?_⟩
 obtain ⟨hl, v', hv, t'⟩ := a2 s hs
 exact ⟨hl, v', by rw [List.getElem?_set_ne (by omega)]; exact hv, t'.kept (fun _ q _ => q) (fun g q _ => heap_setCell_otherC _ _ _ _ _ q.1) (by rw [setSizeC]; exact Nat.le_refl _)⟩
theorem KnR.start (hk : w.ownsRow b0 90 1 (.slice (some ⟨kb, 0, none⟩) (n + 1) (n + 1)) (n + 1) (List.replicate (n + 1) (.slice none 0 0))) (hl : w.ownsRow b0 4 1 (.slice (some ⟨lb, 0, none⟩) (n + 1) (n + 1)) (n + 1) (List.replicate (n + 1) (.bool false))) (hne : kb ≠ lb) :
 KnR kb lb n 0 b0 kn0 (List.replicate (n + 1) (.slice none 0 0)) ((List.replicate (n + 1) (.bool false)).set 0 (.bool true)) (w.setCell ⟨lb, 0, none⟩ (.bool true)) := by
 refine ⟨row_other hk (by intro e; cases e; exact hne rfl) _, own_set1 hl _, hne, fun j _ h2 => ?_⟩
 rcases Nat.eq_zero_or_pos j with rfl | h0
 ·refine ⟨by rw [List.getElem?_set_self (by simp)]; rfl, fun s hs => ?_⟩
  have : s = [] := by
   simp only [kn0] at hs
   cases hs
   rfl
  subst this
  exact ⟨by simp, .slice none 0 0, by simp, St.nil _ _⟩
 ·have : kn0 (j : Int) = none := by unfold kn0; rw [if_neg (by omega)]
  refine ⟨by rw [List.getElem?_set_ne (Nat.ne_of_lt h0), this, List.getElem?_replicate, if_pos (by omega)]; rfl, fun s hs => ?_⟩
  rw [this] at hs
  cases hs
end
end Go.Proofs.YtlmpiobdgkmmgaaGreatDoor
