/- Code: by hand. -/
import Derived.Test.YtlmpiobdgkmmgaaGreatDoorKdB
set_option maxRecDepth 1000000
set_option maxHeartbeats 16000000
namespace Go.Proofs.YtlmpiobdgkmmgaaGreatDoor
open Go.RowKit Go.Lib
theorem ok_any {b g o : Nat} {p : PI} {tv v : Value} {Q : Nat → Prop} {s : List Int} (n : Int) (W : World) (hp : InP W b g o p tv) (hb : b ≤ W.heap.size) (hs : St Q W v s) (hQ : ∀ x, W.heap.size ≤ x → Q x) (hsl : s.length ≤ 2000) (hn : 0 ≤ n ∧ n ≤ 100000) : Calls Tryz.prog 115 #[.pointer (some ⟨g, o, none⟩), .int .i64 n, v] W (StepPost Q W (okS p n s)) := by
 have HP := Lib.hid hp; have HS := Lib.hid hs; have HQ := Lib.hid hQ
 have hgl := hp.lt
 have hg1 : g < W.heap.size := by omega
 obtain ⟨hn1, hn2⟩ := hn
 obtain ⟨a, kc, rfl, -⟩ := hs
 obtain ⟨ns, hns⟩ : ∃ ns, s.length = ns := ⟨_, rfl⟩
 rw [hns] at hsl ⊢
 have HN := Lib.hid hns
 clear hp hns hQ
 have HW : ∀ r : Option Exits, (if endsS s [86] = true then some [(n + 1, withS s 1 []), (p.a, withS s 1 [86])] else none) = r → Hid (okS p n s = r) := fun r h => Lib.hid h
 try rw [HN.out] at HW
 obtain ⟨x, hx⟩ : ∃ x, p.a = x := ⟨_, rfl⟩
 obtain ⟨y, hy⟩ : ∃ y, p.b = y := ⟨_, rfl⟩
 have c1 := HP.out.c1; have c2 := HP.out.c2
 rw [hx] at c1
 rw [hy] at c2
 try rw [hx]
 try rw [hy]
 try rw [hx] at HW
 try rw [hy] at HW
 clear hx hy
 have hs1 := HS.out
 rw [HN.out] at hs1
 have HS := Lib.hid hs1
 clear hs1
 go_enter Tryz.func115, Tryz.ntmps115
 go_wp2_with fail
 refine (ends_any _ (s := s) (l := [86]) (HS.out.below (ext_alloc (Below.refl W.heap.size W) (.cells #[.int .u8 86] 96))) (lit1 (w := W) (Q := fun _ => True) 86 fun _ _ => trivial) (by rw [HN.out]; omega) (by simp)).mono ?_
 rintro e w' ⟨rfl, rfl⟩
 have BB := Lib.hid (ext_alloc (Below.refl W.heap.size W) (.cells #[.int .u8 86] 96))
 have HS := Lib.hid (HS.out.below (ext_alloc (Below.refl W.heap.size W) (.cells #[.int .u8 86] 96)))
 have hgc : g < (W.alloc (.cells #[.int .u8 86] 96)).heap.size := by simp; omega
 have hgb : (W.alloc (.cells #[.int .u8 86] 96)).heap[g]? = W.heap[g]? := Below.heap_alloc _ _ _ hg1
 generalize W.alloc (.cells #[.int .u8 86] 96) = w0 at BB HS hgc hgb ⊢
 have c1 := (World.cell?_of_block (a := ⟨g, o + 1, none⟩) hgb).trans c1
 have c2 := (World.cell?_of_block (a := ⟨g, o + 2, none⟩) hgb).trans c2
 cases he : endsS s [86]
 ·have HR := HW none (by rw [he]; rfl)
  clear HW
  clear he
  go_wp2_with fail
  go_ret2
  exact StepPost.no HR.out BB.out
 ·have hle := ends_le he
  rw [HN.out] at hle
  simp only [List.length_cons, List.length_nil] at hle
  have HR := HW (some ([(n + 1, withS s 1 []), (x, withS s 1 [86])])) (by rw [he]; rfl)
  clear HW he hgb
  go_upto_region 3 with (fail)
  refine wp_region_noPanic ?_
  refine wp_region_held_drew (S := fun w => w.heap[g]? = w0.heap[g]?) (by kernel_rfl) rfl (fun hS1 => ?_)
  have HS := Lib.hid (HS.out.below (Below.refl _ w0).drew)
  have BB := Lib.hid (BB.out.drew)
  have hgc : g < w0.drew.heap.size := hgc
  generalize hwd : w0.drew = wd at HS BB hgc hS1 ⊢
  clear hwd
  refine wpV 0 ⟨some 12, .move (.tmp 1), 3, "may.go:170", #[], none⟩ (.int .i64 n) hS1 ?_
  try simp only [Act.put, List.setIfInBounds_toArray, List.set_cons_zero, List.set_cons_succ]
  refine wpT 1 ⟨some 13, .binOp Go.BinOp.add 3 (.tmp 12) (.const (Go.Value.int Go.IntKind.i64 1)) 3, 3, "may.go:170", #[⟨0, .data⟩], none⟩ (.int .i64 (n + 1)) (Or.inl ⟨by rfl, fun W hW => by first | (go_simp; done) | (go_simp; with_reducible rfl) | (go_simp; exact IntWalk.i64_in _ (by omega))⟩) hS1 ?_
  try simp only [Act.put, List.setIfInBounds_toArray, List.set_cons_zero, List.set_cons_succ]
  refine wpV 2 ⟨some 14, .move (.tmp 2), 90, "may.go:170", #[], none⟩ (.slice a ns kc) hS1 ?_
  try simp only [Act.put, List.setIfInBounds_toArray, List.set_cons_zero, List.set_cons_succ]
  refine wpV 5 ⟨some 17, .move (.tmp 0), 80, "may.go:170", #[], none⟩ (.pointer (some ⟨g, o, none⟩)) hS1 ?_
  try simp only [Act.put, List.setIfInBounds_toArray, List.set_cons_zero, List.set_cons_succ]
  refine wpV 6 ⟨some 18, .nilCheck (.tmp 17), 0, "may.go:170", #[⟨5, .data⟩], none⟩ (.pointer (some ⟨g, o, none⟩)) hS1 ?_
  try simp only [Act.put, List.setIfInBounds_toArray, List.set_cons_zero, List.set_cons_succ]
  refine wpV 7 ⟨some 19, .fieldAddr 47 (.tmp 18) 1, 0, "may.go:170", #[⟨6, .data⟩], none⟩ (.pointer (some ⟨g, o + 1, none⟩)) hS1 ?_
  try simp only [Act.put, List.setIfInBounds_toArray, List.set_cons_zero, List.set_cons_succ]
  refine wpT 8 ⟨some 20, .load 3 (.tmp 19), 3, "may.go:170", #[⟨7, .data⟩], none⟩ (.int .i64 x) (Or.inl ⟨by rfl, fun W hW => by have e := (World.cell?_of_block (a := ⟨g, o + 1, none⟩) hW).trans c1; go_simp; done⟩) hS1 ?_
  try simp only [Act.put, List.setIfInBounds_toArray, List.set_cons_zero, List.set_cons_succ]
  refine wpV 9 ⟨some 21, .move (.tmp 2), 90, "may.go:170", #[], none⟩ (.slice a ns kc) hS1 ?_
  try simp only [Act.put, List.setIfInBounds_toArray, List.set_cons_zero, List.set_cons_succ]
  refine wpAnyH_ready (rs := [3, 10]) (by kernel_rfl) (by simp) ?_
  refine AllReadyH.cons (o := ⟨some 15, .call { callee := .value (.func 74), args := #[.tmp 14, .const (Go.Value.int Go.IntKind.i64 1), .const (Go.Value.slice none 0 0)], argTypes := #[90, 3, 89] }, 90, "may.go:170", #[⟨2, .data⟩], none⟩) rfl (fun K hK => ?_) ?_
  ·refine wantedC (by rfl) ?_
   go_simp
   go_at_call 74
   refine (with_lit (s := s) (l := []) 1 _ wd (by first | rfl | (push_cast; rfl)) HS.out (St.nil (fun _ => True) _) (by rw [HN.out]; omega) (by simp) (by rw [HN.out]; omega)).mono ?_
   rintro e w1 ⟨v1, rfl, t1, b1⟩
   have T1 := Lib.hid (t1.up BB.out.size HQ.out)
   have HS := Lib.hid (HS.out.below b1)
   have hS2 := (b1.block g hgc).trans hS1
   have hgc : g < w1.heap.size := by have := b1.size; omega
   have BB := Lib.hid (ext_trans BB.out b1)
   obtain ⟨a1, n1, k1, rfl⟩ := t1.form
   clear t1 b1
   refine hK.out _ _ hS2 (fun hS1 => ?_)
   clear hK K
   try simp only [Act.put, List.setIfInBounds_toArray, List.set_cons_zero, List.set_cons_succ]
   refine wpV 4 ⟨some 16, .build 92 #[(0, .tmp 13), (1, .tmp 15)], 92, "may.go:170", #[⟨1, .data⟩, ⟨3, .data⟩], none⟩ (.agg #[.int .i64 (n + 1), .slice a1 n1 k1]) hS1 ?_
   try simp only [Act.put, List.setIfInBounds_toArray, List.set_cons_zero, List.set_cons_succ]
   refine wpAnyH_ready (rs := [10]) (by kernel_rfl) (by simp) ?_
   refine AllReadyH.cons (o := ⟨some 22, .buildSlice 89 1 #[(0, .const (Go.Value.int Go.IntKind.u8 86))], 89, "may.go:170", #[], none⟩) rfl (fun K hK => ?_) ?_
   ·refine wantedC (by rfl) ?_
    go_simp
    have bE := ext_alloc (Below.refl w1.heap.size w1) (.cells #[.int .u8 86] 96)
    have tE := lit1 (w := w1) (Q := fun _ => True) 86 (fun _ _ => trivial)
    have TE := Lib.hid tE
    have HS := Lib.hid (HS.out.below bE)
    have T1 := Lib.hid (T1.out.below bE)
    have hS2 := (bE.block g hgc).trans hS1
    have hgc : g < (w1.alloc (.cells #[.int .u8 86] 96)).heap.size := by have := bE.size; omega
    have BB := Lib.hid (ext_trans BB.out bE)
    clear tE bE
    refine hK.out _ _ hS2 (fun hS1 => ?_)
    clear hK K
    generalize w1.alloc (.cells #[.int .u8 86] 96) = wE at TE HS T1 hS2 hgc BB hS1 ⊢
    try simp only [Act.put, List.setIfInBounds_toArray, List.set_cons_zero, List.set_cons_succ]
    refine wpAnyH_ready (rs := [11]) (by kernel_rfl) (by simp) ?_
    refine AllReadyH.cons (o := ⟨some 23, .call { callee := .value (.func 74), args := #[.tmp 21, .const (Go.Value.int Go.IntKind.i64 1), .tmp 22], argTypes := #[90, 3, 89] }, 90, "may.go:170", #[⟨9, .data⟩, ⟨10, .data⟩, ⟨3, .chain⟩], none⟩) rfl (fun K hK => ?_) ?_
    ·refine wantedC (by rfl) ?_
     go_simp
     go_at_call 74
     refine (with_lit (s := s) (l := [86]) 1 _ wE (by first | rfl | (push_cast; rfl)) HS.out TE.out (by rw [HN.out]; omega) (by simp) (by rw [HN.out]; omega)).mono ?_
     rintro e w2 ⟨v2, rfl, t2, b2⟩
     have T2 := Lib.hid (t2.up BB.out.size HQ.out)
     have HS := Lib.hid (HS.out.below b2)
     have T1 := Lib.hid (T1.out.below b2)
     have TE := Lib.hid (TE.out.below b2)
     have hS2 := (b2.block g hgc).trans hS1
     have hgc : g < w2.heap.size := by have := b2.size; omega
     have BB := Lib.hid (ext_trans BB.out b2)
     obtain ⟨a2, n2, k2, rfl⟩ := t2.form
     clear t2 b2
     refine hK.out _ _ hS2 (fun hS1 => ?_)
     clear hK K
     try simp only [Act.put, List.setIfInBounds_toArray, List.set_cons_zero, List.set_cons_succ]
     refine wpV 12 ⟨some 24, .build 92 #[(0, .tmp 20), (1, .tmp 23)], 92, "may.go:170", #[⟨8, .data⟩, ⟨11, .data⟩], none⟩ (.agg #[.int .i64 x, .slice a2 n2 k2]) hS1 ?_
     try simp only [Act.put, List.setIfInBounds_toArray, List.set_cons_zero, List.set_cons_succ]
     refine wpAnyH_ready (rs := [13]) (by kernel_rfl) (by simp) ?_
     refine AllReadyH.cons (o := ⟨some 25, .buildSlice 83 2 #[(0, .tmp 16), (1, .tmp 24)], 83, "may.go:170", #[⟨4, .data⟩, ⟨12, .data⟩], none⟩) rfl (fun K hK => ?_) ?_
     ·refine wantedC (by rfl) ?_
      go_simp
      have E := Lib.hid (ExL.lit [((n + 1), .slice a1 n1 k1, withS s 1 []), (x, .slice a2 n2 k2, withS s 1 [86])] 92 2 rfl (HQ.out _ BB.out.size) _ rfl (fun t ht => by
       simp only [List.mem_cons, List.not_mem_nil, or_false] at ht
       rcases ht with rfl | rfl
       ·exact T1.out
       ·exact T2.out))
      have BB := Lib.hid (ext_alloc BB.out (.cells #[.int .i64 (n + 1), .slice a1 n1 k1, .int .i64 x, .slice a2 n2 k2] 92))
      refine hK.out _ _ ((Below.heap_alloc _ _ _ hgc).trans hS1) (fun hS1 => ?_)
      clear hK K
      try simp only [Act.put, List.setIfInBounds_toArray, List.set_cons_zero, List.set_cons_succ]
      refine wpV 14 ⟨some 6, .assign (.tmp 25), 83, "may.go:170", #[⟨13, .data⟩, ⟨11, .chain⟩, ⟨0, .phase⟩, ⟨1, .phase⟩, ⟨2, .phase⟩, ⟨3, .phase⟩, ⟨4, .phase⟩, ⟨5, .phase⟩, ⟨6, .phase⟩, ⟨7, .phase⟩, ⟨8, .phase⟩, ⟨9, .phase⟩, ⟨10, .phase⟩, ⟨11, .phase⟩, ⟨12, .phase⟩, ⟨13, .phase⟩], none⟩ (.slice (some ⟨w2.heap.size, 0, none⟩) 2 2) hS1 ?_
      try simp only [Act.put, List.setIfInBounds_toArray, List.set_cons_zero, List.set_cons_succ]
      refine wpV 15 ⟨some 7, .assign (.const (Go.Value.bool true)), 4, "may.go:170", #[⟨14, .chain⟩, ⟨0, .phase⟩, ⟨1, .phase⟩, ⟨2, .phase⟩, ⟨3, .phase⟩, ⟨4, .phase⟩, ⟨5, .phase⟩, ⟨6, .phase⟩, ⟨7, .phase⟩, ⟨8, .phase⟩, ⟨9, .phase⟩, ⟨10, .phase⟩, ⟨11, .phase⟩, ⟨12, .phase⟩, ⟨13, .phase⟩, ⟨14, .phase⟩], none⟩ (.bool true) hS1 ?_
      try simp only [Act.put, List.setIfInBounds_toArray, List.set_cons_zero, List.set_cons_succ]
      refine wpAnyH_done (by kernel_rfl) ?_ _
      refine NoPanic.normal ?_
      go_wp2_with fail
      go_ret2
      exact StepPost.yes HR.out BB.out E.out
     exact AllReadyH.nil
    exact AllReadyH.nil
   exact AllReadyH.nil
  refine AllReadyH.cons (o := ⟨some 22, .buildSlice 89 1 #[(0, .const (Go.Value.int Go.IntKind.u8 86))], 89, "may.go:170", #[], none⟩) rfl (fun K hK => ?_) ?_
  ·refine wantedC (by rfl) ?_
   go_simp
   have bE := ext_alloc (Below.refl wd.heap.size wd) (.cells #[.int .u8 86] 96)
   have tE := lit1 (w := wd) (Q := fun _ => True) 86 (fun _ _ => trivial)
   have TE := Lib.hid tE
   have HS := Lib.hid (HS.out.below bE)
   have hS2 := (bE.block g hgc).trans hS1
   have hgc : g < (wd.alloc (.cells #[.int .u8 86] 96)).heap.size := by have := bE.size; omega
   have BB := Lib.hid (ext_trans BB.out bE)
   clear tE bE
   refine hK.out _ _ hS2 (fun hS1 => ?_)
   clear hK K
   generalize wd.alloc (.cells #[.int .u8 86] 96) = wE at TE HS  hS2 hgc BB hS1 ⊢
   try simp only [Act.put, List.setIfInBounds_toArray, List.set_cons_zero, List.set_cons_succ]
   refine wpAnyH_ready (rs := [3]) (by kernel_rfl) (by simp) ?_
   refine AllReadyH.cons (o := ⟨some 15, .call { callee := .value (.func 74), args := #[.tmp 14, .const (Go.Value.int Go.IntKind.i64 1), .const (Go.Value.slice none 0 0)], argTypes := #[90, 3, 89] }, 90, "may.go:170", #[⟨2, .data⟩], none⟩) rfl (fun K hK => ?_) ?_
   ·refine wantedC (by rfl) ?_
    go_simp
    go_at_call 74
    refine (with_lit (s := s) (l := []) 1 _ wE (by first | rfl | (push_cast; rfl)) HS.out (St.nil (fun _ => True) _) (by rw [HN.out]; omega) (by simp) (by rw [HN.out]; omega)).mono ?_
    rintro e w1 ⟨v1, rfl, t1, b1⟩
    have T1 := Lib.hid (t1.up BB.out.size HQ.out)
    have HS := Lib.hid (HS.out.below b1)
    have TE := Lib.hid (TE.out.below b1)
    have hS2 := (b1.block g hgc).trans hS1
    have hgc : g < w1.heap.size := by have := b1.size; omega
    have BB := Lib.hid (ext_trans BB.out b1)
    obtain ⟨a1, n1, k1, rfl⟩ := t1.form
    clear t1 b1
    refine hK.out _ _ hS2 (fun hS1 => ?_)
    clear hK K
    try simp only [Act.put, List.setIfInBounds_toArray, List.set_cons_zero, List.set_cons_succ]
    refine wpV 4 ⟨some 16, .build 92 #[(0, .tmp 13), (1, .tmp 15)], 92, "may.go:170", #[⟨1, .data⟩, ⟨3, .data⟩], none⟩ (.agg #[.int .i64 (n + 1), .slice a1 n1 k1]) hS1 ?_
    try simp only [Act.put, List.setIfInBounds_toArray, List.set_cons_zero, List.set_cons_succ]
    refine wpAnyH_ready (rs := [11]) (by kernel_rfl) (by simp) ?_
    refine AllReadyH.cons (o := ⟨some 23, .call { callee := .value (.func 74), args := #[.tmp 21, .const (Go.Value.int Go.IntKind.i64 1), .tmp 22], argTypes := #[90, 3, 89] }, 90, "may.go:170", #[⟨9, .data⟩, ⟨10, .data⟩, ⟨3, .chain⟩], none⟩) rfl (fun K hK => ?_) ?_
    ·refine wantedC (by rfl) ?_
     go_simp
     go_at_call 74
     refine (with_lit (s := s) (l := [86]) 1 _ w1 (by first | rfl | (push_cast; rfl)) HS.out TE.out (by rw [HN.out]; omega) (by simp) (by rw [HN.out]; omega)).mono ?_
     rintro e w2 ⟨v2, rfl, t2, b2⟩
     have T2 := Lib.hid (t2.up BB.out.size HQ.out)
     have HS := Lib.hid (HS.out.below b2)
     have TE := Lib.hid (TE.out.below b2)
     have T1 := Lib.hid (T1.out.below b2)
     have hS2 := (b2.block g hgc).trans hS1
     have hgc : g < w2.heap.size := by have := b2.size; omega
     have BB := Lib.hid (ext_trans BB.out b2)
     obtain ⟨a2, n2, k2, rfl⟩ := t2.form
     clear t2 b2
     refine hK.out _ _ hS2 (fun hS1 => ?_)
     clear hK K
     try simp only [Act.put, List.setIfInBounds_toArray, List.set_cons_zero, List.set_cons_succ]
     refine wpV 12 ⟨some 24, .build 92 #[(0, .tmp 20), (1, .tmp 23)], 92, "may.go:170", #[⟨8, .data⟩, ⟨11, .data⟩], none⟩ (.agg #[.int .i64 x, .slice a2 n2 k2]) hS1 ?_
     try simp only [Act.put, List.setIfInBounds_toArray, List.set_cons_zero, List.set_cons_succ]
     refine wpAnyH_ready (rs := [13]) (by kernel_rfl) (by simp) ?_
     refine AllReadyH.cons (o := ⟨some 25, .buildSlice 83 2 #[(0, .tmp 16), (1, .tmp 24)], 83, "may.go:170", #[⟨4, .data⟩, ⟨12, .data⟩], none⟩) rfl (fun K hK => ?_) ?_
     ·refine wantedC (by rfl) ?_
      go_simp
      have E := Lib.hid (ExL.lit [((n + 1), .slice a1 n1 k1, withS s 1 []), (x, .slice a2 n2 k2, withS s 1 [86])] 92 2 rfl (HQ.out _ BB.out.size) _ rfl (fun t ht => by
       simp only [List.mem_cons, List.not_mem_nil, or_false] at ht
       rcases ht with rfl | rfl
       ·exact T1.out
       ·exact T2.out))
      have BB := Lib.hid (ext_alloc BB.out (.cells #[.int .i64 (n + 1), .slice a1 n1 k1, .int .i64 x, .slice a2 n2 k2] 92))
      refine hK.out _ _ ((Below.heap_alloc _ _ _ hgc).trans hS1) (fun hS1 => ?_)
      clear hK K
      try simp only [Act.put, List.setIfInBounds_toArray, List.set_cons_zero, List.set_cons_succ]
      refine wpV 14 ⟨some 6, .assign (.tmp 25), 83, "may.go:170", #[⟨13, .data⟩, ⟨11, .chain⟩, ⟨0, .phase⟩, ⟨1, .phase⟩, ⟨2, .phase⟩, ⟨3, .phase⟩, ⟨4, .phase⟩, ⟨5, .phase⟩, ⟨6, .phase⟩, ⟨7, .phase⟩, ⟨8, .phase⟩, ⟨9, .phase⟩, ⟨10, .phase⟩, ⟨11, .phase⟩, ⟨12, .phase⟩, ⟨13, .phase⟩], none⟩ (.slice (some ⟨w2.heap.size, 0, none⟩) 2 2) hS1 ?_
      try simp only [Act.put, List.setIfInBounds_toArray, List.set_cons_zero, List.set_cons_succ]
      refine wpV 15 ⟨some 7, .assign (.const (Go.Value.bool true)), 4, "may.go:170", #[⟨14, .chain⟩, ⟨0, .phase⟩, ⟨1, .phase⟩, ⟨2, .phase⟩, ⟨3, .phase⟩, ⟨4, .phase⟩, ⟨5, .phase⟩, ⟨6, .phase⟩, ⟨7, .phase⟩, ⟨8, .phase⟩, ⟨9, .phase⟩, ⟨10, .phase⟩, ⟨11, .phase⟩, ⟨12, .phase⟩, ⟨13, .phase⟩, ⟨14, .phase⟩], none⟩ (.bool true) hS1 ?_
      try simp only [Act.put, List.setIfInBounds_toArray, List.set_cons_zero, List.set_cons_succ]
      refine wpAnyH_done (by kernel_rfl) ?_ _
      refine NoPanic.normal ?_
      go_wp2_with fail
      go_ret2
      exact StepPost.yes HR.out BB.out E.out
     exact AllReadyH.nil
    exact AllReadyH.nil
   exact AllReadyH.nil
  exact AllReadyH.nil
theorem if_any {b g o : Nat} {p : PI} {tv v : Value} {Q : Nat → Prop} {s : List Int} (n : Int) (W : World) (hp : InP W b g o p tv) (hb : b ≤ W.heap.size) (hs : St Q W v s) (hQ : ∀ x, W.heap.size ≤ x → Q x) (hsl : s.length ≤ 2000) (hn : 0 ≤ n ∧ n ≤ 100000) : Calls Tryz.prog 113 #[.pointer (some ⟨g, o, none⟩), .int .i64 n, v] W (StepPost Q W (ifS p n s)) := by
 have HP := Lib.hid hp; have HS := Lib.hid hs; have HQ := Lib.hid hQ
 have hgl := hp.lt
 have hg1 : g < W.heap.size := by omega
 obtain ⟨hn1, hn2⟩ := hn
 obtain ⟨a, kc, rfl, -⟩ := hs
 obtain ⟨ns, hns⟩ : ∃ ns, s.length = ns := ⟨_, rfl⟩
 rw [hns] at hsl ⊢
 have HN := Lib.hid hns
 clear hp hns hQ
 have HW : ∀ r : Option Exits, (if endsS s [86] = true then some [(n + 1, withS s 1 []), (p.a, withS s 1 []), (p.b, withS s 1 [69])] else none) = r → Hid (ifS p n s = r) := fun r h => Lib.hid h
 try rw [HN.out] at HW
 obtain ⟨x, hx⟩ : ∃ x, p.a = x := ⟨_, rfl⟩
 obtain ⟨y, hy⟩ : ∃ y, p.b = y := ⟨_, rfl⟩
 have c1 := HP.out.c1; have c2 := HP.out.c2
 rw [hx] at c1
 rw [hy] at c2
 try rw [hx]
 try rw [hy]
 try rw [hx] at HW
 try rw [hy] at HW
 clear hx hy
 have hs1 := HS.out
 rw [HN.out] at hs1
 have HS := Lib.hid hs1
 clear hs1
 go_enter Tryz.func113, Tryz.ntmps113
 go_wp2_with fail
 refine (ends_any _ (s := s) (l := [86]) (HS.out.below (ext_alloc (Below.refl W.heap.size W) (.cells #[.int .u8 86] 96))) (lit1 (w := W) (Q := fun _ => True) 86 fun _ _ => trivial) (by rw [HN.out]; omega) (by simp)).mono ?_
 rintro e w' ⟨rfl, rfl⟩
 have BB := Lib.hid (ext_alloc (Below.refl W.heap.size W) (.cells #[.int .u8 86] 96))
 have HS := Lib.hid (HS.out.below (ext_alloc (Below.refl W.heap.size W) (.cells #[.int .u8 86] 96)))
 have hgc : g < (W.alloc (.cells #[.int .u8 86] 96)).heap.size := by simp; omega
 have hgb : (W.alloc (.cells #[.int .u8 86] 96)).heap[g]? = W.heap[g]? := Below.heap_alloc _ _ _ hg1
 generalize W.alloc (.cells #[.int .u8 86] 96) = w0 at BB HS hgc hgb ⊢
 have c1 := (World.cell?_of_block (a := ⟨g, o + 1, none⟩) hgb).trans c1
 have c2 := (World.cell?_of_block (a := ⟨g, o + 2, none⟩) hgb).trans c2
 cases he : endsS s [86]
 ·have HR := HW none (by rw [he]; rfl)
  clear HW
  clear he
  go_wp2_with fail
  go_ret2
  exact StepPost.no HR.out BB.out
 ·have hle := ends_le he
  rw [HN.out] at hle
  simp only [List.length_cons, List.length_nil] at hle
  have HR := HW (some ([(n + 1, withS s 1 []), (x, withS s 1 []), (y, withS s 1 [69])])) (by rw [he]; rfl)
  clear HW he hgb
  go_upto_region 3 with (fail)
  refine wp_region_noPanic ?_
  refine wp_region_held_drew (S := fun w => w.heap[g]? = w0.heap[g]?) (by kernel_rfl) rfl (fun hS1 => ?_)
  have HS := Lib.hid (HS.out.below (Below.refl _ w0).drew)
  have BB := Lib.hid (BB.out.drew)
  have hgc : g < w0.drew.heap.size := hgc
  generalize hwd : w0.drew = wd at HS BB hgc hS1 ⊢
  clear hwd
  refine wpV 0 ⟨some 12, .move (.tmp 1), 3, "may.go:164", #[], none⟩ (.int .i64 n) hS1 ?_
  try simp only [Act.put, List.setIfInBounds_toArray, List.set_cons_zero, List.set_cons_succ]
  refine wpT 1 ⟨some 13, .binOp Go.BinOp.add 3 (.tmp 12) (.const (Go.Value.int Go.IntKind.i64 1)) 3, 3, "may.go:164", #[⟨0, .data⟩], none⟩ (.int .i64 (n + 1)) (Or.inl ⟨by rfl, fun W hW => by first | (go_simp; done) | (go_simp; with_reducible rfl) | (go_simp; exact IntWalk.i64_in _ (by omega))⟩) hS1 ?_
  try simp only [Act.put, List.setIfInBounds_toArray, List.set_cons_zero, List.set_cons_succ]
  refine wpV 2 ⟨some 14, .move (.tmp 2), 90, "may.go:164", #[], none⟩ (.slice a ns kc) hS1 ?_
  try simp only [Act.put, List.setIfInBounds_toArray, List.set_cons_zero, List.set_cons_succ]
  refine wpV 5 ⟨some 17, .move (.tmp 0), 80, "may.go:164", #[], none⟩ (.pointer (some ⟨g, o, none⟩)) hS1 ?_
  try simp only [Act.put, List.setIfInBounds_toArray, List.set_cons_zero, List.set_cons_succ]
  refine wpV 6 ⟨some 18, .nilCheck (.tmp 17), 0, "may.go:164", #[⟨5, .data⟩], none⟩ (.pointer (some ⟨g, o, none⟩)) hS1 ?_
  try simp only [Act.put, List.setIfInBounds_toArray, List.set_cons_zero, List.set_cons_succ]
  refine wpV 7 ⟨some 19, .fieldAddr 47 (.tmp 18) 1, 0, "may.go:164", #[⟨6, .data⟩], none⟩ (.pointer (some ⟨g, o + 1, none⟩)) hS1 ?_
  try simp only [Act.put, List.setIfInBounds_toArray, List.set_cons_zero, List.set_cons_succ]
  refine wpT 8 ⟨some 20, .load 3 (.tmp 19), 3, "may.go:164", #[⟨7, .data⟩], none⟩ (.int .i64 x) (Or.inl ⟨by rfl, fun W hW => by have e := (World.cell?_of_block (a := ⟨g, o + 1, none⟩) hW).trans c1; go_simp; done⟩) hS1 ?_
  try simp only [Act.put, List.setIfInBounds_toArray, List.set_cons_zero, List.set_cons_succ]
  refine wpV 9 ⟨some 21, .move (.tmp 2), 90, "may.go:164", #[], none⟩ (.slice a ns kc) hS1 ?_
  try simp only [Act.put, List.setIfInBounds_toArray, List.set_cons_zero, List.set_cons_succ]
  refine wpV 12 ⟨some 24, .move (.tmp 0), 80, "may.go:164", #[], none⟩ (.pointer (some ⟨g, o, none⟩)) hS1 ?_
  try simp only [Act.put, List.setIfInBounds_toArray, List.set_cons_zero, List.set_cons_succ]
  refine wpV 13 ⟨some 25, .nilCheck (.tmp 24), 0, "may.go:164", #[⟨12, .data⟩], none⟩ (.pointer (some ⟨g, o, none⟩)) hS1 ?_
  try simp only [Act.put, List.setIfInBounds_toArray, List.set_cons_zero, List.set_cons_succ]
  refine wpV 14 ⟨some 26, .fieldAddr 47 (.tmp 25) 2, 0, "may.go:164", #[⟨13, .data⟩], none⟩ (.pointer (some ⟨g, o + 2, none⟩)) hS1 ?_
  try simp only [Act.put, List.setIfInBounds_toArray, List.set_cons_zero, List.set_cons_succ]
  refine wpT 15 ⟨some 27, .load 3 (.tmp 26), 3, "may.go:164", #[⟨14, .data⟩], none⟩ (.int .i64 y) (Or.inl ⟨by rfl, fun W hW => by have e := (World.cell?_of_block (a := ⟨g, o + 2, none⟩) hW).trans c2; go_simp; done⟩) hS1 ?_
  try simp only [Act.put, List.setIfInBounds_toArray, List.set_cons_zero, List.set_cons_succ]
  refine wpV 16 ⟨some 28, .move (.tmp 2), 90, "may.go:164", #[], none⟩ (.slice a ns kc) hS1 ?_
  try simp only [Act.put, List.setIfInBounds_toArray, List.set_cons_zero, List.set_cons_succ]
  refine wpAnyH_ready (rs := [3, 17]) (by kernel_rfl) (by simp) ?_
  refine AllReadyH.cons (o := ⟨some 15, .call { callee := .value (.func 74), args := #[.tmp 14, .const (Go.Value.int Go.IntKind.i64 1), .const (Go.Value.slice none 0 0)], argTypes := #[90, 3, 89] }, 90, "may.go:164", #[⟨2, .data⟩], none⟩) rfl (fun K hK => ?_) ?_
  ·refine wantedC (by rfl) ?_
   go_simp
   go_at_call 74
   refine (with_lit (s := s) (l := []) 1 _ wd (by first | rfl | (push_cast; rfl)) HS.out (St.nil (fun _ => True) _) (by rw [HN.out]; omega) (by simp) (by rw [HN.out]; omega)).mono ?_
   rintro e w1 ⟨v1, rfl, t1, b1⟩
   have T1 := Lib.hid (t1.up BB.out.size HQ.out)
   have HS := Lib.hid (HS.out.below b1)
   have hS2 := (b1.block g hgc).trans hS1
   have hgc : g < w1.heap.size := by have := b1.size; omega
   have BB := Lib.hid (ext_trans BB.out b1)
   obtain ⟨a1, n1, k1, rfl⟩ := t1.form
   clear t1 b1
   refine hK.out _ _ hS2 (fun hS1 => ?_)
   clear hK K
   try simp only [Act.put, List.setIfInBounds_toArray, List.set_cons_zero, List.set_cons_succ]
   refine wpV 4 ⟨some 16, .build 92 #[(0, .tmp 13), (1, .tmp 15)], 92, "may.go:164", #[⟨1, .data⟩, ⟨3, .data⟩], none⟩ (.agg #[.int .i64 (n + 1), .slice a1 n1 k1]) hS1 ?_
   try simp only [Act.put, List.setIfInBounds_toArray, List.set_cons_zero, List.set_cons_succ]
   refine wpAnyH_ready (rs := [10, 17]) (by kernel_rfl) (by simp) ?_
   refine AllReadyH.cons (o := ⟨some 22, .call { callee := .value (.func 74), args := #[.tmp 21, .const (Go.Value.int Go.IntKind.i64 1), .const (Go.Value.slice none 0 0)], argTypes := #[90, 3, 89] }, 90, "may.go:164", #[⟨9, .data⟩, ⟨3, .chain⟩], none⟩) rfl (fun K hK => ?_) ?_
   ·refine wantedC (by rfl) ?_
    go_simp
    go_at_call 74
    refine (with_lit (s := s) (l := []) 1 _ w1 (by first | rfl | (push_cast; rfl)) HS.out (St.nil (fun _ => True) _) (by rw [HN.out]; omega) (by simp) (by rw [HN.out]; omega)).mono ?_
    rintro e w2 ⟨v2, rfl, t2, b2⟩
    have T2 := Lib.hid (t2.up BB.out.size HQ.out)
    have HS := Lib.hid (HS.out.below b2)
    have T1 := Lib.hid (T1.out.below b2)
    have hS2 := (b2.block g hgc).trans hS1
    have hgc : g < w2.heap.size := by have := b2.size; omega
    have BB := Lib.hid (ext_trans BB.out b2)
    obtain ⟨a2, n2, k2, rfl⟩ := t2.form
    clear t2 b2
    refine hK.out _ _ hS2 (fun hS1 => ?_)
    clear hK K
    try simp only [Act.put, List.setIfInBounds_toArray, List.set_cons_zero, List.set_cons_succ]
    refine wpV 11 ⟨some 23, .build 92 #[(0, .tmp 20), (1, .tmp 22)], 92, "may.go:164", #[⟨8, .data⟩, ⟨10, .data⟩], none⟩ (.agg #[.int .i64 x, .slice a2 n2 k2]) hS1 ?_
    try simp only [Act.put, List.setIfInBounds_toArray, List.set_cons_zero, List.set_cons_succ]
    refine wpAnyH_ready (rs := [17]) (by kernel_rfl) (by simp) ?_
    refine AllReadyH.cons (o := ⟨some 29, .buildSlice 89 1 #[(0, .const (Go.Value.int Go.IntKind.u8 69))], 89, "may.go:164", #[], none⟩) rfl (fun K hK => ?_) ?_
    ·refine wantedC (by rfl) ?_
     go_simp
     have bE := ext_alloc (Below.refl w2.heap.size w2) (.cells #[.int .u8 69] 96)
     have tE := lit1 (w := w2) (Q := fun _ => True) 69 (fun _ _ => trivial)
     have TE := Lib.hid tE
     have HS := Lib.hid (HS.out.below bE)
     have T1 := Lib.hid (T1.out.below bE)
     have T2 := Lib.hid (T2.out.below bE)
     have hS2 := (bE.block g hgc).trans hS1
     have hgc : g < (w2.alloc (.cells #[.int .u8 69] 96)).heap.size := by have := bE.size; omega
     have BB := Lib.hid (ext_trans BB.out bE)
     clear tE bE
     refine hK.out _ _ hS2 (fun hS1 => ?_)
     clear hK K
     generalize w2.alloc (.cells #[.int .u8 69] 96) = wE at TE HS T1 T2 hS2 hgc BB hS1 ⊢
     try simp only [Act.put, List.setIfInBounds_toArray, List.set_cons_zero, List.set_cons_succ]
     refine wpAnyH_ready (rs := [18]) (by kernel_rfl) (by simp) ?_
     refine AllReadyH.cons (o := ⟨some 30, .call { callee := .value (.func 74), args := #[.tmp 28, .const (Go.Value.int Go.IntKind.i64 1), .tmp 29], argTypes := #[90, 3, 89] }, 90, "may.go:164", #[⟨16, .data⟩, ⟨17, .data⟩, ⟨10, .chain⟩], none⟩) rfl (fun K hK => ?_) ?_
     ·refine wantedC (by rfl) ?_
      go_simp
      go_at_call 74
      refine (with_lit (s := s) (l := [69]) 1 _ wE (by first | rfl | (push_cast; rfl)) HS.out TE.out (by rw [HN.out]; omega) (by simp) (by rw [HN.out]; omega)).mono ?_
      rintro e w3 ⟨v3, rfl, t3, b3⟩
      have T3 := Lib.hid (t3.up BB.out.size HQ.out)
      have HS := Lib.hid (HS.out.below b3)
      have T1 := Lib.hid (T1.out.below b3)
      have T2 := Lib.hid (T2.out.below b3)
      have TE := Lib.hid (TE.out.below b3)
      have hS2 := (b3.block g hgc).trans hS1
      have hgc : g < w3.heap.size := by have := b3.size; omega
      have BB := Lib.hid (ext_trans BB.out b3)
      obtain ⟨a3, n3, k3, rfl⟩ := t3.form
      clear t3 b3
      refine hK.out _ _ hS2 (fun hS1 => ?_)
      clear hK K
      try simp only [Act.put, List.setIfInBounds_toArray, List.set_cons_zero, List.set_cons_succ]
      refine wpV 19 ⟨some 31, .build 92 #[(0, .tmp 27), (1, .tmp 30)], 92, "may.go:164", #[⟨15, .data⟩, ⟨18, .data⟩], none⟩ (.agg #[.int .i64 y, .slice a3 n3 k3]) hS1 ?_
      try simp only [Act.put, List.setIfInBounds_toArray, List.set_cons_zero, List.set_cons_succ]
      refine wpAnyH_ready (rs := [20]) (by kernel_rfl) (by simp) ?_
      refine AllReadyH.cons (o := ⟨some 32, .buildSlice 83 3 #[(0, .tmp 16), (1, .tmp 23), (2, .tmp 31)], 83, "may.go:164", #[⟨4, .data⟩, ⟨11, .data⟩, ⟨19, .data⟩], none⟩) rfl (fun K hK => ?_) ?_
      ·refine wantedC (by rfl) ?_
       go_simp
       have E := Lib.hid (ExL.lit [((n + 1), .slice a1 n1 k1, withS s 1 []), (x, .slice a2 n2 k2, withS s 1 []), (y, .slice a3 n3 k3, withS s 1 [69])] 92 3 rfl (HQ.out _ BB.out.size) _ rfl (fun t ht => by
        simp only [List.mem_cons, List.not_mem_nil, or_false] at ht
        rcases ht with rfl | rfl | rfl
        ·exact T1.out
        ·exact T2.out
        ·exact T3.out))
       have BB := Lib.hid (ext_alloc BB.out (.cells #[.int .i64 (n + 1), .slice a1 n1 k1, .int .i64 x, .slice a2 n2 k2, .int .i64 y, .slice a3 n3 k3] 92))
       refine hK.out _ _ ((Below.heap_alloc _ _ _ hgc).trans hS1) (fun hS1 => ?_)
       clear hK K
       try simp only [Act.put, List.setIfInBounds_toArray, List.set_cons_zero, List.set_cons_succ]
       refine wpV 21 ⟨some 6, .assign (.tmp 32), 83, "may.go:164", #[⟨20, .data⟩, ⟨18, .chain⟩, ⟨0, .phase⟩, ⟨1, .phase⟩, ⟨2, .phase⟩, ⟨3, .phase⟩, ⟨4, .phase⟩, ⟨5, .phase⟩, ⟨6, .phase⟩, ⟨7, .phase⟩, ⟨8, .phase⟩, ⟨9, .phase⟩, ⟨10, .phase⟩, ⟨11, .phase⟩, ⟨12, .phase⟩, ⟨13, .phase⟩, ⟨14, .phase⟩, ⟨15, .phase⟩, ⟨16, .phase⟩, ⟨17, .phase⟩, ⟨18, .phase⟩, ⟨19, .phase⟩, ⟨20, .phase⟩], none⟩ (.slice (some ⟨w3.heap.size, 0, none⟩) 3 3) hS1 ?_
       try simp only [Act.put, List.setIfInBounds_toArray, List.set_cons_zero, List.set_cons_succ]
       refine wpV 22 ⟨some 7, .assign (.const (Go.Value.bool true)), 4, "may.go:164", #[⟨21, .chain⟩, ⟨0, .phase⟩, ⟨1, .phase⟩, ⟨2, .phase⟩, ⟨3, .phase⟩, ⟨4, .phase⟩, ⟨5, .phase⟩, ⟨6, .phase⟩, ⟨7, .phase⟩, ⟨8, .phase⟩, ⟨9, .phase⟩, ⟨10, .phase⟩, ⟨11, .phase⟩, ⟨12, .phase⟩, ⟨13, .phase⟩, ⟨14, .phase⟩, ⟨15, .phase⟩, ⟨16, .phase⟩, ⟨17, .phase⟩, ⟨18, .phase⟩, ⟨19, .phase⟩, ⟨20, .phase⟩, ⟨21, .phase⟩], none⟩ (.bool true) hS1 ?_
       try simp only [Act.put, List.setIfInBounds_toArray, List.set_cons_zero, List.set_cons_succ]
       refine wpAnyH_done (by kernel_rfl) ?_ _
       refine NoPanic.normal ?_
       go_wp2_with fail
       go_ret2
       exact StepPost.yes HR.out BB.out E.out
      exact AllReadyH.nil
     exact AllReadyH.nil
    exact AllReadyH.nil
   refine AllReadyH.cons (o := ⟨some 29, .buildSlice 89 1 #[(0, .const (Go.Value.int Go.IntKind.u8 69))], 89, "may.go:164", #[], none⟩) rfl (fun K hK => ?_) ?_
   ·refine wantedC (by rfl) ?_
    go_simp
    have bE := ext_alloc (Below.refl w1.heap.size w1) (.cells #[.int .u8 69] 96)
    have tE := lit1 (w := w1) (Q := fun _ => True) 69 (fun _ _ => trivial)
    have TE := Lib.hid tE
    have HS := Lib.hid (HS.out.below bE)
    have T1 := Lib.hid (T1.out.below bE)
    have hS2 := (bE.block g hgc).trans hS1
    have hgc : g < (w1.alloc (.cells #[.int .u8 69] 96)).heap.size := by have := bE.size; omega
    have BB := Lib.hid (ext_trans BB.out bE)
    clear tE bE
    refine hK.out _ _ hS2 (fun hS1 => ?_)
    clear hK K
    generalize w1.alloc (.cells #[.int .u8 69] 96) = wE at TE HS T1 hS2 hgc BB hS1 ⊢
    try simp only [Act.put, List.setIfInBounds_toArray, List.set_cons_zero, List.set_cons_succ]
    refine wpAnyH_ready (rs := [10]) (by kernel_rfl) (by simp) ?_
    refine AllReadyH.cons (o := ⟨some 22, .call { callee := .value (.func 74), args := #[.tmp 21, .const (Go.Value.int Go.IntKind.i64 1), .const (Go.Value.slice none 0 0)], argTypes := #[90, 3, 89] }, 90, "may.go:164", #[⟨9, .data⟩, ⟨3, .chain⟩], none⟩) rfl (fun K hK => ?_) ?_
    ·refine wantedC (by rfl) ?_
     go_simp
     go_at_call 74
     refine (with_lit (s := s) (l := []) 1 _ wE (by first | rfl | (push_cast; rfl)) HS.out (St.nil (fun _ => True) _) (by rw [HN.out]; omega) (by simp) (by rw [HN.out]; omega)).mono ?_
     rintro e w2 ⟨v2, rfl, t2, b2⟩
     have T2 := Lib.hid (t2.up BB.out.size HQ.out)
     have HS := Lib.hid (HS.out.below b2)
     have T1 := Lib.hid (T1.out.below b2)
     have TE := Lib.hid (TE.out.below b2)
     have hS2 := (b2.block g hgc).trans hS1
     have hgc : g < w2.heap.size := by have := b2.size; omega
     have BB := Lib.hid (ext_trans BB.out b2)
     obtain ⟨a2, n2, k2, rfl⟩ := t2.form
     clear t2 b2
     refine hK.out _ _ hS2 (fun hS1 => ?_)
     clear hK K
     try simp only [Act.put, List.setIfInBounds_toArray, List.set_cons_zero, List.set_cons_succ]
     refine wpV 11 ⟨some 23, .build 92 #[(0, .tmp 20), (1, .tmp 22)], 92, "may.go:164", #[⟨8, .data⟩, ⟨10, .data⟩], none⟩ (.agg #[.int .i64 x, .slice a2 n2 k2]) hS1 ?_
     try simp only [Act.put, List.setIfInBounds_toArray, List.set_cons_zero, List.set_cons_succ]
     refine wpAnyH_ready (rs := [18]) (by kernel_rfl) (by simp) ?_
     refine AllReadyH.cons (o := ⟨some 30, .call { callee := .value (.func 74), args := #[.tmp 28, .const (Go.Value.int Go.IntKind.i64 1), .tmp 29], argTypes := #[90, 3, 89] }, 90, "may.go:164", #[⟨16, .data⟩, ⟨17, .data⟩, ⟨10, .chain⟩], none⟩) rfl (fun K hK => ?_) ?_
     ·refine wantedC (by rfl) ?_
      go_simp
      go_at_call 74
      refine (with_lit (s := s) (l := [69]) 1 _ w2 (by first | rfl | (push_cast; rfl)) HS.out TE.out (by rw [HN.out]; omega) (by simp) (by rw [HN.out]; omega)).mono ?_
      rintro e w3 ⟨v3, rfl, t3, b3⟩
      have T3 := Lib.hid (t3.up BB.out.size HQ.out)
      have HS := Lib.hid (HS.out.below b3)
      have T1 := Lib.hid (T1.out.below b3)
      have TE := Lib.hid (TE.out.below b3)
      have T2 := Lib.hid (T2.out.below b3)
      have hS2 := (b3.block g hgc).trans hS1
      have hgc : g < w3.heap.size := by have := b3.size; omega
      have BB := Lib.hid (ext_trans BB.out b3)
      obtain ⟨a3, n3, k3, rfl⟩ := t3.form
      clear t3 b3
      refine hK.out _ _ hS2 (fun hS1 => ?_)
      clear hK K
      try simp only [Act.put, List.setIfInBounds_toArray, List.set_cons_zero, List.set_cons_succ]
      refine wpV 19 ⟨some 31, .build 92 #[(0, .tmp 27), (1, .tmp 30)], 92, "may.go:164", #[⟨15, .data⟩, ⟨18, .data⟩], none⟩ (.agg #[.int .i64 y, .slice a3 n3 k3]) hS1 ?_
      try simp only [Act.put, List.setIfInBounds_toArray, List.set_cons_zero, List.set_cons_succ]
      refine wpAnyH_ready (rs := [20]) (by kernel_rfl) (by simp) ?_
      refine AllReadyH.cons (o := ⟨some 32, .buildSlice 83 3 #[(0, .tmp 16), (1, .tmp 23), (2, .tmp 31)], 83, "may.go:164", #[⟨4, .data⟩, ⟨11, .data⟩, ⟨19, .data⟩], none⟩) rfl (fun K hK => ?_) ?_
      ·refine wantedC (by rfl) ?_
       go_simp
       have E := Lib.hid (ExL.lit [((n + 1), .slice a1 n1 k1, withS s 1 []), (x, .slice a2 n2 k2, withS s 1 []), (y, .slice a3 n3 k3, withS s 1 [69])] 92 3 rfl (HQ.out _ BB.out.size) _ rfl (fun t ht => by
        simp only [List.mem_cons, List.not_mem_nil, or_false] at ht
        rcases ht with rfl | rfl | rfl
        ·exact T1.out
        ·exact T2.out
        ·exact T3.out))
       have BB := Lib.hid (ext_alloc BB.out (.cells #[.int .i64 (n + 1), .slice a1 n1 k1, .int .i64 x, .slice a2 n2 k2, .int .i64 y, .slice a3 n3 k3] 92))
       refine hK.out _ _ ((Below.heap_alloc _ _ _ hgc).trans hS1) (fun hS1 => ?_)
       clear hK K
       try simp only [Act.put, List.setIfInBounds_toArray, List.set_cons_zero, List.set_cons_succ]
       refine wpV 21 ⟨some 6, .assign (.tmp 32), 83, "may.go:164", #[⟨20, .data⟩, ⟨18, .chain⟩, ⟨0, .phase⟩, ⟨1, .phase⟩, ⟨2, .phase⟩, ⟨3, .phase⟩, ⟨4, .phase⟩, ⟨5, .phase⟩, ⟨6, .phase⟩, ⟨7, .phase⟩, ⟨8, .phase⟩, ⟨9, .phase⟩, ⟨10, .phase⟩, ⟨11, .phase⟩, ⟨12, .phase⟩, ⟨13, .phase⟩, ⟨14, .phase⟩, ⟨15, .phase⟩, ⟨16, .phase⟩, ⟨17, .phase⟩, ⟨18, .phase⟩, ⟨19, .phase⟩, ⟨20, .phase⟩], none⟩ (.slice (some ⟨w3.heap.size, 0, none⟩) 3 3) hS1 ?_
       try simp only [Act.put, List.setIfInBounds_toArray, List.set_cons_zero, List.set_cons_succ]
       refine wpV 22 ⟨some 7, .assign (.const (Go.Value.bool true)), 4, "may.go:164", #[⟨21, .chain⟩, ⟨0, .phase⟩, ⟨1, .phase⟩, ⟨2, .phase⟩, ⟨3, .phase⟩, ⟨4, .phase⟩, ⟨5, .phase⟩, ⟨6, .phase⟩, ⟨7, .phase⟩, ⟨8, .phase⟩, ⟨9, .phase⟩, ⟨10, .phase⟩, ⟨11, .phase⟩, ⟨12, .phase⟩, ⟨13, .phase⟩, ⟨14, .phase⟩, ⟨15, .phase⟩, ⟨16, .phase⟩, ⟨17, .phase⟩, ⟨18, .phase⟩, ⟨19, .phase⟩, ⟨20, .phase⟩, ⟨21, .phase⟩], none⟩ (.bool true) hS1 ?_
       try simp only [Act.put, List.setIfInBounds_toArray, List.set_cons_zero, List.set_cons_succ]
       refine wpAnyH_done (by kernel_rfl) ?_ _
       refine NoPanic.normal ?_
       go_wp2_with fail
       go_ret2
       exact StepPost.yes HR.out BB.out E.out
      exact AllReadyH.nil
     exact AllReadyH.nil
    exact AllReadyH.nil
   exact AllReadyH.nil
  refine AllReadyH.cons (o := ⟨some 29, .buildSlice 89 1 #[(0, .const (Go.Value.int Go.IntKind.u8 69))], 89, "may.go:164", #[], none⟩) rfl (fun K hK => ?_) ?_
  ·refine wantedC (by rfl) ?_
   go_simp
   have bE := ext_alloc (Below.refl wd.heap.size wd) (.cells #[.int .u8 69] 96)
   have tE := lit1 (w := wd) (Q := fun _ => True) 69 (fun _ _ => trivial)
   have TE := Lib.hid tE
   have HS := Lib.hid (HS.out.below bE)
   have hS2 := (bE.block g hgc).trans hS1
   have hgc : g < (wd.alloc (.cells #[.int .u8 69] 96)).heap.size := by have := bE.size; omega
   have BB := Lib.hid (ext_trans BB.out bE)
   clear tE bE
   refine hK.out _ _ hS2 (fun hS1 => ?_)
   clear hK K
   generalize wd.alloc (.cells #[.int .u8 69] 96) = wE at TE HS  hS2 hgc BB hS1 ⊢
   try simp only [Act.put, List.setIfInBounds_toArray, List.set_cons_zero, List.set_cons_succ]
   refine wpAnyH_ready (rs := [3]) (by kernel_rfl) (by simp) ?_
   refine AllReadyH.cons (o := ⟨some 15, .call { callee := .value (.func 74), args := #[.tmp 14, .const (Go.Value.int Go.IntKind.i64 1), .const (Go.Value.slice none 0 0)], argTypes := #[90, 3, 89] }, 90, "may.go:164", #[⟨2, .data⟩], none⟩) rfl (fun K hK => ?_) ?_
   ·refine wantedC (by rfl) ?_
    go_simp
    go_at_call 74
    refine (with_lit (s := s) (l := []) 1 _ wE (by first | rfl | (push_cast; rfl)) HS.out (St.nil (fun _ => True) _) (by rw [HN.out]; omega) (by simp) (by rw [HN.out]; omega)).mono ?_
    rintro e w1 ⟨v1, rfl, t1, b1⟩
    have T1 := Lib.hid (t1.up BB.out.size HQ.out)
    have HS := Lib.hid (HS.out.below b1)
    have TE := Lib.hid (TE.out.below b1)
    have hS2 := (b1.block g hgc).trans hS1
    have hgc : g < w1.heap.size := by have := b1.size; omega
    have BB := Lib.hid (ext_trans BB.out b1)
    obtain ⟨a1, n1, k1, rfl⟩ := t1.form
    clear t1 b1
    refine hK.out _ _ hS2 (fun hS1 => ?_)
    clear hK K
    try simp only [Act.put, List.setIfInBounds_toArray, List.set_cons_zero, List.set_cons_succ]
    refine wpV 4 ⟨some 16, .build 92 #[(0, .tmp 13), (1, .tmp 15)], 92, "may.go:164", #[⟨1, .data⟩, ⟨3, .data⟩], none⟩ (.agg #[.int .i64 (n + 1), .slice a1 n1 k1]) hS1 ?_
    try simp only [Act.put, List.setIfInBounds_toArray, List.set_cons_zero, List.set_cons_succ]
    refine wpAnyH_ready (rs := [10]) (by kernel_rfl) (by simp) ?_
    refine AllReadyH.cons (o := ⟨some 22, .call { callee := .value (.func 74), args := #[.tmp 21, .const (Go.Value.int Go.IntKind.i64 1), .const (Go.Value.slice none 0 0)], argTypes := #[90, 3, 89] }, 90, "may.go:164", #[⟨9, .data⟩, ⟨3, .chain⟩], none⟩) rfl (fun K hK => ?_) ?_
    ·refine wantedC (by rfl) ?_
     go_simp
     go_at_call 74
     refine (with_lit (s := s) (l := []) 1 _ w1 (by first | rfl | (push_cast; rfl)) HS.out (St.nil (fun _ => True) _) (by rw [HN.out]; omega) (by simp) (by rw [HN.out]; omega)).mono ?_
     rintro e w2 ⟨v2, rfl, t2, b2⟩
     have T2 := Lib.hid (t2.up BB.out.size HQ.out)
     have HS := Lib.hid (HS.out.below b2)
     have TE := Lib.hid (TE.out.below b2)
     have T1 := Lib.hid (T1.out.below b2)
     have hS2 := (b2.block g hgc).trans hS1
     have hgc : g < w2.heap.size := by have := b2.size; omega
     have BB := Lib.hid (ext_trans BB.out b2)
     obtain ⟨a2, n2, k2, rfl⟩ := t2.form
     clear t2 b2
     refine hK.out _ _ hS2 (fun hS1 => ?_)
     clear hK K
     try simp only [Act.put, List.setIfInBounds_toArray, List.set_cons_zero, List.set_cons_succ]
     refine wpV 11 ⟨some 23, .build 92 #[(0, .tmp 20), (1, .tmp 22)], 92, "may.go:164", #[⟨8, .data⟩, ⟨10, .data⟩], none⟩ (.agg #[.int .i64 x, .slice a2 n2 k2]) hS1 ?_
     try simp only [Act.put, List.setIfInBounds_toArray, List.set_cons_zero, List.set_cons_succ]
     refine wpAnyH_ready (rs := [18]) (by kernel_rfl) (by simp) ?_
     refine AllReadyH.cons (o := ⟨some 30, .call { callee := .value (.func 74), args := #[.tmp 28, .const (Go.Value.int Go.IntKind.i64 1), .tmp 29], argTypes := #[90, 3, 89] }, 90, "may.go:164", #[⟨16, .data⟩, ⟨17, .data⟩, ⟨10, .chain⟩], none⟩) rfl (fun K hK => ?_) ?_
     ·refine wantedC (by rfl) ?_
      go_simp
      go_at_call 74
      refine (with_lit (s := s) (l := [69]) 1 _ w2 (by first | rfl | (push_cast; rfl)) HS.out TE.out (by rw [HN.out]; omega) (by simp) (by rw [HN.out]; omega)).mono ?_
      rintro e w3 ⟨v3, rfl, t3, b3⟩
      have T3 := Lib.hid (t3.up BB.out.size HQ.out)
      have HS := Lib.hid (HS.out.below b3)
      have TE := Lib.hid (TE.out.below b3)
      have T1 := Lib.hid (T1.out.below b3)
      have T2 := Lib.hid (T2.out.below b3)
      have hS2 := (b3.block g hgc).trans hS1
      have hgc : g < w3.heap.size := by have := b3.size; omega
      have BB := Lib.hid (ext_trans BB.out b3)
      obtain ⟨a3, n3, k3, rfl⟩ := t3.form
      clear t3 b3
      refine hK.out _ _ hS2 (fun hS1 => ?_)
      clear hK K
      try simp only [Act.put, List.setIfInBounds_toArray, List.set_cons_zero, List.set_cons_succ]
      refine wpV 19 ⟨some 31, .build 92 #[(0, .tmp 27), (1, .tmp 30)], 92, "may.go:164", #[⟨15, .data⟩, ⟨18, .data⟩], none⟩ (.agg #[.int .i64 y, .slice a3 n3 k3]) hS1 ?_
      try simp only [Act.put, List.setIfInBounds_toArray, List.set_cons_zero, List.set_cons_succ]
      refine wpAnyH_ready (rs := [20]) (by kernel_rfl) (by simp) ?_
      refine AllReadyH.cons (o := ⟨some 32, .buildSlice 83 3 #[(0, .tmp 16), (1, .tmp 23), (2, .tmp 31)], 83, "may.go:164", #[⟨4, .data⟩, ⟨11, .data⟩, ⟨19, .data⟩], none⟩) rfl (fun K hK => ?_) ?_
      ·refine wantedC (by rfl) ?_
       go_simp
       have E := Lib.hid (ExL.lit [((n + 1), .slice a1 n1 k1, withS s 1 []), (x, .slice a2 n2 k2, withS s 1 []), (y, .slice a3 n3 k3, withS s 1 [69])] 92 3 rfl (HQ.out _ BB.out.size) _ rfl (fun t ht => by
        simp only [List.mem_cons, List.not_mem_nil, or_false] at ht
        rcases ht with rfl | rfl | rfl
        ·exact T1.out
        ·exact T2.out
        ·exact T3.out))
       have BB := Lib.hid (ext_alloc BB.out (.cells #[.int .i64 (n + 1), .slice a1 n1 k1, .int .i64 x, .slice a2 n2 k2, .int .i64 y, .slice a3 n3 k3] 92))
       refine hK.out _ _ ((Below.heap_alloc _ _ _ hgc).trans hS1) (fun hS1 => ?_)
       clear hK K
       try simp only [Act.put, List.setIfInBounds_toArray, List.set_cons_zero, List.set_cons_succ]
       refine wpV 21 ⟨some 6, .assign (.tmp 32), 83, "may.go:164", #[⟨20, .data⟩, ⟨18, .chain⟩, ⟨0, .phase⟩, ⟨1, .phase⟩, ⟨2, .phase⟩, ⟨3, .phase⟩, ⟨4, .phase⟩, ⟨5, .phase⟩, ⟨6, .phase⟩, ⟨7, .phase⟩, ⟨8, .phase⟩, ⟨9, .phase⟩, ⟨10, .phase⟩, ⟨11, .phase⟩, ⟨12, .phase⟩, ⟨13, .phase⟩, ⟨14, .phase⟩, ⟨15, .phase⟩, ⟨16, .phase⟩, ⟨17, .phase⟩, ⟨18, .phase⟩, ⟨19, .phase⟩, ⟨20, .phase⟩], none⟩ (.slice (some ⟨w3.heap.size, 0, none⟩) 3 3) hS1 ?_
       try simp only [Act.put, List.setIfInBounds_toArray, List.set_cons_zero, List.set_cons_succ]
       refine wpV 22 ⟨some 7, .assign (.const (Go.Value.bool true)), 4, "may.go:164", #[⟨21, .chain⟩, ⟨0, .phase⟩, ⟨1, .phase⟩, ⟨2, .phase⟩, ⟨3, .phase⟩, ⟨4, .phase⟩, ⟨5, .phase⟩, ⟨6, .phase⟩, ⟨7, .phase⟩, ⟨8, .phase⟩, ⟨9, .phase⟩, ⟨10, .phase⟩, ⟨11, .phase⟩, ⟨12, .phase⟩, ⟨13, .phase⟩, ⟨14, .phase⟩, ⟨15, .phase⟩, ⟨16, .phase⟩, ⟨17, .phase⟩, ⟨18, .phase⟩, ⟨19, .phase⟩, ⟨20, .phase⟩, ⟨21, .phase⟩], none⟩ (.bool true) hS1 ?_
       try simp only [Act.put, List.setIfInBounds_toArray, List.set_cons_zero, List.set_cons_succ]
       refine wpAnyH_done (by kernel_rfl) ?_ _
       refine NoPanic.normal ?_
       go_wp2_with fail
       go_ret2
       exact StepPost.yes HR.out BB.out E.out
      exact AllReadyH.nil
     exact AllReadyH.nil
    exact AllReadyH.nil
   exact AllReadyH.nil
  exact AllReadyH.nil
theorem err_any {b g o : Nat} {p : PI} {tv v : Value} {Q : Nat → Prop} {s : List Int} (n : Int) (W : World) (hp : InP W b g o p tv) (hb : b ≤ W.heap.size) (hs : St Q W v s) (hQ : ∀ x, W.heap.size ≤ x → Q x) (hsl : s.length ≤ 2000) (hn : 0 ≤ n ∧ n ≤ 100000) (hlo : 0 ≤ p.b) : Calls Tryz.prog 112 #[.pointer (some ⟨g, o, none⟩), .int .i64 n, v] W (StepPost Q W (errS p n s)) := by
 have HP := Lib.hid hp; have HS := Lib.hid hs; have HQ := Lib.hid hQ
 have hgl := hp.lt
 have hg1 : g < W.heap.size := by omega
 obtain ⟨hn1, hn2⟩ := hn
 obtain ⟨a, kc, rfl, -⟩ := hs
 obtain ⟨ns, hns⟩ : ∃ ns, s.length = ns := ⟨_, rfl⟩
 rw [hns] at hsl ⊢
 have HN := Lib.hid hns
 clear hp hns hQ
 have HW : ∀ r : Option Exits, (if 1 ≤ s.length ∧ p.b ≤ (s.length : Int) - 1 then some [(n + 1, s), (p.a, withS s (p.b + 1).toNat [69])] else none) = r → Hid (errS p n s = r) := fun r h => Lib.hid h
 try rw [HN.out] at HW
 obtain ⟨x, hx⟩ : ∃ x, p.a = x := ⟨_, rfl⟩
 obtain ⟨y, hy⟩ : ∃ y, p.b = y := ⟨_, rfl⟩
 have c1 := HP.out.c1; have c2 := HP.out.c2
 rw [hx] at c1
 rw [hy] at c2
 try rw [hx]
 try rw [hy]
 try rw [hx] at HW
 try rw [hy] at HW
 rw [hy] at hlo
 clear hx hy
 have hs1 := HS.out
 rw [HN.out] at hs1
 have HS := Lib.hid hs1
 clear hs1
 obtain ⟨m, hm⟩ : ∃ m : Nat, y = (m : Int) := ⟨y.toNat, by omega⟩
 subst hm
 by_cases h1 : ns < 1
 ·have HR := HW none (if_neg (by omega))
  clear HW
  go_enter Tryz.func112, Tryz.ntmps112
  go_wp2_with fail
  go_ret2
  exact StepPost.no HR.out (Below.refl _ _)
 ·by_cases h2 : (ns : Int) - 1 < (m : Int)
  ·have HR := HW none (if_neg (by omega))
   clear HW
   go_enter Tryz.func112, Tryz.ntmps112
   go_wp2_with fail
   go_ret2
   exact StepPost.no HR.out (Below.refl _ _)
  ·have HR := HW (some [(n + 1, s), (x, withS s (m + 1) [69])]) (by rw [if_pos (by omega)]; rfl)
   clear HW
   have hmn : m + 1 ≤ ns := by omega
   go_enter Tryz.func112, Tryz.ntmps112
   have BB := Lib.hid (Below.refl W.heap.size W)
   have hgc : g < W.heap.size := hg1
   go_upto_region 3 with (fail)
   refine wp_region_noPanic ?_
   refine wp_region_held_drew (S := fun w => w.heap[g]? = W.heap[g]?) (by kernel_rfl) rfl (fun hS1 => ?_)
   have HS := Lib.hid (HS.out.below (Below.refl _ W).drew)
   have BB := Lib.hid (BB.out.drew)
   have hgc : g < W.drew.heap.size := hgc
   generalize hwd : W.drew = wd at HS BB hgc hS1 ⊢
   clear hwd
   refine wpV 0 ⟨some 21, .move (.tmp 1), 3, "may.go:158", #[], none⟩ (.int .i64 n) hS1 ?_
   try simp only [Act.put, List.setIfInBounds_toArray, List.set_cons_zero, List.set_cons_succ]
   refine wpT 1 ⟨some 22, .binOp Go.BinOp.add 3 (.tmp 21) (.const (Go.Value.int Go.IntKind.i64 1)) 3, 3, "may.go:158", #[⟨0, .data⟩], none⟩ (.int .i64 (n + 1)) (Or.inl ⟨by rfl, fun W hW => by first | (go_simp; done) | (go_simp; with_reducible rfl) | (go_simp; exact IntWalk.i64_in _ (by omega))⟩) hS1 ?_
   try simp only [Act.put, List.setIfInBounds_toArray, List.set_cons_zero, List.set_cons_succ]
   refine wpV 2 ⟨some 23, .move (.tmp 2), 90, "may.go:158", #[], none⟩ (.slice a ns kc) hS1 ?_
   try simp only [Act.put, List.setIfInBounds_toArray, List.set_cons_zero, List.set_cons_succ]
   refine wpV 3 ⟨some 24, .build 92 #[(0, .tmp 22), (1, .tmp 23)], 92, "may.go:158", #[⟨1, .data⟩, ⟨2, .data⟩], none⟩ (.agg #[.int .i64 (n + 1), .slice a ns kc]) hS1 ?_
   try simp only [Act.put, List.setIfInBounds_toArray, List.set_cons_zero, List.set_cons_succ]
   refine wpV 4 ⟨some 25, .move (.tmp 0), 80, "may.go:158", #[], none⟩ (.pointer (some ⟨g, o, none⟩)) hS1 ?_
   try simp only [Act.put, List.setIfInBounds_toArray, List.set_cons_zero, List.set_cons_succ]
   refine wpV 5 ⟨some 26, .nilCheck (.tmp 25), 0, "may.go:158", #[⟨4, .data⟩], none⟩ (.pointer (some ⟨g, o, none⟩)) hS1 ?_
   try simp only [Act.put, List.setIfInBounds_toArray, List.set_cons_zero, List.set_cons_succ]
   refine wpV 6 ⟨some 27, .fieldAddr 47 (.tmp 26) 1, 0, "may.go:158", #[⟨5, .data⟩], none⟩ (.pointer (some ⟨g, o + 1, none⟩)) hS1 ?_
   try simp only [Act.put, List.setIfInBounds_toArray, List.set_cons_zero, List.set_cons_succ]
   refine wpT 7 ⟨some 28, .load 3 (.tmp 27), 3, "may.go:158", #[⟨6, .data⟩], none⟩ (.int .i64 x) (Or.inl ⟨by rfl, fun W hW => by have e := (World.cell?_of_block (a := ⟨g, o + 1, none⟩) hW).trans c1; go_simp; done⟩) hS1 ?_
   try simp only [Act.put, List.setIfInBounds_toArray, List.set_cons_zero, List.set_cons_succ]
   refine wpV 8 ⟨some 29, .move (.tmp 2), 90, "may.go:158", #[], none⟩ (.slice a ns kc) hS1 ?_
   try simp only [Act.put, List.setIfInBounds_toArray, List.set_cons_zero, List.set_cons_succ]
   refine wpV 9 ⟨some 30, .move (.tmp 0), 80, "may.go:158", #[], none⟩ (.pointer (some ⟨g, o, none⟩)) hS1 ?_
   try simp only [Act.put, List.setIfInBounds_toArray, List.set_cons_zero, List.set_cons_succ]
   refine wpV 10 ⟨some 31, .nilCheck (.tmp 30), 0, "may.go:158", #[⟨9, .data⟩], none⟩ (.pointer (some ⟨g, o, none⟩)) hS1 ?_
   try simp only [Act.put, List.setIfInBounds_toArray, List.set_cons_zero, List.set_cons_succ]
   refine wpV 11 ⟨some 32, .fieldAddr 47 (.tmp 31) 2, 0, "may.go:158", #[⟨10, .data⟩], none⟩ (.pointer (some ⟨g, o + 2, none⟩)) hS1 ?_
   try simp only [Act.put, List.setIfInBounds_toArray, List.set_cons_zero, List.set_cons_succ]
   refine wpT 12 ⟨some 33, .load 3 (.tmp 32), 3, "may.go:158", #[⟨11, .data⟩], none⟩ (.int .i64 (m : Int)) (Or.inl ⟨by rfl, fun W hW => by have e := (World.cell?_of_block (a := ⟨g, o + 2, none⟩) hW).trans c2; go_simp; done⟩) hS1 ?_
   try simp only [Act.put, List.setIfInBounds_toArray, List.set_cons_zero, List.set_cons_succ]
   refine wpT 13 ⟨some 34, .binOp Go.BinOp.add 3 (.tmp 33) (.const (Go.Value.int Go.IntKind.i64 1)) 3, 3, "may.go:158", #[⟨12, .data⟩], none⟩ (.int .i64 ((m : Int) + 1)) (Or.inl ⟨by rfl, fun W hW => by first | (go_simp; done) | (go_simp; with_reducible rfl) | (go_simp; exact IntWalk.i64_in _ (by omega))⟩) hS1 ?_
   try simp only [Act.put, List.setIfInBounds_toArray, List.set_cons_zero, List.set_cons_succ]
   refine wpAnyH_ready (rs := [14]) (by kernel_rfl) (by simp) ?_
   refine AllReadyH.cons (o := ⟨some 35, .buildSlice 89 1 #[(0, .const (Go.Value.int Go.IntKind.u8 69))], 89, "may.go:158", #[], none⟩) rfl (fun K hK => ?_) ?_
   ·refine wantedC (by rfl) ?_
    go_simp
    have bE := ext_alloc (Below.refl wd.heap.size wd) (.cells #[.int .u8 69] 96)
    have tE := lit1 (w := wd) (Q := fun _ => True) 69 (fun _ _ => trivial)
    have TE := Lib.hid tE
    have HS := Lib.hid (HS.out.below bE)
    have hS2 := (bE.block g hgc).trans hS1
    have hgc : g < (wd.alloc (.cells #[.int .u8 69] 96)).heap.size := by have := bE.size; omega
    have BB := Lib.hid (ext_trans BB.out bE)
    clear tE bE
    refine hK.out _ _ hS2 (fun hS1 => ?_)
    clear hK K
    generalize wd.alloc (.cells #[.int .u8 69] 96) = wE at TE HS  hS2 hgc BB hS1 ⊢
    try simp only [Act.put, List.setIfInBounds_toArray, List.set_cons_zero, List.set_cons_succ]
    refine wpAnyH_ready (rs := [15]) (by kernel_rfl) (by simp) ?_
    refine AllReadyH.cons (o := ⟨some 36, .call { callee := .value (.func 74), args := #[.tmp 29, .tmp 34, .tmp 35], argTypes := #[90, 3, 89] }, 90, "may.go:158", #[⟨8, .data⟩, ⟨13, .data⟩, ⟨14, .data⟩], none⟩) rfl (fun K hK => ?_) ?_
    ·refine wantedC (by rfl) ?_
     go_simp
     go_at_call 74
     refine (with_lit (s := s) (l := [69]) (m + 1) _ wE (by first | rfl | (push_cast; rfl)) HS.out TE.out (by rw [HN.out]; omega) (by simp) (by rw [HN.out]; omega)).mono ?_
     rintro e w1 ⟨v1, rfl, t1, b1⟩
     have T1 := Lib.hid (t1.up BB.out.size HQ.out)
     have HS := Lib.hid (HS.out.below b1)
     have TE := Lib.hid (TE.out.below b1)
     have hS2 := (b1.block g hgc).trans hS1
     have hgc : g < w1.heap.size := by have := b1.size; omega
     have BB := Lib.hid (ext_trans BB.out b1)
     obtain ⟨a1, n1, k1, rfl⟩ := t1.form
     clear t1 b1
     refine hK.out _ _ hS2 (fun hS1 => ?_)
     clear hK K
     try simp only [Act.put, List.setIfInBounds_toArray, List.set_cons_zero, List.set_cons_succ]
     refine wpV 16 ⟨some 37, .build 92 #[(0, .tmp 28), (1, .tmp 36)], 92, "may.go:158", #[⟨7, .data⟩, ⟨15, .data⟩], none⟩ (.agg #[.int .i64 x, .slice a1 n1 k1]) hS1 ?_
     try simp only [Act.put, List.setIfInBounds_toArray, List.set_cons_zero, List.set_cons_succ]
     refine wpAnyH_ready (rs := [17]) (by kernel_rfl) (by simp) ?_
     refine AllReadyH.cons (o := ⟨some 38, .buildSlice 83 2 #[(0, .tmp 24), (1, .tmp 37)], 83, "may.go:158", #[⟨3, .data⟩, ⟨16, .data⟩], none⟩) rfl (fun K hK => ?_) ?_
     ·refine wantedC (by rfl) ?_
      go_simp
      have E := Lib.hid (ExL.lit [((n + 1), .slice a ns kc, s), (x, .slice a1 n1 k1, withS s (m + 1) [69])] 92 2 rfl (HQ.out _ BB.out.size) _ rfl (fun t ht => by
       simp only [List.mem_cons, List.not_mem_nil, or_false] at ht
       rcases ht with rfl | rfl
       ·exact HS.out
       ·exact T1.out))
      have BB := Lib.hid (ext_alloc BB.out (.cells #[.int .i64 (n + 1), .slice a ns kc, .int .i64 x, .slice a1 n1 k1] 92))
      refine hK.out _ _ ((Below.heap_alloc _ _ _ hgc).trans hS1) (fun hS1 => ?_)
      clear hK K
      try simp only [Act.put, List.setIfInBounds_toArray, List.set_cons_zero, List.set_cons_succ]
      refine wpV 18 ⟨some 6, .assign (.tmp 38), 83, "may.go:158", #[⟨17, .data⟩, ⟨15, .chain⟩, ⟨0, .phase⟩, ⟨1, .phase⟩, ⟨2, .phase⟩, ⟨3, .phase⟩, ⟨4, .phase⟩, ⟨5, .phase⟩, ⟨6, .phase⟩, ⟨7, .phase⟩, ⟨8, .phase⟩, ⟨9, .phase⟩, ⟨10, .phase⟩, ⟨11, .phase⟩, ⟨12, .phase⟩, ⟨13, .phase⟩, ⟨14, .phase⟩, ⟨15, .phase⟩, ⟨16, .phase⟩, ⟨17, .phase⟩], none⟩ (.slice (some ⟨w1.heap.size, 0, none⟩) 2 2) hS1 ?_
      try simp only [Act.put, List.setIfInBounds_toArray, List.set_cons_zero, List.set_cons_succ]
      refine wpV 19 ⟨some 7, .assign (.const (Go.Value.bool true)), 4, "may.go:158", #[⟨18, .chain⟩, ⟨0, .phase⟩, ⟨1, .phase⟩, ⟨2, .phase⟩, ⟨3, .phase⟩, ⟨4, .phase⟩, ⟨5, .phase⟩, ⟨6, .phase⟩, ⟨7, .phase⟩, ⟨8, .phase⟩, ⟨9, .phase⟩, ⟨10, .phase⟩, ⟨11, .phase⟩, ⟨12, .phase⟩, ⟨13, .phase⟩, ⟨14, .phase⟩, ⟨15, .phase⟩, ⟨16, .phase⟩, ⟨17, .phase⟩, ⟨18, .phase⟩], none⟩ (.bool true) hS1 ?_
      try simp only [Act.put, List.setIfInBounds_toArray, List.set_cons_zero, List.set_cons_succ]
      refine wpAnyH_done (by kernel_rfl) ?_ _
      refine NoPanic.normal ?_
      go_wp2_with fail
      go_ret2
      exact StepPost.yes HR.out BB.out E.out
     exact AllReadyH.nil
    exact AllReadyH.nil
   exact AllReadyH.nil
end Go.Proofs.YtlmpiobdgkmmgaaGreatDoor
