/- Comp: regions that append, by hand. -/
import Derived.Test.YtlmpiobdgkmmgaaGreatDoorKcG
set_option maxRecDepth 1000000
set_option maxHeartbeats 16000000
namespace Go.Proofs.YtlmpiobdgkmmgaaGreatDoor
open Go.RowKit
theorem infoIns : (Tryz.prog.info? 47).map (fun i => (i.zero, i.size, i.bytes)) = some (some (.agg #[.int .i64 0, .int .i64 0, .int .i64 0, .int .i64 0, .int .i64 0, .slice none 0 0]), 6, 64) := by kernel_rfl
theorem infoVal : (Tryz.prog.info? 54).map (fun i => (i.zero, i.size, i.bytes)) = some (some (.agg #[.int .i64 0, .int .i64 0, .string ⟨#[]⟩]), 3, 32) := by kernel_rfl
theorem infoIns9 : (Tryz.prog.info? 47).map (·.size) = some 6 := by kernel_rfl
theorem infoVal9 : (Tryz.prog.info? 54).map (·.size) = some 3 := by kernel_rfl
noncomputable def putR (n : Nat) : Code := (regionB n ((Tryz.f30.body.map regionsB).getD [])).getD .skip
noncomputable def putQ (n : Nat) : Code := (regionB n ((Tryz.f60.body.map regionsB).getD [])).getD .skip
noncomputable def conR (n : Nat) : Code := (regionB n ((Tryz.f24.body.map regionsB).getD [])).getD .skip
noncomputable def conQ (n : Nat) : Code := (regionB n ((Tryz.f58.body.map regionsB).getD [])).getD .skip
theorem put_r {Q : Exit → Act → World → Prop} {b Lx B1 nn kT : Nat} {cl : Nat → Nat} {S : SX} {W : World} {ex : List Value} {vC : Value} {aT : Option Addr} {ps : List PI} {p : PI} {ts : List Value} {cs : List PV} {u1 u2 u4 u5 u6 u7 u8 u9 u10 u11 u12 u13 u14 u15 u16 u17 u18 u19 u20 u21 u22 u23 : Value}
 (LS : Hid (LayS b W.heap.size cl S Lx 64 ex (.slice aT nn kT) vC ps ts cs W)) (HB : Hid (W.heap[B1]? = some (.cells #[.int .i64 p.op, .int .i64 p.a, .int .i64 p.b, .int .i64 p.c, .int .i64 p.d, .slice none 0 0] 47 (0, 0)))) (hcl9 : cl B1 = 9) (hbW : b ≤ W.heap.size) (hnn : ps.length = nn) (hroom : nn ≤ 1000000) (hpt : p.t = [])
 (hexit : Hid (∀ (v5 v6 v7 v8 v9 v10 v11 v12 v13 v14 v15 v16 : Value) (g cap : Nat) (cl1 : Nat → Nat) (W' : World), Hid (LayS b W'.heap.size cl1 S Lx 64 ex (.slice (some ⟨g, 0, none⟩) (ps.length + 1) cap) vC (ps ++ [p]) (ts ++ [.slice none 0 0]) cs W') → Hid (Frm (fun c => c ≠ 0 ∧ c ≠ 2) cl W.heap.size cl1 W W') → Below b W W' → Q .normal ⟨List.toArray ((.pointer (some ⟨Lx, 0, none⟩)) :: u1 :: u2 :: (.pointer (some ⟨B1, 0, none⟩)) :: u4 :: v5 :: v6 :: v7 :: v8 :: v9 :: v10 :: v11 :: v12 :: v13 :: v14 :: v15 :: v16 :: u17 :: u18 :: u19 :: u20 :: u21 :: u22 :: u23 :: []), []⟩ W')) :
 Code.wp Tryz.prog (putR 1) Q ⟨List.toArray ((.pointer (some ⟨Lx, 0, none⟩)) :: u1 :: u2 :: (.pointer (some ⟨B1, 0, none⟩)) :: u4 :: u5 :: u6 :: u7 :: u8 :: u9 :: u10 :: u11 :: u12 :: u13 :: u14 :: u15 :: u16 :: u17 :: u18 :: u19 :: u20 :: u21 :: u22 :: u23 :: []), []⟩ W := by
 conv => arg 2; whnf
 obtain ⟨i0, hi, hz0, hz1, hz2⟩ := info_parts infoIns
 have HLT := Lib.hid (lt_of_block HB.out)
 have HNB : Hid ((Value.slice aT nn kT).ownBlock ≠ some B1) := Lib.hid fun q => by have h2 := (LS.out.rI.cls B1 q).1; omega
 have HNL : Hid ((Value.slice aT nn kT).ownBlock ≠ some Lx) := Lib.hid fun q => by have h1 := LS.out.bx.1; have h2 := (LS.out.rI.cls Lx q).1; omega
 have hBL : B1 ≠ Lx := fun q => by have h1 := LS.out.bx.1; rw [← q, hcl9] at h1; omega
 have QD : Hid (LayS b W.drew.heap.size cl S Lx 64 ex (.slice aT nn kT) vC ps ts cs W.drew) := Lib.hid (LS.out.frm (P := fun _ => True) (fun x _ _ => ⟨rfl, rfl⟩ : Frm (fun _ => True) cl W.heap.size cl W W.drew) (Nat.le_refl _) trivial trivial trivial fun _ _ => trivial)
 have ROW : Hid (W.drew.ownsRow b 47 6 (.slice aT nn kT) nn (insC ps ts)) := Lib.hid (by subst hnn; exact QD.out.rI.own)
 have b0 : W.cell? ⟨Lx, 0, none⟩ = some (.slice aT nn kT) := (cells_of_block LS.out.box 0).trans rfl
 refine wp_region_noPanic ?_
 refine wp_region_held_drew (S := (fun w => w.heap[B1]? = some (.cells #[.int .i64 p.op, .int .i64 p.a, .int .i64 p.b, .int .i64 p.c, .int .i64 p.d, .slice none 0 0] 47 (0, 0)))) (by kernel_rfl) HB.out (fun hS1 => ?_)
 refine wpV 0 ⟨some 5, .move (.tmp 0), 61, "comp.go:49", #[], none⟩ (.pointer (some ⟨Lx, 0, none⟩)) hS1 ?_
 try simp only [Act.put, List.setIfInBounds_toArray, List.set_cons_zero, List.set_cons_succ]
 refine wpV 1 ⟨some 6, .move (.tmp 0), 61, "comp.go:49", #[], none⟩ (.pointer (some ⟨Lx, 0, none⟩)) hS1 ?_
 try simp only [Act.put, List.setIfInBounds_toArray, List.set_cons_zero, List.set_cons_succ]
 refine wpV 2 ⟨some 7, .nilCheck (.tmp 6), 0, "comp.go:49", #[⟨1, .data⟩], none⟩ (.pointer (some ⟨Lx, 0, none⟩)) hS1 ?_
 try simp only [Act.put, List.setIfInBounds_toArray, List.set_cons_zero, List.set_cons_succ]
 refine wpV 3 ⟨some 8, .fieldAddr 64 (.tmp 7) 0, 0, "comp.go:49", #[⟨2, .data⟩], none⟩ (.pointer (some ⟨Lx, 0, none⟩)) hS1 ?_
 try simp only [Act.put, List.setIfInBounds_toArray, List.set_cons_zero, List.set_cons_succ]
 refine wpV 4 ⟨some 9, .fieldAddr 27 (.tmp 8) 0, 0, "comp.go:49", #[⟨3, .data⟩], none⟩ (.pointer (some ⟨Lx, 0, none⟩)) hS1 ?_
 try simp only [Act.put, List.setIfInBounds_toArray, List.set_cons_zero, List.set_cons_succ]
 refine wpT 6 ⟨some 11, .load 47 (.tmp 3), 47, "comp.go:49", #[], none⟩ (.agg #[.int .i64 p.op, .int .i64 p.a, .int .i64 p.b, .int .i64 p.c, .int .i64 p.d, .slice none 0 0]) (yieldsIf_load_mid (by rfl) 47 _ rfl B1 0 rfl [.int .i64 p.op, .int .i64 p.a, .int .i64 p.b, .int .i64 p.c, .int .i64 p.d, .slice none 0 0] _ (fun W hW => fun o v h => by rw [cells_of_block hW, ← h]; simp) Tryz.underlying47 rfl infoIns9) hS1 ?_
 try simp only [Act.put, List.setIfInBounds_toArray, List.set_cons_zero, List.set_cons_succ]
 refine wpAnyH_ready (rs := [5, 7]) (by kernel_rfl) (by simp) ?_
 refine AllReadyH.cons (o := ⟨some 10, .load 24 (.tmp 9), 24, "comp.go:49", #[⟨4, .data⟩], none⟩) rfl (fun K hK => ?_) ?_
 ·refine wanted_wp10 (by rfl) ?_
  have b2 := b0
  go_simp
  refine hK.out _ _ hS1 (fun hS1 => ?_)
  clear hK K
  try simp only [Act.put, List.setIfInBounds_toArray, List.set_cons_zero, List.set_cons_succ]
  refine wpAnyH_ready (rs := [7]) (by kernel_rfl) (by simp) ?_
  refine AllReadyH.cons (o := ⟨some 12, .buildSlice 24 1 #[(0, .tmp 11)], 24, "comp.go:49", #[⟨6, .data⟩], none⟩) rfl (fun K hK => ?_) ?_
  ·refine wanted_wp10 (by rfl) ?_
   go_simp
   refine hK.out _ _ ((Below.heap_alloc _ _ _ HLT.out).trans hS1) (fun hS1 => ?_)
   clear hK K
   try simp only [Act.put, List.setIfInBounds_toArray, List.set_cons_zero, List.set_cons_succ]
   refine wpAnyH_ready (rs := [8]) (by kernel_rfl) (by simp) ?_
   refine AllReadyH.cons (o := ⟨some 13, .call { callee := .builtin .append, args := #[.tmp 10, .tmp 12], argTypes := #[24, 24] }, 24, "comp.go:49", #[⟨5, .data⟩, ⟨7, .data⟩], none⟩) rfl (fun K hK => ?_) ?_
   ·refine wanted_wp10 (by rfl) ?_
    refine wp_append_lies _ (.tmp 10) (.tmp 12) 24 rfl b 47 i0 _ 6 64 Tryz.underlying24 hi hz0 hz1 hz2 rfl (by decide) (.slice aT nn kT) nn (insC ps ts) rfl (World.ownsRow.alloc ROW.out _) ⟨W.drew.heap.size, 0, none⟩ 1 1 [.int .i64 p.op, .int .i64 p.a, .int .i64 p.b, .int .i64 p.c, .int .i64 p.d, .slice none 0 0] rfl rfl (World.news_of_block (heap_alloc_new W.drew _)) (by simp [Value.oneCell']) (by decide) (by unfold maxLen; omega) (by omega) (by simp; show b ≤ W.heap.size + 1; omega) _ rfl ?_
    intro g cap w3 hown hgrow hat _
    have hgrow : (W.drew.alloc (.cells #[.int .i64 p.op, .int .i64 p.a, .int .i64 p.b, .int .i64 p.c, .int .i64 p.d, .slice none 0 0] 47)).grownBy w3 (Value.slice aT nn kT).ownBlock := hgrow
    have hown1 : w3.ownsRow b 47 6 (.slice (some ⟨g, 0, none⟩) (nn + 1) cap) (nn + 1) (insC ps ts ++ insV p (.slice none 0 0)) := hown
    have sB : w3.heap[B1]? = some (.cells #[.int .i64 p.op, .int .i64 p.a, .int .i64 p.b, .int .i64 p.c, .int .i64 p.d, .slice none 0 0] 47 (0, 0)) := (grow_same9 hgrow B1 HLT.out HNB.out).trans HB.out
    have sL := (grow_same9 hgrow Lx LS.out.bx.2.1 HNL.out).trans LS.out.box
    subst hnn
    have happ := QD.out.appI (g := g) (cap := cap) (W1 := w3) (o := (.cells #[.int .i64 p.op, .int .i64 p.a, .int .i64 p.b, .int .i64 p.c, .int .i64 p.d, .slice none 0 0] 47)) hbW hown1 hgrow (hat.imp_right fun q => by rw [q]; rfl) (p := p) (t := .slice none 0 0) ⟨hpt, rfl⟩
    have bx1 : w3.cell? ⟨Lx, 0, none⟩ = some (.slice aT ps.length kT) := (cells_of_block sL 0).trans rfl
    have fx1 := frees_of_block sL 0
    have APP := Lib.hid happ
    clear hown hown1 hgrow hat happ sL
    refine hK.out _ _ sB (fun hS1 => ?_)
    clear hK K
    try simp only [Act.put, List.setIfInBounds_toArray, List.set_cons_zero, List.set_cons_succ]
    refine wpV 9 ⟨some 14, .nilCheck (.tmp 5), 0, "comp.go:49", #[⟨0, .data⟩, ⟨0, .phase⟩, ⟨1, .phase⟩, ⟨2, .phase⟩, ⟨3, .phase⟩, ⟨4, .phase⟩, ⟨5, .phase⟩, ⟨6, .phase⟩, ⟨7, .phase⟩, ⟨8, .phase⟩], none⟩ (.pointer (some ⟨Lx, 0, none⟩)) hS1 ?_
    try simp only [Act.put, List.setIfInBounds_toArray, List.set_cons_zero, List.set_cons_succ]
    refine wpV 10 ⟨some 15, .fieldAddr 64 (.tmp 14) 0, 0, "comp.go:49", #[⟨9, .data⟩, ⟨0, .phase⟩, ⟨1, .phase⟩, ⟨2, .phase⟩, ⟨3, .phase⟩, ⟨4, .phase⟩, ⟨5, .phase⟩, ⟨6, .phase⟩, ⟨7, .phase⟩, ⟨8, .phase⟩], none⟩ (.pointer (some ⟨Lx, 0, none⟩)) hS1 ?_
    try simp only [Act.put, List.setIfInBounds_toArray, List.set_cons_zero, List.set_cons_succ]
    refine wpV 11 ⟨some 16, .fieldAddr 27 (.tmp 15) 0, 0, "comp.go:49", #[⟨10, .data⟩, ⟨0, .phase⟩, ⟨1, .phase⟩, ⟨2, .phase⟩, ⟨3, .phase⟩, ⟨4, .phase⟩, ⟨5, .phase⟩, ⟨6, .phase⟩, ⟨7, .phase⟩, ⟨8, .phase⟩], none⟩ (.pointer (some ⟨Lx, 0, none⟩)) hS1 ?_
    try simp only [Act.put, List.setIfInBounds_toArray, List.set_cons_zero, List.set_cons_succ]
    refine wpAnyH_ready (rs := [12]) (by kernel_rfl) (by simp) ?_
    refine AllReadyH.cons (o := ⟨none, .store 24 (.tmp 16) (.tmp 13), 0, "comp.go:49", #[⟨11, .data⟩, ⟨8, .data⟩, ⟨8, .chain⟩, ⟨0, .phase⟩, ⟨1, .phase⟩, ⟨2, .phase⟩, ⟨3, .phase⟩, ⟨4, .phase⟩, ⟨5, .phase⟩, ⟨6, .phase⟩, ⟨7, .phase⟩, ⟨8, .phase⟩], none⟩) rfl (fun K hK => ?_) ?_
    ·refine wanted_wp10 (by rfl) ?_
     go_simp
     obtain ⟨s3, f3, b3⟩ := APP.out
     have h3 := (heap_setCell_other w3 ⟨Lx, 0, none⟩ B1 (.slice (some ⟨g, 0, none⟩) (ps.length + 1) cap) hBL).trans hS1
     have z3 := setCell_hsize w3 ⟨Lx, 0, none⟩ (.slice (some ⟨g, 0, none⟩) (ps.length + 1) cap)
     generalize World.setCell w3 ⟨Lx, 0, none⟩ (.slice (some ⟨g, 0, none⟩) (ps.length + 1) cap) = w4 at s3 f3 b3 h3 z3 ⊢
     refine hK.out _ _ h3 (fun hS1 => ?_)
     clear hK K
     try simp only [Act.put]
     refine wpAnyH_done (by kernel_rfl) ?_ _
     refine NoPanic.normal ?_
     exact hexit.out _ _ _ _ _ _ _ _ _ _ _ _ _ _ _ _ (Lib.hid (by rw [z3]; exact s3)) (Lib.hid f3) (((Below.refl b W).drew).trans b3)
    exact AllReadyH.nil
   exact AllReadyH.nil
  exact AllReadyH.nil
 refine AllReadyH.cons (o := ⟨some 12, .buildSlice 24 1 #[(0, .tmp 11)], 24, "comp.go:49", #[⟨6, .data⟩], none⟩) rfl (fun K hK => ?_) ?_
 ·refine wanted_wp10 (by rfl) ?_
  go_simp
  refine hK.out _ _ ((Below.heap_alloc _ _ _ HLT.out).trans hS1) (fun hS1 => ?_)
  clear hK K
  try simp only [Act.put, List.setIfInBounds_toArray, List.set_cons_zero, List.set_cons_succ]
  refine wpAnyH_ready (rs := [5]) (by kernel_rfl) (by simp) ?_
  refine AllReadyH.cons (o := ⟨some 10, .load 24 (.tmp 9), 24, "comp.go:49", #[⟨4, .data⟩], none⟩) rfl (fun K hK => ?_) ?_
  ·refine wanted_wp10 (by rfl) ?_
   have b2 := (World.cell?_of_block (a := ⟨Lx, 0, none⟩) (Below.heap_alloc W (.cells #[.int .i64 p.op, .int .i64 p.a, .int .i64 p.b, .int .i64 p.c, .int .i64 p.d, .slice none 0 0] 47) _ LS.out.bx.2.1)).trans b0
   go_simp
   refine hK.out _ _ hS1 (fun hS1 => ?_)
   clear hK K
   try simp only [Act.put, List.setIfInBounds_toArray, List.set_cons_zero, List.set_cons_succ]
   refine wpAnyH_ready (rs := [8]) (by kernel_rfl) (by simp) ?_
   refine AllReadyH.cons (o := ⟨some 13, .call { callee := .builtin .append, args := #[.tmp 10, .tmp 12], argTypes := #[24, 24] }, 24, "comp.go:49", #[⟨5, .data⟩, ⟨7, .data⟩], none⟩) rfl (fun K hK => ?_) ?_
   ·refine wanted_wp10 (by rfl) ?_
    refine wp_append_lies _ (.tmp 10) (.tmp 12) 24 rfl b 47 i0 _ 6 64 Tryz.underlying24 hi hz0 hz1 hz2 rfl (by decide) (.slice aT nn kT) nn (insC ps ts) rfl (World.ownsRow.alloc ROW.out _) ⟨W.drew.heap.size, 0, none⟩ 1 1 [.int .i64 p.op, .int .i64 p.a, .int .i64 p.b, .int .i64 p.c, .int .i64 p.d, .slice none 0 0] rfl rfl (World.news_of_block (heap_alloc_new W.drew _)) (by simp [Value.oneCell']) (by decide) (by unfold maxLen; omega) (by omega) (by simp; show b ≤ W.heap.size + 1; omega) _ rfl ?_
    intro g cap w3 hown hgrow hat _
    have hgrow : (W.drew.alloc (.cells #[.int .i64 p.op, .int .i64 p.a, .int .i64 p.b, .int .i64 p.c, .int .i64 p.d, .slice none 0 0] 47)).grownBy w3 (Value.slice aT nn kT).ownBlock := hgrow
    have hown1 : w3.ownsRow b 47 6 (.slice (some ⟨g, 0, none⟩) (nn + 1) cap) (nn + 1) (insC ps ts ++ insV p (.slice none 0 0)) := hown
    have sB : w3.heap[B1]? = some (.cells #[.int .i64 p.op, .int .i64 p.a, .int .i64 p.b, .int .i64 p.c, .int .i64 p.d, .slice none 0 0] 47 (0, 0)) := (grow_same9 hgrow B1 HLT.out HNB.out).trans HB.out
    have sL := (grow_same9 hgrow Lx LS.out.bx.2.1 HNL.out).trans LS.out.box
    subst hnn
    have happ := QD.out.appI (g := g) (cap := cap) (W1 := w3) (o := (.cells #[.int .i64 p.op, .int .i64 p.a, .int .i64 p.b, .int .i64 p.c, .int .i64 p.d, .slice none 0 0] 47)) hbW hown1 hgrow (hat.imp_right fun q => by rw [q]; rfl) (p := p) (t := .slice none 0 0) ⟨hpt, rfl⟩
    have bx1 : w3.cell? ⟨Lx, 0, none⟩ = some (.slice aT ps.length kT) := (cells_of_block sL 0).trans rfl
    have fx1 := frees_of_block sL 0
    have APP := Lib.hid happ
    clear hown hown1 hgrow hat happ sL
    refine hK.out _ _ sB (fun hS1 => ?_)
    clear hK K
    try simp only [Act.put, List.setIfInBounds_toArray, List.set_cons_zero, List.set_cons_succ]
    refine wpV 9 ⟨some 14, .nilCheck (.tmp 5), 0, "comp.go:49", #[⟨0, .data⟩, ⟨0, .phase⟩, ⟨1, .phase⟩, ⟨2, .phase⟩, ⟨3, .phase⟩, ⟨4, .phase⟩, ⟨5, .phase⟩, ⟨6, .phase⟩, ⟨7, .phase⟩, ⟨8, .phase⟩], none⟩ (.pointer (some ⟨Lx, 0, none⟩)) hS1 ?_
    try simp only [Act.put, List.setIfInBounds_toArray, List.set_cons_zero, List.set_cons_succ]
    refine wpV 10 ⟨some 15, .fieldAddr 64 (.tmp 14) 0, 0, "comp.go:49", #[⟨9, .data⟩, ⟨0, .phase⟩, ⟨1, .phase⟩, ⟨2, .phase⟩, ⟨3, .phase⟩, ⟨4, .phase⟩, ⟨5, .phase⟩, ⟨6, .phase⟩, ⟨7, .phase⟩, ⟨8, .phase⟩], none⟩ (.pointer (some ⟨Lx, 0, none⟩)) hS1 ?_
    try simp only [Act.put, List.setIfInBounds_toArray, List.set_cons_zero, List.set_cons_succ]
    refine wpV 11 ⟨some 16, .fieldAddr 27 (.tmp 15) 0, 0, "comp.go:49", #[⟨10, .data⟩, ⟨0, .phase⟩, ⟨1, .phase⟩, ⟨2, .phase⟩, ⟨3, .phase⟩, ⟨4, .phase⟩, ⟨5, .phase⟩, ⟨6, .phase⟩, ⟨7, .phase⟩, ⟨8, .phase⟩], none⟩ (.pointer (some ⟨Lx, 0, none⟩)) hS1 ?_
    try simp only [Act.put, List.setIfInBounds_toArray, List.set_cons_zero, List.set_cons_succ]
    refine wpAnyH_ready (rs := [12]) (by kernel_rfl) (by simp) ?_
    refine AllReadyH.cons (o := ⟨none, .store 24 (.tmp 16) (.tmp 13), 0, "comp.go:49", #[⟨11, .data⟩, ⟨8, .data⟩, ⟨8, .chain⟩, ⟨0, .phase⟩, ⟨1, .phase⟩, ⟨2, .phase⟩, ⟨3, .phase⟩, ⟨4, .phase⟩, ⟨5, .phase⟩, ⟨6, .phase⟩, ⟨7, .phase⟩, ⟨8, .phase⟩], none⟩) rfl (fun K hK => ?_) ?_
    ·refine wanted_wp10 (by rfl) ?_
     go_simp
     obtain ⟨s3, f3, b3⟩ := APP.out
     have h3 := (heap_setCell_other w3 ⟨Lx, 0, none⟩ B1 (.slice (some ⟨g, 0, none⟩) (ps.length + 1) cap) hBL).trans hS1
     have z3 := setCell_hsize w3 ⟨Lx, 0, none⟩ (.slice (some ⟨g, 0, none⟩) (ps.length + 1) cap)
     generalize World.setCell w3 ⟨Lx, 0, none⟩ (.slice (some ⟨g, 0, none⟩) (ps.length + 1) cap) = w4 at s3 f3 b3 h3 z3 ⊢
     refine hK.out _ _ h3 (fun hS1 => ?_)
     clear hK K
     try simp only [Act.put]
     refine wpAnyH_done (by kernel_rfl) ?_ _
     refine NoPanic.normal ?_
     exact hexit.out _ _ _ _ _ _ _ _ _ _ _ _ _ _ _ _ (Lib.hid (by rw [z3]; exact s3)) (Lib.hid f3) (((Below.refl b W).drew).trans b3)
    exact AllReadyH.nil
   exact AllReadyH.nil
  exact AllReadyH.nil
 exact AllReadyH.nil
theorem put_q {Q : Exit → Act → World → Prop} {b Lx B1 nn kT : Nat} {cl : Nat → Nat} {S : SX} {W : World} {ex : List Value} {vC : Value} {aT : Option Addr} {ps : List PI} {p : PI} {ts : List Value} {cs : List PV} {u1 u2 u4 u5 u6 u7 u8 u9 u10 u11 u12 u13 u14 u15 u16 u17 u18 u19 u20 : Value}
 (LS : Hid (LayS b W.heap.size cl S Lx 59 ex (.slice aT nn kT) vC ps ts cs W)) (HB : Hid (W.heap[B1]? = some (.cells #[.int .i64 p.op, .int .i64 p.a, .int .i64 p.b, .int .i64 p.c, .int .i64 p.d, .slice none 0 0] 47 (0, 0)))) (hcl9 : cl B1 = 9) (hbW : b ≤ W.heap.size) (hnn : ps.length = nn) (hroom : nn ≤ 1000000) (hpt : p.t = [])
 (hexit : Hid (∀ (v5 v6 v7 v8 v9 v10 v11 v12 v13 v14 : Value) (g cap : Nat) (cl1 : Nat → Nat) (W' : World), Hid (LayS b W'.heap.size cl1 S Lx 59 ex (.slice (some ⟨g, 0, none⟩) (ps.length + 1) cap) vC (ps ++ [p]) (ts ++ [.slice none 0 0]) cs W') → Hid (Frm (fun c => c ≠ 0 ∧ c ≠ 2) cl W.heap.size cl1 W W') → Below b W W' → Q .normal ⟨List.toArray ((.pointer (some ⟨Lx, 0, none⟩)) :: u1 :: u2 :: (.pointer (some ⟨B1, 0, none⟩)) :: u4 :: v5 :: v6 :: v7 :: v8 :: v9 :: v10 :: v11 :: v12 :: v13 :: v14 :: u15 :: u16 :: u17 :: u18 :: u19 :: u20 :: []), []⟩ W')) :
 Code.wp Tryz.prog (putQ 1) Q ⟨List.toArray ((.pointer (some ⟨Lx, 0, none⟩)) :: u1 :: u2 :: (.pointer (some ⟨B1, 0, none⟩)) :: u4 :: u5 :: u6 :: u7 :: u8 :: u9 :: u10 :: u11 :: u12 :: u13 :: u14 :: u15 :: u16 :: u17 :: u18 :: u19 :: u20 :: []), []⟩ W := by
 conv => arg 2; whnf
 obtain ⟨i0, hi, hz0, hz1, hz2⟩ := info_parts infoIns
 have HLT := Lib.hid (lt_of_block HB.out)
 have HNB : Hid ((Value.slice aT nn kT).ownBlock ≠ some B1) := Lib.hid fun q => by have h2 := (LS.out.rI.cls B1 q).1; omega
 have HNL : Hid ((Value.slice aT nn kT).ownBlock ≠ some Lx) := Lib.hid fun q => by have h1 := LS.out.bx.1; have h2 := (LS.out.rI.cls Lx q).1; omega
 have hBL : B1 ≠ Lx := fun q => by have h1 := LS.out.bx.1; rw [← q, hcl9] at h1; omega
 have QD : Hid (LayS b W.drew.heap.size cl S Lx 59 ex (.slice aT nn kT) vC ps ts cs W.drew) := Lib.hid (LS.out.frm (P := fun _ => True) (fun x _ _ => ⟨rfl, rfl⟩ : Frm (fun _ => True) cl W.heap.size cl W W.drew) (Nat.le_refl _) trivial trivial trivial fun _ _ => trivial)
 have ROW : Hid (W.drew.ownsRow b 47 6 (.slice aT nn kT) nn (insC ps ts)) := Lib.hid (by subst hnn; exact QD.out.rI.own)
 have b0 : W.cell? ⟨Lx, 0, none⟩ = some (.slice aT nn kT) := (cells_of_block LS.out.box 0).trans rfl
 refine wp_region_noPanic ?_
 refine wp_region_held_drew (S := (fun w => w.heap[B1]? = some (.cells #[.int .i64 p.op, .int .i64 p.a, .int .i64 p.b, .int .i64 p.c, .int .i64 p.d, .slice none 0 0] 47 (0, 0)))) (by kernel_rfl) HB.out (fun hS1 => ?_)
 refine wpV 0 ⟨some 5, .move (.tmp 0), 57, "ref.go:19", #[], none⟩ (.pointer (some ⟨Lx, 0, none⟩)) hS1 ?_
 try simp only [Act.put, List.setIfInBounds_toArray, List.set_cons_zero, List.set_cons_succ]
 refine wpV 1 ⟨some 6, .move (.tmp 0), 57, "ref.go:19", #[], none⟩ (.pointer (some ⟨Lx, 0, none⟩)) hS1 ?_
 try simp only [Act.put, List.setIfInBounds_toArray, List.set_cons_zero, List.set_cons_succ]
 refine wpV 2 ⟨some 7, .nilCheck (.tmp 6), 0, "ref.go:19", #[⟨1, .data⟩], none⟩ (.pointer (some ⟨Lx, 0, none⟩)) hS1 ?_
 try simp only [Act.put, List.setIfInBounds_toArray, List.set_cons_zero, List.set_cons_succ]
 refine wpV 3 ⟨some 8, .fieldAddr 59 (.tmp 7) 0, 0, "ref.go:19", #[⟨2, .data⟩], none⟩ (.pointer (some ⟨Lx, 0, none⟩)) hS1 ?_
 try simp only [Act.put, List.setIfInBounds_toArray, List.set_cons_zero, List.set_cons_succ]
 refine wpT 5 ⟨some 10, .load 47 (.tmp 3), 47, "ref.go:19", #[], none⟩ (.agg #[.int .i64 p.op, .int .i64 p.a, .int .i64 p.b, .int .i64 p.c, .int .i64 p.d, .slice none 0 0]) (yieldsIf_load_mid (by rfl) 47 _ rfl B1 0 rfl [.int .i64 p.op, .int .i64 p.a, .int .i64 p.b, .int .i64 p.c, .int .i64 p.d, .slice none 0 0] _ (fun W hW => fun o v h => by rw [cells_of_block hW, ← h]; simp) Tryz.underlying47 rfl infoIns9) hS1 ?_
 try simp only [Act.put, List.setIfInBounds_toArray, List.set_cons_zero, List.set_cons_succ]
 refine wpAnyH_ready (rs := [4, 6]) (by kernel_rfl) (by simp) ?_
 refine AllReadyH.cons (o := ⟨some 9, .load 24 (.tmp 8), 24, "ref.go:19", #[⟨3, .data⟩], none⟩) rfl (fun K hK => ?_) ?_
 ·refine wanted_wp10 (by rfl) ?_
  have b2 := b0
  go_simp
  refine hK.out _ _ hS1 (fun hS1 => ?_)
  clear hK K
  try simp only [Act.put, List.setIfInBounds_toArray, List.set_cons_zero, List.set_cons_succ]
  refine wpAnyH_ready (rs := [6]) (by kernel_rfl) (by simp) ?_
  refine AllReadyH.cons (o := ⟨some 11, .buildSlice 24 1 #[(0, .tmp 10)], 24, "ref.go:19", #[⟨5, .data⟩], none⟩) rfl (fun K hK => ?_) ?_
  ·refine wanted_wp10 (by rfl) ?_
   go_simp
   refine hK.out _ _ ((Below.heap_alloc _ _ _ HLT.out).trans hS1) (fun hS1 => ?_)
   clear hK K
   try simp only [Act.put, List.setIfInBounds_toArray, List.set_cons_zero, List.set_cons_succ]
   refine wpAnyH_ready (rs := [7]) (by kernel_rfl) (by simp) ?_
   refine AllReadyH.cons (o := ⟨some 12, .call { callee := .builtin .append, args := #[.tmp 9, .tmp 11], argTypes := #[24, 24] }, 24, "ref.go:19", #[⟨4, .data⟩, ⟨6, .data⟩], none⟩) rfl (fun K hK => ?_) ?_
   ·refine wanted_wp10 (by rfl) ?_
    refine wp_append_lies _ (.tmp 9) (.tmp 11) 24 rfl b 47 i0 _ 6 64 Tryz.underlying24 hi hz0 hz1 hz2 rfl (by decide) (.slice aT nn kT) nn (insC ps ts) rfl (World.ownsRow.alloc ROW.out _) ⟨W.drew.heap.size, 0, none⟩ 1 1 [.int .i64 p.op, .int .i64 p.a, .int .i64 p.b, .int .i64 p.c, .int .i64 p.d, .slice none 0 0] rfl rfl (World.news_of_block (heap_alloc_new W.drew _)) (by simp [Value.oneCell']) (by decide) (by unfold maxLen; omega) (by omega) (by simp; show b ≤ W.heap.size + 1; omega) _ rfl ?_
    intro g cap w3 hown hgrow hat _
    have hgrow : (W.drew.alloc (.cells #[.int .i64 p.op, .int .i64 p.a, .int .i64 p.b, .int .i64 p.c, .int .i64 p.d, .slice none 0 0] 47)).grownBy w3 (Value.slice aT nn kT).ownBlock := hgrow
    have hown1 : w3.ownsRow b 47 6 (.slice (some ⟨g, 0, none⟩) (nn + 1) cap) (nn + 1) (insC ps ts ++ insV p (.slice none 0 0)) := hown
    have sB : w3.heap[B1]? = some (.cells #[.int .i64 p.op, .int .i64 p.a, .int .i64 p.b, .int .i64 p.c, .int .i64 p.d, .slice none 0 0] 47 (0, 0)) := (grow_same9 hgrow B1 HLT.out HNB.out).trans HB.out
    have sL := (grow_same9 hgrow Lx LS.out.bx.2.1 HNL.out).trans LS.out.box
    subst hnn
    have happ := QD.out.appI (g := g) (cap := cap) (W1 := w3) (o := (.cells #[.int .i64 p.op, .int .i64 p.a, .int .i64 p.b, .int .i64 p.c, .int .i64 p.d, .slice none 0 0] 47)) hbW hown1 hgrow (hat.imp_right fun q => by rw [q]; rfl) (p := p) (t := .slice none 0 0) ⟨hpt, rfl⟩
    have bx1 : w3.cell? ⟨Lx, 0, none⟩ = some (.slice aT ps.length kT) := (cells_of_block sL 0).trans rfl
    have fx1 := frees_of_block sL 0
    have APP := Lib.hid happ
    clear hown hown1 hgrow hat happ sL
    refine hK.out _ _ sB (fun hS1 => ?_)
    clear hK K
    try simp only [Act.put, List.setIfInBounds_toArray, List.set_cons_zero, List.set_cons_succ]
    refine wpV 8 ⟨some 13, .nilCheck (.tmp 5), 0, "ref.go:19", #[⟨0, .data⟩, ⟨0, .phase⟩, ⟨1, .phase⟩, ⟨2, .phase⟩, ⟨3, .phase⟩, ⟨4, .phase⟩, ⟨5, .phase⟩, ⟨6, .phase⟩, ⟨7, .phase⟩], none⟩ (.pointer (some ⟨Lx, 0, none⟩)) hS1 ?_
    try simp only [Act.put, List.setIfInBounds_toArray, List.set_cons_zero, List.set_cons_succ]
    refine wpV 9 ⟨some 14, .fieldAddr 59 (.tmp 13) 0, 0, "ref.go:19", #[⟨8, .data⟩, ⟨0, .phase⟩, ⟨1, .phase⟩, ⟨2, .phase⟩, ⟨3, .phase⟩, ⟨4, .phase⟩, ⟨5, .phase⟩, ⟨6, .phase⟩, ⟨7, .phase⟩], none⟩ (.pointer (some ⟨Lx, 0, none⟩)) hS1 ?_
    try simp only [Act.put, List.setIfInBounds_toArray, List.set_cons_zero, List.set_cons_succ]
    refine wpAnyH_ready (rs := [10]) (by kernel_rfl) (by simp) ?_
    refine AllReadyH.cons (o := ⟨none, .store 24 (.tmp 14) (.tmp 12), 0, "ref.go:19", #[⟨9, .data⟩, ⟨7, .data⟩, ⟨7, .chain⟩, ⟨0, .phase⟩, ⟨1, .phase⟩, ⟨2, .phase⟩, ⟨3, .phase⟩, ⟨4, .phase⟩, ⟨5, .phase⟩, ⟨6, .phase⟩, ⟨7, .phase⟩], none⟩) rfl (fun K hK => ?_) ?_
    ·refine wanted_wp10 (by rfl) ?_
     go_simp
     obtain ⟨s3, f3, b3⟩ := APP.out
     have h3 := (heap_setCell_other w3 ⟨Lx, 0, none⟩ B1 (.slice (some ⟨g, 0, none⟩) (ps.length + 1) cap) hBL).trans hS1
     have z3 := setCell_hsize w3 ⟨Lx, 0, none⟩ (.slice (some ⟨g, 0, none⟩) (ps.length + 1) cap)
     generalize World.setCell w3 ⟨Lx, 0, none⟩ (.slice (some ⟨g, 0, none⟩) (ps.length + 1) cap) = w4 at s3 f3 b3 h3 z3 ⊢
     refine hK.out _ _ h3 (fun hS1 => ?_)
     clear hK K
     try simp only [Act.put]
     refine wpAnyH_done (by kernel_rfl) ?_ _
     refine NoPanic.normal ?_
     exact hexit.out _ _ _ _ _ _ _ _ _ _ _ _ _ _ (Lib.hid (by rw [z3]; exact s3)) (Lib.hid f3) (((Below.refl b W).drew).trans b3)
    exact AllReadyH.nil
   exact AllReadyH.nil
  exact AllReadyH.nil
 refine AllReadyH.cons (o := ⟨some 11, .buildSlice 24 1 #[(0, .tmp 10)], 24, "ref.go:19", #[⟨5, .data⟩], none⟩) rfl (fun K hK => ?_) ?_
 ·refine wanted_wp10 (by rfl) ?_
  go_simp
  refine hK.out _ _ ((Below.heap_alloc _ _ _ HLT.out).trans hS1) (fun hS1 => ?_)
  clear hK K
  try simp only [Act.put, List.setIfInBounds_toArray, List.set_cons_zero, List.set_cons_succ]
  refine wpAnyH_ready (rs := [4]) (by kernel_rfl) (by simp) ?_
  refine AllReadyH.cons (o := ⟨some 9, .load 24 (.tmp 8), 24, "ref.go:19", #[⟨3, .data⟩], none⟩) rfl (fun K hK => ?_) ?_
  ·refine wanted_wp10 (by rfl) ?_
   have b2 := (World.cell?_of_block (a := ⟨Lx, 0, none⟩) (Below.heap_alloc W (.cells #[.int .i64 p.op, .int .i64 p.a, .int .i64 p.b, .int .i64 p.c, .int .i64 p.d, .slice none 0 0] 47) _ LS.out.bx.2.1)).trans b0
   go_simp
   refine hK.out _ _ hS1 (fun hS1 => ?_)
   clear hK K
   try simp only [Act.put, List.setIfInBounds_toArray, List.set_cons_zero, List.set_cons_succ]
   refine wpAnyH_ready (rs := [7]) (by kernel_rfl) (by simp) ?_
   refine AllReadyH.cons (o := ⟨some 12, .call { callee := .builtin .append, args := #[.tmp 9, .tmp 11], argTypes := #[24, 24] }, 24, "ref.go:19", #[⟨4, .data⟩, ⟨6, .data⟩], none⟩) rfl (fun K hK => ?_) ?_
   ·refine wanted_wp10 (by rfl) ?_
    refine wp_append_lies _ (.tmp 9) (.tmp 11) 24 rfl b 47 i0 _ 6 64 Tryz.underlying24 hi hz0 hz1 hz2 rfl (by decide) (.slice aT nn kT) nn (insC ps ts) rfl (World.ownsRow.alloc ROW.out _) ⟨W.drew.heap.size, 0, none⟩ 1 1 [.int .i64 p.op, .int .i64 p.a, .int .i64 p.b, .int .i64 p.c, .int .i64 p.d, .slice none 0 0] rfl rfl (World.news_of_block (heap_alloc_new W.drew _)) (by simp [Value.oneCell']) (by decide) (by unfold maxLen; omega) (by omega) (by simp; show b ≤ W.heap.size + 1; omega) _ rfl ?_
    intro g cap w3 hown hgrow hat _
    have hgrow : (W.drew.alloc (.cells #[.int .i64 p.op, .int .i64 p.a, .int .i64 p.b, .int .i64 p.c, .int .i64 p.d, .slice none 0 0] 47)).grownBy w3 (Value.slice aT nn kT).ownBlock := hgrow
    have hown1 : w3.ownsRow b 47 6 (.slice (some ⟨g, 0, none⟩) (nn + 1) cap) (nn + 1) (insC ps ts ++ insV p (.slice none 0 0)) := hown
    have sB : w3.heap[B1]? = some (.cells #[.int .i64 p.op, .int .i64 p.a, .int .i64 p.b, .int .i64 p.c, .int .i64 p.d, .slice none 0 0] 47 (0, 0)) := (grow_same9 hgrow B1 HLT.out HNB.out).trans HB.out
    have sL := (grow_same9 hgrow Lx LS.out.bx.2.1 HNL.out).trans LS.out.box
    subst hnn
    have happ := QD.out.appI (g := g) (cap := cap) (W1 := w3) (o := (.cells #[.int .i64 p.op, .int .i64 p.a, .int .i64 p.b, .int .i64 p.c, .int .i64 p.d, .slice none 0 0] 47)) hbW hown1 hgrow (hat.imp_right fun q => by rw [q]; rfl) (p := p) (t := .slice none 0 0) ⟨hpt, rfl⟩
    have bx1 : w3.cell? ⟨Lx, 0, none⟩ = some (.slice aT ps.length kT) := (cells_of_block sL 0).trans rfl
    have fx1 := frees_of_block sL 0
    have APP := Lib.hid happ
    clear hown hown1 hgrow hat happ sL
    refine hK.out _ _ sB (fun hS1 => ?_)
    clear hK K
    try simp only [Act.put, List.setIfInBounds_toArray, List.set_cons_zero, List.set_cons_succ]
    refine wpV 8 ⟨some 13, .nilCheck (.tmp 5), 0, "ref.go:19", #[⟨0, .data⟩, ⟨0, .phase⟩, ⟨1, .phase⟩, ⟨2, .phase⟩, ⟨3, .phase⟩, ⟨4, .phase⟩, ⟨5, .phase⟩, ⟨6, .phase⟩, ⟨7, .phase⟩], none⟩ (.pointer (some ⟨Lx, 0, none⟩)) hS1 ?_
    try simp only [Act.put, List.setIfInBounds_toArray, List.set_cons_zero, List.set_cons_succ]
    refine wpV 9 ⟨some 14, .fieldAddr 59 (.tmp 13) 0, 0, "ref.go:19", #[⟨8, .data⟩, ⟨0, .phase⟩, ⟨1, .phase⟩, ⟨2, .phase⟩, ⟨3, .phase⟩, ⟨4, .phase⟩, ⟨5, .phase⟩, ⟨6, .phase⟩, ⟨7, .phase⟩], none⟩ (.pointer (some ⟨Lx, 0, none⟩)) hS1 ?_
    try simp only [Act.put, List.setIfInBounds_toArray, List.set_cons_zero, List.set_cons_succ]
    refine wpAnyH_ready (rs := [10]) (by kernel_rfl) (by simp) ?_
    refine AllReadyH.cons (o := ⟨none, .store 24 (.tmp 14) (.tmp 12), 0, "ref.go:19", #[⟨9, .data⟩, ⟨7, .data⟩, ⟨7, .chain⟩, ⟨0, .phase⟩, ⟨1, .phase⟩, ⟨2, .phase⟩, ⟨3, .phase⟩, ⟨4, .phase⟩, ⟨5, .phase⟩, ⟨6, .phase⟩, ⟨7, .phase⟩], none⟩) rfl (fun K hK => ?_) ?_
    ·refine wanted_wp10 (by rfl) ?_
     go_simp
     obtain ⟨s3, f3, b3⟩ := APP.out
     have h3 := (heap_setCell_other w3 ⟨Lx, 0, none⟩ B1 (.slice (some ⟨g, 0, none⟩) (ps.length + 1) cap) hBL).trans hS1
     have z3 := setCell_hsize w3 ⟨Lx, 0, none⟩ (.slice (some ⟨g, 0, none⟩) (ps.length + 1) cap)
     generalize World.setCell w3 ⟨Lx, 0, none⟩ (.slice (some ⟨g, 0, none⟩) (ps.length + 1) cap) = w4 at s3 f3 b3 h3 z3 ⊢
     refine hK.out _ _ h3 (fun hS1 => ?_)
     clear hK K
     try simp only [Act.put]
     refine wpAnyH_done (by kernel_rfl) ?_ _
     refine NoPanic.normal ?_
     exact hexit.out _ _ _ _ _ _ _ _ _ _ _ _ _ _ (Lib.hid (by rw [z3]; exact s3)) (Lib.hid f3) (((Below.refl b W).drew).trans b3)
    exact AllReadyH.nil
   exact AllReadyH.nil
  exact AllReadyH.nil
 exact AllReadyH.nil
theorem con_r {Q : Exit → Act → World → Prop} {b Lx B1 nn kT : Nat} {cl : Nat → Nat} {S : SX} {W : World} {ex : List Value} {vI : Value} {aT : Option Addr} {ps : List PI} {c : PV} {ts : List Value} {cs : List PV} {u1 u2 u4 u5 u6 u7 u8 u9 u10 u11 u12 u13 u14 u15 u16 u17 u18 u19 u20 u21 u22 u23 u24 u25 u26 u27 u28 u29 u30 u31 u32 u33 u34 u35 u36 u37 u38 u39 u40 u41 u42 u43 u44 u45 u46 : Value}
 (LS : Hid (LayS b W.heap.size cl S Lx 64 ex vI (.slice aT nn kT) ps ts cs W)) (HB : Hid (W.heap[B1]? = some (.cells #[.int .i64 c.kind, .int .i64 c.num, .string ⟨c.text.toArray⟩] 54 (0, 0)))) (hcl9 : cl B1 = 9) (hbW : b ≤ W.heap.size) (hnn : cs.length = nn) (hroom : nn ≤ 1000000)
 (hexit : Hid (∀ (v25 v26 v27 v28 v29 v30 v31 v32 v33 v34 v35 v36 : Value) (g cap : Nat) (cl1 : Nat → Nat) (W' : World), Hid (LayS b W'.heap.size cl1 S Lx 64 ex vI (.slice (some ⟨g, 0, none⟩) (cs.length + 1) cap) ps ts (cs ++ [c]) W') → Hid (Frm (fun c => c ≠ 1 ∧ c ≠ 2) cl W.heap.size cl1 W W') → Below b W W' → Q .normal ⟨List.toArray ((.pointer (some ⟨Lx, 0, none⟩)) :: u1 :: u2 :: (.pointer (some ⟨B1, 0, none⟩)) :: u4 :: u5 :: u6 :: u7 :: u8 :: u9 :: u10 :: u11 :: u12 :: u13 :: u14 :: u15 :: u16 :: u17 :: u18 :: u19 :: u20 :: u21 :: u22 :: u23 :: u24 :: v25 :: v26 :: v27 :: v28 :: v29 :: v30 :: v31 :: v32 :: v33 :: v34 :: v35 :: v36 :: u37 :: u38 :: u39 :: u40 :: u41 :: u42 :: u43 :: u44 :: u45 :: u46 :: []), []⟩ W')) :
 Code.wp Tryz.prog (conR 7) Q ⟨List.toArray ((.pointer (some ⟨Lx, 0, none⟩)) :: u1 :: u2 :: (.pointer (some ⟨B1, 0, none⟩)) :: u4 :: u5 :: u6 :: u7 :: u8 :: u9 :: u10 :: u11 :: u12 :: u13 :: u14 :: u15 :: u16 :: u17 :: u18 :: u19 :: u20 :: u21 :: u22 :: u23 :: u24 :: u25 :: u26 :: u27 :: u28 :: u29 :: u30 :: u31 :: u32 :: u33 :: u34 :: u35 :: u36 :: u37 :: u38 :: u39 :: u40 :: u41 :: u42 :: u43 :: u44 :: u45 :: u46 :: []), []⟩ W := by
 conv => arg 2; whnf
 obtain ⟨i0, hi, hz0, hz1, hz2⟩ := info_parts infoVal
 have HLT := Lib.hid (lt_of_block HB.out)
 have HNB : Hid ((Value.slice aT nn kT).ownBlock ≠ some B1) := Lib.hid fun q => by have h2 := (LS.out.rC.cls B1 q).1; omega
 have HNL : Hid ((Value.slice aT nn kT).ownBlock ≠ some Lx) := Lib.hid fun q => by have h1 := LS.out.bx.1; have h2 := (LS.out.rC.cls Lx q).1; omega
 have hBL : B1 ≠ Lx := fun q => by have h1 := LS.out.bx.1; rw [← q, hcl9] at h1; omega
 have QD : Hid (LayS b W.drew.heap.size cl S Lx 64 ex vI (.slice aT nn kT) ps ts cs W.drew) := Lib.hid (LS.out.frm (P := fun _ => True) (fun x _ _ => ⟨rfl, rfl⟩ : Frm (fun _ => True) cl W.heap.size cl W W.drew) (Nat.le_refl _) trivial trivial trivial fun _ _ => trivial)
 have ROW : Hid (W.drew.ownsRow b 54 3 (.slice aT nn kT) nn (conC cs)) := Lib.hid (by subst hnn; exact QD.out.rC.own)
 have b0 : W.cell? ⟨Lx, 1, none⟩ = some (.slice aT nn kT) := (cells_of_block LS.out.box 1).trans rfl
 refine wp_region_noPanic ?_
 refine wp_region_held_drew (S := (fun w => w.heap[B1]? = some (.cells #[.int .i64 c.kind, .int .i64 c.num, .string ⟨c.text.toArray⟩] 54 (0, 0)))) (by kernel_rfl) HB.out (fun hS1 => ?_)
 refine wpV 0 ⟨some 25, .move (.tmp 0), 61, "comp.go:67", #[], none⟩ (.pointer (some ⟨Lx, 0, none⟩)) hS1 ?_
 try simp only [Act.put, List.setIfInBounds_toArray, List.set_cons_zero, List.set_cons_succ]
 refine wpV 1 ⟨some 26, .move (.tmp 0), 61, "comp.go:67", #[], none⟩ (.pointer (some ⟨Lx, 0, none⟩)) hS1 ?_
 try simp only [Act.put, List.setIfInBounds_toArray, List.set_cons_zero, List.set_cons_succ]
 refine wpV 2 ⟨some 27, .nilCheck (.tmp 26), 0, "comp.go:67", #[⟨1, .data⟩], none⟩ (.pointer (some ⟨Lx, 0, none⟩)) hS1 ?_
 try simp only [Act.put, List.setIfInBounds_toArray, List.set_cons_zero, List.set_cons_succ]
 refine wpV 3 ⟨some 28, .fieldAddr 64 (.tmp 27) 0, 0, "comp.go:67", #[⟨2, .data⟩], none⟩ (.pointer (some ⟨Lx, 0, none⟩)) hS1 ?_
 try simp only [Act.put, List.setIfInBounds_toArray, List.set_cons_zero, List.set_cons_succ]
 refine wpV 4 ⟨some 29, .fieldAddr 27 (.tmp 28) 1, 0, "comp.go:67", #[⟨3, .data⟩], none⟩ (.pointer (some ⟨Lx, 1, none⟩)) hS1 ?_
 try simp only [Act.put, List.setIfInBounds_toArray, List.set_cons_zero, List.set_cons_succ]
 refine wpT 6 ⟨some 31, .load 54 (.tmp 3), 54, "comp.go:67", #[], none⟩ (.agg #[.int .i64 c.kind, .int .i64 c.num, .string ⟨c.text.toArray⟩]) (yieldsIf_load_mid (by rfl) 54 _ rfl B1 0 rfl [.int .i64 c.kind, .int .i64 c.num, .string ⟨c.text.toArray⟩] _ (fun W hW => fun o v h => by rw [cells_of_block hW, ← h]; simp) Tryz.underlying54 rfl infoVal9) hS1 ?_
 try simp only [Act.put, List.setIfInBounds_toArray, List.set_cons_zero, List.set_cons_succ]
 refine wpAnyH_ready (rs := [5, 7]) (by kernel_rfl) (by simp) ?_
 refine AllReadyH.cons (o := ⟨some 30, .load 25 (.tmp 29), 25, "comp.go:67", #[⟨4, .data⟩], none⟩) rfl (fun K hK => ?_) ?_
 ·refine wanted_wp10 (by rfl) ?_
  have b2 := b0
  go_simp
  refine hK.out _ _ hS1 (fun hS1 => ?_)
  clear hK K
  try simp only [Act.put, List.setIfInBounds_toArray, List.set_cons_zero, List.set_cons_succ]
  refine wpAnyH_ready (rs := [7]) (by kernel_rfl) (by simp) ?_
  refine AllReadyH.cons (o := ⟨some 32, .buildSlice 25 1 #[(0, .tmp 31)], 25, "comp.go:67", #[⟨6, .data⟩], none⟩) rfl (fun K hK => ?_) ?_
  ·refine wanted_wp10 (by rfl) ?_
   go_simp
   refine hK.out _ _ ((Below.heap_alloc _ _ _ HLT.out).trans hS1) (fun hS1 => ?_)
   clear hK K
   try simp only [Act.put, List.setIfInBounds_toArray, List.set_cons_zero, List.set_cons_succ]
   refine wpAnyH_ready (rs := [8]) (by kernel_rfl) (by simp) ?_
   refine AllReadyH.cons (o := ⟨some 33, .call { callee := .builtin .append, args := #[.tmp 30, .tmp 32], argTypes := #[25, 25] }, 25, "comp.go:67", #[⟨5, .data⟩, ⟨7, .data⟩], none⟩) rfl (fun K hK => ?_) ?_
   ·refine wanted_wp10 (by rfl) ?_
    refine wp_append_lies _ (.tmp 30) (.tmp 32) 25 rfl b 54 i0 _ 3 32 Tryz.underlying25 hi hz0 hz1 hz2 rfl (by decide) (.slice aT nn kT) nn (conC cs) rfl (World.ownsRow.alloc ROW.out _) ⟨W.drew.heap.size, 0, none⟩ 1 1 [.int .i64 c.kind, .int .i64 c.num, .string ⟨c.text.toArray⟩] rfl rfl (World.news_of_block (heap_alloc_new W.drew _)) (by simp [Value.oneCell']) (by decide) (by unfold maxLen; omega) (by omega) (by simp; show b ≤ W.heap.size + 1; omega) _ rfl ?_
    intro g cap w3 hown hgrow hat _
    have hgrow : (W.drew.alloc (.cells #[.int .i64 c.kind, .int .i64 c.num, .string ⟨c.text.toArray⟩] 54)).grownBy w3 (Value.slice aT nn kT).ownBlock := hgrow
    have hown1 : w3.ownsRow b 54 3 (.slice (some ⟨g, 0, none⟩) (nn + 1) cap) (nn + 1) (conC cs ++ conV c) := hown
    have sB : w3.heap[B1]? = some (.cells #[.int .i64 c.kind, .int .i64 c.num, .string ⟨c.text.toArray⟩] 54 (0, 0)) := (grow_same9 hgrow B1 HLT.out HNB.out).trans HB.out
    have sL := (grow_same9 hgrow Lx LS.out.bx.2.1 HNL.out).trans LS.out.box
    subst hnn
    have happ := QD.out.appC (g := g) (cap := cap) (W1 := w3) (o := (.cells #[.int .i64 c.kind, .int .i64 c.num, .string ⟨c.text.toArray⟩] 54)) hbW hown1 hgrow (hat.imp_right fun q => by rw [q]; rfl)
    have bx1 : w3.cell? ⟨Lx, 1, none⟩ = some (.slice aT cs.length kT) := (cells_of_block sL 1).trans rfl
    have fx1 := frees_of_block sL 1
    have APP := Lib.hid happ
    clear hown hown1 hgrow hat happ sL
    refine hK.out _ _ sB (fun hS1 => ?_)
    clear hK K
    try simp only [Act.put, List.setIfInBounds_toArray, List.set_cons_zero, List.set_cons_succ]
    refine wpV 9 ⟨some 34, .nilCheck (.tmp 25), 0, "comp.go:67", #[⟨0, .data⟩, ⟨0, .phase⟩, ⟨1, .phase⟩, ⟨2, .phase⟩, ⟨3, .phase⟩, ⟨4, .phase⟩, ⟨5, .phase⟩, ⟨6, .phase⟩, ⟨7, .phase⟩, ⟨8, .phase⟩], none⟩ (.pointer (some ⟨Lx, 0, none⟩)) hS1 ?_
    try simp only [Act.put, List.setIfInBounds_toArray, List.set_cons_zero, List.set_cons_succ]
    refine wpV 10 ⟨some 35, .fieldAddr 64 (.tmp 34) 0, 0, "comp.go:67", #[⟨9, .data⟩, ⟨0, .phase⟩, ⟨1, .phase⟩, ⟨2, .phase⟩, ⟨3, .phase⟩, ⟨4, .phase⟩, ⟨5, .phase⟩, ⟨6, .phase⟩, ⟨7, .phase⟩, ⟨8, .phase⟩], none⟩ (.pointer (some ⟨Lx, 0, none⟩)) hS1 ?_
    try simp only [Act.put, List.setIfInBounds_toArray, List.set_cons_zero, List.set_cons_succ]
    refine wpV 11 ⟨some 36, .fieldAddr 27 (.tmp 35) 1, 0, "comp.go:67", #[⟨10, .data⟩, ⟨0, .phase⟩, ⟨1, .phase⟩, ⟨2, .phase⟩, ⟨3, .phase⟩, ⟨4, .phase⟩, ⟨5, .phase⟩, ⟨6, .phase⟩, ⟨7, .phase⟩, ⟨8, .phase⟩], none⟩ (.pointer (some ⟨Lx, 1, none⟩)) hS1 ?_
    try simp only [Act.put, List.setIfInBounds_toArray, List.set_cons_zero, List.set_cons_succ]
    refine wpAnyH_ready (rs := [12]) (by kernel_rfl) (by simp) ?_
    refine AllReadyH.cons (o := ⟨none, .store 25 (.tmp 36) (.tmp 33), 0, "comp.go:67", #[⟨11, .data⟩, ⟨8, .data⟩, ⟨8, .chain⟩, ⟨0, .phase⟩, ⟨1, .phase⟩, ⟨2, .phase⟩, ⟨3, .phase⟩, ⟨4, .phase⟩, ⟨5, .phase⟩, ⟨6, .phase⟩, ⟨7, .phase⟩, ⟨8, .phase⟩], none⟩) rfl (fun K hK => ?_) ?_
    ·refine wanted_wp10 (by rfl) ?_
     go_simp
     obtain ⟨s3, f3, b3⟩ := APP.out
     have h3 := (heap_setCell_other w3 ⟨Lx, 1, none⟩ B1 (.slice (some ⟨g, 0, none⟩) (cs.length + 1) cap) hBL).trans hS1
     have z3 := setCell_hsize w3 ⟨Lx, 1, none⟩ (.slice (some ⟨g, 0, none⟩) (cs.length + 1) cap)
     generalize World.setCell w3 ⟨Lx, 1, none⟩ (.slice (some ⟨g, 0, none⟩) (cs.length + 1) cap) = w4 at s3 f3 b3 h3 z3 ⊢
     refine hK.out _ _ h3 (fun hS1 => ?_)
     clear hK K
     try simp only [Act.put]
     refine wpAnyH_done (by kernel_rfl) ?_ _
     refine NoPanic.normal ?_
     exact hexit.out _ _ _ _ _ _ _ _ _ _ _ _ _ _ _ _ (Lib.hid (by rw [z3]; exact s3)) (Lib.hid f3) (((Below.refl b W).drew).trans b3)
    exact AllReadyH.nil
   exact AllReadyH.nil
  exact AllReadyH.nil
 refine AllReadyH.cons (o := ⟨some 32, .buildSlice 25 1 #[(0, .tmp 31)], 25, "comp.go:67", #[⟨6, .data⟩], none⟩) rfl (fun K hK => ?_) ?_
 ·refine wanted_wp10 (by rfl) ?_
  go_simp
  refine hK.out _ _ ((Below.heap_alloc _ _ _ HLT.out).trans hS1) (fun hS1 => ?_)
  clear hK K
  try simp only [Act.put, List.setIfInBounds_toArray, List.set_cons_zero, List.set_cons_succ]
  refine wpAnyH_ready (rs := [5]) (by kernel_rfl) (by simp) ?_
  refine AllReadyH.cons (o := ⟨some 30, .load 25 (.tmp 29), 25, "comp.go:67", #[⟨4, .data⟩], none⟩) rfl (fun K hK => ?_) ?_
  ·refine wanted_wp10 (by rfl) ?_
   have b2 := (World.cell?_of_block (a := ⟨Lx, 1, none⟩) (Below.heap_alloc W (.cells #[.int .i64 c.kind, .int .i64 c.num, .string ⟨c.text.toArray⟩] 54) _ LS.out.bx.2.1)).trans b0
   go_simp
   refine hK.out _ _ hS1 (fun hS1 => ?_)
   clear hK K
   try simp only [Act.put, List.setIfInBounds_toArray, List.set_cons_zero, List.set_cons_succ]
   refine wpAnyH_ready (rs := [8]) (by kernel_rfl) (by simp) ?_
   refine AllReadyH.cons (o := ⟨some 33, .call { callee := .builtin .append, args := #[.tmp 30, .tmp 32], argTypes := #[25, 25] }, 25, "comp.go:67", #[⟨5, .data⟩, ⟨7, .data⟩], none⟩) rfl (fun K hK => ?_) ?_
   ·refine wanted_wp10 (by rfl) ?_
    refine wp_append_lies _ (.tmp 30) (.tmp 32) 25 rfl b 54 i0 _ 3 32 Tryz.underlying25 hi hz0 hz1 hz2 rfl (by decide) (.slice aT nn kT) nn (conC cs) rfl (World.ownsRow.alloc ROW.out _) ⟨W.drew.heap.size, 0, none⟩ 1 1 [.int .i64 c.kind, .int .i64 c.num, .string ⟨c.text.toArray⟩] rfl rfl (World.news_of_block (heap_alloc_new W.drew _)) (by simp [Value.oneCell']) (by decide) (by unfold maxLen; omega) (by omega) (by simp; show b ≤ W.heap.size + 1; omega) _ rfl ?_
    intro g cap w3 hown hgrow hat _
    have hgrow : (W.drew.alloc (.cells #[.int .i64 c.kind, .int .i64 c.num, .string ⟨c.text.toArray⟩] 54)).grownBy w3 (Value.slice aT nn kT).ownBlock := hgrow
    have hown1 : w3.ownsRow b 54 3 (.slice (some ⟨g, 0, none⟩) (nn + 1) cap) (nn + 1) (conC cs ++ conV c) := hown
    have sB : w3.heap[B1]? = some (.cells #[.int .i64 c.kind, .int .i64 c.num, .string ⟨c.text.toArray⟩] 54 (0, 0)) := (grow_same9 hgrow B1 HLT.out HNB.out).trans HB.out
    have sL := (grow_same9 hgrow Lx LS.out.bx.2.1 HNL.out).trans LS.out.box
    subst hnn
    have happ := QD.out.appC (g := g) (cap := cap) (W1 := w3) (o := (.cells #[.int .i64 c.kind, .int .i64 c.num, .string ⟨c.text.toArray⟩] 54)) hbW hown1 hgrow (hat.imp_right fun q => by rw [q]; rfl)
    have bx1 : w3.cell? ⟨Lx, 1, none⟩ = some (.slice aT cs.length kT) := (cells_of_block sL 1).trans rfl
    have fx1 := frees_of_block sL 1
    have APP := Lib.hid happ
    clear hown hown1 hgrow hat happ sL
    refine hK.out _ _ sB (fun hS1 => ?_)
    clear hK K
    try simp only [Act.put, List.setIfInBounds_toArray, List.set_cons_zero, List.set_cons_succ]
    refine wpV 9 ⟨some 34, .nilCheck (.tmp 25), 0, "comp.go:67", #[⟨0, .data⟩, ⟨0, .phase⟩, ⟨1, .phase⟩, ⟨2, .phase⟩, ⟨3, .phase⟩, ⟨4, .phase⟩, ⟨5, .phase⟩, ⟨6, .phase⟩, ⟨7, .phase⟩, ⟨8, .phase⟩], none⟩ (.pointer (some ⟨Lx, 0, none⟩)) hS1 ?_
    try simp only [Act.put, List.setIfInBounds_toArray, List.set_cons_zero, List.set_cons_succ]
    refine wpV 10 ⟨some 35, .fieldAddr 64 (.tmp 34) 0, 0, "comp.go:67", #[⟨9, .data⟩, ⟨0, .phase⟩, ⟨1, .phase⟩, ⟨2, .phase⟩, ⟨3, .phase⟩, ⟨4, .phase⟩, ⟨5, .phase⟩, ⟨6, .phase⟩, ⟨7, .phase⟩, ⟨8, .phase⟩], none⟩ (.pointer (some ⟨Lx, 0, none⟩)) hS1 ?_
    try simp only [Act.put, List.setIfInBounds_toArray, List.set_cons_zero, List.set_cons_succ]
    refine wpV 11 ⟨some 36, .fieldAddr 27 (.tmp 35) 1, 0, "comp.go:67", #[⟨10, .data⟩, ⟨0, .phase⟩, ⟨1, .phase⟩, ⟨2, .phase⟩, ⟨3, .phase⟩, ⟨4, .phase⟩, ⟨5, .phase⟩, ⟨6, .phase⟩, ⟨7, .phase⟩, ⟨8, .phase⟩], none⟩ (.pointer (some ⟨Lx, 1, none⟩)) hS1 ?_
    try simp only [Act.put, List.setIfInBounds_toArray, List.set_cons_zero, List.set_cons_succ]
    refine wpAnyH_ready (rs := [12]) (by kernel_rfl) (by simp) ?_
    refine AllReadyH.cons (o := ⟨none, .store 25 (.tmp 36) (.tmp 33), 0, "comp.go:67", #[⟨11, .data⟩, ⟨8, .data⟩, ⟨8, .chain⟩, ⟨0, .phase⟩, ⟨1, .phase⟩, ⟨2, .phase⟩, ⟨3, .phase⟩, ⟨4, .phase⟩, ⟨5, .phase⟩, ⟨6, .phase⟩, ⟨7, .phase⟩, ⟨8, .phase⟩], none⟩) rfl (fun K hK => ?_) ?_
    ·refine wanted_wp10 (by rfl) ?_
     go_simp
     obtain ⟨s3, f3, b3⟩ := APP.out
     have h3 := (heap_setCell_other w3 ⟨Lx, 1, none⟩ B1 (.slice (some ⟨g, 0, none⟩) (cs.length + 1) cap) hBL).trans hS1
     have z3 := setCell_hsize w3 ⟨Lx, 1, none⟩ (.slice (some ⟨g, 0, none⟩) (cs.length + 1) cap)
     generalize World.setCell w3 ⟨Lx, 1, none⟩ (.slice (some ⟨g, 0, none⟩) (cs.length + 1) cap) = w4 at s3 f3 b3 h3 z3 ⊢
     refine hK.out _ _ h3 (fun hS1 => ?_)
     clear hK K
     try simp only [Act.put]
     refine wpAnyH_done (by kernel_rfl) ?_ _
     refine NoPanic.normal ?_
     exact hexit.out _ _ _ _ _ _ _ _ _ _ _ _ _ _ _ _ (Lib.hid (by rw [z3]; exact s3)) (Lib.hid f3) (((Below.refl b W).drew).trans b3)
    exact AllReadyH.nil
   exact AllReadyH.nil
  exact AllReadyH.nil
 exact AllReadyH.nil
theorem con_q {Q : Exit → Act → World → Prop} {b Lx B1 nn kT : Nat} {cl : Nat → Nat} {S : SX} {W : World} {ex : List Value} {vI : Value} {aT : Option Addr} {ps : List PI} {c : PV} {ts : List Value} {cs : List PV} {u1 u2 u4 u5 u6 u7 u8 u9 u10 u11 u12 u13 u14 u15 u16 u17 u18 u19 u20 u21 u22 u23 u24 u25 u26 u27 u28 u29 u30 u31 u32 u33 u34 u35 u36 u37 u38 u39 u40 u41 u42 u43 u44 u45 : Value}
 (LS : Hid (LayS b W.heap.size cl S Lx 59 ex vI (.slice aT nn kT) ps ts cs W)) (HB : Hid (W.heap[B1]? = some (.cells #[.int .i64 c.kind, .int .i64 c.num, .string ⟨c.text.toArray⟩] 54 (0, 0)))) (hcl9 : cl B1 = 9) (hbW : b ≤ W.heap.size) (hnn : cs.length = nn) (hroom : nn ≤ 1000000)
 (hexit : Hid (∀ (v27 v28 v29 v30 v31 v32 v33 v34 v35 v36 : Value) (g cap : Nat) (cl1 : Nat → Nat) (W' : World), Hid (LayS b W'.heap.size cl1 S Lx 59 ex vI (.slice (some ⟨g, 0, none⟩) (cs.length + 1) cap) ps ts (cs ++ [c]) W') → Hid (Frm (fun c => c ≠ 1 ∧ c ≠ 2) cl W.heap.size cl1 W W') → Below b W W' → Q .normal ⟨List.toArray ((.pointer (some ⟨Lx, 0, none⟩)) :: u1 :: u2 :: (.pointer (some ⟨B1, 0, none⟩)) :: u4 :: u5 :: u6 :: u7 :: u8 :: u9 :: u10 :: u11 :: u12 :: u13 :: u14 :: u15 :: u16 :: u17 :: u18 :: u19 :: u20 :: u21 :: u22 :: u23 :: u24 :: u25 :: u26 :: v27 :: v28 :: v29 :: v30 :: v31 :: v32 :: v33 :: v34 :: v35 :: v36 :: u37 :: u38 :: u39 :: u40 :: u41 :: u42 :: u43 :: u44 :: u45 :: []), []⟩ W')) :
 Code.wp Tryz.prog (conQ 6) Q ⟨List.toArray ((.pointer (some ⟨Lx, 0, none⟩)) :: u1 :: u2 :: (.pointer (some ⟨B1, 0, none⟩)) :: u4 :: u5 :: u6 :: u7 :: u8 :: u9 :: u10 :: u11 :: u12 :: u13 :: u14 :: u15 :: u16 :: u17 :: u18 :: u19 :: u20 :: u21 :: u22 :: u23 :: u24 :: u25 :: u26 :: u27 :: u28 :: u29 :: u30 :: u31 :: u32 :: u33 :: u34 :: u35 :: u36 :: u37 :: u38 :: u39 :: u40 :: u41 :: u42 :: u43 :: u44 :: u45 :: []), []⟩ W := by
 conv => arg 2; whnf
 obtain ⟨i0, hi, hz0, hz1, hz2⟩ := info_parts infoVal
 have HLT := Lib.hid (lt_of_block HB.out)
 have HNB : Hid ((Value.slice aT nn kT).ownBlock ≠ some B1) := Lib.hid fun q => by have h2 := (LS.out.rC.cls B1 q).1; omega
 have HNL : Hid ((Value.slice aT nn kT).ownBlock ≠ some Lx) := Lib.hid fun q => by have h1 := LS.out.bx.1; have h2 := (LS.out.rC.cls Lx q).1; omega
 have hBL : B1 ≠ Lx := fun q => by have h1 := LS.out.bx.1; rw [← q, hcl9] at h1; omega
 have QD : Hid (LayS b W.drew.heap.size cl S Lx 59 ex vI (.slice aT nn kT) ps ts cs W.drew) := Lib.hid (LS.out.frm (P := fun _ => True) (fun x _ _ => ⟨rfl, rfl⟩ : Frm (fun _ => True) cl W.heap.size cl W W.drew) (Nat.le_refl _) trivial trivial trivial fun _ _ => trivial)
 have ROW : Hid (W.drew.ownsRow b 54 3 (.slice aT nn kT) nn (conC cs)) := Lib.hid (by subst hnn; exact QD.out.rC.own)
 have b0 : W.cell? ⟨Lx, 1, none⟩ = some (.slice aT nn kT) := (cells_of_block LS.out.box 1).trans rfl
 refine wp_region_noPanic ?_
 refine wp_region_held_drew (S := (fun w => w.heap[B1]? = some (.cells #[.int .i64 c.kind, .int .i64 c.num, .string ⟨c.text.toArray⟩] 54 (0, 0)))) (by kernel_rfl) HB.out (fun hS1 => ?_)
 refine wpV 0 ⟨some 27, .move (.tmp 0), 57, "ref.go:31", #[], none⟩ (.pointer (some ⟨Lx, 0, none⟩)) hS1 ?_
 try simp only [Act.put, List.setIfInBounds_toArray, List.set_cons_zero, List.set_cons_succ]
 refine wpV 1 ⟨some 28, .move (.tmp 0), 57, "ref.go:31", #[], none⟩ (.pointer (some ⟨Lx, 0, none⟩)) hS1 ?_
 try simp only [Act.put, List.setIfInBounds_toArray, List.set_cons_zero, List.set_cons_succ]
 refine wpV 2 ⟨some 29, .nilCheck (.tmp 28), 0, "ref.go:31", #[⟨1, .data⟩], none⟩ (.pointer (some ⟨Lx, 0, none⟩)) hS1 ?_
 try simp only [Act.put, List.setIfInBounds_toArray, List.set_cons_zero, List.set_cons_succ]
 refine wpV 3 ⟨some 30, .fieldAddr 59 (.tmp 29) 1, 0, "ref.go:31", #[⟨2, .data⟩], none⟩ (.pointer (some ⟨Lx, 1, none⟩)) hS1 ?_
 try simp only [Act.put, List.setIfInBounds_toArray, List.set_cons_zero, List.set_cons_succ]
 refine wpT 5 ⟨some 32, .load 54 (.tmp 3), 54, "ref.go:31", #[], none⟩ (.agg #[.int .i64 c.kind, .int .i64 c.num, .string ⟨c.text.toArray⟩]) (yieldsIf_load_mid (by rfl) 54 _ rfl B1 0 rfl [.int .i64 c.kind, .int .i64 c.num, .string ⟨c.text.toArray⟩] _ (fun W hW => fun o v h => by rw [cells_of_block hW, ← h]; simp) Tryz.underlying54 rfl infoVal9) hS1 ?_
 try simp only [Act.put, List.setIfInBounds_toArray, List.set_cons_zero, List.set_cons_succ]
 refine wpAnyH_ready (rs := [4, 6]) (by kernel_rfl) (by simp) ?_
 refine AllReadyH.cons (o := ⟨some 31, .load 25 (.tmp 30), 25, "ref.go:31", #[⟨3, .data⟩], none⟩) rfl (fun K hK => ?_) ?_
 ·refine wanted_wp10 (by rfl) ?_
  have b2 := b0
  go_simp
  refine hK.out _ _ hS1 (fun hS1 => ?_)
  clear hK K
  try simp only [Act.put, List.setIfInBounds_toArray, List.set_cons_zero, List.set_cons_succ]
  refine wpAnyH_ready (rs := [6]) (by kernel_rfl) (by simp) ?_
  refine AllReadyH.cons (o := ⟨some 33, .buildSlice 25 1 #[(0, .tmp 32)], 25, "ref.go:31", #[⟨5, .data⟩], none⟩) rfl (fun K hK => ?_) ?_
  ·refine wanted_wp10 (by rfl) ?_
   go_simp
   refine hK.out _ _ ((Below.heap_alloc _ _ _ HLT.out).trans hS1) (fun hS1 => ?_)
   clear hK K
   try simp only [Act.put, List.setIfInBounds_toArray, List.set_cons_zero, List.set_cons_succ]
   refine wpAnyH_ready (rs := [7]) (by kernel_rfl) (by simp) ?_
   refine AllReadyH.cons (o := ⟨some 34, .call { callee := .builtin .append, args := #[.tmp 31, .tmp 33], argTypes := #[25, 25] }, 25, "ref.go:31", #[⟨4, .data⟩, ⟨6, .data⟩], none⟩) rfl (fun K hK => ?_) ?_
   ·refine wanted_wp10 (by rfl) ?_
    refine wp_append_lies _ (.tmp 31) (.tmp 33) 25 rfl b 54 i0 _ 3 32 Tryz.underlying25 hi hz0 hz1 hz2 rfl (by decide) (.slice aT nn kT) nn (conC cs) rfl (World.ownsRow.alloc ROW.out _) ⟨W.drew.heap.size, 0, none⟩ 1 1 [.int .i64 c.kind, .int .i64 c.num, .string ⟨c.text.toArray⟩] rfl rfl (World.news_of_block (heap_alloc_new W.drew _)) (by simp [Value.oneCell']) (by decide) (by unfold maxLen; omega) (by omega) (by simp; show b ≤ W.heap.size + 1; omega) _ rfl ?_
    intro g cap w3 hown hgrow hat _
    have hgrow : (W.drew.alloc (.cells #[.int .i64 c.kind, .int .i64 c.num, .string ⟨c.text.toArray⟩] 54)).grownBy w3 (Value.slice aT nn kT).ownBlock := hgrow
    have hown1 : w3.ownsRow b 54 3 (.slice (some ⟨g, 0, none⟩) (nn + 1) cap) (nn + 1) (conC cs ++ conV c) := hown
    have sB : w3.heap[B1]? = some (.cells #[.int .i64 c.kind, .int .i64 c.num, .string ⟨c.text.toArray⟩] 54 (0, 0)) := (grow_same9 hgrow B1 HLT.out HNB.out).trans HB.out
    have sL := (grow_same9 hgrow Lx LS.out.bx.2.1 HNL.out).trans LS.out.box
    subst hnn
    have happ := QD.out.appC (g := g) (cap := cap) (W1 := w3) (o := (.cells #[.int .i64 c.kind, .int .i64 c.num, .string ⟨c.text.toArray⟩] 54)) hbW hown1 hgrow (hat.imp_right fun q => by rw [q]; rfl)
    have bx1 : w3.cell? ⟨Lx, 1, none⟩ = some (.slice aT cs.length kT) := (cells_of_block sL 1).trans rfl
    have fx1 := frees_of_block sL 1
    have APP := Lib.hid happ
    clear hown hown1 hgrow hat happ sL
    refine hK.out _ _ sB (fun hS1 => ?_)
    clear hK K
    try simp only [Act.put, List.setIfInBounds_toArray, List.set_cons_zero, List.set_cons_succ]
    refine wpV 8 ⟨some 35, .nilCheck (.tmp 27), 0, "ref.go:31", #[⟨0, .data⟩, ⟨0, .phase⟩, ⟨1, .phase⟩, ⟨2, .phase⟩, ⟨3, .phase⟩, ⟨4, .phase⟩, ⟨5, .phase⟩, ⟨6, .phase⟩, ⟨7, .phase⟩], none⟩ (.pointer (some ⟨Lx, 0, none⟩)) hS1 ?_
    try simp only [Act.put, List.setIfInBounds_toArray, List.set_cons_zero, List.set_cons_succ]
    refine wpV 9 ⟨some 36, .fieldAddr 59 (.tmp 35) 1, 0, "ref.go:31", #[⟨8, .data⟩, ⟨0, .phase⟩, ⟨1, .phase⟩, ⟨2, .phase⟩, ⟨3, .phase⟩, ⟨4, .phase⟩, ⟨5, .phase⟩, ⟨6, .phase⟩, ⟨7, .phase⟩], none⟩ (.pointer (some ⟨Lx, 1, none⟩)) hS1 ?_
    try simp only [Act.put, List.setIfInBounds_toArray, List.set_cons_zero, List.set_cons_succ]
    refine wpAnyH_ready (rs := [10]) (by kernel_rfl) (by simp) ?_
    refine AllReadyH.cons (o := ⟨none, .store 25 (.tmp 36) (.tmp 34), 0, "ref.go:31", #[⟨9, .data⟩, ⟨7, .data⟩, ⟨7, .chain⟩, ⟨0, .phase⟩, ⟨1, .phase⟩, ⟨2, .phase⟩, ⟨3, .phase⟩, ⟨4, .phase⟩, ⟨5, .phase⟩, ⟨6, .phase⟩, ⟨7, .phase⟩], none⟩) rfl (fun K hK => ?_) ?_
    ·refine wanted_wp10 (by rfl) ?_
     go_simp
     obtain ⟨s3, f3, b3⟩ := APP.out
     have h3 := (heap_setCell_other w3 ⟨Lx, 1, none⟩ B1 (.slice (some ⟨g, 0, none⟩) (cs.length + 1) cap) hBL).trans hS1
     have z3 := setCell_hsize w3 ⟨Lx, 1, none⟩ (.slice (some ⟨g, 0, none⟩) (cs.length + 1) cap)
     generalize World.setCell w3 ⟨Lx, 1, none⟩ (.slice (some ⟨g, 0, none⟩) (cs.length + 1) cap) = w4 at s3 f3 b3 h3 z3 ⊢
     refine hK.out _ _ h3 (fun hS1 => ?_)
     clear hK K
     try simp only [Act.put]
     refine wpAnyH_done (by kernel_rfl) ?_ _
     refine NoPanic.normal ?_
     exact hexit.out _ _ _ _ _ _ _ _ _ _ _ _ _ _ (Lib.hid (by rw [z3]; exact s3)) (Lib.hid f3) (((Below.refl b W).drew).trans b3)
    exact AllReadyH.nil
   exact AllReadyH.nil
  exact AllReadyH.nil
 refine AllReadyH.cons (o := ⟨some 33, .buildSlice 25 1 #[(0, .tmp 32)], 25, "ref.go:31", #[⟨5, .data⟩], none⟩) rfl (fun K hK => ?_) ?_
 ·refine wanted_wp10 (by rfl) ?_
  go_simp
  refine hK.out _ _ ((Below.heap_alloc _ _ _ HLT.out).trans hS1) (fun hS1 => ?_)
  clear hK K
  try simp only [Act.put, List.setIfInBounds_toArray, List.set_cons_zero, List.set_cons_succ]
  refine wpAnyH_ready (rs := [4]) (by kernel_rfl) (by simp) ?_
  refine AllReadyH.cons (o := ⟨some 31, .load 25 (.tmp 30), 25, "ref.go:31", #[⟨3, .data⟩], none⟩) rfl (fun K hK => ?_) ?_
  ·refine wanted_wp10 (by rfl) ?_
   have b2 := (World.cell?_of_block (a := ⟨Lx, 1, none⟩) (Below.heap_alloc W (.cells #[.int .i64 c.kind, .int .i64 c.num, .string ⟨c.text.toArray⟩] 54) _ LS.out.bx.2.1)).trans b0
   go_simp
   refine hK.out _ _ hS1 (fun hS1 => ?_)
   clear hK K
   try simp only [Act.put, List.setIfInBounds_toArray, List.set_cons_zero, List.set_cons_succ]
   refine wpAnyH_ready (rs := [7]) (by kernel_rfl) (by simp) ?_
   refine AllReadyH.cons (o := ⟨some 34, .call { callee := .builtin .append, args := #[.tmp 31, .tmp 33], argTypes := #[25, 25] }, 25, "ref.go:31", #[⟨4, .data⟩, ⟨6, .data⟩], none⟩) rfl (fun K hK => ?_) ?_
   ·refine wanted_wp10 (by rfl) ?_
    refine wp_append_lies _ (.tmp 31) (.tmp 33) 25 rfl b 54 i0 _ 3 32 Tryz.underlying25 hi hz0 hz1 hz2 rfl (by decide) (.slice aT nn kT) nn (conC cs) rfl (World.ownsRow.alloc ROW.out _) ⟨W.drew.heap.size, 0, none⟩ 1 1 [.int .i64 c.kind, .int .i64 c.num, .string ⟨c.text.toArray⟩] rfl rfl (World.news_of_block (heap_alloc_new W.drew _)) (by simp [Value.oneCell']) (by decide) (by unfold maxLen; omega) (by omega) (by simp; show b ≤ W.heap.size + 1; omega) _ rfl ?_
    intro g cap w3 hown hgrow hat _
    have hgrow : (W.drew.alloc (.cells #[.int .i64 c.kind, .int .i64 c.num, .string ⟨c.text.toArray⟩] 54)).grownBy w3 (Value.slice aT nn kT).ownBlock := hgrow
    have hown1 : w3.ownsRow b 54 3 (.slice (some ⟨g, 0, none⟩) (nn + 1) cap) (nn + 1) (conC cs ++ conV c) := hown
    have sB : w3.heap[B1]? = some (.cells #[.int .i64 c.kind, .int .i64 c.num, .string ⟨c.text.toArray⟩] 54 (0, 0)) := (grow_same9 hgrow B1 HLT.out HNB.out).trans HB.out
    have sL := (grow_same9 hgrow Lx LS.out.bx.2.1 HNL.out).trans LS.out.box
    subst hnn
    have happ := QD.out.appC (g := g) (cap := cap) (W1 := w3) (o := (.cells #[.int .i64 c.kind, .int .i64 c.num, .string ⟨c.text.toArray⟩] 54)) hbW hown1 hgrow (hat.imp_right fun q => by rw [q]; rfl)
    have bx1 : w3.cell? ⟨Lx, 1, none⟩ = some (.slice aT cs.length kT) := (cells_of_block sL 1).trans rfl
    have fx1 := frees_of_block sL 1
    have APP := Lib.hid happ
    clear hown hown1 hgrow hat happ sL
    refine hK.out _ _ sB (fun hS1 => ?_)
    clear hK K
    try simp only [Act.put, List.setIfInBounds_toArray, List.set_cons_zero, List.set_cons_succ]
    refine wpV 8 ⟨some 35, .nilCheck (.tmp 27), 0, "ref.go:31", #[⟨0, .data⟩, ⟨0, .phase⟩, ⟨1, .phase⟩, ⟨2, .phase⟩, ⟨3, .phase⟩, ⟨4, .phase⟩, ⟨5, .phase⟩, ⟨6, .phase⟩, ⟨7, .phase⟩], none⟩ (.pointer (some ⟨Lx, 0, none⟩)) hS1 ?_
    try simp only [Act.put, List.setIfInBounds_toArray, List.set_cons_zero, List.set_cons_succ]
    refine wpV 9 ⟨some 36, .fieldAddr 59 (.tmp 35) 1, 0, "ref.go:31", #[⟨8, .data⟩, ⟨0, .phase⟩, ⟨1, .phase⟩, ⟨2, .phase⟩, ⟨3, .phase⟩, ⟨4, .phase⟩, ⟨5, .phase⟩, ⟨6, .phase⟩, ⟨7, .phase⟩], none⟩ (.pointer (some ⟨Lx, 1, none⟩)) hS1 ?_
    try simp only [Act.put, List.setIfInBounds_toArray, List.set_cons_zero, List.set_cons_succ]
    refine wpAnyH_ready (rs := [10]) (by kernel_rfl) (by simp) ?_
    refine AllReadyH.cons (o := ⟨none, .store 25 (.tmp 36) (.tmp 34), 0, "ref.go:31", #[⟨9, .data⟩, ⟨7, .data⟩, ⟨7, .chain⟩, ⟨0, .phase⟩, ⟨1, .phase⟩, ⟨2, .phase⟩, ⟨3, .phase⟩, ⟨4, .phase⟩, ⟨5, .phase⟩, ⟨6, .phase⟩, ⟨7, .phase⟩], none⟩) rfl (fun K hK => ?_) ?_
    ·refine wanted_wp10 (by rfl) ?_
     go_simp
     obtain ⟨s3, f3, b3⟩ := APP.out
     have h3 := (heap_setCell_other w3 ⟨Lx, 1, none⟩ B1 (.slice (some ⟨g, 0, none⟩) (cs.length + 1) cap) hBL).trans hS1
     have z3 := setCell_hsize w3 ⟨Lx, 1, none⟩ (.slice (some ⟨g, 0, none⟩) (cs.length + 1) cap)
     generalize World.setCell w3 ⟨Lx, 1, none⟩ (.slice (some ⟨g, 0, none⟩) (cs.length + 1) cap) = w4 at s3 f3 b3 h3 z3 ⊢
     refine hK.out _ _ h3 (fun hS1 => ?_)
     clear hK K
     try simp only [Act.put]
     refine wpAnyH_done (by kernel_rfl) ?_ _
     refine NoPanic.normal ?_
     exact hexit.out _ _ _ _ _ _ _ _ _ _ _ _ _ _ (Lib.hid (by rw [z3]; exact s3)) (Lib.hid f3) (((Below.refl b W).drew).trans b3)
    exact AllReadyH.nil
   exact AllReadyH.nil
  exact AllReadyH.nil
 exact AllReadyH.nil
end Go.Proofs.YtlmpiobdgkmmgaaGreatDoor
