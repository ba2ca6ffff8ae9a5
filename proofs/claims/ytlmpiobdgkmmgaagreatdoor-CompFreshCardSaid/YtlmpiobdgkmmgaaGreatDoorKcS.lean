/- The document's compiler: CHOOSE, all calls, Formula. -/
import Derived.Test.YtlmpiobdgkmmgaaGreatDoorKcR
set_option maxRecDepth 1000000
set_option maxHeartbeats 16000000
namespace Go.Proofs.YtlmpiobdgkmmgaaGreatDoor
open Go.RowKit
noncomputable def chR (n : Nat) : Code := (regionB n ((Tryz.f103.body.map regionsB).getD [])).getD .skip
theorem ch_r {Q : Exit → Act → World → Prop} {b0 Lx gI kI c : Nat} {ps : List PI} {ns : List Int} {vt : Value} {W : World} {u1 u2 u3 u4 u5 u6 u7 u9 u10 u11 u12 u13 u14 u15 u16 u17 u18 u19 u20 u21 u22 u23 u24 u25 u26 u27 u28 u29 u30 u31 u32 u33 u34 u35 u36 u37 u38 u39 u40 u41 u42 u43 u44 u45 u46 u47 u48 u49 u50 u51 u52 u53 u54 u55 u56 u57 u58 u59 u60 u61 u62 u63 u64 u65 u66 u67 u68 u69 u70 u71 u72 u73 u74 u75 u76 u77 u78 u79 u80 u81 u82 u83 u84 u85 u86 u87 u88 u89 u90 u91 u92 u93 u94 u95 u96 u97 u98 u99 u100 u101 u102 u103 u104 u105 u106 u107 u108 u109 u110 u111 u112 u113 u114 u115 u116 u117 u118 u119 u120 u121 u122 u123 u124 u125 u126 u127 u128 u129 u130 u131 u132 u133 u134 u135 u136 u137 u138 u139 u140 u141 u142 u143 u144 u145 u146 u147 u148 u149 u150 u151 u152 u153 u154 u155 u156 u157 u158 u159 u160 u161 u162 u163 u164 u165 u166 u167 u168 u169 u170 u171 u172 u173 u174 u175 u176 u177 u178 u179 u180 u181 u182 u183 u184 u185 u186 u187 u188 u189 u190 u191 u192 u193 u194 u195 u196 u197 u198 u199 u200 u201 u202 u203 u204 u205 u206 : Value}
 (x0 : W.cell? ⟨Lx, 0, none⟩ = some (.slice (some ⟨gI, 0, none⟩) ps.length kI)) (xt : W.cell? ⟨gI, c * 6 + 5, none⟩ = some vt) (HFZ : Hid (W.frozen? ⟨gI, c * 6 + 5, none⟩ = false)) (hc : (c : Int) < (ps.length : Int)) (hb : b0 ≤ W.heap.size) (hn : ns.length ≤ 1000000)
 (ROW : Hid (W.drew.ownsRow b0 3 1 vt ns.length (ns.map fun x => Value.int .i64 x))) (HLX : Hid (Lx < W.heap.size)) (HLG : Hid (gI < W.heap.size)) (HXG : Hid (gI ≠ Lx)) (HNX : Hid (vt.ownBlock ≠ some Lx)) (HNG : Hid (vt.ownBlock ≠ some gI))
 (hexit : Hid (∀ (v165 v166 v167 v168 v169 v170 v171 v172 v173 v174 v175 v176 v177 v178 v179 v180 v181 v182 v183 v184 v185 v186 : Value) (g cap : Nat) (w3 : World), w3.ownsRow b0 3 1 (.slice (some ⟨g, 0, none⟩) (ns.length + 1) cap) (ns.length + 1) ((ns.map fun x => Value.int .i64 x) ++ [.int .i64 (ps.length : Int)]) → (W.drew.alloc (.cells #[.int .i64 (ps.length : Int)] 3)).grownBy w3 vt.ownBlock → (vt.ownBlock = some g ∨ g = (W.alloc (.cells #[.int .i64 (ps.length : Int)] 3)).heap.size) → Q .normal ⟨List.toArray ((.pointer (some ⟨Lx, 0, none⟩)) :: u1 :: u2 :: u3 :: u4 :: u5 :: u6 :: u7 :: (.int .i64 (c : Int)) :: u9 :: u10 :: u11 :: u12 :: u13 :: u14 :: u15 :: u16 :: u17 :: u18 :: u19 :: u20 :: u21 :: u22 :: u23 :: u24 :: u25 :: u26 :: u27 :: u28 :: u29 :: u30 :: u31 :: u32 :: u33 :: u34 :: u35 :: u36 :: u37 :: u38 :: u39 :: u40 :: u41 :: u42 :: u43 :: u44 :: u45 :: u46 :: u47 :: u48 :: u49 :: u50 :: u51 :: u52 :: u53 :: u54 :: u55 :: u56 :: u57 :: u58 :: u59 :: u60 :: u61 :: u62 :: u63 :: u64 :: u65 :: u66 :: u67 :: u68 :: u69 :: u70 :: u71 :: u72 :: u73 :: u74 :: u75 :: u76 :: u77 :: u78 :: u79 :: u80 :: u81 :: u82 :: u83 :: u84 :: u85 :: u86 :: u87 :: u88 :: u89 :: u90 :: u91 :: u92 :: u93 :: u94 :: u95 :: u96 :: u97 :: u98 :: u99 :: u100 :: u101 :: u102 :: u103 :: u104 :: u105 :: u106 :: u107 :: u108 :: u109 :: u110 :: u111 :: u112 :: u113 :: u114 :: u115 :: u116 :: u117 :: u118 :: u119 :: u120 :: u121 :: u122 :: u123 :: u124 :: u125 :: u126 :: u127 :: u128 :: u129 :: u130 :: u131 :: u132 :: u133 :: u134 :: u135 :: u136 :: u137 :: u138 :: u139 :: u140 :: u141 :: u142 :: u143 :: u144 :: u145 :: u146 :: u147 :: u148 :: u149 :: u150 :: u151 :: u152 :: u153 :: u154 :: u155 :: u156 :: u157 :: u158 :: u159 :: u160 :: u161 :: u162 :: u163 :: u164 :: v165 :: v166 :: v167 :: v168 :: v169 :: v170 :: v171 :: v172 :: v173 :: v174 :: v175 :: v176 :: v177 :: v178 :: v179 :: v180 :: v181 :: v182 :: v183 :: v184 :: v185 :: v186 :: u187 :: u188 :: u189 :: u190 :: u191 :: u192 :: u193 :: u194 :: u195 :: u196 :: u197 :: u198 :: u199 :: u200 :: u201 :: u202 :: u203 :: u204 :: u205 :: u206 :: []), []⟩ (w3.setCell ⟨gI, c * 6 + 5, none⟩ (.slice (some ⟨g, 0, none⟩) (ns.length + 1) cap)))) :
 Code.wp Tryz.prog (chR 41) Q ⟨List.toArray ((.pointer (some ⟨Lx, 0, none⟩)) :: u1 :: u2 :: u3 :: u4 :: u5 :: u6 :: u7 :: (.int .i64 (c : Int)) :: u9 :: u10 :: u11 :: u12 :: u13 :: u14 :: u15 :: u16 :: u17 :: u18 :: u19 :: u20 :: u21 :: u22 :: u23 :: u24 :: u25 :: u26 :: u27 :: u28 :: u29 :: u30 :: u31 :: u32 :: u33 :: u34 :: u35 :: u36 :: u37 :: u38 :: u39 :: u40 :: u41 :: u42 :: u43 :: u44 :: u45 :: u46 :: u47 :: u48 :: u49 :: u50 :: u51 :: u52 :: u53 :: u54 :: u55 :: u56 :: u57 :: u58 :: u59 :: u60 :: u61 :: u62 :: u63 :: u64 :: u65 :: u66 :: u67 :: u68 :: u69 :: u70 :: u71 :: u72 :: u73 :: u74 :: u75 :: u76 :: u77 :: u78 :: u79 :: u80 :: u81 :: u82 :: u83 :: u84 :: u85 :: u86 :: u87 :: u88 :: u89 :: u90 :: u91 :: u92 :: u93 :: u94 :: u95 :: u96 :: u97 :: u98 :: u99 :: u100 :: u101 :: u102 :: u103 :: u104 :: u105 :: u106 :: u107 :: u108 :: u109 :: u110 :: u111 :: u112 :: u113 :: u114 :: u115 :: u116 :: u117 :: u118 :: u119 :: u120 :: u121 :: u122 :: u123 :: u124 :: u125 :: u126 :: u127 :: u128 :: u129 :: u130 :: u131 :: u132 :: u133 :: u134 :: u135 :: u136 :: u137 :: u138 :: u139 :: u140 :: u141 :: u142 :: u143 :: u144 :: u145 :: u146 :: u147 :: u148 :: u149 :: u150 :: u151 :: u152 :: u153 :: u154 :: u155 :: u156 :: u157 :: u158 :: u159 :: u160 :: u161 :: u162 :: u163 :: u164 :: u165 :: u166 :: u167 :: u168 :: u169 :: u170 :: u171 :: u172 :: u173 :: u174 :: u175 :: u176 :: u177 :: u178 :: u179 :: u180 :: u181 :: u182 :: u183 :: u184 :: u185 :: u186 :: u187 :: u188 :: u189 :: u190 :: u191 :: u192 :: u193 :: u194 :: u195 :: u196 :: u197 :: u198 :: u199 :: u200 :: u201 :: u202 :: u203 :: u204 :: u205 :: u206 :: []), []⟩ W := by
 conv => arg 2; whnf
 obtain ⟨i0, hi, hz0, hz1, hz2⟩ := info_parts infoIntC
 refine wp_region_noPanic ?_
 refine wp_region_held_drew (S := fun w => w.heap[Lx]? = W.heap[Lx]?) (by kernel_rfl) rfl (fun hS1 => ?_)
 refine wpV 0 ⟨some 165, .move (.tmp 0), 57, "ref.go:158", #[], none⟩ (.pointer (some ⟨Lx, 0, none⟩)) hS1 ?_
 try simp only [Act.put, List.setIfInBounds_toArray, List.set_cons_zero, List.set_cons_succ]
 refine wpV 1 ⟨some 166, .nilCheck (.tmp 165), 0, "ref.go:158", #[⟨0, .data⟩], none⟩ (.pointer (some ⟨Lx, 0, none⟩)) hS1 ?_
 try simp only [Act.put, List.setIfInBounds_toArray, List.set_cons_zero, List.set_cons_succ]
 refine wpV 2 ⟨some 167, .fieldAddr 59 (.tmp 166) 0, 0, "ref.go:158", #[⟨1, .data⟩], none⟩ (.pointer (some ⟨Lx, 0, none⟩)) hS1 ?_
 try simp only [Act.put, List.setIfInBounds_toArray, List.set_cons_zero, List.set_cons_succ]
 refine wpT 3 ⟨some 168, .load 24 (.tmp 167), 24, "ref.go:158", #[⟨2, .data⟩], none⟩ (.slice (some ⟨gI, 0, none⟩) ps.length kI) (Or.inl ⟨by rfl, fun W hW => (by have e := (World.cell?_of_block (a := ⟨Lx, 0, none⟩) hW).trans x0; go_simp; done)⟩) hS1 ?_
 try simp only [Act.put, List.setIfInBounds_toArray, List.set_cons_zero, List.set_cons_succ]
 refine wpV 4 ⟨some 169, .move (.tmp 8), 3, "ref.go:158", #[], none⟩ (.int .i64 (c : Int)) hS1 ?_
 try simp only [Act.put, List.setIfInBounds_toArray, List.set_cons_zero, List.set_cons_succ]
 refine wpV 5 ⟨some 170, .move (.tmp 0), 57, "ref.go:158", #[], none⟩ (.pointer (some ⟨Lx, 0, none⟩)) hS1 ?_
 try simp only [Act.put, List.setIfInBounds_toArray, List.set_cons_zero, List.set_cons_succ]
 refine wpV 6 ⟨some 171, .nilCheck (.tmp 170), 0, "ref.go:158", #[⟨5, .data⟩], none⟩ (.pointer (some ⟨Lx, 0, none⟩)) hS1 ?_
 try simp only [Act.put, List.setIfInBounds_toArray, List.set_cons_zero, List.set_cons_succ]
 refine wpV 7 ⟨some 172, .fieldAddr 59 (.tmp 171) 0, 0, "ref.go:158", #[⟨6, .data⟩], none⟩ (.pointer (some ⟨Lx, 0, none⟩)) hS1 ?_
 try simp only [Act.put, List.setIfInBounds_toArray, List.set_cons_zero, List.set_cons_succ]
 refine wpT 8 ⟨some 173, .load 24 (.tmp 172), 24, "ref.go:158", #[⟨7, .data⟩], none⟩ (.slice (some ⟨gI, 0, none⟩) ps.length kI) (Or.inl ⟨by rfl, fun W hW => (by have e := (World.cell?_of_block (a := ⟨Lx, 0, none⟩) hW).trans x0; go_simp; done)⟩) hS1 ?_
 try simp only [Act.put, List.setIfInBounds_toArray, List.set_cons_zero, List.set_cons_succ]
 refine wpV 9 ⟨some 174, .move (.tmp 8), 3, "ref.go:158", #[], none⟩ (.int .i64 (c : Int)) hS1 ?_
 try simp only [Act.put, List.setIfInBounds_toArray, List.set_cons_zero, List.set_cons_succ]
 refine wpV 10 ⟨some 175, .indexAddr 24 (.tmp 173) (.tmp 174), 0, "ref.go:158", #[⟨8, .data⟩, ⟨9, .data⟩], none⟩ (.pointer (some ⟨gI, c * 6, none⟩)) hS1 ?_
 try simp only [Act.put, List.setIfInBounds_toArray, List.set_cons_zero, List.set_cons_succ]
 refine wpV 11 ⟨some 176, .fieldAddr 47 (.tmp 175) 5, 0, "ref.go:158", #[⟨10, .data⟩], none⟩ (.pointer (some ⟨gI, c * 6 + 5, none⟩)) hS1 ?_
 try simp only [Act.put, List.setIfInBounds_toArray, List.set_cons_zero, List.set_cons_succ]
 refine wpV 13 ⟨some 178, .move (.tmp 0), 57, "ref.go:158", #[], none⟩ (.pointer (some ⟨Lx, 0, none⟩)) hS1 ?_
 try simp only [Act.put, List.setIfInBounds_toArray, List.set_cons_zero, List.set_cons_succ]
 refine wpV 14 ⟨some 179, .nilCheck (.tmp 178), 0, "ref.go:158", #[⟨13, .data⟩], none⟩ (.pointer (some ⟨Lx, 0, none⟩)) hS1 ?_
 try simp only [Act.put, List.setIfInBounds_toArray, List.set_cons_zero, List.set_cons_succ]
 refine wpV 15 ⟨some 180, .fieldAddr 59 (.tmp 179) 0, 0, "ref.go:158", #[⟨14, .data⟩], none⟩ (.pointer (some ⟨Lx, 0, none⟩)) hS1 ?_
 try simp only [Act.put, List.setIfInBounds_toArray, List.set_cons_zero, List.set_cons_succ]
 refine wpT 16 ⟨some 181, .load 24 (.tmp 180), 24, "ref.go:158", #[⟨15, .data⟩], none⟩ (.slice (some ⟨gI, 0, none⟩) ps.length kI) (Or.inl ⟨by rfl, fun W hW => (by have e := (World.cell?_of_block (a := ⟨Lx, 0, none⟩) hW).trans x0; go_simp; done)⟩) hS1 ?_
 try simp only [Act.put, List.setIfInBounds_toArray, List.set_cons_zero, List.set_cons_succ]
 refine wpV 17 ⟨some 182, .call { callee := .builtin .len, args := #[.tmp 181], argTypes := #[24] }, 3, "ref.go:158", #[⟨16, .data⟩], none⟩ (.int .i64 (ps.length : Int)) hS1 ?_
 try simp only [Act.put, List.setIfInBounds_toArray, List.set_cons_zero, List.set_cons_succ]
 refine wpAnyH_ready (rs := [12, 18]) (by kernel_rfl) (by simp) ?_
 refine AllReadyH.cons (o := ⟨some 177, .load 45 (.tmp 176), 45, "ref.go:158", #[⟨11, .data⟩], none⟩) rfl (fun K hK => ?_) ?_
 ·refine wanted_wp10 (by rfl) ?_
  go_simp
  refine hK.out _ _ hS1 (fun hS1 => ?_)
  clear hK K
  try simp only [Act.put, List.setIfInBounds_toArray, List.set_cons_zero, List.set_cons_succ]
  refine wpAnyH_ready (rs := [18]) (by kernel_rfl) (by simp) ?_
  refine AllReadyH.cons (o := ⟨some 183, .buildSlice 45 1 #[(0, .tmp 182)], 45, "ref.go:158", #[⟨17, .data⟩], none⟩) rfl (fun K hK => ?_) ?_
  ·refine wanted_wp10 (by rfl) ?_
   go_simp
   refine hK.out _ _ ((Below.heap_alloc _ _ _ HLX.out).trans hS1) (fun hS1 => ?_)
   clear hK K
   try simp only [Act.put, List.setIfInBounds_toArray, List.set_cons_zero, List.set_cons_succ]
   refine wpAnyH_ready (rs := [19]) (by kernel_rfl) (by simp) ?_
   refine AllReadyH.cons (o := ⟨some 184, .call { callee := .builtin .append, args := #[.tmp 177, .tmp 183], argTypes := #[45, 45] }, 45, "ref.go:158", #[⟨12, .data⟩, ⟨18, .data⟩], none⟩) rfl (fun K hK => ?_) ?_
   ·refine wanted_wp10 (by rfl) ?_
    refine wp_append_lies _ (.tmp 177) (.tmp 183) 45 rfl b0 3 i0 _ 1 8 Tryz.underlying45 hi hz0 hz1 hz2 rfl (by decide) vt ns.length (ns.map fun x => Value.int .i64 x) rfl (World.ownsRow.alloc ROW.out _) ⟨W.drew.heap.size, 0, none⟩ 1 1 [.int .i64 (ps.length : Int)] rfl rfl (World.news_of_block (heap_alloc_new W.drew _)) (by simp [Value.oneCell']) (by decide) (by unfold maxLen; omega) (by omega) (by simp; show b0 ≤ W.heap.size + 1; omega) _ rfl ?_
    intro g cap w3 hown hgrow hat _
    have hgrow : (W.drew.alloc (.cells #[.int .i64 (ps.length : Int)] 3)).grownBy w3 vt.ownBlock := hgrow
    have sX : w3.heap[Lx]? = W.heap[Lx]? := grow_same9 hgrow Lx HLX.out HNX.out
    have sG : w3.heap[gI]? = W.heap[gI]? := grow_same9 hgrow gI HLG.out HNG.out
    have xt3 := (World.cell?_of_block (a := ⟨gI, c * 6 + 5, none⟩) sG).trans xt
    have fz3 : w3.frozen? ⟨gI, c * 6 + 5, none⟩ = false := by rw [← HFZ.out]; simp only [World.frozen?, sG]
    have GA := Lib.hid (And.intro hown (And.intro hgrow hat))
    clear hown hgrow hat
    refine hK.out _ _ sX (fun hS1 => ?_)
    clear hK K
    try simp only [Act.put, List.setIfInBounds_toArray, List.set_cons_zero, List.set_cons_succ]
    refine wpV 20 ⟨some 185, .indexAddr 24 (.tmp 168) (.tmp 169), 0, "ref.go:158", #[⟨3, .data⟩, ⟨4, .data⟩, ⟨0, .phase⟩, ⟨1, .phase⟩, ⟨2, .phase⟩, ⟨3, .phase⟩, ⟨4, .phase⟩, ⟨5, .phase⟩, ⟨6, .phase⟩, ⟨7, .phase⟩, ⟨8, .phase⟩, ⟨9, .phase⟩, ⟨10, .phase⟩, ⟨11, .phase⟩, ⟨12, .phase⟩, ⟨13, .phase⟩, ⟨14, .phase⟩, ⟨15, .phase⟩, ⟨16, .phase⟩, ⟨17, .phase⟩, ⟨18, .phase⟩, ⟨19, .phase⟩], none⟩ (.pointer (some ⟨gI, c * 6, none⟩)) hS1 ?_
    try simp only [Act.put, List.setIfInBounds_toArray, List.set_cons_zero, List.set_cons_succ]
    refine wpV 21 ⟨some 186, .fieldAddr 47 (.tmp 185) 5, 0, "ref.go:158", #[⟨20, .data⟩, ⟨0, .phase⟩, ⟨1, .phase⟩, ⟨2, .phase⟩, ⟨3, .phase⟩, ⟨4, .phase⟩, ⟨5, .phase⟩, ⟨6, .phase⟩, ⟨7, .phase⟩, ⟨8, .phase⟩, ⟨9, .phase⟩, ⟨10, .phase⟩, ⟨11, .phase⟩, ⟨12, .phase⟩, ⟨13, .phase⟩, ⟨14, .phase⟩, ⟨15, .phase⟩, ⟨16, .phase⟩, ⟨17, .phase⟩, ⟨18, .phase⟩, ⟨19, .phase⟩], none⟩ (.pointer (some ⟨gI, c * 6 + 5, none⟩)) hS1 ?_
    try simp only [Act.put, List.setIfInBounds_toArray, List.set_cons_zero, List.set_cons_succ]
    refine wpAnyH_ready (rs := [22]) (by kernel_rfl) (by simp) ?_
    refine AllReadyH.cons (o := ⟨none, .store 45 (.tmp 186) (.tmp 184), 0, "ref.go:158", #[⟨21, .data⟩, ⟨19, .data⟩, ⟨19, .chain⟩, ⟨0, .phase⟩, ⟨1, .phase⟩, ⟨2, .phase⟩, ⟨3, .phase⟩, ⟨4, .phase⟩, ⟨5, .phase⟩, ⟨6, .phase⟩, ⟨7, .phase⟩, ⟨8, .phase⟩, ⟨9, .phase⟩, ⟨10, .phase⟩, ⟨11, .phase⟩, ⟨12, .phase⟩, ⟨13, .phase⟩, ⟨14, .phase⟩, ⟨15, .phase⟩, ⟨16, .phase⟩, ⟨17, .phase⟩, ⟨18, .phase⟩, ⟨19, .phase⟩], none⟩) rfl (fun K hK => ?_) ?_
    ·refine wanted_wp10 (by rfl) ?_
     go_simp
     obtain ⟨hown, hgrow, hat⟩ := GA.out
     have h1 : (w3.setCell ⟨gI, c * 6 + 5, none⟩ (.slice (some ⟨g, 0, none⟩) (ns.length + 1) cap)).heap[Lx]? = W.heap[Lx]? := (heap_setCell_other _ _ _ _ (by intro e; exact HXG.out e.symm)).trans sX
     refine hK.out _ _ h1 (fun hS1 => ?_)
     clear hK K
     try simp only [Act.put]
     refine wpAnyH_done (by kernel_rfl) ?_ _
     refine NoPanic.normal ?_
     exact hexit.out _ _ _ _ _ _ _ _ _ _ _ _ _ _ _ _ _ _ _ _ _ _ _ _ _ hown hgrow hat
    exact AllReadyH.nil
   exact AllReadyH.nil
  exact AllReadyH.nil
 refine AllReadyH.cons (o := ⟨some 183, .buildSlice 45 1 #[(0, .tmp 182)], 45, "ref.go:158", #[⟨17, .data⟩], none⟩) rfl (fun K hK => ?_) ?_
 ·refine wanted_wp10 (by rfl) ?_
  go_simp
  refine hK.out _ _ ((Below.heap_alloc _ _ _ HLX.out).trans hS1) (fun hS1 => ?_)
  clear hK K
  try simp only [Act.put, List.setIfInBounds_toArray, List.set_cons_zero, List.set_cons_succ]
  refine wpAnyH_ready (rs := [12]) (by kernel_rfl) (by simp) ?_
  refine AllReadyH.cons (o := ⟨some 177, .load 45 (.tmp 176), 45, "ref.go:158", #[⟨11, .data⟩], none⟩) rfl (fun K hK => ?_) ?_
  ·refine wanted_wp10 (by rfl) ?_
   have b2 := (World.cell?_of_block (a := ⟨gI, c * 6 + 5, none⟩) (Below.heap_alloc W (.cells #[.int .i64 (ps.length : Int)] 3) _ HLG.out)).trans xt
   go_simp
   refine hK.out _ _ hS1 (fun hS1 => ?_)
   clear hK K
   try simp only [Act.put, List.setIfInBounds_toArray, List.set_cons_zero, List.set_cons_succ]
   refine wpAnyH_ready (rs := [19]) (by kernel_rfl) (by simp) ?_
   refine AllReadyH.cons (o := ⟨some 184, .call { callee := .builtin .append, args := #[.tmp 177, .tmp 183], argTypes := #[45, 45] }, 45, "ref.go:158", #[⟨12, .data⟩, ⟨18, .data⟩], none⟩) rfl (fun K hK => ?_) ?_
   ·refine wanted_wp10 (by rfl) ?_
    refine wp_append_lies _ (.tmp 177) (.tmp 183) 45 rfl b0 3 i0 _ 1 8 Tryz.underlying45 hi hz0 hz1 hz2 rfl (by decide) vt ns.length (ns.map fun x => Value.int .i64 x) rfl (World.ownsRow.alloc ROW.out _) ⟨W.drew.heap.size, 0, none⟩ 1 1 [.int .i64 (ps.length : Int)] rfl rfl (World.news_of_block (heap_alloc_new W.drew _)) (by simp [Value.oneCell']) (by decide) (by unfold maxLen; omega) (by omega) (by simp; show b0 ≤ W.heap.size + 1; omega) _ rfl ?_
    intro g cap w3 hown hgrow hat _
    have hgrow : (W.drew.alloc (.cells #[.int .i64 (ps.length : Int)] 3)).grownBy w3 vt.ownBlock := hgrow
    have sX : w3.heap[Lx]? = W.heap[Lx]? := grow_same9 hgrow Lx HLX.out HNX.out
    have sG : w3.heap[gI]? = W.heap[gI]? := grow_same9 hgrow gI HLG.out HNG.out
    have xt3 := (World.cell?_of_block (a := ⟨gI, c * 6 + 5, none⟩) sG).trans xt
    have fz3 : w3.frozen? ⟨gI, c * 6 + 5, none⟩ = false := by rw [← HFZ.out]; simp only [World.frozen?, sG]
    have GA := Lib.hid (And.intro hown (And.intro hgrow hat))
    clear hown hgrow hat
    refine hK.out _ _ sX (fun hS1 => ?_)
    clear hK K
    try simp only [Act.put, List.setIfInBounds_toArray, List.set_cons_zero, List.set_cons_succ]
    refine wpV 20 ⟨some 185, .indexAddr 24 (.tmp 168) (.tmp 169), 0, "ref.go:158", #[⟨3, .data⟩, ⟨4, .data⟩, ⟨0, .phase⟩, ⟨1, .phase⟩, ⟨2, .phase⟩, ⟨3, .phase⟩, ⟨4, .phase⟩, ⟨5, .phase⟩, ⟨6, .phase⟩, ⟨7, .phase⟩, ⟨8, .phase⟩, ⟨9, .phase⟩, ⟨10, .phase⟩, ⟨11, .phase⟩, ⟨12, .phase⟩, ⟨13, .phase⟩, ⟨14, .phase⟩, ⟨15, .phase⟩, ⟨16, .phase⟩, ⟨17, .phase⟩, ⟨18, .phase⟩, ⟨19, .phase⟩], none⟩ (.pointer (some ⟨gI, c * 6, none⟩)) hS1 ?_
    try simp only [Act.put, List.setIfInBounds_toArray, List.set_cons_zero, List.set_cons_succ]
    refine wpV 21 ⟨some 186, .fieldAddr 47 (.tmp 185) 5, 0, "ref.go:158", #[⟨20, .data⟩, ⟨0, .phase⟩, ⟨1, .phase⟩, ⟨2, .phase⟩, ⟨3, .phase⟩, ⟨4, .phase⟩, ⟨5, .phase⟩, ⟨6, .phase⟩, ⟨7, .phase⟩, ⟨8, .phase⟩, ⟨9, .phase⟩, ⟨10, .phase⟩, ⟨11, .phase⟩, ⟨12, .phase⟩, ⟨13, .phase⟩, ⟨14, .phase⟩, ⟨15, .phase⟩, ⟨16, .phase⟩, ⟨17, .phase⟩, ⟨18, .phase⟩, ⟨19, .phase⟩], none⟩ (.pointer (some ⟨gI, c * 6 + 5, none⟩)) hS1 ?_
    try simp only [Act.put, List.setIfInBounds_toArray, List.set_cons_zero, List.set_cons_succ]
    refine wpAnyH_ready (rs := [22]) (by kernel_rfl) (by simp) ?_
    refine AllReadyH.cons (o := ⟨none, .store 45 (.tmp 186) (.tmp 184), 0, "ref.go:158", #[⟨21, .data⟩, ⟨19, .data⟩, ⟨19, .chain⟩, ⟨0, .phase⟩, ⟨1, .phase⟩, ⟨2, .phase⟩, ⟨3, .phase⟩, ⟨4, .phase⟩, ⟨5, .phase⟩, ⟨6, .phase⟩, ⟨7, .phase⟩, ⟨8, .phase⟩, ⟨9, .phase⟩, ⟨10, .phase⟩, ⟨11, .phase⟩, ⟨12, .phase⟩, ⟨13, .phase⟩, ⟨14, .phase⟩, ⟨15, .phase⟩, ⟨16, .phase⟩, ⟨17, .phase⟩, ⟨18, .phase⟩, ⟨19, .phase⟩], none⟩) rfl (fun K hK => ?_) ?_
    ·refine wanted_wp10 (by rfl) ?_
     go_simp
     obtain ⟨hown, hgrow, hat⟩ := GA.out
     have h1 : (w3.setCell ⟨gI, c * 6 + 5, none⟩ (.slice (some ⟨g, 0, none⟩) (ns.length + 1) cap)).heap[Lx]? = W.heap[Lx]? := (heap_setCell_other _ _ _ _ (by intro e; exact HXG.out e.symm)).trans sX
     refine hK.out _ _ h1 (fun hS1 => ?_)
     clear hK K
     try simp only [Act.put]
     refine wpAnyH_done (by kernel_rfl) ?_ _
     refine NoPanic.normal ?_
     exact hexit.out _ _ _ _ _ _ _ _ _ _ _ _ _ _ _ _ _ _ _ _ _ _ _ _ _ hown hgrow hat
    exact AllReadyH.nil
   exact AllReadyH.nil
  exact AllReadyH.nil
 exact AllReadyH.nil
end Go.Proofs.YtlmpiobdgkmmgaaGreatDoor
namespace Go.Proofs.YtlmpiobdgkmmgaaGreatDoor
open Go.RowKit
def Sx (S : SX) (c : Nat) (v : Value) : SX := fun i => if i = c then some v else S i
theorem sx_at (S : SX) (c : Nat) (v : Value) : Sx S c v c = some v := if_pos rfl
theorem sx_ne {S : SX} {c i : Nat} {v : Value} (h : i ≠ c) : Sx S c v i = S i := if_neg h
theorem insC_patT : ∀ (ps : List PI) (ts : List Value) (i : Nat) (x : List Int), insC (patT ps i x) ts = insC ps ts
 | [], _, _, _ => rfl
 | _ :: _, [], 0, _ => rfl
 | _ :: _, [], _ + 1, _ => rfl
 | _ :: _, _ :: _, 0, _ => rfl
 | p :: ps, t :: ts, i + 1, x => by simp only [patT, insC, insC_patT ps ts i x]
section
variable {b N g n kc c Lx : Nat} {TL : TypeId} {ex : List Value} {cl : Nat → Nat} {S : SX} {vI vC t u v : Value} {ps : List PI} {p : PI} {ts : List Value} {cs : List PV} {W : World} {xs : List Int}
theorem LayS.setX (s : LayS b N cl (Sx S c v) Lx TL ex (.slice (some ⟨g, 0, none⟩) n kc) vC ps ts cs W) (hp : ps[c]? = some p) (ht : ts[c]? = some t) :
 LayS b N cl (Sx S c u) Lx TL ex (.slice (some ⟨g, 0, none⟩) n kc) vC ps (ts.set c u) cs (W.setCell ⟨g, c * 6 + 5, none⟩ u) ∧ Frm (· ≠ 0) cl N cl W (W.setCell ⟨g, c * 6 + 5, none⟩ u) := by
 obtain ⟨a9, k9, e9⟩ := s.rI.own.slice9
 simp only [Value.slice.injEq] at e9
 obtain ⟨-, rfl, -⟩ := e9
 have f : Frm (· ≠ 0) cl N cl W (W.setCell ⟨g, c * 6 + 5, none⟩ u) := fun x _ hc => ⟨rfl, heap_setCell_other _ _ _ _ (by intro e; exact hc (by rw [e]; exact (s.rI.cls g rfl).1))⟩
 have hps : ps.set c p = ps := by
  obtain ⟨h3, h4⟩ := List.getElem?_eq_some_iff.1 hp
  rw [← h4, List.set_getElem_self]
 refine ⟨⟨(f Lx s.bx.2.1 (by rw [s.bx.1]; omega)).2.trans s.box, s.bx, by simp [s.len], ⟨?_, fun k hk => s.rI.cls k hk⟩, s.rC.frm f (by omega) (Nat.le_refl _), fun i p1 t1 hi hp1 ht1 => ?_, fun i w t1 hw ht1 => ?_, fun i w hw => ?_⟩, f⟩
 ·have e := insC_set ps ts c 5 p p t u u hp ht (by omega) rfl
  rw [hps] at e
  rw [← e]
  exact (s.rI.own.stored _ u).1
 ·have hne : i ≠ c := fun e => by rw [e, sx_at] at hi; cases hi
  rw [sx_ne hne] at hi
  rw [List.getElem?_set_ne (fun e => hne e.symm)] at ht1
  exact (s.tt i p1 t1 (by rw [sx_ne hne]; exact hi) hp1 ht1).frm f (by omega) (Nat.le_refl _)
 ·by_cases hic : i = c
  ·subst hic
   rw [sx_at, Option.some.injEq] at hw
   rw [List.getElem?_set_self (List.getElem?_eq_some_iff.1 ht).1, Option.some.injEq] at ht1
   rw [← ht1, hw]
  ·rw [sx_ne hic] at hw
   rw [List.getElem?_set_ne (fun e => hic e.symm)] at ht1
   exact s.tx i w t1 (by rw [sx_ne hic]; exact hw) ht1
 ·by_cases hic : i = c
  ·subst hic; exact (List.getElem?_eq_some_iff.1 hp).1
  ·rw [sx_ne hic] at hw
   exact s.sn i w (by rw [sx_ne hic]; exact hw)
theorem LayS.unX (s : LayS b N cl (Sx S c v) Lx TL ex vI vC ps ts cs W) (hS : S c = none) (hT : TRow b N cl (10 + c) W v xs) : LayS b N cl S Lx TL ex vI vC (patT ps c xs) ts cs W := by
 refine ⟨s.box, s.bx, by rw [patT_len]; exact s.len, by rw [patT_len, insC_patT]; exact s.rI, s.rC, fun i p1 t1 hi hp1 ht1 => ?_, fun i w t1 hw ht1 => ?_, fun i w hw => ?_⟩
 ·by_cases hic : i = c
  ·subst hic
   have hlt : i < ps.length := by have := (List.getElem?_eq_some_iff.1 hp1).1; rwa [patT_len] at this
   rw [patT_set ps i xs ps[i] (List.getElem?_eq_getElem hlt), List.getElem?_set_self hlt, Option.some.injEq] at hp1
   rw [← hp1, s.tx i v t1 (sx_at S i v) ht1]
   exact hT
  ·have hlt : i < ps.length := by have := (List.getElem?_eq_some_iff.1 hp1).1; rwa [patT_len] at this
   refine s.tt i p1 t1 (by rw [sx_ne hic]; exact hi) ?_ ht1
   by_cases hcl : c < ps.length
   ·rw [patT_set ps c xs ps[c] (List.getElem?_eq_getElem hcl), List.getElem?_set_ne (fun e => hic e.symm)] at hp1
    exact hp1
   ·exact absurd (s.sn c v (sx_at S c v)) hcl
 ·have hic : i ≠ c := fun e => by rw [e, hS] at hw; cases hw
  exact s.tx i w t1 (by rw [sx_ne hic]; exact hw) ht1
 ·have hic : i ≠ c := fun e => by rw [e, hS] at hw; cases hw
  rw [patT_len]
  exact s.sn i w (by rw [sx_ne hic]; exact hw)
theorem LayS.toX (s : LayS b N cl S Lx TL ex vI vC ps ts cs W) (hp : ps[c]? = some p) (h0 : p.t = []) (hS : S c = none) : LayS b N cl (Sx S c (.slice none 0 0)) Lx TL ex vI vC ps ts cs W := by
 refine ⟨s.box, s.bx, s.len, s.rI, s.rC, fun i p1 t1 hi hp1 ht1 => ?_, fun i w t1 hw ht1 => ?_, fun i w hw => ?_⟩
 ·have hic : i ≠ c := fun e => by rw [e, sx_at] at hi; cases hi
  exact s.tt i p1 t1 (by rw [sx_ne hic] at hi; exact hi) hp1 ht1
 ·by_cases hic : i = c
  ·subst hic
   rw [sx_at, Option.some.injEq] at hw
   rcases s.tt i p t1 hS hp ht1 with ⟨-, q⟩ | ⟨g, cap, cur, -, -, -, -, -, ⟨q, -⟩, -⟩
   ·rw [q, hw]
   ·rw [h0] at q; simp at q
  ·exact s.tx i w t1 (by rw [sx_ne hic] at hw; exact hw) ht1
 ·by_cases hic : i = c
  ·subst hic; exact (List.getElem?_eq_some_iff.1 hp).1
  ·exact s.sn i w (by rw [sx_ne hic] at hw; exact hw)
end
theorem Rq.ch {b Lx Bt kl kc : Nat} {h : Hd} {ks : Trees} {ka : Option Addr} {cl0 cl cl' : Nat → Nat} {W0 W W' : World} {S S' : SX} {ps ps' : List PI} {cs cs' : List PV} (r : Rq b Lx Bt h ks ka kl kc cl0 W0 cl S ps cs W) (s : Ly b cl' S' Lx 59 [] ps' cs' W') (f : Frm (fun q => q ≠ 0 ∧ q ≠ 8) cl W.heap.size cl' W W') (h0 : ∀ x, x < W0.heap.size → P3 (cl x) → cl' x = cl x ∧ W'.heap[x]? = W.heap[x]?) (bb : Below b W W') : Rq b Lx Bt h ks ka kl kc cl0 W0 cl' S' ps' cs' W' := by
 have q := f Bt r.nd.1 (by rw [r.bc]; omega)
 refine ⟨s, Nat.le_trans r.hb bb.size, fun x hx hp => ?_, r.be.trans bb, r.nd.same9 q.2 bb.size, q.1.trans r.bc, r.tv.kept bb⟩
 obtain ⟨e1, e2⟩ := r.fr x hx hp
 obtain ⟨e3, e4⟩ := h0 x hx (by rw [e1]; exact hp)
 exact ⟨e3.trans e1, e4.trans e2⟩
theorem CoQ.ch {b Lx : Nat} {cl0 cl cl' : Nat → Nat} {W0 W W' : World} {S S' : SX} {ps ps' : List PI} {cs cs' : List PV} {v : Value} {os : List Nat} (c : CoQ b Lx cl0 W0 cl S ps cs W v os) (s : Ly b cl' S' Lx 59 [] ps' cs' W') (f : Frm (fun q => q ≠ 0 ∧ q ≠ 8) cl W.heap.size cl' W W') (h0 : ∀ x, x < W0.heap.size → P3 (cl x) → cl' x = cl x ∧ W'.heap[x]? = W.heap[x]?) (bb : Below b W W') : CoQ b Lx cl0 W0 cl' S' ps' cs' W' v os := by
 refine ⟨s, fun x hx hp => ?_, c.be.trans bb, c.row.frm f (by omega) bb.size⟩
 obtain ⟨e1, e2⟩ := c.fr x hx hp
 obtain ⟨e3, e4⟩ := h0 x hx (by rw [e1]; exact hp)
 exact ⟨e3.trans e1, e4.trans e2⟩
theorem ch_step {b gI kI c Lx g cap : Nat} {TL : TypeId} {ex : List Value} {cl : Nat → Nat} {S : SX} {vC vt t : Value} {ps : List PI} {p : PI} {ts : List Value} {cs : List PV} {W W0 w3 : World} {ns : List Int} {x : Int} {ob : Obj}
 (s : LayS b W.heap.size cl (Sx S c vt) Lx TL ex (.slice (some ⟨gI, 0, none⟩) ps.length kI) vC ps ts cs W) (hp : ps[c]? = some p) (ht : ts[c]? = some t) (T : TbR cl W0 W vt ns) (hb : b ≤ W0.heap.size) (be : W0.heap.size ≤ W.heap.size)
 (hown : w3.ownsRow W0.heap.size 3 1 (.slice (some ⟨g, 0, none⟩) (ns.length + 1) cap) (ns.length + 1) ((ns.map fun x => Value.int .i64 x) ++ [.int .i64 x])) (hgrow : (W.drew.alloc ob).grownBy w3 vt.ownBlock) (hat : vt.ownBlock = some g ∨ g = (W.alloc ob).heap.size) :
 ∃ cl', Ly b cl' (Sx S c (.slice (some ⟨g, 0, none⟩) (ns.length + 1) cap)) Lx TL ex ps cs (w3.setCell ⟨gI, c * 6 + 5, none⟩ (.slice (some ⟨g, 0, none⟩) (ns.length + 1) cap)) ∧ TbR cl' W0 (w3.setCell ⟨gI, c * 6 + 5, none⟩ (.slice (some ⟨g, 0, none⟩) (ns.length + 1) cap)) (.slice (some ⟨g, 0, none⟩) (ns.length + 1) cap) (ns ++ [x]) ∧
  Frm (fun q => q ≠ 0 ∧ q ≠ 8) cl W.heap.size cl' W (w3.setCell ⟨gI, c * 6 + 5, none⟩ (.slice (some ⟨g, 0, none⟩) (ns.length + 1) cap)) ∧ (∀ x, x < W0.heap.size → P3 (cl x) → cl' x = cl x ∧ (w3.setCell ⟨gI, c * 6 + 5, none⟩ (.slice (some ⟨g, 0, none⟩) (ns.length + 1) cap)).heap[x]? = W.heap[x]?) ∧ Below b W (w3.setCell ⟨gI, c * 6 + 5, none⟩ (.slice (some ⟨g, 0, none⟩) (ns.length + 1) cap)) := by
 have bel : Below W0.heap.size W w3 := (((Below.refl _ W).drew).alloc be ob).grown hgrow (by simp; show W0.heap.size ≤ W.heap.size + 1; omega) (fun k hk => (World.ownsRow.lt (Rw.own T) k hk).1)
 have f1 : Frm (· ≠ 8) cl W.heap.size (upc cl W.heap.size 8) W w3 := Frm.but fun x hx hc => grow_same9 (W := W.drew) hgrow x hx fun e => hc (Rw.cls T x e).1
 have s3 := s.frm f1 bel.size (by omega) (by omega) (by omega) fun i _ => by omega
 obtain ⟨s4, f4⟩ := s3.setX (u := .slice (some ⟨g, 0, none⟩) (ns.length + 1) cap) hp ht
 have hz : (w3.setCell ⟨gI, c * 6 + 5, none⟩ (.slice (some ⟨g, 0, none⟩) (ns.length + 1) cap)).heap.size = w3.heap.size := setCell_hsize _ _ _
 have cI := (s3.rI.cls gI rfl).1
 have T3 : TbR (upc cl W.heap.size 8) W0 w3 (.slice (some ⟨g, 0, none⟩) (ns.length + 1) cap) (ns ++ [x]) := by
  unfold TbR
  rw [List.length_append, List.length_singleton, List.map_append]
  exact Rw.make T hown (hat.imp (fun e => e.symm) fun e k hk => by
   simp only [Value.ownBlock, Option.some.injEq] at hk
   rw [← hk, e]; simp) (Nat.le_refl _)
 refine ⟨upc cl W.heap.size 8, ⟨_, _, _, by rw [hz]; exact s4⟩, T3.frm f4 (by omega) (by rw [hz]; exact Nat.le_refl _), (f1.mono fun q h => h.2).trans (f4.mono fun q h => h.1) bel.size, fun y hy hq => ?_, (bel.mono hb).trans ((Below.refl b w3).setCell (p := ⟨gI, c * 6 + 5, none⟩) (World.ownsRow.lt s3.rI.own gI rfl).1 _)⟩
 have ey : upc cl W.heap.size 8 y = cl y := upc_lt (by omega)
 exact ⟨ey, (heap_setCell_other _ _ _ _ (by intro e; have e2 : y = gI := e; rw [e2] at ey; exact hq.1 (by rw [← e2] at ey; rw [← ey, e2]; exact cI))).trans (bel.block y hy)⟩
theorem ch_give {b c Lx : Nat} {TL : TypeId} {ex : List Value} {cl : Nat → Nat} {S : SX} {vt : Value} {ps : List PI} {cs : List PV} {W W0 : World} {ns : List Int} (s : Ly b cl (Sx S c vt) Lx TL ex ps cs W) (T : TbR cl W0 W vt ns) (hb : b ≤ W0.heap.size) (hne : ns ≠ []) (hS : S c = none) :
 ∃ cl', Ly b cl' S Lx TL ex (patT ps c ns) cs W ∧ Frm (fun q => q ≠ 0 ∧ q ≠ 8) cl W.heap.size cl' W W ∧ (∀ x, x < W0.heap.size → P3 (cl x) → cl' x = cl x ∧ W.heap[x]? = W.heap[x]?) := by
 have hl : 0 < ns.length := List.length_pos_iff.2 hne
 rcases (Rw.own T).2 with ⟨e, h0⟩ | ⟨g, cap, cur, e, hbg, hg, h1, h2, h3, h4⟩
 ·omega
 have hc := Rw.cls T g (by rw [e]; rfl)
 have f : Frm (· ≠ 8) cl W.heap.size (fun x => if x = g then 10 + c else cl x) W W := fun x _ hx => ⟨if_neg (fun q => hx (by rw [q]; exact hc.1)), rfl⟩
 have hT : TRow b W.heap.size (fun x => if x = g then 10 + c else cl x) (10 + c) W vt ns := by
  refine .inr ⟨g, cap, cur, e, if_pos rfl, hc.2, by omega, hg, ⟨hl, h1⟩, by omega, fun j x hj => ?_⟩
  have hjl := (List.getElem?_eq_some_iff.1 hj).1
  have q := congrArg (fun l : List Value => l[j]?) h4
  simp only [List.getElem?_take, List.getElem?_map, hj, Option.map_some] at q
  rw [if_pos (by omega)] at q
  simpa using q
 obtain ⟨vI, vC, ts, s⟩ := s
 have s2 := (s.frm f (Nat.le_refl _) (by omega) (by omega) (by omega) fun i _ => by omega).unX hS hT
 exact ⟨_, ⟨_, _, _, s2⟩, f.mono fun q h => h.2, fun x hx _ => ⟨if_neg (by omega), rfl⟩⟩
end Go.Proofs.YtlmpiobdgkmmgaaGreatDoor
namespace Go.Proofs.YtlmpiobdgkmmgaaGreatDoor
open Go.RowKit
def ChR (b Lx Bt : Nat) (h : Hd) (ks : Trees) (ka : Option Addr) (kc : Nat) (cl0 : Nat → Nat) (W0 : World) (S : SX) (c : Nat) (T : List Int) (fin : Int → List PI × List PV) (v iv : Value) (wr : World) : Prop :=
 ∃ (j : Nat) (cl : Nat → Nat) (os : List Nat) (ns : List Int) (vt : Value) (ps : List PI) (cs : List PV) (L : Int → List PI), iv = .int .i64 (j : Int) ∧ 1 ≤ j ∧ j ≤ ks.len ∧ os.length ≤ j ∧ ns.length < j ∧ Hid (ns.length + 1 = j) ∧ c < ps.length ∧ Hid (CoQ b Lx cl0 W0 cl (Sx S c vt) ps cs wr v os) ∧ Hid (Rq b Lx Bt h ks ka ks.len kc cl0 W0 cl (Sx S c vt) ps cs wr) ∧ Hid (VkP chF ks 0 j ps cs os L fin) ∧ Hid (TbR cl W0 wr vt ns) ∧ Hid (ns ++ chsT ((kcs ks).drop j) ps.length cs = T)
theorem rlazyCh_any {h : Hd} {ks : Trees} (ih : AllT VR ks) (hfn : h.fn = 45) (hlen : 2 ≤ ks.len) : LazyR h ks := by
 intro hk hc b Lx cl S ps cs W ka kl kc HL hb tv hf hr0
 have hr := hr0
 obtain ⟨hr1, hr2⟩ := hr
 have hfv : fitsV h ks.len = true ∧ allFits ks = true := by unfold treeFits at hf; simpa using hf
 have hfa := Lib.hid hfv.2
 obtain rfl : kl = ks.len := tv.len
 obtain ⟨kb, ko, h0, k0, r0, ka0, kl0, kc0, rfl, K0'⟩ := tv.kid 0 (by omega)
 have KW0 := Lib.hid K0'
 have hn0 := K0'.kid.nodes
 simp only [Nat.zero_add] at hn0
 rw [tdrop_nodes] at hn0
 have hnt0 := kid_nth K0'.kid
 clear K0'
 obtain ⟨w1, hw1⟩ : ∃ w1, w1 = W.alloc (.cells #[.int .i64 h.kind, .int .i64 h.op, .int .i64 h.num, .string ⟨h.text.toArray⟩, .int .i64 h.ref.row, .int .i64 h.ref.col, .bool h.ref.pr, .bool h.ref.pc, .int .i64 h.to.row, .int .i64 h.to.col, .bool h.to.pr, .bool h.to.pc, .int .i64 h.fn, (.slice (some ⟨kb, ko, none⟩) ks.len kc)] 34) := ⟨_, rfl⟩
 have RQ1 : Hid (Rq b Lx W.heap.size h ks (some ⟨kb, ko, none⟩) ks.len kc cl W (upc cl W.heap.size 9) S ps cs w1) := Lib.hid (by rw [hw1]; exact Rq.start HL.out hb tv)
 have hx := fb_valT h0 k0 ps.length cs
 generalize hA : valT h0 k0 ps.length cs = A at hx
 have HA := Lib.hid hA
 obtain ⟨psA, hpsA⟩ : ∃ psA, psA = ps ++ A.1 := ⟨_, rfl⟩
 have hlA : psA.length = ps.length + A.1.length := by rw [hpsA, List.length_append]
 have HPA := Lib.hid hpsA; have HLA := Lib.hid hlA
 have IH := Lib.hid ih
 have HCC := Lib.hid hc; have HFN := Lib.hid hfn
 obtain ⟨i0, hi, hz0, hz1, hz2⟩ := info_parts infoIntC
 have hps8 : ps.length ≤ 900000 := by omega
 have HV0 : lazyF h (kcs ks) = seqF (nth (kcs ks) 0).v (fun n cs => headF (fun e => chsF e ((kcs ks).drop 1)) (fun e => ⟨10, e, 0, 0, 0, chsT ((kcs ks).drop 1) (n + 1) cs⟩) n cs) := by unfold lazyF; rw [if_neg (by omega), if_neg (by omega), if_pos hfn, List.drop_one]
 have HV1 : lazyF h (kcs ks) = seqF (valT h0 k0) (fun n cs => headF (fun e => chsF e ((kcs ks).drop 1)) (fun e => ⟨10, e, 0, 0, 0, chsT ((kcs ks).drop 1) (n + 1) cs⟩) n cs) := by rw [HV0, hnt0]
 have hl1 : (psA ++ [(⟨10, 0, 0, 0, 0, []⟩ : PI)]).length = psA.length + 1 := by rw [List.length_append, List.length_singleton]
 have PT0 : Hid (VkP chF ks 0 1 (psA ++ [(⟨10, 0, 0, 0, 0, []⟩ : PI)]) A.2 [psA.length] (fun E => psA ++ [⟨10, E, 0, 0, 0, []⟩]) (fun E => ((psA ++ [⟨10, E, 0, 0, 0, []⟩]) ++ (chsF E ((kcs ks).drop 1) (psA.length + 1) A.2).1, (chsF E ((kcs ks).drop 1) (psA.length + 1) A.2).2))) :=
  Lib.hid ⟨(Pt.nil psA).opened (⟨10, 0, 0, 0, 0, []⟩ : PI), fun E => by rw [hl1]; exact ⟨rfl, rfl⟩, ⟨by rw [hl1]; omega, by omega⟩⟩
 obtain ⟨T, hT⟩ : ∃ T, T = chsT ((kcs ks).drop 1) (psA.length + 1) A.2 := ⟨_, rfl⟩
 have HT := Lib.hid hT
 have HT0 : Hid ([] ++ chsT ((kcs ks).drop 1) (psA ++ [(⟨10, 0, 0, 0, 0, []⟩ : PI)]).length A.2 = T) := Lib.hid (by rw [hl1, hT]; rfl)
 have HV : Hid (lazyF h (kcs ks) ps.length cs = (A.1 ++ (headF (fun e => chsF e ((kcs ks).drop 1)) (fun e => ⟨10, e, 0, 0, 0, T⟩) psA.length A.2).1, (headF (fun e => chsF e ((kcs ks).drop 1)) (fun e => ⟨10, e, 0, 0, 0, T⟩) psA.length A.2).2)) := Lib.hid (by
  rw [HV1, seqF, HA.out, hlA, hT, ← hlA])
 have HSN : Hid (S psA.length = none) := Lib.hid (HL.out.sn _ (by omega))
 have TV := Lib.hid tv
 have HL1 := Lib.hid hl1
 have hkm : ks.len ≤ ks.nodes := len_nodes ks
 have hl20 : (0 : Int) < (ks.len : Int) := by omega
 clear hk hc ih hfn HV0 HV1 hnt0 hA hpsA hlA hl1 hT
 go_enter Tryz.func103, Tryz.ntmps103
 go_upto_region 1 with (fail)
 rw [← hw1]
 clear hw1
 generalize W.heap.size = Bt at RQ1 ⊢
 have c13 := RQ1.out.nd.facts.c13
 try simp only [Nat.zero_add] at c13
 have KX0 := KW0.out.step RQ1.out.be
 have ND0 : Hid (NodeAt w1 kb (ko) h0 (.slice ka0 kl0 kc0)) := Lib.hid (by have := KX0.nd; rwa [show ko + 0 * 14 = ko by omega] at this)
 go_wp2_with (refine cpLoad ND0.out rfl rfl rfl ?_)
 refine ((KW0.out.kid.all IH.out).1 b Lx _ S _ _ w1 ka0 kl0 kc0 (Lib.hid RQ1.out.ly) RQ1.out.hb KX0.tv (KW0.out.kid.fits hfa.out) ⟨by omega, by omega⟩).mono ?_
 rintro e w2 ⟨rfl, cl2, s2, f2, b2⟩
 have RQ2 := Lib.hid (RQ1.out.go s2 f2 b2)
 clear RQ1 s2 f2 b2 KX0 ND0 
 rw [HA.out, ← HPA.out] at RQ2
 have C2 := Lib.hid (CoQ.of RQ2.out)
 clear c13
 have c12 := RQ2.out.nd.facts.c12
 try simp only [Nat.zero_add] at c12
 rw [HFN.out] at c12
 go_wp2_with fail
 refine (refPut_any 10 0 0 0 0 w2 (Lib.hid RQ2.out.ly) RQ2.out.hb (by have := HLA.out; omega)).mono ?_
 rintro e w3 ⟨rfl, cl3, s3, f3, b3⟩
 have RQ3 := Lib.hid (RQ2.out.go s3 f3 b3)
 have C3 := Lib.hid (C2.out.go s3 f3 b3)
 clear RQ2 s3 f3 b3 c12 C2
 obtain ⟨pl, hpl⟩ : ∃ pl, pl = psA.length := ⟨_, rfl⟩
 rw [← hpl]
 have HPL := Lib.hid hpl
 clear hpl
 obtain ⟨os0, hos0⟩ : ∃ os0 : List Nat, os0 = [] := ⟨_, rfl⟩
 rw [← hos0] at C3
 have HOS0 := Lib.hid hos0
 have hol0 : os0.length ≤ 3 := by rw [hos0]; simp
 clear hos0
 have hzw := C3.out.be.size
 go_wp2_with (at_builtin; refine wpList_append_lies _ rfl _ _ 45 rfl W.heap.size 3 i0 _ 1 8 Tryz.underlying45 hi hz0 hz1 hz2 rfl (by decide) (.slice none 0 0) os0.length (posV os0) rfl (World.ownsRow.alloc C3.out.row.own _) ⟨w3.heap.size, 0, none⟩ 1 1 [.int .i64 (pl : Nat)] rfl rfl (World.news_of_block (heap_alloc_new w3 _)) (by simp [Value.oneCell']) (by decide) (by unfold maxLen; omega) (by omega) (by simp; omega) _ rfl ?_)
 intro g4 cap4 w4 hown hgrow hat _
 obtain ⟨c4, f4, b4⟩ := C3.out.push hb hown hgrow (hat.imp_right fun q => by rw [q]; simp)
 have RQ4 := Lib.hid (RQ3.out.push c4 f4 b4)
 have C4 := Lib.hid c4
 clear hown hgrow hat C3 RQ3 hzw c4 f4 b4
 rw [HOS0.out, List.nil_append, HPL.out] at C4
 obtain ⟨vI0, vC0, ts0, s0⟩ := C4.out.ly
 have hat0 : (psA ++ [(⟨10, 0, 0, 0, 0, []⟩ : PI)])[psA.length]? = some (⟨10, 0, 0, 0, 0, []⟩ : PI) := by rw [List.getElem?_append_right (Nat.le_refl _), Nat.sub_self]; rfl
 have lyX : Ly b cl3 (Sx S psA.length (.slice none 0 0)) Lx 59 [] (psA ++ [(⟨10, 0, 0, 0, 0, []⟩ : PI)]) A.2 w4 → True := fun _ => trivial
 clear lyX
 have sX := s0.toX hat0 rfl HSN.out
 have C5 := Lib.hid (⟨⟨_, _, _, sX⟩, C4.out.fr, C4.out.be, C4.out.row⟩ : CoQ b Lx cl W _ (Sx S psA.length (.slice none 0 0)) (psA ++ [(⟨10, 0, 0, 0, 0, []⟩ : PI)]) A.2 w4 _ _)
 have R5 := Lib.hid (⟨⟨_, _, _, sX⟩, RQ4.out.hb, RQ4.out.fr, RQ4.out.be, RQ4.out.nd, RQ4.out.bc, RQ4.out.tv⟩ : Rq b Lx Bt h ks (some ⟨kb, ko, none⟩) ks.len kc cl W _ (Sx S psA.length (.slice none 0 0)) (psA ++ [(⟨10, 0, 0, 0, 0, []⟩ : PI)]) A.2 w4)
 clear s0 sX hat0 C4 RQ4
 rw [HPL.out]
 clear HPL
 go_wp2_with fail
 go_loopw [5, 9] (fun v iv wr => ChR b Lx Bt h ks (some ⟨kb, ko, none⟩) kc cl W S psA.length T (fun E => ((psA ++ [⟨10, E, 0, 0, 0, []⟩]) ++ (chsF E ((kcs ks).drop 1) (psA.length + 1) A.2).1, (chsF E ((kcs ks).drop 1) (psA.length + 1) A.2).2)) v iv wr) (fun _ iv _ => ks.len - (intOf iv).toNat)
 case atStart => exact ⟨1, _, _, [], _, _, _, _, rfl, Nat.le_refl _, by omega, by simp, by simp, Lib.hid rfl, by simp, (by rw [HOS0.out]; exact C5), R5, PT0, Lib.hid ⟨World.ownsRow_nil _ _ _ _, fun k hk => by simp [Value.ownBlock] at hk⟩, HT0⟩
 case round =>
  obtain ⟨j, cl3, os, ns, vt, psj, csj, L, rfl, hj0, hj, hol, hnb, HNL, hlo, C3, R3, P3', T3, HT3⟩ := hrel
  by_cases hlt : j < ks.len
  ·obtain ⟨kb', ko', h', k', r', ka', kl', kc', ea, K⟩ := TV.out.kid j hlt
   simp only [Option.some.injEq, Addr.mk.injEq, and_true] at ea
   obtain ⟨rfl, rfl⟩ := ea
   have rm : Room psj csj (1 + k'.nodes) := by have := P3'.out.room; rw [K.kid.nodes] at this; unfold Room at this ⊢; omega
   have KW := Lib.hid K
   clear K
   obtain ⟨vI, vC, ts, sL⟩ := C3.out.ly
   rcases sL.rI.own.2 with ⟨e9, h09⟩ | ⟨gI, kI, cur9, e9, hbg9, -⟩
   ·omega
   subst e9
   obtain ⟨p9, hp9⟩ : ∃ p, psj[psA.length]? = some p := ⟨_, List.getElem?_eq_getElem hlo⟩
   obtain ⟨t9, ht9⟩ : ∃ t, ts[psA.length]? = some t := ⟨_, List.getElem?_eq_getElem (by rw [sL.len]; exact hlo)⟩
   have et9 : t9 = vt := sL.tx _ _ _ (sx_at S psA.length vt) ht9
   have x0 : wr.cell? ⟨Lx, 0, none⟩ = some (.slice (some ⟨gI, 0, none⟩) psj.length kI) := (cells_of_block sL.box 0).trans rfl
   have xt : wr.cell? ⟨gI, psA.length * 6 + 5, none⟩ = some vt := by rw [← et9]; exact (own_cell sL.rI.own (psA.length * 6 + 5) (by rw [insC_len _ _ sL.len]; omega)).trans (insC_get psj ts psA.length 5 p9 t9 hp9 ht9 (by omega))
   have HFZ := Lib.hid (own_frz sL.rI.own (psA.length * 6 + 5))
   have cI := sL.rI.cls gI rfl
   have HLX := Lib.hid sL.bx.2.1
   have HLG := Lib.hid cI.2
   have HXG : Hid (gI ≠ Lx) := Lib.hid fun e => by have := cI.1; rw [e, sL.bx.1] at this; cases this
   have HNX : Hid (vt.ownBlock ≠ some Lx) := Lib.hid fun e => by have := (Rw.cls T3.out Lx e).1; rw [sL.bx.1] at this; cases this
   have HNG : Hid (vt.ownBlock ≠ some gI) := Lib.hid fun e => by have := (Rw.cls T3.out gI e).1; rw [cI.1] at this; cases this
   have SL := Lib.hid sL
   have hcc : ((psA.length : Nat) : Int) < ((psj.length : Nat) : Int) := Int.ofNat_lt.2 hlo
   have ROW : Hid (wr.drew.ownsRow W.heap.size 3 1 vt ns.length (ns.map fun x => Value.int .i64 x)) := Lib.hid (show wr.ownsRow W.heap.size 3 1 vt ns.length (ns.map fun x => Value.int .i64 x) from Rw.own T3.out)
   clear sL cI
   go_upto_region 41 with (fail)
   refine ch_r x0 xt HFZ hcc R3.out.be.size (by omega) ROW HLX HLG HXG HNX HNG (Lib.hid ?_)
   intros
   rename_i g5 cap5 w3 hown hgrow hat
   obtain ⟨cl5, ly5, t5, f5, h5, b5⟩ := ch_step SL.out hp9 ht9 T3.out hb R3.out.be.size hown hgrow hat
   have R5 := Lib.hid (R3.out.ch ly5 f5 h5 b5)
   have C5 := Lib.hid (C3.out.ch ly5 f5 h5 b5)
   have T5 := Lib.hid t5
   generalize World.setCell w3 _ _ = w5 at R5 C5 T5 ⊢
   clear hown hgrow hat ly5 t5 f5 h5 b5 R3 C3 T3 x0 xt HFZ HLX HLG HXG HNX HNG SL hcc ROW
   have KX := KW.out.step R5.out.be
   have ND := Lib.hid KX.nd
   go_wp2_with (refine cpLoad ND.out rfl rfl rfl ?_)
   refine ((KW.out.kid.all IH.out).1 b Lx _ _ psj csj w5 ka' kl' kc' (Lib.hid C5.out.ly) R5.out.hb KX.tv (KW.out.kid.fits hfa.out) rm).mono ?_
   rintro e w6 ⟨rfl, cl6, s6, f6, b6⟩
   have C6 := Lib.hid (C5.out.go s6 f6 b6)
   have R6 := Lib.hid (R5.out.go s6 f6 b6)
   have T6 := Lib.hid (T5.out.frm f6 p3_8 b6.size)
   clear s6 f6 b6 C5 R5 T5 KX ND rm
   by_cases hj1 : j + 1 < ks.len
   ·have P4 := Lib.hid (P3'.out.chN KW.out.kid hj1)
    have HT4 := Lib.hid (tab_next HT3.out KW.out.kid hj1)
    have rm4 := P4.out.room.1
    rw [List.length_append, List.length_singleton] at rm4
    have RM4 := Lib.hid rm4
    have hjn2 : (j : Int) < (ks.len : Int) - 1 := by omega
    clear rm4 P3' HT3
    go_wp2_with fail
    refine (refPut_any 13 0 0 0 0 w6 (Lib.hid C6.out.ly) R6.out.hb (by have := RM4.out; omega)).mono ?_
    rintro e w2 ⟨rfl, cl2, s2, f2, b2⟩
    have C2 := Lib.hid (C6.out.go s2 f2 b2)
    have R2 := Lib.hid (R6.out.go s2 f2 b2)
    have T2 := Lib.hid (T6.out.frm f2 p3_8 b2.size)
    have hzw := C2.out.be.size
    obtain ⟨pl, hpl⟩ : ∃ pl, pl = (psj ++ (valT h' k' psj.length csj).1).length := ⟨_, rfl⟩
    rw [← hpl]
    have HPL := Lib.hid hpl
    clear s2 f2 b2 C6 R6 T6 hpl
    go_wp2_with (at_builtin; refine wpList_append_lies _ rfl _ _ 45 rfl W.heap.size 3 i0 _ 1 8 Tryz.underlying45 hi hz0 hz1 hz2 rfl (by decide) u5 os.length (posV os) rfl (World.ownsRow.alloc C2.out.row.own _) ⟨w2.heap.size, 0, none⟩ 1 1 [.int .i64 (pl : Nat)] rfl rfl (World.news_of_block (heap_alloc_new w2 _)) (by simp [Value.oneCell']) (by decide) (by unfold maxLen; omega) (by omega) (by simp; omega) _ rfl ?_)
    intro g7 cap7 w7 hown hgrow hat _
    obtain ⟨c7, f7, b7⟩ := C2.out.push hb hown hgrow (hat.imp_right fun q => by rw [q]; simp)
    have R7 := Lib.hid (R2.out.push c7 f7 b7)
    have T7 := Lib.hid (T2.out.frm f7 (by omega) b7.size)
    have C7 := Lib.hid c7
    rw [HPL.out] at C7
    clear hown hgrow hat C2 R2 T2 hzw c7 f7 b7
    go_wp2_with fail
    exact ⟨⟨j + 1, _, _, _, _, _, _, _, by go_num, by omega, by omega, by simp; omega, by simp; omega, Lib.hid (by have := HNL.out; simp; omega), by simp; omega, C7, R7, P4, T7, HT4⟩, by simp [intOf]; omega⟩
   ·have P4 := Lib.hid (P3'.out.chL KW.out.kid (by omega))
    have HT4 := Lib.hid (tab_last HT3.out KW.out.kid (by omega) (psj ++ (valT h' k' psj.length csj).1).length (valT h' k' psj.length csj).2)
    clear P3' HT3
    have hj2 : ¬ (j : Int) < (ks.len : Int) - 1 := by omega
    go_wp2_with fail
    exact ⟨⟨j + 1, _, _, _, _, _, _, _, by go_num, by omega, by omega, by omega, by simp; omega, Lib.hid (by have := HNL.out; simp; omega), by simp; omega, C6, R6, P4, T6, HT4⟩, by simp [intOf]; omega⟩
  ·obtain rfl : j = ks.len := by omega
   have hns : ns = T := by
    have := HT3.out
    rw [kcs_dropped] at this
    rw [← this]
    exact (List.append_nil _).symm
   have HNS := Lib.hid hns
   have hnne : ns ≠ [] := fun e => by have := HNL.out; rw [e] at this; simp at this; omega
   obtain ⟨cl5, ly5, f5, h5⟩ := ch_give C3.out.ly T3.out hb hnne HSN.out
   have R5 := Lib.hid (R3.out.ch ly5 f5 h5 (Below.refl _ _))
   have C5 := Lib.hid (C3.out.ch ly5 f5 h5 (Below.refl _ _))
   have hD := P3'.out.done fun _ _ => rfl
   have HD := Lib.hid hD
   have PTE := Lib.hid P3'.out.pt
   have hln : psj.length ≤ 900000 := by have := P3'.out.room.1; omega
   obtain ⟨aS, kS, rfl, hS⟩ := C5.out.slice
   have HS := Lib.hid hS
   clear ly5 f5 h5 hD P3' R3 C3 T3 HT3 hns hS
   go_wp2_with fail
   refine (cpClose_any os wr (Lib.hid C5.out.ly) R5.out.hb (by rw [patT_len]; omega) (by omega) HS.out (fun i hi => by rw [patT_len]; exact PTE.out.lt i hi)).mono ?_
   rintro e w6 ⟨rfl, cl6, s6, f6, b6⟩
   have L6 := Lib.hid (R5.out.go s6 f6 b6).toLd
   clear s6 f6 b6 C5 R5
   go_wp2_with fail
   have q : Ld b cl S Lx 59 [] W (ps ++ (lazyF h (kcs ks) ps.length cs).1) (lazyF h (kcs ks) ps.length cs).2 w6 := by
    have q := L6.out
    have hlp : psj.length = psA.length + 1 + (chsF 0 ((kcs ks).drop 1) (psA.length + 1) A.2).1.length := by
     rw [← PTE.out.len 0, (HD.out 0).1]; simp only [List.length_append, List.length_singleton]
    rw [patT_len, patsT, PTE.out.eq, (HD.out _).1, (HD.out _).2, List.append_assoc, List.singleton_append, patT_mid, HNS.out] at q
    rw [HV.out]
    simp only [headF, seqF, insF, List.length_singleton]
    rw [← hlp]
    rw [HPA.out] at q ⊢
    rw [List.append_assoc] at q
    exact q
   exact bodyPost_end (results_none rfl _ _ _) rfl ⟨rfl, q⟩
end Go.Proofs.YtlmpiobdgkmmgaaGreatDoor
namespace Go.Proofs.YtlmpiobdgkmmgaaGreatDoor
open Go.RowKit
theorem rarea_any {h : Hd} {ks : Trees} (ih : AllT VR ks) : AreR h ks := by
 by_cases hc : clsOf h = 5
 ·have hk : h.kind = 9 := by
   by_cases q : h.kind = 9
   ·exact q
   ·unfold clsOf at hc
    rw [if_neg q] at hc
    cases hc
  by_cases q : h.fn = 51
  ·exact rarea_ind ih hk hc q
  ·exact rarea_off ih hk hc q
 ·exact rarea_leaf (.inr (.inr (.inr hc)))
theorem rcall3_any {h : Hd} {ks : Trees} (hL : LazyR h ks) : CallR 3 h ks := by
 intro hk hc b Lx cl S ps cs W ka kl kc HL hb tv hf hr0
 have hr := hr0
 obtain ⟨hr1, hr2⟩ := hr
 have hfv : fitsV h ks.len = true ∧ allFits ks = true := by unfold treeFits at hf; simpa using hf
 have hfa := Lib.hid hfv.2
 obtain rfl : kl = ks.len := tv.len
 obtain ⟨w1, hw1⟩ : ∃ w1, w1 = W.alloc (.cells #[.int .i64 h.kind, .int .i64 h.op, .int .i64 h.num, .string ⟨h.text.toArray⟩, .int .i64 h.ref.row, .int .i64 h.ref.col, .bool h.ref.pr, .bool h.ref.pc, .int .i64 h.to.row, .int .i64 h.to.col, .bool h.to.pr, .bool h.to.pc, .int .i64 h.fn, (.slice ka ks.len kc)] 34) := ⟨_, rfl⟩
 have RQ1 : Hid (Rq b Lx W.heap.size h ks ka ks.len kc cl W (upc cl W.heap.size 9) S ps cs w1) := Lib.hid (by rw [hw1]; exact Rq.start HL.out hb tv)
 have HV : Hid (valT h ks = lazyF h (kcs ks)) := Lib.hid (by
  rw [valT_call ks hk]; unfold callF; rw [if_neg (by omega), if_pos hc])
 have HA := Lib.hid (hL hk hc)
 have HCC := Lib.hid hc
 clear hk hc hL
 go_enter Tryz.func62, Tryz.ntmps62
 go_upto_region 1 with (fail)
 rw [← hw1]
 clear hw1
 generalize W.heap.size = Bt at RQ1 ⊢
 have c13 := RQ1.out.nd.facts.c13
 try simp only [Nat.zero_add] at c13
 go_wp2_with (refine cpLoad RQ1.out.nd rfl rfl rfl ?_)
 refine (refClass_any h (.slice ka ks.len kc) w1).mono ?_
 rintro e w2 ⟨rfl, q2⟩
 rw [HCC.out]
 have RQ2 := Lib.hid (RQ1.out.kept q2 9)
 clear RQ1 q2
 clear c13
 go_wp2_with (refine cpLoad RQ2.out.nd rfl rfl rfl ?_)
 refine (HA.out b Lx _ S ps cs w2 ka _ kc (Lib.hid RQ2.out.ly) RQ2.out.hb RQ2.out.tv hf ⟨hr1, hr2⟩).mono ?_
 rintro e w3 ⟨rfl, cl3, s3, f3, b3⟩
 have RQ3 := Lib.hid (RQ2.out.go s3 f3 b3)
 clear RQ2 s3 f3 b3  
 go_wp2_with fail
 exact bodyPost_end (results_none rfl _ _ _) rfl ⟨rfl, by rw [HV.out]; exact RQ3.out.toLd⟩
theorem rcall_any {h : Hd} {ks : Trees} (hL : LazyR h ks) (ih : AllT VR ks) (hk : h.kind = 9) : RefC 62 valT h ks := by
 intro b Lx cl S ps cs W ka kl kc HL hb tv hf hr
 have hfv : fitsV h ks.len = true := by unfold treeFits at hf; simp only [Bool.and_eq_true] at hf; exact hf.1
 have ok := call_ok hfv hk
 have h1 := ok.lo
 have h2 := ok.hi
 rcases (by omega : clsOf h = 1 ∨ clsOf h = 2 ∨ clsOf h = 3 ∨ clsOf h = 4 ∨ clsOf h = 5 ∨ clsOf h = 6) with q | q | q | q | q | q
 ·exact rcall1_any ih hk q b Lx cl S ps cs W ka kl kc HL hb tv hf hr
 ·exact rcall2_any ih hk q b Lx cl S ps cs W ka kl kc HL hb tv hf hr
 ·exact rcall3_any hL hk q b Lx cl S ps cs W ka kl kc HL hb tv hf hr
 ·exact rcall4_any ih hk q b Lx cl S ps cs W ka kl kc HL hb tv hf hr
 ·exact rcall5_any (rarea_any ih) hk q b Lx cl S ps cs W ka kl kc HL hb tv hf hr
 ·exact rcall6_any ih hk q b Lx cl S ps cs W ka kl kc HL hb tv hf hr
theorem rval9_any {h : Hd} {ks : Trees} (hC : RefC 62 valT h ks) (q : h.kind = 9) : ValR h ks := by
 intro b Lx cl S ps cs W ka kl kc HL hb tv hf hr0
 have hr := hr0
 obtain ⟨hr1, hr2⟩ := hr
 have hfv : fitsV h ks.len = true ∧ allFits ks = true := by unfold treeFits at hf; simpa using hf
 have hfa := Lib.hid hfv.2
 obtain rfl : kl = ks.len := tv.len
 obtain ⟨w1, hw1⟩ : ∃ w1, w1 = W.alloc (.cells #[.int .i64 h.kind, .int .i64 h.op, .int .i64 h.num, .string ⟨h.text.toArray⟩, .int .i64 h.ref.row, .int .i64 h.ref.col, .bool h.ref.pr, .bool h.ref.pc, .int .i64 h.to.row, .int .i64 h.to.col, .bool h.to.pr, .bool h.to.pc, .int .i64 h.fn, (.slice ka ks.len kc)] 34) := ⟨_, rfl⟩
 have RQ1 : Hid (Rq b Lx W.heap.size h ks ka ks.len kc cl W (upc cl W.heap.size 9) S ps cs w1) := Lib.hid (by rw [hw1]; exact Rq.start HL.out hb tv)
 have HA := Lib.hid hC
 have HQ := Lib.hid q
 clear q hC
 go_enter Tryz.func22, Tryz.ntmps22
 go_upto_region 1 with (fail)
 rw [← hw1]
 clear hw1
 generalize W.heap.size = Bt at RQ1 ⊢
 have c0 := RQ1.out.nd.facts.c0
 have c13 := RQ1.out.nd.facts.c13
 try simp only [Nat.zero_add] at c0 c13
 rw [HQ.out] at c0
 go_upto_region 3 with (fail)
 clear c0 c13
 go_wp2_with (refine cpLoad RQ1.out.nd rfl rfl rfl ?_)
 refine (HA.out b Lx _ S ps cs w1 ka _ kc (Lib.hid RQ1.out.ly) RQ1.out.hb RQ1.out.tv hf ⟨hr1, hr2⟩).mono ?_
 rintro e w2 ⟨rfl, cl2, s2, f2, b2⟩
 have RQ2 := Lib.hid (RQ1.out.go s2 f2 b2)
 clear RQ1 s2 f2 b2  
 go_wp2_with fail
 exact bodyPost_end (results_none rfl _ _ _) rfl ⟨rfl, RQ2.out.toLd⟩
theorem rval_any {h : Hd} {ks : Trees} (hL : LazyR h ks) (ih : AllT VR ks) : ValR h ks := by
 by_cases q9 : h.kind = 9
 ·exact rval9_any (rcall_any hL ih q9) q9
 ·intro b Lx cl S ps cs W ka kl kc HL hb tv hf hr
  have hfv : fitsV h ks.len = true := by unfold treeFits at hf; simp only [Bool.and_eq_true] at hf; exact hf.1
  have hk := (node_ok hfv).k
  rcases (by omega : h.kind = 1 ∨ h.kind = 2 ∨ h.kind = 3 ∨ h.kind = 4 ∨ h.kind = 5 ∨ h.kind = 6 ∨ h.kind = 7 ∨ h.kind = 8) with q | q | q | q | q | q | q | q
  ·exact rval1_any q b Lx cl S ps cs W ka kl kc HL hb tv hf hr
  ·exact rval2_any q b Lx cl S ps cs W ka kl kc HL hb tv hf hr
  ·exact rval3_any q b Lx cl S ps cs W ka kl kc HL hb tv hf hr
  ·exact rval4_any q b Lx cl S ps cs W ka kl kc HL hb tv hf hr
  ·exact rval5_any q b Lx cl S ps cs W ka kl kc HL hb tv hf hr
  ·exact rval6_any q b Lx cl S ps cs W ka kl kc HL hb tv hf hr
  ·exact rval7_any ih q b Lx cl S ps cs W ka kl kc HL hb tv hf hr
  ·exact rval8_any ih q b Lx cl S ps cs W ka kl kc HL hb tv hf hr
theorem rlazy_any {h : Hd} {ks : Trees} (ih : AllT VR ks) : LazyR h ks := by
 intro hk hc b Lx cl S ps cs W ka kl kc HL hb tv hf hr
 have hfv : fitsV h ks.len = true := by unfold treeFits at hf; simp only [Bool.and_eq_true] at hf; exact hf.1
 rcases (call_ok hfv hk).c3 hc with ⟨f1, f2 | f2⟩ | ⟨f1 | f1, f2⟩ | ⟨f1, f2⟩ | ⟨f1, f2⟩
 ·exact rlazyIf2_any ih f1 f2 hk hc b Lx cl S ps cs W ka kl kc HL hb tv hf hr
 ·exact rlazyIf3_any ih f1 f2 hk hc b Lx cl S ps cs W ka kl kc HL hb tv hf hr
 ·exact rlazyErr43_any ih f1 f2 hk hc b Lx cl S ps cs W ka kl kc HL hb tv hf hr
 ·exact rlazyErr44_any ih f1 f2 hk hc b Lx cl S ps cs W ka kl kc HL hb tv hf hr
 ·exact rlazyCh_any ih f1 f2 hk hc b Lx cl S ps cs W ka kl kc HL hb tv hf hr
 ·exact rlazySw_any ih f1 f2 hk hc b Lx cl S ps cs W ka kl kc HL hb tv hf hr
theorem vr_all : ∀ ts : Trees, AllT VR ts := allT fun _h _k ih => ⟨rval_any (rlazy_any ih) ih, rarea_any ih⟩
theorem rvalue_all (h : Hd) (ks : Trees) : ValR h ks := rval_any (rlazy_any (vr_all ks)) (vr_all ks)
end Go.Proofs.YtlmpiobdgkmmgaaGreatDoor
namespace Go.Proofs.YtlmpiobdgkmmgaaGreatDoor
open Go.RowKit
theorem rformula_code (h : Hd) (ks : Trees) (w : World) (B : Nat) (ka : Option Addr) (kl kc : Nat) (hB : B ≤ w.heap.size) (tv : TreeCp w B h ks ka kl kc) : Calls Tryz.prog 8 #[.agg #[.int .i64 h.kind, .int .i64 h.op, .int .i64 h.num, .string ⟨h.text.toArray⟩, .int .i64 h.ref.row, .int .i64 h.ref.col, .bool h.ref.pr, .bool h.ref.pc, .int .i64 h.to.row, .int .i64 h.to.col, .bool h.to.pr, .bool h.to.pc, .int .i64 h.fn, .slice ka kl kc]] w (FormPost h ks w) := by
 obtain ⟨w2, hw2⟩ : ∃ w2, w2 = (w.alloc (.cells #[.int .i64 h.kind, .int .i64 h.op, .int .i64 h.num, .string ⟨h.text.toArray⟩, .int .i64 h.ref.row, .int .i64 h.ref.col, .bool h.ref.pr, .bool h.ref.pc, .int .i64 h.to.row, .int .i64 h.to.col, .bool h.to.pr, .bool h.to.pc, .int .i64 h.fn, .slice ka kl kc] 34)).alloc (.cells #[.slice none 0 0, .slice none 0 0] 27) := ⟨_, rfl⟩
 have b2 : Below w.heap.size w w2 := by rw [hw2]; exact ext_alloc (ext_alloc (Below.refl _ _) _) _
 have n2 : NodeAt w2 w.heap.size 0 h (.slice ka kl kc) := by rw [hw2]; exact (node_box w h (.slice ka kl kc)).kept (Below.refl _ _ |>.alloc (by simp) _ : Below (w.heap.size + 1) _ _) (Nat.lt_succ_self _)
 have r2 : w2.heap[w.heap.size + 1]? = some (.cells #[.slice none 0 0, .slice none 0 0] 27 (0, 0)) := by rw [hw2]; have := heap_alloc_new (w.alloc (.cells #[.int .i64 h.kind, .int .i64 h.op, .int .i64 h.num, .string ⟨h.text.toArray⟩, .int .i64 h.ref.row, .int .i64 h.ref.col, .bool h.ref.pr, .bool h.ref.pc, .int .i64 h.to.row, .int .i64 h.to.col, .bool h.to.pr, .bool h.to.pc, .int .i64 h.fn, .slice ka kl kc] 34)) (.cells #[.slice none 0 0, .slice none 0 0] 27); simpa using this
 have T2 := Lib.hid (tv.kept (b2.mono hB))
 have N2 := Lib.hid n2; have R2 := Lib.hid r2; have B2 := Lib.hid b2
 have hB2 : B ≤ w2.heap.size := Nat.le_trans hB b2.size
 have hsz : w2.heap.size = w.heap.size + 2 := by rw [hw2]; simp
 have HSZ := Lib.hid hsz
 clear tv r2 b2 hsz n2
 go_enter Tryz.func8, Tryz.ntmps8
 go_upto_region 1 with (fail)
 rw [← hw2]
 clear hw2
 go_wp2_with (refine cpLoad N2.out rfl rfl rfl ?_)
 refine (refMay_any h ks w2 B ka kl kc hB2 T2.out.toTreeV).mono ?_
 rintro e w3 ⟨rfl, b3⟩
 have N3 := Lib.hid (N2.out.kept b3 (by have := HSZ.out; omega))
 have T3 := Lib.hid (T2.out.kept (b3.mono hB2))
 have R3 := Lib.hid ((b3.block (w.heap.size + 1) (by have := HSZ.out; omega)).trans R2.out)
 have B3 := Lib.hid (ext_trans B2.out b3)
 have hz3 : w.heap.size + 1 < w3.heap.size := by have := HSZ.out; have := b3.size; omega
 have HM : Hid (codeT h ks = if mayE h ks = 0 then valT h ks 0 [] else ([], [])) := Lib.hid rfl
 have hmay : mayE h ks = 0 → 1 + ks.nodes ≤ 512 ∧ treeFits h ks = true := fun q => by
  unfold mayE at q
  split at q
  ·rename_i hf
   split at q
   ·rename_i hf2
    exact ⟨hf.1, hf2⟩
   ·cases q
  ·cases q
 have HMAY := Lib.hid hmay
 clear N2 T2 R2 B2 b3 hmay HSZ hB2
 by_cases hm : mayE h ks = 0
 ·have hc := HM.out
  rw [if_pos hm] at hc
  have HC := Lib.hid hc
  obtain ⟨hnd, hfit⟩ := HMAY.out hm
  have HM0 := Lib.hid hm
  rw [hm]
  clear HM HMAY hm hc
  obtain ⟨w4, hw4⟩ : ∃ w4, w4 = w3.alloc (.cells #[.slice none 0 0, .slice none 0 0] 59) := ⟨_, rfl⟩
  have b4 : Below w3.heap.size w3 w4 := by rw [hw4]; exact ext_alloc (Below.refl _ _) _
  have l4 : w4.heap[w3.heap.size]? = some (.cells #[.slice none 0 0, .slice none 0 0] 59 (0, 0)) := by rw [hw4]; exact heap_alloc_new w3 _
  have z4 : w4.heap.size = w3.heap.size + 1 := by rw [hw4]; simp
  have N4 := Lib.hid (N3.out.kept b4 (by omega))
  have T4 := Lib.hid (T3.out.kept (b4.mono (Nat.le_trans hB (by omega))))
  have R4 := Lib.hid ((b4.block (w.heap.size + 1) hz3).trans R3.out)
  have B4 := Lib.hid (ext_trans B3.out b4)
  go_upto_region 5 with (fail)
  rw [← hw4]
  clear hw4 N3 T3 R3 B3 b4
  generalize w3.heap.size = Lx at l4 z4 hz3 ⊢
  have ly : Ly Lx (fun x => if x = Lx then 2 else 9) (fun _ => none) Lx 59 [] [] [] w4 :=
   ⟨.slice none 0 0, .slice none 0 0, [], l4, ⟨if_pos rfl, by omega, Nat.le_refl _⟩, rfl, ⟨World.ownsRow_nil _ _ _ _, fun k hk => by simp [Value.ownBlock] at hk⟩, ⟨World.ownsRow_nil _ _ _ _, fun k hk => by simp [Value.ownBlock] at hk⟩, fun i p t _ hp => by simp at hp, fun i v t h => (by cases h), fun i v h => (by cases h)⟩
  have LY := Lib.hid ly
  have hL4 : Lx ≤ w4.heap.size := by omega
  have hx4 : w.heap.size + 1 < Lx := hz3
  have T5 := Lib.hid (T4.out.mono (show B ≤ Lx by omega))
  clear l4 z4 hz3 ly T4
  go_wp2_with (refine cpLoad N4.out rfl rfl rfl ?_)
  refine (rvalue_all h ks Lx Lx _ (fun _ => none) [] [] w4 ka kl kc LY hL4 T5.out hfit ⟨by simp; omega, by simp; omega⟩).mono ?_
  rintro e w21 ⟨rfl, cl1, ⟨vI, vC, ts, s1⟩, f1, b1⟩
  simp only [List.nil_append, List.length_nil] at s1
  obtain ⟨aI, kI, rfl⟩ := s1.rI.own.slice9
  obtain ⟨aC, kC, rfl⟩ := s1.rC.own.slice9
  have x0 := cells_of_block s1.box 0
  have x1 := cells_of_block s1.box 1
  have r21 := (b1.block (w.heap.size + 1) hx4).trans R4.out
  have R21 := Lib.hid r21
  have y0 := cells_of_block r21 0
  have y1 := cells_of_block r21 1
  have fy0 := frees_of_block r21 0
  have fy1 := frees_of_block r21 1
  simp only [List.getElem?_toArray, List.getElem?_cons_zero, List.getElem?_cons_succ] at x0 x1 y0 y1
  have CD := Lib.hid s1.code
  have hz21 : w.heap.size + 1 < w21.heap.size := lt_of_block r21
  have hlx := s1.bx.2.1
  have B21 := Lib.hid (B4.out.trans (b1.mono (by omega)))
  clear R4 B4 s1 f1 b1 r21 T5 LY N4
  go_upto_region 6 with (fail)
  go_region
  go_wp2_with fail
  have B22 := B21
  obtain ⟨w22, hw22⟩ : ∃ w22, w22 = ((w21.setCell ⟨w.heap.size + 1, 0, none⟩ (.slice aI (valT h ks 0 []).1.length kI)).setCell ⟨w.heap.size + 1, 1, none⟩ (.slice aC (valT h ks 0 []).2.length kC)).drew := ⟨_, rfl⟩
  rw [← hw22]
  have r22 : w22.heap[w.heap.size + 1]? = some (.cells #[.slice aI (valT h ks 0 []).1.length kI, .slice aC (valT h ks 0 []).2.length kC] 27 (0, 0)) := by rw [hw22]; show ((w21.setCell ⟨w.heap.size + 1, 0, none⟩ (.slice aI (valT h ks 0 []).1.length kI)).setCell ⟨w.heap.size + 1, 1, none⟩ (.slice aC (valT h ks 0 []).2.length kC)).heap[w.heap.size + 1]? = _; exact setCell2 R21.out
  refine bodyPost_ret (results_code rfl _ _ _ _ _ rfl r22) rfl ⟨_, _, by rw [HM0.out]; rfl, ?_, ?_⟩
  ·rw [HC.out]
   refine (CD.out.keep (fun x hx _ => ?_) ?_).base (by omega)
   ·rw [hw22]
    show ((w21.setCell ⟨w.heap.size + 1, 0, none⟩ (.slice aI (valT h ks 0 []).1.length kI)).setCell ⟨w.heap.size + 1, 1, none⟩ (.slice aC (valT h ks 0 []).2.length kC)).heap[x]? = _
    rw [heap_setCell_other _ _ _ _ (by intro e; have : w.heap.size + 1 = x := e.symm; omega), heap_setCell_other _ _ _ _ (by intro e; have : w.heap.size + 1 = x := e.symm; omega)]
   ·rw [hw22]
    show w21.heap.size ≤ ((w21.setCell ⟨w.heap.size + 1, 0, none⟩ (.slice aI (valT h ks 0 []).1.length kI)).setCell ⟨w.heap.size + 1, 1, none⟩ (.slice aC (valT h ks 0 []).2.length kC)).heap.size
    rw [setCell_hsize, setCell_hsize]; exact Nat.le_refl _
  ·rw [hw22]
   exact ((B22.out.setCell (p := ⟨w.heap.size + 1, 0, none⟩) (by show w.heap.size ≤ w.heap.size + 1; omega) _).setCell (p := ⟨w.heap.size + 1, 1, none⟩) (by show w.heap.size ≤ w.heap.size + 1; omega) _).drew
 ·have hc := HM.out
  rw [if_neg hm] at hc
  have HC := Lib.hid hc
  have y0 := cells_of_block R3.out 0
  have y1 := cells_of_block R3.out 1
  have fy0 := frees_of_block R3.out 0
  have fy1 := frees_of_block R3.out 1
  simp only [List.getElem?_toArray, List.getElem?_cons_zero, List.getElem?_cons_succ] at y0 y1
  clear HM HMAY hc N3 T3
  obtain ⟨mm, hmm⟩ : ∃ mm, mm = mayE h ks := ⟨_, rfl⟩
  have HMM := Lib.hid hmm
  rw [← hmm] at hm ⊢
  have hmb : (mm == 0) = false := by simpa using hm
  clear hmm
  go_wp2_with fail
  obtain ⟨w22, hw22⟩ : ∃ w22, w22 = (w3.setCell ⟨w.heap.size + 1, 0, none⟩ (.slice none 0 0)).setCell ⟨w.heap.size + 1, 1, none⟩ (.slice none 0 0) := ⟨_, rfl⟩
  rw [← hw22]
  have r22 : w22.heap[w.heap.size + 1]? = some (.cells #[.slice none 0 0, .slice none 0 0] 27 (0, 0)) := by rw [hw22]; exact setCell2 R3.out
  refine bodyPost_ret (results_code rfl _ _ _ _ _ rfl r22) rfl ⟨.slice none 0 0, .slice none 0 0, by rw [← HMM.out]; rfl, ?_, ?_⟩
  ·rw [HC.out]; exact CodeV.nil _ _
  ·rw [hw22]
   exact (B3.out.setCell (p := ⟨w.heap.size + 1, 0, none⟩) (by show w.heap.size ≤ w.heap.size + 1; omega) _).setCell (p := ⟨w.heap.size + 1, 1, none⟩) (by show w.heap.size ≤ w.heap.size + 1; omega) _
end Go.Proofs.YtlmpiobdgkmmgaaGreatDoor
