/- Comp: areas, IF. -/
import Derived.Test.YtlmpiobdgkmmgaaGreatDoorKcL
set_option maxRecDepth 1000000
set_option maxHeartbeats 16000000
namespace Go.Proofs.YtlmpiobdgkmmgaaGreatDoor
open Go.RowKit
theorem infoSpot9 : (Tryz.prog.info? 121).map (·.size) = some 2 := by kernel_rfl
theorem CoR.first {b Lx Bl Mx o B1 B2 : Nat} {cl0 cl : Nat → Nat} {S : SX} {ps : List PI} {cs : List PV} {W0 W : World} (h : Rn b Lx Bl Mx cl0 W0 cl S ps cs W) (oc : Clo cl W Lx B1 B2 o) :
 CoR b Lx Bl Mx cl0 W0 (upc cl W.heap.size 7) S ps cs (W.alloc (.cells #[cloV B1 B2] 1)) (.slice (some ⟨W.heap.size, 0, none⟩) 1 1) [cloV B1 B2] [o] := by
 have k : Below W.heap.size W (W.alloc (.cells #[cloV B1 B2] 1)) := ext_alloc (Below.refl _ _) _
 refine ⟨h.kept k 7, ⟨⟨rfl, .inr ⟨_, 1, #[cloV B1 B2], rfl, h.be.size, heap_alloc_new W _, Nat.le_refl _, by decide, rfl, rfl⟩⟩, fun x hx => ?_⟩, fun i o' hi => ?_, rfl⟩
 ·simp only [Value.ownBlock, Option.some.injEq] at hx
  subst hx
  exact ⟨upc_ge (Nat.le_refl _), by simp⟩
 ·cases i with
  | zero =>
   simp only [List.getElem?_cons_zero, Option.some.injEq] at hi
   subst hi
   exact ⟨B1, B2, rfl, oc.frm (Frm.kept (P := fun _ => True) k) trivial (Nat.le_refl _)⟩
  | succ i => simp at hi
theorem area_done {x : PI} {l : List KC} {ps1 psj : List PI} {cs1 csj : List PV} {os : List Nat} {L : Int → List PI} (p : Pt os psj L) (h : ∀ E : Int, L E = (ps1 ++ [⟨7, E, 0, 0, 0, []⟩]) ++ (valsF E 1 l (ps1.length + 1) cs1).1 ∧ csj = (valsF E 1 l (ps1.length + 1) cs1).2) :
 pats os ((psj ++ [x]).length : Int) (psj ++ [x]) = ps1 ++ (seqF (headF (fun e => valsF (e + 1) 1 l) (fun e => ⟨7, e + 1, 0, 0, 0, []⟩)) (insF x) ps1.length cs1).1 ∧ csj = (seqF (headF (fun e => valsF (e + 1) 1 l) (fun e => ⟨7, e + 1, 0, 0, 0, []⟩)) (insF x) ps1.length cs1).2 := by
 have hl : psj.length = ps1.length + 1 + (valsF (0 + 1) 1 l (ps1.length + 1) cs1).1.length := by rw [← p.len (0 + 1), (h (0 + 1)).1]; simp only [List.length_append, List.length_singleton]
 rw [(p.app [x]).eq]
 have hE : (((psj ++ [x]).length : Nat) : Int) = ((ps1.length + 1 + (valsF (0 + 1) 1 l (ps1.length + 1) cs1).1.length : Nat) : Int) + 1 := by rw [List.length_append, List.length_singleton, hl]; omega
 rw [hE]
 refine ⟨?_, (h _).2⟩
 rw [(h _).1]
 simp only [seqF, headF, insF, List.length_singleton, List.append_assoc]
theorem area_leaf {h : Hd} {ks : Trees} (hne : h.kind = 4 ∨ h.kind = 5 ∨ h.kind = 6 ∨ clsOf h ≠ 5) : AreC h ks := by
 intro b Lx Bl Mx nb off cl S ps cs W ka kl kc HC ND0 hf hr
 have RN0 := Lib.hid (Rn.start HC.out)
 obtain ⟨hr1, hr2⟩ := hr
 have hfv : fitsV h ks.len = true ∧ allFits ks = true := by unfold treeFits at hf; simpa using hf
 have NOK := Lib.hid (node_ok hfv.1)
 obtain rfl : kl = ks.len := ND0.out.tv.len
 obtain ⟨w1, hw1⟩ : ∃ w1, w1 = (W.alloc (.cells #[.int .i64 h.ref.row, .int .i64 h.ref.col] 121)).drew := ⟨_, rfl⟩
 have q1 : Below W.heap.size W w1 := by rw [hw1]; exact (ext_alloc (Below.refl _ _) _).drew
 have hB1 : w1.heap[W.heap.size]? = some (.cells #[.int .i64 h.ref.row, .int .i64 h.ref.col] 121 (0, 0)) := by rw [hw1]; exact heap_alloc_new W _
 have RN1 := Lib.hid (RN0.out.kept q1 9)
 have ND1 := Lib.hid (ND0.out.step (q1.mono RN0.out.cx.hb))
 have NDW := ND0
 have c4 := ND0.out.nd.facts.c4
 have c5 := ND0.out.nd.facts.c5
 have d5 := ND0.out.nd.facts.d5
 have hnl := ND0.out.nd.facts.lt
 have b0 := cells_of_block hB1 0; have b1 := cells_of_block hB1 1
 simp only [List.getElem?_toArray, List.getElem?_cons_zero, List.getElem?_cons_succ] at b0 b1
 have HB1 := Lib.hid hB1
 clear HC ND0 RN0 q1 hB1
 clear hfv hf NDW
 by_cases q5 : h.kind = 5
 ·have HV : Hid (areaT h ks = rcF (rcOf h.ref.row h.ref.col h.ref.row h.ref.col)) := Lib.hid (by unfold areaT areaF; simp only [q5]; rfl)
  have hin : RcIn (rcOf h.ref.row h.ref.col h.ref.row h.ref.col) := by
   have r1 := NOK.out.ref (by omega)

   constructor <;> simp only [rcOf] <;> omega
  have HIN := Lib.hid hin
  clear hin hne NOK
  go_enter Tryz.func67, Tryz.ntmps67
  go_upto_region 0 with (fail)
  go_region
  go_upto_region 15 with (fail)
  rw [← hw1]
  clear hw1 c4 c5 d5 hnl
  generalize W.heap.size = B9 at b0 b1 RN1 HB1 ⊢
  have c0 := ND1.out.nd.facts.c0
  rw [q5] at c0
  clear q5
  go_wp2_with fail
  refine (areaOf_any h.ref.row h.ref.col h.ref.row h.ref.col _).mono ?_
  rintro e w2 ⟨rfl, q2⟩
  have RN2 := Lib.hid (RN1.out.kept q2 9)
  clear RN1 q2 c0
  go_wp2_with fail
  refine (rect_any _ _ _ _ w2 (Lib.hid RN2.out.cx.ly) RN2.out.cx.hb (by omega) (by omega) HIN.out).mono ?_
  rintro e w3 ⟨rfl, cl3, s3, f3, b3⟩
  have RN3 := Lib.hid (RN2.out.go s3 f3 b3)
  clear RN2 s3 f3 b3
  go_wp2_with fail
  exact bodyPost_end (results_none rfl _ _ _) rfl ⟨rfl, by rw [HV.out]; exact RN3.out.toLd⟩
 by_cases q6 : h.kind = 6
 ·have HV : Hid (areaT h ks = rcF (rcOf h.ref.row h.ref.col h.to.row h.to.col)) := Lib.hid (by unfold areaT areaF; simp only [q6]; rfl)
  have hin : RcIn (rcOf h.ref.row h.ref.col h.to.row h.to.col) := by
   have r1 := NOK.out.ref (by omega)
   have r2 := NOK.out.tr (by omega)
   constructor <;> simp only [rcOf] <;> omega
  have HIN := Lib.hid hin
  clear hin hne NOK
  go_enter Tryz.func67, Tryz.ntmps67
  go_upto_region 0 with (fail)
  go_region
  go_upto_region 15 with (fail)
  rw [← hw1]
  clear hw1 c4 c5 d5 hnl
  generalize W.heap.size = B9 at b0 b1 RN1 HB1 ⊢
  have c0 := ND1.out.nd.facts.c0
  rw [q6] at c0
  clear q6 q5
  have c8 := ND1.out.nd.facts.c8
  have c9 := ND1.out.nd.facts.d9
  have hnl := ND1.out.nd.facts.lt
  go_upto_region 18 with (fail)
  have RN1d := Lib.hid RN1.out.drew
  clear RN1
  refine wp_region_noPanic ?_
  have hB9l := lt_of_block HB1.out
  have HLB := Lib.hid ND1.out.lt
  refine wp_region_held_drew (S := fun w => w.heap[nb]? = w1.heap[nb]? ∧ w.heap[B9]? = w1.heap[B9]?) (by kernel_rfl) ⟨rfl, rfl⟩ (fun hS1 => ?_)
  refine wpV 0 ⟨some 89, .move (.tmp 0), 61, "comp.go:212", #[], none⟩ (.pointer (some ⟨Lx, 0, none⟩)) hS1 ?_
  try simp only [Act.put, List.setIfInBounds_toArray, List.set_cons_zero, List.set_cons_succ]
  refine wpT 1 ⟨some 90, .load 121 (.tmp 4), 121, "comp.go:212", #[], none⟩ (.agg #[.int .i64 h.ref.row, .int .i64 h.ref.col]) (yieldsIf_load_mid (by rfl) 121 _ rfl B9 0 rfl [.int .i64 h.ref.row, .int .i64 h.ref.col] _ (fun W hW => fun o x hx => by rw [cells_of_block (hW.2.trans HB1.out), ← hx]; simp) Tryz.underlying121 rfl infoSpot9) hS1 ?_
  try simp only [Act.put, List.setIfInBounds_toArray, List.set_cons_zero, List.set_cons_succ]
  refine wpV 2 ⟨some 91, .move (.tmp 1), 65, "comp.go:212", #[], none⟩ (.pointer (some ⟨nb, off, none⟩)) hS1 ?_
  try simp only [Act.put, List.setIfInBounds_toArray, List.set_cons_zero, List.set_cons_succ]
  refine wpV 3 ⟨some 92, .nilCheck (.tmp 91), 0, "comp.go:212", #[⟨2, .data⟩], none⟩ (.pointer (some ⟨nb, off, none⟩)) hS1 ?_
  try simp only [Act.put, List.setIfInBounds_toArray, List.set_cons_zero, List.set_cons_succ]
  refine wpV 4 ⟨some 93, .fieldAddr 34 (.tmp 92) 5, 0, "comp.go:212", #[⟨3, .data⟩], none⟩ (.pointer (some ⟨nb, off + 8, none⟩)) hS1 ?_
  try simp only [Act.put, List.setIfInBounds_toArray, List.set_cons_zero, List.set_cons_succ]
  refine wpV 5 ⟨some 94, .fieldAddr 32 (.tmp 93) 0, 0, "comp.go:212", #[⟨4, .data⟩], none⟩ (.pointer (some ⟨nb, off + 8, none⟩)) hS1 ?_
  try simp only [Act.put, List.setIfInBounds_toArray, List.set_cons_zero, List.set_cons_succ]
  refine wpT 6 ⟨some 95, .load 3 (.tmp 94), 3, "comp.go:212", #[⟨5, .data⟩], none⟩ (.int .i64 h.to.row) (Or.inl ⟨by rfl, fun W hW => (by have e := (World.cell?_of_block (a := ⟨nb, off + 8, none⟩) hW.1).trans c8; go_simp; done)⟩) hS1 ?_
  try simp only [Act.put, List.setIfInBounds_toArray, List.set_cons_zero, List.set_cons_succ]
  refine wpV 7 ⟨some 96, .move (.tmp 1), 65, "comp.go:212", #[], none⟩ (.pointer (some ⟨nb, off, none⟩)) hS1 ?_
  try simp only [Act.put, List.setIfInBounds_toArray, List.set_cons_zero, List.set_cons_succ]
  refine wpV 8 ⟨some 97, .nilCheck (.tmp 96), 0, "comp.go:212", #[⟨7, .data⟩], none⟩ (.pointer (some ⟨nb, off, none⟩)) hS1 ?_
  try simp only [Act.put, List.setIfInBounds_toArray, List.set_cons_zero, List.set_cons_succ]
  refine wpV 9 ⟨some 98, .fieldAddr 34 (.tmp 97) 5, 0, "comp.go:212", #[⟨8, .data⟩], none⟩ (.pointer (some ⟨nb, off + 8, none⟩)) hS1 ?_
  try simp only [Act.put, List.setIfInBounds_toArray, List.set_cons_zero, List.set_cons_succ]
  refine wpV 10 ⟨some 99, .fieldAddr 32 (.tmp 98) 1, 0, "comp.go:212", #[⟨9, .data⟩], none⟩ (.pointer (some ⟨nb, off + 8 + 1, none⟩)) hS1 ?_
  try simp only [Act.put, List.setIfInBounds_toArray, List.set_cons_zero, List.set_cons_succ]
  refine wpT 11 ⟨some 100, .load 3 (.tmp 99), 3, "comp.go:212", #[⟨10, .data⟩], none⟩ (.int .i64 h.to.col) (Or.inl ⟨by rfl, fun W hW => (by have e := (World.cell?_of_block (a := ⟨nb, off + 8 + 1, none⟩) hW.1).trans c9; go_simp; done)⟩) hS1 ?_
  try simp only [Act.put, List.setIfInBounds_toArray, List.set_cons_zero, List.set_cons_succ]
  refine wpV 12 ⟨some 101, .build 121 #[(0, .tmp 95), (1, .tmp 100)], 121, "comp.go:212", #[⟨6, .data⟩, ⟨11, .data⟩], none⟩ (.agg #[.int .i64 h.to.row, .int .i64 h.to.col]) hS1 ?_
  try simp only [Act.put, List.setIfInBounds_toArray, List.set_cons_zero, List.set_cons_succ]
  refine wpAnyH_ready (rs := [13]) (by kernel_rfl) (by simp) ?_
  refine AllReadyH.cons (o := ⟨some 102, .call { callee := .value (.func 106), args := #[.tmp 90, .tmp 101], argTypes := #[121, 121] }, 125, "comp.go:212", #[⟨1, .data⟩, ⟨12, .data⟩], none⟩) rfl (fun K hK => ?_) AllReadyH.nil
  refine wanted_wp10 (by rfl) ?_
  go_simp
  go_at_call 106
  refine (areaOf_any h.ref.row h.ref.col h.to.row h.to.col _).mono ?_
  rintro e w2 ⟨rfl, q2⟩
  have RN2 := Lib.hid (RN1d.out.kept q2 9)
  have h1 := q2.block nb (Nat.lt_of_lt_of_le hnl (Nat.le_refl _)); have h2 := q2.block B9 hB9l
  refine hK.out _ _ ⟨h1.trans hS1.1, h2.trans hS1.2⟩ (fun hS1 => ?_)
  have hcl := (upc_lt (cl := upc cl B9 9) (c := 9) (show B9 < w1.drew.heap.size from hB9l)).trans (upc_ge (Nat.le_refl B9))
  have hz2 := q2.size
  clear hK K RN1d q2 h1 h2
  try simp only [Act.put, List.setIfInBounds_toArray, List.set_cons_zero, List.set_cons_succ]
  refine wpAnyH_ready (rs := [14]) (by kernel_rfl) (by simp) ?_
  refine AllReadyH.cons (o := ⟨some 103, .call { callee := .value (.func 105), args := #[.tmp 89, .tmp 102], argTypes := #[61, 125] }, 0, "comp.go:212", #[⟨0, .data⟩, ⟨13, .data⟩, ⟨13, .chain⟩], none⟩) rfl (fun K hK => ?_) AllReadyH.nil
  refine wanted_wp10 (by rfl) ?_
  go_simp
  go_at_call 105
  refine (rect_any _ _ _ _ w2 (Lib.hid RN2.out.cx.ly) RN2.out.cx.hb (by omega) (by omega) HIN.out).mono ?_
  rintro e w3 ⟨rfl, cl3, s3, f3, b3⟩
  have RN3 := Lib.hid (RN2.out.go s3 f3 b3)
  refine hK.out _ _ ⟨(b3.block nb HLB.out).trans hS1.1, (f3 B9 (Nat.lt_of_lt_of_le hB9l hz2) (by rw [hcl]; exact p3_9)).2.trans hS1.2⟩ (fun hS1 => ?_)
  clear hK K RN2 s3 f3 b3
  try simp only [Act.put, List.setIfInBounds_toArray, List.set_cons_zero, List.set_cons_succ]
  refine wpAnyH_done (by kernel_rfl) ?_ _
  refine NoPanic.normal ?_
  exact bodyPost_end (results_none rfl _ _ _) rfl ⟨rfl, by rw [HV.out]; exact RN3.out.toLd⟩
 by_cases q4 : h.kind = 4
 ·have HV : Hid (areaT h ks = errF h.num) := Lib.hid (by unfold areaT areaF; simp only [q4]; rfl)
  clear hne NOK
  go_enter Tryz.func67, Tryz.ntmps67
  go_upto_region 0 with (fail)
  go_region
  go_upto_region 15 with (fail)
  rw [← hw1]
  clear hw1 c4 c5 d5 hnl
  generalize W.heap.size = B9 at b0 b1 RN1 HB1 ⊢
  have c0 := ND1.out.nd.facts.c0
  rw [q4] at c0
  clear q4 q5 q6
  have c2 := ND1.out.nd.facts.c2
  go_wp2_with fail
  refine (wrong_any h.num w1 (Lib.hid RN1.out.cx.ly) RN1.out.cx.hb (by omega) (by omega)).mono ?_
  rintro e w2 ⟨rfl, cl2, s2, f2, b2⟩
  have RN2 := Lib.hid (RN1.out.go s2 f2 b2)
  have ND2 := Lib.hid (ND1.out.step b2)
  clear RN1 s2 f2 b2 ND1 c0 c2
  go_wp2_with fail
  exact bodyPost_end (results_none rfl _ _ _) rfl ⟨rfl, by rw [HV.out]; exact RN2.out.toLd⟩
 have hc5 : clsOf h ≠ 5 := by omega
 have HV : Hid (areaT h ks = errF 4) := Lib.hid (by unfold areaT areaF; rw [if_neg q5, if_neg q6, if_neg q4, if_pos hc5])
 have q5' : (h.kind == 5) = false := by simpa using q5
 have q6' : (h.kind == 6) = false := by simpa using q6
 have q4' : (h.kind == 4) = false := by simpa using q4
 clear hne NOK
 go_enter Tryz.func67, Tryz.ntmps67
 go_upto_region 0 with (fail)
 go_region
 go_upto_region 15 with (fail)
 rw [← hw1]
 clear hw1 c4 c5 d5 hnl
 generalize W.heap.size = B9 at b0 b1 RN1 HB1 ⊢
 have c0 := ND1.out.nd.facts.c0
 go_wp2_with fail
 refine (class_any h _ w1 ND1.out.nd).mono ?_
 rintro e w2 ⟨rfl, q2⟩
 have RN2 := Lib.hid (RN1.out.kept q2 9)
 clear RN1 q2 c0
 generalize clsOf h = c7 at hc5 ⊢
 go_wp2_with fail
 refine (wrong_any 4 w2 (Lib.hid RN2.out.cx.ly) RN2.out.cx.hb (by omega) (by omega)).mono ?_
 rintro e w3 ⟨rfl, cl3, s3, f3, b3⟩
 have RN3 := Lib.hid (RN2.out.go s3 f3 b3)
 clear RN2 s3 f3 b3
 go_wp2_with fail
 exact bodyPost_end (results_none rfl _ _ _) rfl ⟨rfl, by rw [HV.out]; exact RN3.out.toLd⟩
end Go.Proofs.YtlmpiobdgkmmgaaGreatDoor
namespace Go.Proofs.YtlmpiobdgkmmgaaGreatDoor
open Go.RowKit
theorem area_ind {h : Hd} {ks : Trees} (ih : AllT VA ks) (hk : h.kind = 9) (hc : clsOf h = 5) (h51 : h.fn = 51) : AreC h ks := by
 intro b Lx Bl Mx nb off cl S ps cs W ka kl kc HC ND0 hf hr
 have RN0 := Lib.hid (Rn.start HC.out)
 obtain ⟨hr1, hr2⟩ := hr
 have hfv : fitsV h ks.len = true ∧ allFits ks = true := by unfold treeFits at hf; simpa using hf
 have OKC := Lib.hid (call_ok hfv.1 hk)
 have hfa := Lib.hid hfv.2
 have IH := Lib.hid ih
 obtain rfl : kl = ks.len := ND0.out.tv.len
 have hbW := RN0.out.cx.hb
 obtain ⟨w1, hw1⟩ : ∃ w1, w1 = (W.alloc (.cells #[.int .i64 h.ref.row, .int .i64 h.ref.col] 121)).drew := ⟨_, rfl⟩
 have q1 : Below W.heap.size W w1 := by rw [hw1]; exact (ext_alloc (Below.refl _ _) _).drew
 have RN1 := Lib.hid (RN0.out.kept q1 9)
 have ND1 := Lib.hid (ND0.out.step (q1.mono RN0.out.cx.hb))
 have NDW := ND0
 have c4 := ND0.out.nd.facts.c4
 have c5 := ND0.out.nd.facts.c5
 have d5 := ND0.out.nd.facts.d5
 have hnl := ND0.out.nd.facts.lt
 have hkm : ks.len ≤ ks.nodes := len_nodes ks
 clear HC ND0 RN0 q1 hfv hf ih
 have hl1 : ks.len = 1 := by have := OKC.out.c5 hc; omega
 have HV0 : areaT h ks = seqF (nth (kcs ks) 0).v (insF ⟨17, 0, 0, 0, 0, []⟩) := by unfold areaT areaF; rw [if_neg (by omega), if_neg (by omega), if_neg (by omega), if_neg (by omega), if_pos h51]
 obtain ⟨kb, ko, h0, k0, r0, ka0, kl0, kc0, rfl, K⟩ := NDW.out.kid 0 (by omega)
 have hnt := kid_nth K
 have hf0 := K.fits hfa.out
 have IH0 := Lib.hid (K.all IH.out)
 have rm0 : 1 + k0.nodes ≤ ks.nodes := by have := tdrop_le ks 0; rw [K.e] at this; simp only [Trees.nodes] at this; omega
 have KAW := Lib.hid K.nd
 clear K hkm
 rw [hnt] at HV0
 have HV := Lib.hid HV0
 have hx := fb_valT h0 k0 ps.length cs
 clear HV0 hnt
 go_enter Tryz.func67, Tryz.ntmps67
 go_upto_region 0 with (fail)
 go_region
 go_upto_region 15 with (fail)
 rw [← hw1]
 clear hw1 c4 c5 d5 hnl
 have c0 := ND1.out.nd.facts.c0
 rw [hk] at c0
 clear hk
 go_wp2_with fail
 refine (class_any h _ w1 ND1.out.nd).mono ?_
 rintro e w2 ⟨rfl, q2⟩
 rw [hc]
 have RN2 := Lib.hid (RN1.out.kept q2 9)
 have ND2 := Lib.hid (ND1.out.step (q2.mono RN1.out.cx.hb))
 clear RN1 ND1 q2 c0
 have c12 := ND2.out.nd.facts.c12
 have c13 := ND2.out.nd.facts.c13
 rw [h51] at c12
 clear h51
 have KA2 := Lib.hid (KAW.out.step RN2.out.be)
 have hl2 : (0 : Int) < (ks.len : Int) := by omega
 go_wp2_with fail
 refine (IH0.out.1 b Lx Bl Mx kb _ _ S ps cs _ ka0 kl0 kc0 (Lib.hid RN2.out.cx) KA2 hf0 ⟨by omega, by omega⟩).mono ?_
 rintro e w3 ⟨rfl, cl3, s3, f3, b3⟩
 have RN3 := Lib.hid (RN2.out.go s3 f3 b3)
 have ND3 := Lib.hid (ND2.out.step b3)
 have KA3 := Lib.hid (KA2.out.step b3)
 clear RN2 s3 f3 b3 ND2 KA2 c13 c12
 go_wp2_with fail
 refine (put_any 17 0 0 0 0 w3 (Lib.hid RN3.out.cx.ly) RN3.out.cx.hb (by rw [List.length_append]; omega)).mono ?_
 rintro e w4 ⟨rfl, cl4, s4, f4, b4⟩
 have RN4 := Lib.hid (RN3.out.go s4 f4 b4)
 have ND4 := Lib.hid (ND3.out.step b4)
 have KA4 := Lib.hid (KA3.out.step b4)
 clear RN3 s4 f4 b4 ND3 KA3
 go_wp2_with fail
 exact bodyPost_end (results_none rfl _ _ _) rfl ⟨rfl, by rw [HV.out]; have q := RN4.out.toLd; rw [List.append_assoc] at q; exact q⟩
theorem area_off {h : Hd} {ks : Trees} (ih : AllT VA ks) (hk : h.kind = 9) (hc : clsOf h = 5) (h51 : h.fn ≠ 51) : AreC h ks := by
 intro b Lx Bl Mx nb off cl S ps cs W ka kl kc HC ND0 hf hr
 have RN0 := Lib.hid (Rn.start HC.out)
 obtain ⟨hr1, hr2⟩ := hr
 have hfv : fitsV h ks.len = true ∧ allFits ks = true := by unfold treeFits at hf; simpa using hf
 have OKC := Lib.hid (call_ok hfv.1 hk)
 have hfa := Lib.hid hfv.2
 have IH := Lib.hid ih
 obtain rfl : kl = ks.len := ND0.out.tv.len
 have hbW := RN0.out.cx.hb
 obtain ⟨w1, hw1⟩ : ∃ w1, w1 = (W.alloc (.cells #[.int .i64 h.ref.row, .int .i64 h.ref.col] 121)).drew := ⟨_, rfl⟩
 have q1 : Below W.heap.size W w1 := by rw [hw1]; exact (ext_alloc (Below.refl _ _) _).drew
 have RN1 := Lib.hid (RN0.out.kept q1 9)
 have ND1 := Lib.hid (ND0.out.step (q1.mono RN0.out.cx.hb))
 have NDW := ND0
 have c4 := ND0.out.nd.facts.c4
 have c5 := ND0.out.nd.facts.c5
 have d5 := ND0.out.nd.facts.d5
 have hnl := ND0.out.nd.facts.lt
 have hkm : ks.len ≤ ks.nodes := len_nodes ks
 clear HC ND0 RN0 q1 hfv hf ih
 have hl3 : 2 ≤ ks.len ∧ ks.len ≤ 5 := by have := OKC.out.c5 hc; omega
 obtain ⟨i0, hi, hz0, hz1, hz2⟩ := info_parts infoFun
 obtain ⟨op, hop⟩ : ∃ op : Int, op = if h.fn = 53 then 19 else 18 := ⟨_, rfl⟩
 have HV0 : areaT h ks = seqF (nth (kcs ks) 0).a (fun n cs => seqF (headF (fun e => valsF (e + 1) 1 ((kcs ks).drop 1)) (fun e => ⟨7, e + 1, 0, 0, 0, []⟩)) (insF ⟨op, (((kcs ks).length - 1 : Nat) : Int), 0, 0, 0, []⟩) n cs) := by
  unfold areaT areaF; rw [if_neg (by omega), if_neg (by omega), if_neg (by omega), if_neg (by omega), if_neg h51, hop, List.drop_one]
 obtain ⟨kb, ko, h0, k0, r0, ka0, kl0, kc0, rfl, K⟩ := NDW.out.kid 0 (by omega)
 have hnt := kid_nth K
 have hf0 := K.fits hfa.out
 have IH0 := Lib.hid (K.all IH.out)
 have rm0 : 1 + k0.nodes ≤ ks.nodes := by have := tdrop_le ks 0; rw [K.e] at this; simp only [Trees.nodes] at this; omega
 have KAW := Lib.hid K.nd
 have hnd := K.nodes
 simp only [Nat.zero_add] at hnd
 have htn : (tdrop ks 0).nodes = ks.nodes := by rw [tdrop_nodes]
 clear K
 rw [hnt, kcs_len] at HV0
 have HV := Lib.hid HV0
 have hx := fb_areaT h0 k0 ps.length cs
 generalize hA : areaT h0 k0 ps.length cs = A at hx
 have HA := Lib.hid hA
 have h51' : (h.fn == 51) = false := by simpa using h51
 have PT0 : Hid (VkP valsF ks 0 1 (ps ++ A.1 ++ [⟨7, 0, 0, 0, 0, []⟩]) A.2 [(ps ++ A.1).length] (fun E => ps ++ A.1 ++ [⟨7, E, 0, 0, 0, []⟩]) (fun E => ((ps ++ A.1 ++ [⟨7, E, 0, 0, 0, []⟩]) ++ (valsF E 1 ((kcs ks).drop 1) ((ps ++ A.1).length + 1) A.2).1, (valsF E 1 ((kcs ks).drop 1) ((ps ++ A.1).length + 1) A.2).2))) :=
  Lib.hid ⟨(Pt.nil (ps ++ A.1)).opened ⟨7, 0, 0, 0, 0, []⟩, fun E => by
   rw [show (ps ++ A.1 ++ [(⟨7, 0, 0, 0, 0, []⟩ : PI)]).length = (ps ++ A.1).length + 1 by rw [List.length_append, List.length_singleton]]
   exact ⟨rfl, rfl⟩, ⟨by simp only [List.length_append, List.length_singleton]; omega, by omega⟩⟩
 have hlA : (ps ++ A.1).length ≤ 900000 := by rw [List.length_append]; omega
 have HLA := Lib.hid hlA
 clear HV0 hnt hA h51 hnd htn hlA
 go_enter Tryz.func67, Tryz.ntmps67
 go_upto_region 0 with (fail)
 go_region
 go_upto_region 15 with (fail)
 rw [← hw1]
 clear hw1 c4 c5 d5 hnl
 have c0 := ND1.out.nd.facts.c0
 rw [hk] at c0
 clear hk
 go_wp2_with fail
 refine (class_any h _ w1 ND1.out.nd).mono ?_
 rintro e w2 ⟨rfl, q2⟩
 rw [hc]
 have RN2 := Lib.hid (RN1.out.kept q2 9)
 have ND2 := Lib.hid (ND1.out.step (q2.mono RN1.out.cx.hb))
 clear RN1 ND1 q2 c0
 have c12 := ND2.out.nd.facts.c12
 have c13 := ND2.out.nd.facts.c13
 have KA2 := Lib.hid (KAW.out.step RN2.out.be)
 have hl2 : (0 : Int) < (ks.len : Int) := by omega
 go_wp2_with fail
 refine (IH0.out.2 b Lx Bl Mx kb _ _ S ps cs _ ka0 kl0 kc0 (Lib.hid RN2.out.cx) KA2 hf0 ⟨by omega, by omega⟩).mono ?_
 rintro e w3 ⟨rfl, cl3, s3, f3, b3⟩
 have RN3 := Lib.hid (RN2.out.go s3 f3 b3)
 have ND3 := Lib.hid (ND2.out.step b3)
 have KA3 := Lib.hid (KA2.out.step b3)
 clear RN2 s3 f3 b3 ND2 KA2 c13 c12
 clear KA3
 rw [HA.out] at RN3
 go_wp2_with fail
 refine (open_any 7 0 0 0 0 w3 (Lib.hid RN3.out.cx.ly) RN3.out.cx.hb (by have := HLA.out; omega)).mono ?_
 rintro e w4 ⟨Bl4, Ba4, cl4, rfl, s4, f4, b4, o4⟩
 have RN4 := Lib.hid (RN3.out.go s4 f4 b4)
 have ND4 := Lib.hid (ND3.out.step b4)
 have OC4 := Lib.hid o4
 simp only [cloV]
 clear RN3 s4 f4 b4 ND3 o4
 have C5 := Lib.hid (CoR.first RN4.out OC4.out)
 simp only [cloV] at C5
 have ND5 := Lib.hid (NDW.out.step C5.out.rn.be)
 have c13 := ND5.out.nd.facts.c13
 have c12 := ND5.out.nd.facts.c12
 clear RN4 OC4 ND4
 go_upto_region 3 with (fail)
 generalize World.alloc w4 _ = w5 at C5 ND5 c12 c13 ⊢
 go_upto_region 4 with (fail)
 have h2n : (ks.len : Int) - 1 ≤ 4 := by omega
 clear c12 c13 h2n
 go_wp2_with fail
 go_loopw [5, 7] (fun v iv wr => SclRel valsF b Lx Bl Mx cl W S ks 0 (fun E => ((ps ++ A.1 ++ [⟨7, E, 0, 0, 0, []⟩]) ++ (valsF E 1 ((kcs ks).drop 1) ((ps ++ A.1).length + 1) A.2).1, (valsF E 1 ((kcs ks).drop 1) ((ps ++ A.1).length + 1) A.2).2)) v iv wr) (fun _ iv _ => ks.len - (intOf iv).toNat)
 case atStart => exact ⟨1, _, _, _, _, _, _, rfl, by omega, by simp, C5, PT0⟩
 case round =>
  obtain ⟨j, cl3, vs, os, psj, csj, L, rfl, hj, hol, C3, P3'⟩ := hrel
  have N3 := Lib.hid (NDW.out.step C3.out.rn.be)
  by_cases hlt : j < ks.len
  ·obtain ⟨kb', ko', h', k', r', ka', kl', kc', ea, K⟩ := N3.out.kid j hlt
   simp only [Option.some.injEq, Addr.mk.injEq, and_true] at ea
   obtain ⟨rfl, rfl⟩ := ea
   have K3 := Lib.hid K
   have c13 := N3.out.nd.facts.c13
   have rm : Room psj csj (1 + k'.nodes) := by have := P3'.out.room; rw [K.nodes] at this; unfold Room at this ⊢; omega
   have hjn : (j : Int) ≤ (ks.len : Int) - 1 := by omega
   clear K
   go_wp2_with fail
   refine ((K3.out.all IH.out).1 b Lx Bl Mx kb _ cl3 S psj csj wr ka' kl' kc' (Lib.hid C3.out.rn.cx) (Lib.hid K3.out.nd) (K3.out.fits hfa.out) rm).mono ?_
   rintro e w4 ⟨rfl, cl4, s4, f4, b4⟩
   have C4 := Lib.hid (C3.out.go s4 f4 b4)
   clear s4 f4 b4 c13 C3 N3 rm
   by_cases hj1 : j + 1 < ks.len
   ·have P4 := Lib.hid (P3'.out.next K3.out hj1)
    have rm4 := P4.out.room.1
    rw [List.length_append, List.length_singleton] at rm4
    have RM4 := Lib.hid rm4
    have hjn2 : (j : Int) < (ks.len : Int) - 1 := by omega
    clear rm4 P3'
    go_wp2_with fail
    refine (open_any 7 0 j 0 0 w4 (Lib.hid C4.out.rn.cx.ly) C4.out.rn.cx.hb (by have := RM4.out; omega)).mono ?_
    rintro e w2 ⟨Bl2, Ba2, cl2, rfl, s2, f2, b2, o2⟩
    have C2 := Lib.hid (C4.out.go s2 f2 b2)
    have OC := Lib.hid o2
    have hvl := C2.out.len
    have hzw := C2.out.rn.be.size
    clear s2 f2 b2 o2 C4
    simp only [cloV]
    go_wp2_with (at_builtin; refine wpList_append_lies _ rfl _ _ 113 rfl W.heap.size 1 i0 _ 1 8 Tryz.underlying113 hi hz0 hz1 hz2 rfl (by decide) u5 vs.length vs rfl (World.ownsRow.alloc C2.out.row.own _) ⟨w2.heap.size, 0, none⟩ 1 1 [cloV Bl2 Ba2] rfl rfl (World.news_of_block (heap_alloc_new w2 _)) (by simp [Value.oneCell', cloV]) (by decide) (by unfold maxLen; omega) (by omega) (by simp; omega) _ rfl ?_)
    intro g cap w6 hown hgrow hat _
    have C6 := Lib.hid (C2.out.push OC.out hbW hown hgrow (hat.imp_right fun q => by rw [q]; simp))
    clear hown hgrow hat C2 OC hvl hzw
    go_wp2_with fail
    exact ⟨⟨j + 1, _, _, _, _, _, _, by go_num, by omega, by simp; omega, C6, P4⟩, by simp [intOf]; omega⟩
   ·have P4 := Lib.hid (P3'.out.last K3.out (by omega))
    clear P3'
    have hj2 : ¬ (j : Int) < (ks.len : Int) - 1 := by omega
    go_wp2_with fail
    exact ⟨⟨j + 1, _, _, _, _, _, _, by go_num, by omega, by omega, C4, P4⟩, by simp [intOf]; omega⟩
  ·obtain rfl : j = ks.len := by omega
   have c12 := N3.out.nd.facts.c12
   obtain ⟨hD1, hD2⟩ := area_done (x := ⟨op, ((ks.len - 1 : Nat) : Int), 0, 0, 0, []⟩) P3'.out.pt (P3'.out.done fun _ _ => rfl)
   have HD1 := Lib.hid hD1; have HD2 := Lib.hid hD2
   have hln : psj.length ≤ 900000 := by have := P3'.out.room.1; omega
   have HLT := Lib.hid P3'.out.pt.lt
   have hjn : ¬ (ks.len : Int) ≤ (ks.len : Int) - 1 := by omega
   have hnn : ((ks.len - 1 : Nat) : Int) = (ks.len : Int) - 1 := by omega
   have HNN := Lib.hid hnn
   clear hD1 hD2 P3' N3 hnn
   by_cases q53 : h.fn = 53
   ·have HOP : Hid (op = 19) := Lib.hid (by rw [hop, if_pos q53])
    rw [q53] at c12
    clear q53 hop h51'
    go_wp2_with fail
    rw [← HNN.out, ← HOP.out]
    refine (put_any op ((ks.len - 1 : Nat) : Int) 0 0 0 wr (Lib.hid C3.out.rn.cx.ly) C3.out.rn.cx.hb (by omega)).mono ?_
    rintro e w4 ⟨rfl, cl4, s4, f4, b4⟩
    have C5 := Lib.hid (C3.out.go s4 f4 b4)
    clear s4 f4 b4 C3 c12
    obtain ⟨aS, kS, rfl, hS⟩ := C5.out.slice
    have HS := Lib.hid hS
    clear hS
    go_wp2_with fail
    refine (cpAll_any os w4 (Lib.hid C5.out.rn.cx.ly) C5.out.rn.cx.hb (by rw [List.length_append, List.length_singleton]; omega) (by omega) HS.out (fun i hi => by have := HLT.out i hi; rw [List.length_append]; omega)).mono ?_
    rintro e w5 ⟨rfl, cl5, s5, f5, b5⟩
    rw [HD1.out] at s5
    have L5 := Lib.hid (C5.out.rn.go s5 f5 b5).toLd
    clear s5 f5 b5 C5
    rw [HD2.out] at L5
    go_wp2_with fail
    exact bodyPost_end (results_none rfl _ _ _) rfl ⟨rfl, by rw [HV.out]; have q := L5.out; rw [List.append_assoc, List.length_append, ← HA.out] at q; exact q⟩
   ·have HOP : Hid (op = 18) := Lib.hid (by rw [hop, if_neg q53])
    have q53' : (h.fn == 53) = false := by simpa using q53
    clear q53 hop h51'
    go_wp2_with fail
    rw [← HNN.out, ← HOP.out]
    refine (put_any op ((ks.len - 1 : Nat) : Int) 0 0 0 wr (Lib.hid C3.out.rn.cx.ly) C3.out.rn.cx.hb (by omega)).mono ?_
    rintro e w4 ⟨rfl, cl4, s4, f4, b4⟩
    have C5 := Lib.hid (C3.out.go s4 f4 b4)
    clear s4 f4 b4 C3 c12
    obtain ⟨aS, kS, rfl, hS⟩ := C5.out.slice
    have HS := Lib.hid hS
    clear hS
    go_wp2_with fail
    refine (cpAll_any os w4 (Lib.hid C5.out.rn.cx.ly) C5.out.rn.cx.hb (by rw [List.length_append, List.length_singleton]; omega) (by omega) HS.out (fun i hi => by have := HLT.out i hi; rw [List.length_append]; omega)).mono ?_
    rintro e w5 ⟨rfl, cl5, s5, f5, b5⟩
    rw [HD1.out] at s5
    have L5 := Lib.hid (C5.out.rn.go s5 f5 b5).toLd
    clear s5 f5 b5 C5
    rw [HD2.out] at L5
    go_wp2_with fail
    exact bodyPost_end (results_none rfl _ _ _) rfl ⟨rfl, by rw [HV.out]; have q := L5.out; rw [List.append_assoc, List.length_append, ← HA.out] at q; exact q⟩
theorem area_any {h : Hd} {ks : Trees} (ih : AllT VA ks) : AreC h ks := by
 by_cases hc : clsOf h = 5
 ·have hk : h.kind = 9 := by
   by_cases q : h.kind = 9
   ·exact q
   ·unfold clsOf at hc
    rw [if_neg q] at hc
    cases hc
  by_cases q : h.fn = 51
  ·exact area_ind ih hk hc q
  ·exact area_off ih hk hc q
 ·exact area_leaf (.inr (.inr (.inr hc)))
end Go.Proofs.YtlmpiobdgkmmgaaGreatDoor
namespace Go.Proofs.YtlmpiobdgkmmgaaGreatDoor
open Go.RowKit
theorem patA_mid (l r : List PI) (p : PI) (x : Int) : patA (l ++ p :: r) l.length x = l ++ { p with a := x } :: r := by
 have := patA_app (l ++ [p]) r l.length x (by simp)
 rw [patA_last] at this
 simpa using this
def patB : List PI → Nat → Int → List PI
 | [], _, _ => []
 | p :: r, 0, x => { p with b := x } :: r
 | p :: r, i + 1, x => p :: patB r i x
theorem patB_len : ∀ (ps : List PI) (i : Nat) (x : Int), (patB ps i x).length = ps.length
 | [], _, _ => rfl
 | _ :: _, 0, _ => rfl
 | p :: r, i + 1, x => by simp [patB, patB_len r i x]
theorem patB_set : ∀ (ps : List PI) (i : Nat) (x : Int) (p : PI), ps[i]? = some p → patB ps i x = ps.set i { p with b := x }
 | [], _, _, _, h => by simp at h
 | q :: r, 0, x, p, h => by
  simp only [List.getElem?_cons_zero, Option.some.injEq] at h
  subst h
  rfl
 | q :: r, i + 1, x, p, h => by simp only [patB, List.set_cons_succ, patB_set r i x p (by simpa using h)]
theorem patB_mid (r : List PI) (p : PI) (x : Int) : ∀ l : List PI, patB (l ++ p :: r) l.length x = l ++ { p with b := x } :: r
 | [] => rfl
 | q :: l => by simp only [List.cons_append, List.length_cons, patB, patB_mid r p x l]
theorem Ly.pat2 {b Lx i : Nat} {TL : TypeId} {ex : List Value} {cl : Nat → Nat} {S : SX} {ps : List PI} {cs : List PV} {W : World} (s : Ly b cl S Lx TL ex ps cs W) (hi : i < ps.length) (_hb : b ≤ W.heap.size) (x : Int) :
 ∃ g cap v, W.cell? ⟨Lx, 0, none⟩ = some (.slice (some ⟨g, 0, none⟩) ps.length cap) ∧ W.cell? ⟨g, i * 6 + 2, none⟩ = some v ∧ W.frozen? ⟨g, i * 6 + 2, none⟩ = false ∧ Ld b cl S Lx TL ex W (patB ps i x) cs (W.setCell ⟨g, i * 6 + 2, none⟩ (.int .i64 x)) := by
 obtain ⟨vI, vC, ts, s⟩ := s
 obtain ⟨p, hp⟩ : ∃ p, ps[i]? = some p := ⟨_, List.getElem?_eq_getElem hi⟩
 obtain ⟨t, ht⟩ : ∃ t, ts[i]? = some t := ⟨_, List.getElem?_eq_getElem (by rw [s.len]; exact hi)⟩
 rcases s.rI.own.2 with ⟨e, h0⟩ | ⟨g, cap, cur, e, hbg, -⟩
 ·exact absurd h0 (by omega)
 subst e
 obtain ⟨s2, f2⟩ := s.setI (p' := { p with b := x }) (t' := t) (j := 2) (u := .int .i64 x) hp ht (by omega) rfl (fun W' f hS => (s.tt i p t hS hp ht).frm f (by omega) (Nat.le_refl _)) (fun v hv => s.tx i v t hv ht)
 have hset : ts.set i t = ts := by
  obtain ⟨h3, h4⟩ := List.getElem?_eq_some_iff.1 ht
  rw [← h4, List.set_getElem_self]
 rw [hset] at s2
 have ly : Ly b cl S Lx TL ex (patB ps i x) cs (W.setCell ⟨g, i * 6 + 2, none⟩ (.int .i64 x)) := by
  rw [patB_set ps i x p hp]
  have hz : (W.setCell ⟨g, i * 6 + 2, none⟩ (.int .i64 x)).heap.size = W.heap.size := setCell_hsize _ _ _
  rw [← hz] at s2
  exact ⟨_, _, ts, s2⟩
 refine ⟨g, cap, .int .i64 p.b, (cells_of_block s.box 0).trans rfl, ?_, own_frz s.rI.own _, cl, ly, f2.mono fun c h => h.1, (Below.refl b W).setCell (p := ⟨g, i * 6 + 2, none⟩) hbg _⟩
 exact (own_cell s.rI.own (i * 6 + 2) (by rw [insC_len _ _ s.len]; omega)).trans (insC_get ps ts i 2 p t hp ht (by omega))
theorem Clo.drew {cl : Nat → Nat} {W : World} {Lx Bl Ba o : Nat} (h : Clo cl W Lx Bl Ba o) : Clo cl W.drew Lx Bl Ba o := ⟨h.c1, h.c2, h.k1, h.k2⟩
theorem if_done (psA X Y : List PI) (a1 b1 : Int) : patA (patB (patA (psA ++ [⟨8, 0, 0, 0, 0, []⟩] ++ X ++ [⟨13, 0, 0, 0, 0, []⟩]) psA.length a1 ++ Y) psA.length b1) (psA ++ [(⟨8, 0, 0, 0, 0, []⟩ : PI)] ++ X).length b1 = psA ++ (⟨8, a1, b1, 0, 0, []⟩ :: (X ++ ⟨13, b1, 0, 0, 0, []⟩ :: Y)) := by
 have e1 : psA ++ [(⟨8, 0, 0, 0, 0, []⟩ : PI)] ++ X ++ [⟨13, 0, 0, 0, 0, []⟩] = psA ++ ⟨8, 0, 0, 0, 0, []⟩ :: (X ++ [⟨13, 0, 0, 0, 0, []⟩]) := by simp
 rw [e1, patA_mid]
 have e2 : psA ++ { (⟨8, 0, 0, 0, 0, []⟩ : PI) with a := a1 } :: (X ++ [⟨13, 0, 0, 0, 0, []⟩]) ++ Y = psA ++ ⟨8, a1, 0, 0, 0, []⟩ :: (X ++ ⟨13, 0, 0, 0, 0, []⟩ :: Y) := by simp
 rw [e2, patB_mid]
 have e3 : psA ++ { (⟨8, a1, 0, 0, 0, []⟩ : PI) with b := b1 } :: (X ++ ⟨13, 0, 0, 0, 0, []⟩ :: Y) = (psA ++ ⟨8, a1, b1, 0, 0, []⟩ :: X) ++ ⟨13, 0, 0, 0, 0, []⟩ :: Y := by simp
 have e4 : (psA ++ [(⟨8, 0, 0, 0, 0, []⟩ : PI)] ++ X).length = (psA ++ ⟨8, a1, b1, 0, 0, []⟩ :: X).length := by simp only [List.length_append, List.length_cons, List.length_nil]; omega
 rw [e3, e4, patA_mid]
 simp
def LazyP (h : Hd) (ks : Trees) : Prop := h.kind = 9 → clsOf h = 3 → ∀ (b Lx Bl Mx nb off : Nat) (cl : Nat → Nat) (S : SX) (ps : List PI) (cs : List PV) (W : World) (ka : Option Addr) (kl kc : Nat),
 Hid (Cx b Lx Bl Mx cl S ps cs W) → Hid (Nd b W nb off h ks ka kl kc) → treeFits h ks = true → Room ps cs (1 + ks.nodes) →
 Calls Tryz.prog 66 #[.pointer (some ⟨Lx, 0, none⟩), .pointer (some ⟨nb, off, none⟩)] W (LayPost b Lx Mx cl S ps cs W (lazyF h (kcs ks)))
theorem lazyIf2_any {h : Hd} {ks : Trees} (ih : AllT VA ks) (hfn : h.fn = 42) (hlen : ks.len = 2) : LazyP h ks := by
 intro hk hc b Lx Bl Mx nb off cl S ps cs W ka kl kc HC NDW hf hr
 have RN0 := Lib.hid (Rn.start HC.out)
 obtain ⟨hr1, hr2⟩ := hr
 have hfv : fitsV h ks.len = true ∧ allFits ks = true := by unfold treeFits at hf; simpa using hf
 have OKC := (call_ok hfv.1 hk).c3 hc
 have hfa := Lib.hid hfv.2
 have IH := Lib.hid ih
 obtain rfl : kl = ks.len := NDW.out.tv.len
 have hkm : ks.len ≤ ks.nodes := len_nodes ks
 have hbW := RN0.out.cx.hb
 obtain ⟨kb, ko, h0, k0, r0, ka0, kl0, kc0, rfl, K0'⟩ := NDW.out.kid 0 (by omega)
 have K0 := Lib.hid K0'
 obtain ⟨kb1, ko1, h1, k1, r1, ka1, kl1, kc1, ea, K1'⟩ := NDW.out.kid 1 (by omega)
 simp only [Option.some.injEq, Addr.mk.injEq, and_true] at ea
 obtain ⟨rfl, rfl⟩ := ea
 have K1 := Lib.hid K1'
 have hnt0 := kid_nth K0'
 have hnt1 := kid_nth K1'
 have hn0 := K0'.nodes
 have hn1 := K1'.nodes
 simp only [Nat.zero_add, Nat.reduceAdd] at hn0 hn1
 rw [tdrop_nodes] at hn0
 have hx := fb_valT h0 k0 ps.length cs
 generalize hA : valT h0 k0 ps.length cs = A at hx
 have HA := Lib.hid hA
 clear HC hfv hf ih K0' K1' hA
 have HV0 : lazyF h (kcs ks) = seqF (nth (kcs ks) 0).v (ifF (kcs ks)) := by unfold lazyF; rw [if_pos hfn]
 have HE0 : elseF (kcs ks) = conF ⟨2, 0, []⟩ := by unfold elseF; rw [kcs_len, hlen, if_neg (by decide)]
 have HV1 : lazyF h (kcs ks) = seqF (valT h0 k0) (ifF (kcs ks)) := by rw [HV0, hnt0]
 obtain ⟨psA, hpsA⟩ : ∃ psA, psA = ps ++ A.1 := ⟨_, rfl⟩
 have hlA : psA.length = ps.length + A.1.length := by rw [hpsA, List.length_append]
 have hx1 := fb_valT h1 k1 (psA ++ [(⟨8, 0, 0, 0, 0, []⟩ : PI)]).length A.2
 generalize hX : valT h1 k1 (psA ++ [(⟨8, 0, 0, 0, 0, []⟩ : PI)]).length A.2 = X at hx1
 have HX := Lib.hid hX
 obtain ⟨a1, ha1⟩ : ∃ a1 : Nat, a1 = psA.length + 1 + X.1.length + 1 := ⟨_, rfl⟩
 have hx2 := fb_con ⟨2, 0, []⟩ a1 X.2
 generalize hY : (conF ⟨2, 0, []⟩ : CF) a1 X.2 = Y at hx2
 have HY := Lib.hid hY
 have hlX : (psA ++ [(⟨8, 0, 0, 0, 0, []⟩ : PI)] ++ X.1).length = psA.length + 1 + X.1.length := by simp only [List.length_append, List.length_singleton]
 have hl1 : (psA ++ [(⟨8, 0, 0, 0, 0, []⟩ : PI)] ++ X.1 ++ [(⟨13, 0, 0, 0, 0, []⟩ : PI)]).length = a1 := by simp only [List.length_append, List.length_singleton]; omega
 have HLB := Lib.hid hl1; have HLX := Lib.hid hlX; have HLA := Lib.hid hlA; have HA1 := Lib.hid ha1
 have HV : Hid (lazyF h (kcs ks) ps.length cs = (A.1 ++ (⟨8, (a1 : Nat), ((a1 + Y.1.length : Nat) : Int), 0, 0, []⟩ :: (X.1 ++ ⟨13, ((a1 + Y.1.length : Nat) : Int), 0, 0, 0, []⟩ :: Y.1)), Y.2)) := Lib.hid (by
  rw [HV1, seqF, HA.out]
  have e1 : psA.length + 1 = (psA ++ [(⟨8, 0, 0, 0, 0, []⟩ : PI)]).length := by rw [List.length_append, List.length_singleton]
  simp only [ifF, HE0, hnt1]
  rw [← hlA, e1, hX]
  have e2 : (psA ++ [(⟨8, 0, 0, 0, 0, []⟩ : PI)]).length + X.1.length + 1 = a1 := by rw [← e1]; omega
  rw [e2, hY])
 have HPA := Lib.hid hpsA
 have hps8 : ps.length ≤ 900000 := by omega
 clear hk hc HV0 HV1 HE0 hnt0 hnt1 hpsA hX hY hlX hl1 hlA ha1
 have c12 := NDW.out.nd.facts.c12
 have c13 := NDW.out.nd.facts.c13
 rw [hlen] at c13
 clear hlen hkm
 go_enter Tryz.func66, Tryz.ntmps66
 go_upto_region 1 with (fail)
 go_wp2_with fail
 refine ((K0.out.all IH.out).1 b Lx Bl Mx kb _ _ S _ _ _ ka0 kl0 kc0 (Lib.hid RN0.out.cx) (Lib.hid (K0.out.nd.step RN0.out.be)) (K0.out.fits hfa.out) ⟨by omega, by omega⟩).mono ?_
 rintro e w1 ⟨rfl, cl1, s1, f1, b1⟩
 have RN1 := Lib.hid (RN0.out.go s1 f1 b1)
 clear RN0 s1 f1 b1  c12 c13
 rw [HA.out, ← HPA.out] at RN1
 have NX := NDW.out.step RN1.out.be
 have c12 := NX.nd.facts.c12
 clear NX
 rw [hfn] at c12
 go_wp2_with fail
 refine (put_any 8 0 0 0 0 w1 (Lib.hid RN1.out.cx.ly) RN1.out.cx.hb (by have := HLA.out; omega)).mono ?_
 rintro e w2 ⟨rfl, cl2, s2, f2, b2⟩
 have RN2 := Lib.hid (RN1.out.go s2 f2 b2)
 clear RN1 s2 f2 b2  c12
 go_wp2_with fail
 refine ((K1.out.all IH.out).1 b Lx Bl Mx kb _ _ S _ _ _ ka1 kl1 kc1 (Lib.hid RN2.out.cx) (Lib.hid (K1.out.nd.step RN2.out.be)) (K1.out.fits hfa.out) ⟨by have := HLA.out; rw [List.length_append, List.length_singleton]; omega, by omega⟩).mono ?_
 rintro e w3 ⟨rfl, cl3, s3, f3, b3⟩
 have RN3 := Lib.hid (RN2.out.go s3 f3 b3)
 clear RN2 s3 f3 b3 
 rw [HX.out] at RN3
 go_wp2_with fail
 refine (open_any 13 0 0 0 0 w3 (Lib.hid RN3.out.cx.ly) RN3.out.cx.hb (by have := HLX.out; have := HLA.out; omega)).mono ?_
 rintro e w4 ⟨Bl4, Ba4, cl4, rfl, s4, f4, b4, o4⟩
 have RN4 := Lib.hid (RN3.out.go s4 f4 b4)
 have OC4 := Lib.hid o4
 simp only [cloV]
 clear RN3 s4 f4 b4  o4
 obtain ⟨L4, hL4⟩ : ∃ L, L = psA ++ [(⟨8, 0, 0, 0, 0, []⟩ : PI)] ++ X.1 ++ [(⟨13, 0, 0, 0, 0, []⟩ : PI)] := ⟨_, rfl⟩
 rw [← hL4] at RN4
 have HL4 := Lib.hid hL4
 have hN4 : L4.length = a1 := by rw [HL4.out]; exact HLB.out
 have HN4 := Lib.hid hN4
 clear hL4 hN4
 have RD4 := Lib.hid RN4.out.drew
 obtain ⟨g5, cap5, v5, c0, c3, f3, l3⟩ := RD4.out.cx.ly.pat (i := psA.length) (by rw [HN4.out]; have := HA1.out; omega) RD4.out.cx.hb (L4.length : Int)
 have c0' : w4.cell? ⟨Lx, 0, none⟩ = some (.slice (some ⟨g5, 0, none⟩) L4.length cap5) := c0
 have L3 := Lib.hid l3
 have hli : ((psA.length : Nat) : Int) < ((L4.length : Nat) : Int) := Int.ofNat_lt.2 (by rw [HN4.out]; have := HA1.out; omega)
 clear RN4 c0 l3
 have OCD := Lib.hid OC4.out.drew
 clear OC4
 go_upto_region 7 with (fail)
 go_still_tail 14, (by kernel_rfl)
 change wpList _ _ _ _ _ w4.drew
 generalize w4.drew = wd at RD4 c3 f3 L3 OCD ⊢
 go_upto_region 8 with (fail)
 obtain ⟨cl5, s3, f4, b3⟩ := L3.out
 generalize World.setCell wd _ _ = w5 at s3 f4 b3 ⊢
 have RN5 := Lib.hid (RD4.out.go s3 f4 b3)
 have OC5 := Lib.hid (OCD.out.frm f4 p3_6 (Nat.le_refl _))
 clear RD4 L3 s3 f4 b3 c0' c3 f3 hli OCD
 obtain ⟨L5, hL5⟩ : ∃ L, L = patA L4 psA.length (L4.length : Int) := ⟨_, rfl⟩
 rw [← hL5] at RN5
 have HL5 := Lib.hid hL5
 have hN5 : L5.length = a1 := by rw [HL5.out, patA_len]; exact HN4.out
 have HN5 := Lib.hid hN5
 clear hL5 hN5
 go_wp2_with fail
 refine (con_any 2 0 [] w5 (Lib.hid RN5.out.cx.ly) RN5.out.cx.hb (by have := HA1.out; have := HLA.out; rw [HN5.out]; omega) (by omega)).mono ?_
 rintro e w6 ⟨rfl, cl6, s6, f6, b6⟩
 have RN6 := Lib.hid (RN5.out.go s6 f6 b6)
 have OC6 := Lib.hid (OC5.out.frm f6 p3_6 (Nat.le_refl _))
 clear RN5 s6 f6 b6 OC5
 have RN6 : Hid (Rn b Lx Bl Mx cl W cl6 S (L5 ++ Y.1) Y.2 w6) := by rw [← HY.out]; exact RN6
 obtain ⟨L6, hL6⟩ : ∃ L, L = L5 ++ Y.1 := ⟨_, rfl⟩
 rw [← hL6] at RN6
 have HL6 := Lib.hid hL6
 have hN6 : L6.length = a1 + Y.1.length := by rw [HL6.out, List.length_append, HN5.out]
 have HN6 := Lib.hid hN6
 clear hL6 hN6
 go_upto_region 11 with (fail)
 have RD6 := Lib.hid RN6.out.drew
 obtain ⟨g7, cap7, v7, c0, c3, f3, l3⟩ := RD6.out.cx.ly.pat2 (i := psA.length) (by rw [HN6.out]; have := HA1.out; omega) RD6.out.cx.hb (L6.length : Int)
 have c0' : w6.cell? ⟨Lx, 0, none⟩ = some (.slice (some ⟨g7, 0, none⟩) L6.length cap7) := c0
 have L3 := Lib.hid l3
 have hli : ((psA.length : Nat) : Int) < ((L6.length : Nat) : Int) := Int.ofNat_lt.2 (by rw [HN6.out]; have := HA1.out; omega)
 clear RN6 c0 l3
 have OCD := Lib.hid OC6.out.drew
 clear OC6
 go_upto_region 11 with (fail)
 go_still_tail 14, (by kernel_rfl)
 change wpList _ _ _ _ _ w6.drew
 generalize w6.drew = wd at RD6 c3 f3 L3 OCD ⊢
 go_upto_region 12 with (fail)
 obtain ⟨cl7, s3, f4, b3⟩ := L3.out
 generalize World.setCell wd _ _ = w7 at s3 f4 b3 ⊢
 have RN7 := Lib.hid (RD6.out.go s3 f4 b3)
 have OC7 := Lib.hid (OCD.out.frm f4 p3_6 (Nat.le_refl _))
 clear RD6 L3 s3 f4 b3 c0' c3 f3 hli OCD
 obtain ⟨L7, hL7⟩ : ∃ L, L = patB L6 psA.length (L6.length : Int) := ⟨_, rfl⟩
 rw [← hL7] at RN7
 have HL7 := Lib.hid hL7
 have hN7 : L7.length = a1 + Y.1.length := by rw [HL7.out, patB_len]; exact HN6.out
 have HN7 := Lib.hid hN7
 clear hL7 hN7
 go_wp2_with fail
 refine (closeFn_any w7 (Lib.hid RN7.out.cx.ly) RN7.out.cx.hb (by have := HA1.out; have := HLA.out; rw [HN7.out]; omega) OC7.out (by have := HA1.out; rw [HN7.out, HLX.out]; omega)).mono ?_
 rintro e w8 ⟨rfl, cl8, s8, f8, b8⟩
 have RN8 := Lib.hid (RN7.out.go s8 f8 b8)
 have OC8 := Lib.hid (OC7.out.frm f8 p3_6 (Nat.le_refl _))
 clear RN7 s8 f8 b8 OC7
 go_wp2_with fail
 have q : Ld b cl S Lx 64 [.map (some Mx)] W (ps ++ (lazyF h (kcs ks) ps.length cs).1) (lazyF h (kcs ks) ps.length cs).2 w8 := by
  have q := RN8.out.toLd
  rw [HN7.out, HL7.out, HN6.out, HL6.out, HL5.out, HN4.out, HL4.out, if_done] at q
  rw [HV.out, HPA.out] at *
  rw [List.append_assoc] at q
  exact q
 exact bodyPost_end (results_none rfl _ _ _) rfl ⟨rfl, q⟩
theorem lazyIf3_any {h : Hd} {ks : Trees} (ih : AllT VA ks) (hfn : h.fn = 42) (hlen : ks.len = 3) : LazyP h ks := by
 intro hk hc b Lx Bl Mx nb off cl S ps cs W ka kl kc HC NDW hf hr
 have RN0 := Lib.hid (Rn.start HC.out)
 obtain ⟨hr1, hr2⟩ := hr
 have hfv : fitsV h ks.len = true ∧ allFits ks = true := by unfold treeFits at hf; simpa using hf
 have OKC := (call_ok hfv.1 hk).c3 hc
 have hfa := Lib.hid hfv.2
 have IH := Lib.hid ih
 obtain rfl : kl = ks.len := NDW.out.tv.len
 have hkm : ks.len ≤ ks.nodes := len_nodes ks
 have hbW := RN0.out.cx.hb
 obtain ⟨kb, ko, h0, k0, r0, ka0, kl0, kc0, rfl, K0'⟩ := NDW.out.kid 0 (by omega)
 have K0 := Lib.hid K0'
 obtain ⟨kb1, ko1, h1, k1, r1, ka1, kl1, kc1, ea, K1'⟩ := NDW.out.kid 1 (by omega)
 simp only [Option.some.injEq, Addr.mk.injEq, and_true] at ea
 obtain ⟨rfl, rfl⟩ := ea
 have K1 := Lib.hid K1'
 have hnt0 := kid_nth K0'
 have hnt1 := kid_nth K1'
 have hn0 := K0'.nodes
 have hn1 := K1'.nodes
 simp only [Nat.zero_add, Nat.reduceAdd] at hn0 hn1
 rw [tdrop_nodes] at hn0
 have hx := fb_valT h0 k0 ps.length cs
 generalize hA : valT h0 k0 ps.length cs = A at hx
 have HA := Lib.hid hA
 clear HC hfv hf ih K0' K1' hA
 obtain ⟨kb2, ko2, h2, k2, r2, ka2, kl2, kc2, ea, K2'⟩ := NDW.out.kid 2 (by omega)
 simp only [Option.some.injEq, Addr.mk.injEq, and_true] at ea
 obtain ⟨rfl, rfl⟩ := ea
 have K2 := Lib.hid K2'
 have hnt2 := kid_nth K2'
 have hn2 := K2'.nodes
 simp only [Nat.reduceAdd] at hn2
 clear K2'
 have HV0 : lazyF h (kcs ks) = seqF (nth (kcs ks) 0).v (ifF (kcs ks)) := by unfold lazyF; rw [if_pos hfn]
 have HE0 : elseF (kcs ks) = valT h2 k2 := by unfold elseF; rw [kcs_len, hlen, if_pos rfl, hnt2]
 have HV1 : lazyF h (kcs ks) = seqF (valT h0 k0) (ifF (kcs ks)) := by rw [HV0, hnt0]
 obtain ⟨psA, hpsA⟩ : ∃ psA, psA = ps ++ A.1 := ⟨_, rfl⟩
 have hlA : psA.length = ps.length + A.1.length := by rw [hpsA, List.length_append]
 have hx1 := fb_valT h1 k1 (psA ++ [(⟨8, 0, 0, 0, 0, []⟩ : PI)]).length A.2
 generalize hX : valT h1 k1 (psA ++ [(⟨8, 0, 0, 0, 0, []⟩ : PI)]).length A.2 = X at hx1
 have HX := Lib.hid hX
 obtain ⟨a1, ha1⟩ : ∃ a1 : Nat, a1 = psA.length + 1 + X.1.length + 1 := ⟨_, rfl⟩
 have hx2 := fb_valT h2 k2 a1 X.2
 generalize hY : (valT h2 k2 : CF) a1 X.2 = Y at hx2
 have HY := Lib.hid hY
 have hlX : (psA ++ [(⟨8, 0, 0, 0, 0, []⟩ : PI)] ++ X.1).length = psA.length + 1 + X.1.length := by simp only [List.length_append, List.length_singleton]
 have hl1 : (psA ++ [(⟨8, 0, 0, 0, 0, []⟩ : PI)] ++ X.1 ++ [(⟨13, 0, 0, 0, 0, []⟩ : PI)]).length = a1 := by simp only [List.length_append, List.length_singleton]; omega
 have HLB := Lib.hid hl1; have HLX := Lib.hid hlX; have HLA := Lib.hid hlA; have HA1 := Lib.hid ha1
 have HV : Hid (lazyF h (kcs ks) ps.length cs = (A.1 ++ (⟨8, (a1 : Nat), ((a1 + Y.1.length : Nat) : Int), 0, 0, []⟩ :: (X.1 ++ ⟨13, ((a1 + Y.1.length : Nat) : Int), 0, 0, 0, []⟩ :: Y.1)), Y.2)) := Lib.hid (by
  rw [HV1, seqF, HA.out]
  have e1 : psA.length + 1 = (psA ++ [(⟨8, 0, 0, 0, 0, []⟩ : PI)]).length := by rw [List.length_append, List.length_singleton]
  simp only [ifF, HE0, hnt1]
  rw [← hlA, e1, hX]
  have e2 : (psA ++ [(⟨8, 0, 0, 0, 0, []⟩ : PI)]).length + X.1.length + 1 = a1 := by rw [← e1]; omega
  rw [e2, hY])
 have HPA := Lib.hid hpsA
 have hps8 : ps.length ≤ 900000 := by omega
 clear hk hc HV0 HV1 HE0 hnt0 hnt1 hnt2 hpsA hX hY hlX hl1 hlA ha1
 have c12 := NDW.out.nd.facts.c12
 have c13 := NDW.out.nd.facts.c13
 rw [hlen] at c13
 clear hlen hkm
 go_enter Tryz.func66, Tryz.ntmps66
 go_upto_region 1 with (fail)
 go_wp2_with fail
 refine ((K0.out.all IH.out).1 b Lx Bl Mx kb _ _ S _ _ _ ka0 kl0 kc0 (Lib.hid RN0.out.cx) (Lib.hid (K0.out.nd.step RN0.out.be)) (K0.out.fits hfa.out) ⟨by omega, by omega⟩).mono ?_
 rintro e w1 ⟨rfl, cl1, s1, f1, b1⟩
 have RN1 := Lib.hid (RN0.out.go s1 f1 b1)
 clear RN0 s1 f1 b1  c12 c13
 rw [HA.out, ← HPA.out] at RN1
 have NX := NDW.out.step RN1.out.be
 have c12 := NX.nd.facts.c12
 clear NX
 rw [hfn] at c12
 go_wp2_with fail
 refine (put_any 8 0 0 0 0 w1 (Lib.hid RN1.out.cx.ly) RN1.out.cx.hb (by have := HLA.out; omega)).mono ?_
 rintro e w2 ⟨rfl, cl2, s2, f2, b2⟩
 have RN2 := Lib.hid (RN1.out.go s2 f2 b2)
 clear RN1 s2 f2 b2  c12
 go_wp2_with fail
 refine ((K1.out.all IH.out).1 b Lx Bl Mx kb _ _ S _ _ _ ka1 kl1 kc1 (Lib.hid RN2.out.cx) (Lib.hid (K1.out.nd.step RN2.out.be)) (K1.out.fits hfa.out) ⟨by have := HLA.out; rw [List.length_append, List.length_singleton]; omega, by omega⟩).mono ?_
 rintro e w3 ⟨rfl, cl3, s3, f3, b3⟩
 have RN3 := Lib.hid (RN2.out.go s3 f3 b3)
 clear RN2 s3 f3 b3 
 rw [HX.out] at RN3
 go_wp2_with fail
 refine (open_any 13 0 0 0 0 w3 (Lib.hid RN3.out.cx.ly) RN3.out.cx.hb (by have := HLX.out; have := HLA.out; omega)).mono ?_
 rintro e w4 ⟨Bl4, Ba4, cl4, rfl, s4, f4, b4, o4⟩
 have RN4 := Lib.hid (RN3.out.go s4 f4 b4)
 have OC4 := Lib.hid o4
 simp only [cloV]
 clear RN3 s4 f4 b4  o4
 obtain ⟨L4, hL4⟩ : ∃ L, L = psA ++ [(⟨8, 0, 0, 0, 0, []⟩ : PI)] ++ X.1 ++ [(⟨13, 0, 0, 0, 0, []⟩ : PI)] := ⟨_, rfl⟩
 rw [← hL4] at RN4
 have HL4 := Lib.hid hL4
 have hN4 : L4.length = a1 := by rw [HL4.out]; exact HLB.out
 have HN4 := Lib.hid hN4
 clear hL4 hN4
 have RD4 := Lib.hid RN4.out.drew
 obtain ⟨g5, cap5, v5, c0, c3, f3, l3⟩ := RD4.out.cx.ly.pat (i := psA.length) (by rw [HN4.out]; have := HA1.out; omega) RD4.out.cx.hb (L4.length : Int)
 have c0' : w4.cell? ⟨Lx, 0, none⟩ = some (.slice (some ⟨g5, 0, none⟩) L4.length cap5) := c0
 have L3 := Lib.hid l3
 have hli : ((psA.length : Nat) : Int) < ((L4.length : Nat) : Int) := Int.ofNat_lt.2 (by rw [HN4.out]; have := HA1.out; omega)
 clear RN4 c0 l3
 have OCD := Lib.hid OC4.out.drew
 clear OC4
 go_upto_region 7 with (fail)
 go_still_tail 14, (by kernel_rfl)
 change wpList _ _ _ _ _ w4.drew
 generalize w4.drew = wd at RD4 c3 f3 L3 OCD ⊢
 go_upto_region 8 with (fail)
 obtain ⟨cl5, s3, f4, b3⟩ := L3.out
 generalize World.setCell wd _ _ = w5 at s3 f4 b3 ⊢
 have RN5 := Lib.hid (RD4.out.go s3 f4 b3)
 have OC5 := Lib.hid (OCD.out.frm f4 p3_6 (Nat.le_refl _))
 clear RD4 L3 s3 f4 b3 c0' c3 f3 hli OCD
 obtain ⟨L5, hL5⟩ : ∃ L, L = patA L4 psA.length (L4.length : Int) := ⟨_, rfl⟩
 rw [← hL5] at RN5
 have HL5 := Lib.hid hL5
 have hN5 : L5.length = a1 := by rw [HL5.out, patA_len]; exact HN4.out
 have HN5 := Lib.hid hN5
 clear hL5 hN5
 go_wp2_with fail
 refine ((K2.out.all IH.out).1 b Lx Bl Mx kb _ _ S _ _ _ ka2 kl2 kc2 (Lib.hid RN5.out.cx) (Lib.hid (K2.out.nd.step RN5.out.be)) (K2.out.fits hfa.out) ⟨by have := HA1.out; have := HLA.out; rw [HN5.out]; omega, by omega⟩).mono ?_
 rintro e w6 ⟨rfl, cl6, s6, f6, b6⟩
 have RN6 := Lib.hid (RN5.out.go s6 f6 b6)
 have OC6 := Lib.hid (OC5.out.frm f6 p3_6 (Nat.le_refl _))
 clear RN5 s6 f6 b6 OC5
 rw [HN5.out, HY.out] at RN6
 obtain ⟨L6, hL6⟩ : ∃ L, L = L5 ++ Y.1 := ⟨_, rfl⟩
 rw [← hL6] at RN6
 have HL6 := Lib.hid hL6
 have hN6 : L6.length = a1 + Y.1.length := by rw [HL6.out, List.length_append, HN5.out]
 have HN6 := Lib.hid hN6
 clear hL6 hN6
 go_upto_region 11 with (fail)
 have RD6 := Lib.hid RN6.out.drew
 obtain ⟨g7, cap7, v7, c0, c3, f3, l3⟩ := RD6.out.cx.ly.pat2 (i := psA.length) (by rw [HN6.out]; have := HA1.out; omega) RD6.out.cx.hb (L6.length : Int)
 have c0' : w6.cell? ⟨Lx, 0, none⟩ = some (.slice (some ⟨g7, 0, none⟩) L6.length cap7) := c0
 have L3 := Lib.hid l3
 have hli : ((psA.length : Nat) : Int) < ((L6.length : Nat) : Int) := Int.ofNat_lt.2 (by rw [HN6.out]; have := HA1.out; omega)
 clear RN6 c0 l3
 have OCD := Lib.hid OC6.out.drew
 clear OC6
 go_upto_region 11 with (fail)
 go_still_tail 14, (by kernel_rfl)
 change wpList _ _ _ _ _ w6.drew
 generalize w6.drew = wd at RD6 c3 f3 L3 OCD ⊢
 go_upto_region 12 with (fail)
 obtain ⟨cl7, s3, f4, b3⟩ := L3.out
 generalize World.setCell wd _ _ = w7 at s3 f4 b3 ⊢
 have RN7 := Lib.hid (RD6.out.go s3 f4 b3)
 have OC7 := Lib.hid (OCD.out.frm f4 p3_6 (Nat.le_refl _))
 clear RD6 L3 s3 f4 b3 c0' c3 f3 hli OCD
 obtain ⟨L7, hL7⟩ : ∃ L, L = patB L6 psA.length (L6.length : Int) := ⟨_, rfl⟩
 rw [← hL7] at RN7
 have HL7 := Lib.hid hL7
 have hN7 : L7.length = a1 + Y.1.length := by rw [HL7.out, patB_len]; exact HN6.out
 have HN7 := Lib.hid hN7
 clear hL7 hN7
 go_wp2_with fail
 refine (closeFn_any w7 (Lib.hid RN7.out.cx.ly) RN7.out.cx.hb (by have := HA1.out; have := HLA.out; rw [HN7.out]; omega) OC7.out (by have := HA1.out; rw [HN7.out, HLX.out]; omega)).mono ?_
 rintro e w8 ⟨rfl, cl8, s8, f8, b8⟩
 have RN8 := Lib.hid (RN7.out.go s8 f8 b8)
 have OC8 := Lib.hid (OC7.out.frm f8 p3_6 (Nat.le_refl _))
 clear RN7 s8 f8 b8 OC7
 go_wp2_with fail
 have q : Ld b cl S Lx 64 [.map (some Mx)] W (ps ++ (lazyF h (kcs ks) ps.length cs).1) (lazyF h (kcs ks) ps.length cs).2 w8 := by
  have q := RN8.out.toLd
  rw [HN7.out, HL7.out, HN6.out, HL6.out, HL5.out, HN4.out, HL4.out, if_done] at q
  rw [HV.out, HPA.out] at *
  rw [List.append_assoc] at q
  exact q
 exact bodyPost_end (results_none rfl _ _ _) rfl ⟨rfl, q⟩
end Go.Proofs.YtlmpiobdgkmmgaaGreatDoor
