/- The document's compiler: calls, walking, areas. -/
import Derived.Test.YtlmpiobdgkmmgaaGreatDoorKcP
set_option maxRecDepth 1000000
set_option maxHeartbeats 16000000
namespace Go.Proofs.YtlmpiobdgkmmgaaGreatDoor
open Go.RowKit
def CallR (c : Int) (h : Hd) (ks : Trees) : Prop := h.kind = 9 → clsOf h = c → RefC 62 valT h ks
theorem rcall1_any {h : Hd} {ks : Trees} (ih : AllT VR ks) : CallR 1 h ks := by
 intro hk hc b Lx cl S ps cs W ka kl kc HL hb tv hf hr0
 have hr := hr0
 obtain ⟨hr1, hr2⟩ := hr
 have hfv : fitsV h ks.len = true ∧ allFits ks = true := by unfold treeFits at hf; simpa using hf
 have hfa := Lib.hid hfv.2
 obtain rfl : kl = ks.len := tv.len
 obtain ⟨w1, hw1⟩ : ∃ w1, w1 = W.alloc (.cells #[.int .i64 h.kind, .int .i64 h.op, .int .i64 h.num, .string ⟨h.text.toArray⟩, .int .i64 h.ref.row, .int .i64 h.ref.col, .bool h.ref.pr, .bool h.ref.pc, .int .i64 h.to.row, .int .i64 h.to.col, .bool h.to.pr, .bool h.to.pc, .int .i64 h.fn, (.slice ka ks.len kc)] 34) := ⟨_, rfl⟩
 have RQ1 : Hid (Rq b Lx W.heap.size h ks ka ks.len kc cl W (upc cl W.heap.size 9) S ps cs w1) := Lib.hid (by rw [hw1]; exact Rq.start HL.out hb tv)
 have HV : Hid (valT h ks = endF (fun e => valsF e 0 (kcs ks)) ⟨6, h.fn, (ks.len : Nat), 0, 0, []⟩) := Lib.hid (by rw [valT_call ks hk]; unfold callF; rw [if_pos (by omega), kcs_len])
 have hkm : ks.len ≤ ks.nodes := len_nodes ks
 have IH := Lib.hid ih
 have HCC := Lib.hid hc
 have HRM : Hid (Room ps cs (1 + (tdrop ks 0).nodes)) := Lib.hid (by rw [tdrop_nodes]; exact hr0)
 clear hk hc ih
 go_enter Tryz.func62, Tryz.ntmps62
 go_upto_region 1 with (fail)
 rw [← hw1]
 clear hw1
 generalize W.heap.size = Bt at RQ1 ⊢
 have c13 := RQ1.out.nd.facts.c13
 try simp only [Nat.zero_add] at c13
 go_wp2_with (refine cpLoad RQ1.out.nd rfl rfl rfl ?_)
 refine (refClass_any h (.slice ka ks.len kc) w1).mono ?_
 rintro e w2 ⟨rfl, q2⟩
 rw [HCC.out]
 have RQ2 := Lib.hid (RQ1.out.kept q2 9)
 clear RQ1 q2
 clear c13
 go_wp2_with fail
 refine (values0_any (h := h) IH.out 1 b Lx _ S ps cs w2 (Lib.hid RQ2.out.ly) RQ2.out.hb RQ2.out.tv hfa.out (Nat.zero_le _) HRM.out (by omega)).mono ?_
 rintro e w3 ⟨v, os, cl3, psj, csj, L, rfl, c3, pt, hL, hol, hrj⟩
 have RQ3 := Lib.hid (RQ2.out.go c3.ly c3.fr c3.be)
 obtain ⟨aS, kS, rfl, hS⟩ := c3.slice
 have HS3 := Lib.hid hS
 have PTE := Lib.hid pt
 have hL0 : ∀ E, L E = ps ++ (valsF E 0 (kcs ks) ps.length cs).1 ∧ csj = (valsF E 0 (kcs ks) ps.length cs).2 := fun E => by have := hL E; simpa using this
 obtain ⟨hD1, hD2⟩ := endF_done (F := fun e => valsF e 0 (kcs ks)) (x := ⟨6, h.fn, (ks.len : Nat), 0, 0, []⟩) pt hL0
 have HD1 := Lib.hid hD1; have HD2 := Lib.hid hD2
 have hjb : psj.length ≤ 900000 := by have := hrj.1; omega
 clear RQ2 c3 hS pt hL hL0 hD1 hD2 hrj
 have c12 := RQ3.out.nd.facts.c12
 try simp only [Nat.zero_add] at c12
 go_wp2_with fail
 refine (refPut_any 6 h.fn ks.len 0 0 w3 (Lib.hid RQ3.out.ly) RQ3.out.hb (by omega)).mono ?_
 rintro e w4 ⟨rfl, cl4, s4, f4, b4⟩
 have RQ4 := Lib.hid (RQ3.out.go s4 f4 b4)
 have HS4 := Lib.hid (HS3.out.frm f4 p3_7 b4.size)
 clear RQ3 HS3 s4 f4 b4 c12
 go_wp2_with fail
 refine (cpClose_any os w4 (Lib.hid RQ4.out.ly) RQ4.out.hb (by rw [List.length_append, List.length_singleton]; omega) (by omega) HS4.out (fun i hi => by have := PTE.out.lt i hi; rw [List.length_append]; omega)).mono ?_
 rintro e w5 ⟨rfl, cl5, s5, f5, b5⟩
 rw [HD1.out] at s5
 have L5 := Lib.hid (RQ4.out.go s5 f5 b5).toLd
 clear s5 f5 b5 RQ4
 rw [HD2.out] at L5
 go_wp2_with fail
 exact bodyPost_end (results_none rfl _ _ _) rfl ⟨rfl, by rw [HV.out]; exact L5.out⟩
theorem rcall2_any {h : Hd} {ks : Trees} (ih : AllT VR ks) : CallR 2 h ks := by
 intro hk hc b Lx cl S ps cs W ka kl kc HL hb tv hf hr0
 have hr := hr0
 obtain ⟨hr1, hr2⟩ := hr
 have hfv : fitsV h ks.len = true ∧ allFits ks = true := by unfold treeFits at hf; simpa using hf
 have hfa := Lib.hid hfv.2
 obtain rfl : kl = ks.len := tv.len
 obtain ⟨w1, hw1⟩ : ∃ w1, w1 = W.alloc (.cells #[.int .i64 h.kind, .int .i64 h.op, .int .i64 h.num, .string ⟨h.text.toArray⟩, .int .i64 h.ref.row, .int .i64 h.ref.col, .bool h.ref.pr, .bool h.ref.pc, .int .i64 h.to.row, .int .i64 h.to.col, .bool h.to.pr, .bool h.to.pc, .int .i64 h.fn, (.slice ka ks.len kc)] 34) := ⟨_, rfl⟩
 have RQ1 : Hid (Rq b Lx W.heap.size h ks ka ks.len kc cl W (upc cl W.heap.size 9) S ps cs w1) := Lib.hid (by rw [hw1]; exact Rq.start HL.out hb tv)
 have HV : Hid (valT h ks = endF (fun e => valsF e 0 (kcs ks)) ⟨6, h.fn, (ks.len : Nat), 0, 0, []⟩) := Lib.hid (by rw [valT_call ks hk]; unfold callF; rw [if_pos (by omega), kcs_len])
 have hkm : ks.len ≤ ks.nodes := len_nodes ks
 have IH := Lib.hid ih
 have HCC := Lib.hid hc
 have HRM : Hid (Room ps cs (1 + (tdrop ks 0).nodes)) := Lib.hid (by rw [tdrop_nodes]; exact hr0)
 clear hk hc ih
 go_enter Tryz.func62, Tryz.ntmps62
 go_upto_region 1 with (fail)
 rw [← hw1]
 clear hw1
 generalize W.heap.size = Bt at RQ1 ⊢
 have c13 := RQ1.out.nd.facts.c13
 try simp only [Nat.zero_add] at c13
 go_wp2_with (refine cpLoad RQ1.out.nd rfl rfl rfl ?_)
 refine (refClass_any h (.slice ka ks.len kc) w1).mono ?_
 rintro e w2 ⟨rfl, q2⟩
 rw [HCC.out]
 have RQ2 := Lib.hid (RQ1.out.kept q2 9)
 clear RQ1 q2
 clear c13
 go_wp2_with fail
 refine (values0_any (h := h) IH.out 1 b Lx _ S ps cs w2 (Lib.hid RQ2.out.ly) RQ2.out.hb RQ2.out.tv hfa.out (Nat.zero_le _) HRM.out (by omega)).mono ?_
 rintro e w3 ⟨v, os, cl3, psj, csj, L, rfl, c3, pt, hL, hol, hrj⟩
 have RQ3 := Lib.hid (RQ2.out.go c3.ly c3.fr c3.be)
 obtain ⟨aS, kS, rfl, hS⟩ := c3.slice
 have HS3 := Lib.hid hS
 have PTE := Lib.hid pt
 have hL0 : ∀ E, L E = ps ++ (valsF E 0 (kcs ks) ps.length cs).1 ∧ csj = (valsF E 0 (kcs ks) ps.length cs).2 := fun E => by have := hL E; simpa using this
 obtain ⟨hD1, hD2⟩ := endF_done (F := fun e => valsF e 0 (kcs ks)) (x := ⟨6, h.fn, (ks.len : Nat), 0, 0, []⟩) pt hL0
 have HD1 := Lib.hid hD1; have HD2 := Lib.hid hD2
 have hjb : psj.length ≤ 900000 := by have := hrj.1; omega
 clear RQ2 c3 hS pt hL hL0 hD1 hD2 hrj
 have c12 := RQ3.out.nd.facts.c12
 try simp only [Nat.zero_add] at c12
 go_wp2_with fail
 refine (refPut_any 6 h.fn ks.len 0 0 w3 (Lib.hid RQ3.out.ly) RQ3.out.hb (by omega)).mono ?_
 rintro e w4 ⟨rfl, cl4, s4, f4, b4⟩
 have RQ4 := Lib.hid (RQ3.out.go s4 f4 b4)
 have HS4 := Lib.hid (HS3.out.frm f4 p3_7 b4.size)
 clear RQ3 HS3 s4 f4 b4 c12
 go_wp2_with fail
 refine (cpClose_any os w4 (Lib.hid RQ4.out.ly) RQ4.out.hb (by rw [List.length_append, List.length_singleton]; omega) (by omega) HS4.out (fun i hi => by have := PTE.out.lt i hi; rw [List.length_append]; omega)).mono ?_
 rintro e w5 ⟨rfl, cl5, s5, f5, b5⟩
 rw [HD1.out] at s5
 have L5 := Lib.hid (RQ4.out.go s5 f5 b5).toLd
 clear s5 f5 b5 RQ4
 rw [HD2.out] at L5
 go_wp2_with fail
 exact bodyPost_end (results_none rfl _ _ _) rfl ⟨rfl, by rw [HV.out]; exact L5.out⟩
theorem rcall4_any {h : Hd} {ks : Trees} (ih : AllT VR ks) : CallR 4 h ks := by
 intro hk hc b Lx cl S ps cs W ka kl kc HL hb tv hf hr0
 have hV : valT h ks = if ks.len = 0 then insF ⟨14, h.fn, 0, 0, 0, []⟩ else seqF (nth (kcs ks) 0).a (insF ⟨15, h.fn, 0, 0, 0, []⟩) := by
  rw [valT_call ks hk]; unfold callF; rw [if_neg (by omega), if_neg (by omega), if_pos hc, kcs_len]
 have IH := Lib.hid ih
 have HCC := Lib.hid hc
 clear hk hc ih
 by_cases hl0 : ks.len = 0
 ·have hr := hr0
  obtain ⟨hr1, hr2⟩ := hr
  have hfv : fitsV h ks.len = true ∧ allFits ks = true := by unfold treeFits at hf; simpa using hf
  have hfa := Lib.hid hfv.2
  obtain rfl : kl = ks.len := tv.len
  obtain ⟨w1, hw1⟩ : ∃ w1, w1 = W.alloc (.cells #[.int .i64 h.kind, .int .i64 h.op, .int .i64 h.num, .string ⟨h.text.toArray⟩, .int .i64 h.ref.row, .int .i64 h.ref.col, .bool h.ref.pr, .bool h.ref.pc, .int .i64 h.to.row, .int .i64 h.to.col, .bool h.to.pr, .bool h.to.pc, .int .i64 h.fn, (.slice ka ks.len kc)] 34) := ⟨_, rfl⟩
  have RQ1 : Hid (Rq b Lx W.heap.size h ks ka ks.len kc cl W (upc cl W.heap.size 9) S ps cs w1) := Lib.hid (by rw [hw1]; exact Rq.start HL.out hb tv)
  have HV : Hid (valT h ks = insF ⟨14, h.fn, 0, 0, 0, []⟩) := Lib.hid (by rw [hV, if_pos hl0])
  have hl00 : (ks.len : Int) = 0 := by omega
  have HL0 := Lib.hid hl0
  have HL00 := Lib.hid hl00
  clear hV hl0 hl00
  go_enter Tryz.func62, Tryz.ntmps62
  go_upto_region 1 with (fail)
  rw [← hw1]
  clear hw1
  generalize W.heap.size = Bt at RQ1 ⊢
  have c13 := RQ1.out.nd.facts.c13
  have c12 := RQ1.out.nd.facts.c12
  try simp only [Nat.zero_add] at c13 c12
  go_wp2_with (refine cpLoad RQ1.out.nd rfl rfl rfl ?_)
  refine (refClass_any h (.slice ka ks.len kc) w1).mono ?_
  rintro e w2 ⟨rfl, q2⟩
  rw [HCC.out]
  have RQ2 := Lib.hid (RQ1.out.kept q2 9)
  clear RQ1 q2
  clear c12 c13
  have hl00 := HL00.out
  have c12 := RQ2.out.nd.facts.c12
  have c13 := RQ2.out.nd.facts.c13
  try simp only [Nat.zero_add] at c12 c13
  go_wp2_with fail
  refine (refPut_any 14 h.fn 0 0 0 w2 (Lib.hid RQ2.out.ly) RQ2.out.hb (by omega)).mono ?_
  rintro e w3 ⟨rfl, cl3, s3, f3, b3⟩
  have RQ3 := Lib.hid (RQ2.out.go s3 f3 b3)
  clear RQ2 s3 f3 b3 c12 c13 
  go_wp2_with fail
  exact bodyPost_ret (results_none rfl _ _ _) rfl ⟨rfl, by rw [HV.out]; exact RQ3.out.toLd⟩
 ·have hr := hr0
  obtain ⟨hr1, hr2⟩ := hr
  have hfv : fitsV h ks.len = true ∧ allFits ks = true := by unfold treeFits at hf; simpa using hf
  have hfa := Lib.hid hfv.2
  obtain rfl : kl = ks.len := tv.len
  obtain ⟨kb, ko, h0, k0, r0, ka0, kl0, kc0, rfl, K0'⟩ := tv.kid 0 (by omega)
  have KW0 := Lib.hid K0'
  have hn0 := K0'.kid.nodes
  simp only [Nat.zero_add] at hn0
  rw [tdrop_nodes] at hn0
  have hnt0 := kid_nth K0'.kid
  clear K0'
  obtain ⟨w1, hw1⟩ : ∃ w1, w1 = W.alloc (.cells #[.int .i64 h.kind, .int .i64 h.op, .int .i64 h.num, .string ⟨h.text.toArray⟩, .int .i64 h.ref.row, .int .i64 h.ref.col, .bool h.ref.pr, .bool h.ref.pc, .int .i64 h.to.row, .int .i64 h.to.col, .bool h.to.pr, .bool h.to.pc, .int .i64 h.fn, (.slice (some ⟨kb, ko, none⟩) ks.len kc)] 34) := ⟨_, rfl⟩
  have RQ1 : Hid (Rq b Lx W.heap.size h ks (some ⟨kb, ko, none⟩) ks.len kc cl W (upc cl W.heap.size 9) S ps cs w1) := Lib.hid (by rw [hw1]; exact Rq.start HL.out hb tv)
  have hV2 : valT h ks = seqF (nth (kcs ks) 0).a (insF ⟨15, h.fn, 0, 0, 0, []⟩) := by rw [hV, if_neg hl0]
  rw [hnt0] at hV2
  have HV := Lib.hid hV2
  have hl00 : ¬ (ks.len : Int) = 0 := by omega
  have hl2 : (0 : Int) < (ks.len : Int) := by omega
  have hx := fb_areaT h0 k0 ps.length cs
  clear hV hV2 hnt0
  go_enter Tryz.func62, Tryz.ntmps62
  go_upto_region 1 with (fail)
  rw [← hw1]
  clear hw1
  generalize W.heap.size = Bt at RQ1 ⊢
  have c13 := RQ1.out.nd.facts.c13
  try simp only [Nat.zero_add] at c13
  go_wp2_with (refine cpLoad RQ1.out.nd rfl rfl rfl ?_)
  refine (refClass_any h (.slice (some ⟨kb, ko, none⟩) ks.len kc) w1).mono ?_
  rintro e w2 ⟨rfl, q2⟩
  rw [HCC.out]
  have RQ2 := Lib.hid (RQ1.out.kept q2 9)
  clear RQ1 q2
  clear c13
  have KX0 := KW0.out.step RQ2.out.be
  have ND0 : Hid (NodeAt w2 kb (ko) h0 (.slice ka0 kl0 kc0)) := Lib.hid (by have := KX0.nd; rwa [show ko + 0 * 14 = ko by omega] at this)
  go_wp2_with (refine cpLoad ND0.out rfl rfl rfl ?_)
  refine ((KW0.out.kid.all IH.out).2 b Lx _ S _ _ w2 ka0 kl0 kc0 (Lib.hid RQ2.out.ly) RQ2.out.hb KX0.tv (KW0.out.kid.fits hfa.out) ⟨by omega, by omega⟩).mono ?_
  rintro e w3 ⟨rfl, cl3, s3, f3, b3⟩
  have RQ3 := Lib.hid (RQ2.out.go s3 f3 b3)
  clear RQ2 s3 f3 b3 KX0 ND0 
  have c12 := RQ3.out.nd.facts.c12
  try simp only [Nat.zero_add] at c12
  go_wp2_with fail
  refine (refPut_any 15 h.fn 0 0 0 w3 (Lib.hid RQ3.out.ly) RQ3.out.hb (by rw [List.length_append]; omega)).mono ?_
  rintro e w4 ⟨rfl, cl4, s4, f4, b4⟩
  have RQ4 := Lib.hid (RQ3.out.go s4 f4 b4)
  clear RQ3 s4 f4 b4 c12 
  go_wp2_with fail
  exact bodyPost_end (results_none rfl _ _ _) rfl ⟨rfl, by rw [HV.out]; have q := RQ4.out.toLd; rw [List.append_assoc] at q; exact q⟩
theorem rcall5_any {h : Hd} {ks : Trees} (hA : AreR h ks) : CallR 5 h ks := by
 intro hk hc b Lx cl S ps cs W ka kl kc HL hb tv hf hr0
 have hr := hr0
 obtain ⟨hr1, hr2⟩ := hr
 have hfv : fitsV h ks.len = true ∧ allFits ks = true := by unfold treeFits at hf; simpa using hf
 have hfa := Lib.hid hfv.2
 obtain rfl : kl = ks.len := tv.len
 obtain ⟨w1, hw1⟩ : ∃ w1, w1 = W.alloc (.cells #[.int .i64 h.kind, .int .i64 h.op, .int .i64 h.num, .string ⟨h.text.toArray⟩, .int .i64 h.ref.row, .int .i64 h.ref.col, .bool h.ref.pr, .bool h.ref.pc, .int .i64 h.to.row, .int .i64 h.to.col, .bool h.to.pr, .bool h.to.pc, .int .i64 h.fn, (.slice ka ks.len kc)] 34) := ⟨_, rfl⟩
 have RQ1 : Hid (Rq b Lx W.heap.size h ks ka ks.len kc cl W (upc cl W.heap.size 9) S ps cs w1) := Lib.hid (by rw [hw1]; exact Rq.start HL.out hb tv)
 have HV : Hid (valT h ks = seqF (areaT h ks) (insF ⟨16, 0, 0, 0, 0, []⟩)) := Lib.hid (by
  rw [valT_call ks hk]; unfold callF; rw [if_neg (by omega), if_neg (by omega), if_neg (by omega), if_pos hc]; rfl)
 have hx := fb_areaT h ks ps.length cs
 have HA := Lib.hid hA
 have HCC := Lib.hid hc
 clear hk hc hA
 go_enter Tryz.func62, Tryz.ntmps62
 go_upto_region 1 with (fail)
 rw [← hw1]
 clear hw1
 generalize W.heap.size = Bt at RQ1 ⊢
 have c13 := RQ1.out.nd.facts.c13
 try simp only [Nat.zero_add] at c13
 go_wp2_with (refine cpLoad RQ1.out.nd rfl rfl rfl ?_)
 refine (refClass_any h (.slice ka ks.len kc) w1).mono ?_
 rintro e w2 ⟨rfl, q2⟩
 rw [HCC.out]
 have RQ2 := Lib.hid (RQ1.out.kept q2 9)
 clear RQ1 q2
 clear c13
 go_wp2_with (refine cpLoad RQ2.out.nd rfl rfl rfl ?_)
 refine (HA.out b Lx _ S ps cs w2 ka _ kc (Lib.hid RQ2.out.ly) RQ2.out.hb RQ2.out.tv hf ⟨hr1, hr2⟩).mono ?_
 rintro e w3 ⟨rfl, cl3, s3, f3, b3⟩
 have RQ3 := Lib.hid (RQ2.out.go s3 f3 b3)
 clear RQ2 s3 f3 b3  
 go_wp2_with fail
 refine (refPut_any 16 0 0 0 0 w3 (Lib.hid RQ3.out.ly) RQ3.out.hb (by rw [List.length_append]; omega)).mono ?_
 rintro e w4 ⟨rfl, cl4, s4, f4, b4⟩
 have RQ4 := Lib.hid (RQ3.out.go s4 f4 b4)
 clear RQ3 s4 f4 b4  
 go_wp2_with fail
 exact bodyPost_end (results_none rfl _ _ _) rfl ⟨rfl, by rw [HV.out]; have q := RQ4.out.toLd; rw [List.append_assoc] at q; exact q⟩
end Go.Proofs.YtlmpiobdgkmmgaaGreatDoor
namespace Go.Proofs.YtlmpiobdgkmmgaaGreatDoor
open Go.RowKit
theorem Rq.push {b Lx Bt kl kc : Nat} {h : Hd} {ks : Trees} {ka : Option Addr} {cl0 cl cl' : Nat → Nat} {W0 W W' : World} {S : SX} {ps ps' : List PI} {cs cs' : List PV} {v : Value} {os : List Nat} (r : Rq b Lx Bt h ks ka kl kc cl0 W0 cl S ps cs W) (c : CoQ b Lx cl0 W0 cl' S ps' cs' W' v os) (f : Frm (· ≠ 7) cl W.heap.size cl' W W') (bb : Below b W W') : Rq b Lx Bt h ks ka kl kc cl0 W0 cl' S ps' cs' W' :=
 ⟨c.ly, Nat.le_trans r.hb bb.size, c.fr, c.be, r.nd.same9 (f Bt r.nd.1 (by rw [r.bc]; omega)).2 bb.size, (f Bt r.nd.1 (by rw [r.bc]; omega)).1.trans r.bc, r.tv.kept bb⟩
def WlRel (F : Int → Int → List KC → CF) (b Lx Bt : Nat) (h : Hd) (ks : Trees) (ka : Option Addr) (kc : Nat) (cl0 : Nat → Nat) (W0 : World) (S : SX) (fin : Int → List PI × List PV) (v iv : Value) (wr : World) : Prop :=
 ∃ (j : Nat) (cl : Nat → Nat) (os : List Nat) (ps : List PI) (cs : List PV) (L : Int → List PI), iv = .int .i64 (j : Int) ∧ j ≤ ks.len ∧ os.length ≤ j ∧ Hid (CoQ b Lx cl0 W0 cl S ps cs wr v os) ∧ Hid (Rq b Lx Bt h ks ka ks.len kc cl0 W0 cl S ps cs wr) ∧ Hid (VkP F ks 0 j ps cs os L fin)
theorem CoQ.of {b Lx Bt kl kc : Nat} {h : Hd} {ks : Trees} {ka : Option Addr} {cl0 cl : Nat → Nat} {W0 W : World} {S : SX} {ps : List PI} {cs : List PV} (r : Rq b Lx Bt h ks ka kl kc cl0 W0 cl S ps cs W) : CoQ b Lx cl0 W0 cl S ps cs W (.slice none 0 0) [] :=
 ⟨r.ly, r.fr, r.be, ⟨World.ownsRow_nil W _ _ _, fun k hk => by simp [Value.ownBlock] at hk⟩⟩
theorem rcall6_any {h : Hd} {ks : Trees} (ih : AllT VR ks) : CallR 6 h ks := by
 intro hk hc b Lx cl S ps cs W ka kl kc HL hb tv hf hr0
 have hr := hr0
 obtain ⟨hr1, hr2⟩ := hr
 have hfv : fitsV h ks.len = true ∧ allFits ks = true := by unfold treeFits at hf; simpa using hf
 have hfa := Lib.hid hfv.2
 obtain rfl : kl = ks.len := tv.len
 obtain ⟨w1, hw1⟩ : ∃ w1, w1 = W.alloc (.cells #[.int .i64 h.kind, .int .i64 h.op, .int .i64 h.num, .string ⟨h.text.toArray⟩, .int .i64 h.ref.row, .int .i64 h.ref.col, .bool h.ref.pr, .bool h.ref.pc, .int .i64 h.to.row, .int .i64 h.to.col, .bool h.to.pr, .bool h.to.pc, .int .i64 h.fn, (.slice ka ks.len kc)] 34) := ⟨_, rfl⟩
 have RQ1 : Hid (Rq b Lx W.heap.size h ks ka ks.len kc cl W (upc cl W.heap.size 9) S ps cs w1) := Lib.hid (by rw [hw1]; exact Rq.start HL.out hb tv)
 have HV : Hid (valT h ks = endF (fun e => walkF e 0 (kcs ks)) ⟨20, h.fn, (ks.len : Nat), 0, 0, []⟩) := Lib.hid (by rw [valT_call ks hk]; unfold callF; rw [if_neg (by omega), if_neg (by omega), if_neg (by omega), if_neg (by omega), kcs_len])
 have hkm : ks.len ≤ ks.nodes := len_nodes ks
 have IH := Lib.hid ih
 have HCC := Lib.hid hc
 obtain ⟨i0, hi, hz0, hz1, hz2⟩ := info_parts infoIntC
 have PT0 : Hid (VkP walkF ks 0 0 ps cs [] (fun _ => ps) (fun E => (ps ++ (walkF E 0 (kcs ks) ps.length cs).1, (walkF E 0 (kcs ks) ps.length cs).2))) := Lib.hid ⟨Pt.nil ps, fun E => ⟨rfl, rfl⟩, by rw [tdrop_nodes]; exact ⟨by omega, by omega⟩⟩
 have TV := Lib.hid tv
 clear hk hc ih tv
 go_enter Tryz.func62, Tryz.ntmps62
 go_upto_region 1 with (fail)
 rw [← hw1]
 clear hw1
 generalize W.heap.size = Bt at RQ1 ⊢
 have c13 := RQ1.out.nd.facts.c13
 try simp only [Nat.zero_add] at c13
 go_wp2_with (refine cpLoad RQ1.out.nd rfl rfl rfl ?_)
 refine (refClass_any h (.slice ka ks.len kc) w1).mono ?_
 rintro e w2 ⟨rfl, q2⟩
 rw [HCC.out]
 have RQ2 := Lib.hid (RQ1.out.kept q2 9)
 clear RQ1 q2
 clear c13
 go_wp2_with fail
 go_loopw [6, 7] (fun v iv wr => WlRel walkF b Lx Bt h ks ka kc cl W S (fun E => (ps ++ (walkF E 0 (kcs ks) ps.length cs).1, (walkF E 0 (kcs ks) ps.length cs).2)) v iv wr) (fun _ iv _ => ks.len - (intOf iv).toNat)
 case atStart => exact ⟨0, _, [], ps, cs, fun _ => ps, rfl, Nat.zero_le _, Nat.le_refl _, Lib.hid (CoQ.of RQ2.out), RQ2, PT0⟩
 case round =>
  obtain ⟨j, cl3, os, psj, csj, L, rfl, hj, hol, C3, R3, P3'⟩ := hrel
  by_cases hlt : j < ks.len
  ·obtain ⟨kb, ko, h', k', r', ka', kl', kc', rfl, K⟩ := TV.out.kid j hlt
   have KX := K.step R3.out.be
   have KW := Lib.hid K
   have ND : Hid (NodeAt wr kb (ko + j * 14) h' (.slice ka' kl' kc')) := Lib.hid KX.nd
   have rm : Room psj csj (1 + k'.nodes) := by have := P3'.out.room; rw [K.kid.nodes] at this; unfold Room at this ⊢; omega
   clear K
   have d0 := ND.out.facts.c0
   by_cases a5 : h'.kind = 5
   ·have AB : Hid (arB h' = true) := Lib.hid (by unfold arB; simp [a5])
    rw [a5] at d0
    go_upto_region 8 with (fail)
    clear a5
    go_wp2_with (refine cpLoad ND.out rfl rfl rfl ?_)
    refine ((KW.out.kid.all IH.out).2 b Lx _ S psj csj wr ka' kl' kc' (Lib.hid C3.out.ly) R3.out.hb KX.tv (KW.out.kid.fits hfa.out) rm).mono ?_
    rintro e w4 ⟨rfl, cl4, s4, f4, b4⟩
    have C4 := Lib.hid (C3.out.go s4 f4 b4)
    have R4 := Lib.hid (R3.out.go s4 f4 b4)
    have P4 := Lib.hid (P3'.out.walkA KW.out.kid AB.out)
    have rm4 := P4.out.room.1
    rw [List.length_append, List.length_singleton] at rm4
    have RM4 := Lib.hid rm4
    clear s4 f4 b4 C3 R3 rm rm4 P3'
    go_wp2_with fail
    refine (refPut_any 7 0 (j : Int) 0 0 w4 (Lib.hid C4.out.ly) R4.out.hb (by have := RM4.out; omega)).mono ?_
    rintro e w2 ⟨rfl, cl2, s2, f2, b2⟩
    have C2 := Lib.hid (C4.out.go s2 f2 b2)
    have R2 := Lib.hid (R4.out.go s2 f2 b2)
    have hzw := C2.out.be.size
    obtain ⟨pl, hpl⟩ : ∃ pl, pl = (psj ++ (areaT h' k' psj.length csj).1).length := ⟨_, rfl⟩
    rw [← hpl]
    have HPL := Lib.hid hpl
    clear s2 f2 b2 C4 R4 hpl
    go_wp2_with (at_builtin; refine wpList_append_lies _ rfl _ _ 45 rfl W.heap.size 3 i0 _ 1 8 Tryz.underlying45 hi hz0 hz1 hz2 rfl (by decide) u6 os.length (posV os) rfl (World.ownsRow.alloc C2.out.row.own _) ⟨w2.heap.size, 0, none⟩ 1 1 [.int .i64 (pl : Nat)] rfl rfl (World.news_of_block (heap_alloc_new w2 _)) (by simp [Value.oneCell']) (by decide) (by unfold maxLen; omega) (by omega) (by simp; omega) _ rfl ?_)
    intro g cap w6 hown hgrow hat _
    obtain ⟨c6, f6, b6⟩ := C2.out.push hb hown hgrow (hat.imp_right fun q => by rw [q]; simp)
    have R6 := Lib.hid (R2.out.push c6 f6 b6)
    have C6 := Lib.hid c6
    rw [HPL.out] at C6
    clear hown hgrow hat C2 R2 hzw c6 f6 b6
    go_wp2_with fail
    exact ⟨⟨j + 1, _, _, _, _, _, by go_num, by omega, by simp; omega, C6, R6, P4⟩, by simp [intOf]; omega⟩
   by_cases a6 : h'.kind = 6
   ·have AB : Hid (arB h' = true) := Lib.hid (by unfold arB; simp [a6])
    rw [a6] at d0
    clear a5
    go_upto_region 8 with (fail)
    clear a6
    go_wp2_with (refine cpLoad ND.out rfl rfl rfl ?_)
    refine ((KW.out.kid.all IH.out).2 b Lx _ S psj csj wr ka' kl' kc' (Lib.hid C3.out.ly) R3.out.hb KX.tv (KW.out.kid.fits hfa.out) rm).mono ?_
    rintro e w4 ⟨rfl, cl4, s4, f4, b4⟩
    have C4 := Lib.hid (C3.out.go s4 f4 b4)
    have R4 := Lib.hid (R3.out.go s4 f4 b4)
    have P4 := Lib.hid (P3'.out.walkA KW.out.kid AB.out)
    have rm4 := P4.out.room.1
    rw [List.length_append, List.length_singleton] at rm4
    have RM4 := Lib.hid rm4
    clear s4 f4 b4 C3 R3 rm rm4 P3'
    go_wp2_with fail
    refine (refPut_any 7 0 (j : Int) 0 0 w4 (Lib.hid C4.out.ly) R4.out.hb (by have := RM4.out; omega)).mono ?_
    rintro e w2 ⟨rfl, cl2, s2, f2, b2⟩
    have C2 := Lib.hid (C4.out.go s2 f2 b2)
    have R2 := Lib.hid (R4.out.go s2 f2 b2)
    have hzw := C2.out.be.size
    obtain ⟨pl, hpl⟩ : ∃ pl, pl = (psj ++ (areaT h' k' psj.length csj).1).length := ⟨_, rfl⟩
    rw [← hpl]
    have HPL := Lib.hid hpl
    clear s2 f2 b2 C4 R4 hpl
    go_wp2_with (at_builtin; refine wpList_append_lies _ rfl _ _ 45 rfl W.heap.size 3 i0 _ 1 8 Tryz.underlying45 hi hz0 hz1 hz2 rfl (by decide) u6 os.length (posV os) rfl (World.ownsRow.alloc C2.out.row.own _) ⟨w2.heap.size, 0, none⟩ 1 1 [.int .i64 (pl : Nat)] rfl rfl (World.news_of_block (heap_alloc_new w2 _)) (by simp [Value.oneCell']) (by decide) (by unfold maxLen; omega) (by omega) (by simp; omega) _ rfl ?_)
    intro g cap w6 hown hgrow hat _
    obtain ⟨c6, f6, b6⟩ := C2.out.push hb hown hgrow (hat.imp_right fun q => by rw [q]; simp)
    have R6 := Lib.hid (R2.out.push c6 f6 b6)
    have C6 := Lib.hid c6
    rw [HPL.out] at C6
    clear hown hgrow hat C2 R2 hzw c6 f6 b6
    go_wp2_with fail
    exact ⟨⟨j + 1, _, _, _, _, _, by go_num, by omega, by simp; omega, C6, R6, P4⟩, by simp [intOf]; omega⟩
   obtain ⟨-, -, d1, d2, d3, d4, d5, d6, d7, d8, d9, d10, d11, d12, d13, -, -, -, -, -, -⟩ := ND.out.facts
   have b5 : (h'.kind == 5) = false := by simpa using a5
   have b6 : (h'.kind == 6) = false := by simpa using a6
   by_cases a7 : clsOf h' = 5
   ·have AB : Hid (arB h' = true) := Lib.hid (by unfold arB; simp [a7])
    go_wp2_with fail
    refine (refClass_any h' (.slice ka' kl' kc') wr).mono ?_
    rintro e w3 ⟨rfl, q3⟩
    have KX := KX.step (q3.mono R3.out.hb)
    have ND := Lib.hid (ND.out.same9 (q3.block _ ND.out.1) q3.size)
    have C3 := Lib.hid (C3.out.go (C3.out.ly.kept q3 9) (Frm.kept (P := P3) q3) (q3.mono R3.out.hb))
    have R3 := Lib.hid (R3.out.kept q3 9)
    clear q3
    rw [a7]
    clear d0 d1 d2 d3 d4 d5 d6 d7 d8 d9 d10 d11 d12 d13
    go_wp2_with (refine cpLoad ND.out rfl rfl rfl ?_)
    refine ((KW.out.kid.all IH.out).2 b Lx _ S psj csj w3 ka' kl' kc' (Lib.hid C3.out.ly) R3.out.hb KX.tv (KW.out.kid.fits hfa.out) rm).mono ?_
    rintro e w4 ⟨rfl, cl4, s4, f4, b4⟩
    have C4 := Lib.hid (C3.out.go s4 f4 b4)
    have R4 := Lib.hid (R3.out.go s4 f4 b4)
    have P4 := Lib.hid (P3'.out.walkA KW.out.kid AB.out)
    have rm4 := P4.out.room.1
    rw [List.length_append, List.length_singleton] at rm4
    have RM4 := Lib.hid rm4
    clear s4 f4 b4 C3 R3 rm rm4 P3'
    go_wp2_with fail
    refine (refPut_any 7 0 (j : Int) 0 0 w4 (Lib.hid C4.out.ly) R4.out.hb (by have := RM4.out; omega)).mono ?_
    rintro e w2 ⟨rfl, cl2, s2, f2, b2⟩
    have C2 := Lib.hid (C4.out.go s2 f2 b2)
    have R2 := Lib.hid (R4.out.go s2 f2 b2)
    have hzw := C2.out.be.size
    obtain ⟨pl, hpl⟩ : ∃ pl, pl = (psj ++ (areaT h' k' psj.length csj).1).length := ⟨_, rfl⟩
    rw [← hpl]
    have HPL := Lib.hid hpl
    clear s2 f2 b2 C4 R4 hpl
    go_wp2_with (at_builtin; refine wpList_append_lies _ rfl _ _ 45 rfl W.heap.size 3 i0 _ 1 8 Tryz.underlying45 hi hz0 hz1 hz2 rfl (by decide) u6 os.length (posV os) rfl (World.ownsRow.alloc C2.out.row.own _) ⟨w2.heap.size, 0, none⟩ 1 1 [.int .i64 (pl : Nat)] rfl rfl (World.news_of_block (heap_alloc_new w2 _)) (by simp [Value.oneCell']) (by decide) (by unfold maxLen; omega) (by omega) (by simp; omega) _ rfl ?_)
    intro g cap w6 hown hgrow hat _
    obtain ⟨c6, f6, b6⟩ := C2.out.push hb hown hgrow (hat.imp_right fun q => by rw [q]; simp)
    have R6 := Lib.hid (R2.out.push c6 f6 b6)
    have C6 := Lib.hid c6
    rw [HPL.out] at C6
    clear hown hgrow hat C2 R2 hzw c6 f6 b6
    go_wp2_with fail
    exact ⟨⟨j + 1, _, _, _, _, _, by go_num, by omega, by simp; omega, C6, R6, P4⟩, by simp [intOf]; omega⟩
   ·have AB : Hid (arB h' = false) := Lib.hid (by unfold arB; simp [a5, a6, a7])
    go_wp2_with fail
    refine (refClass_any h' (.slice ka' kl' kc') wr).mono ?_
    rintro e w3 ⟨rfl, q3⟩
    have KX := KX.step (q3.mono R3.out.hb)
    have ND := Lib.hid (ND.out.same9 (q3.block _ ND.out.1) q3.size)
    have C3 := Lib.hid (C3.out.go (C3.out.ly.kept q3 9) (Frm.kept (P := P3) q3) (q3.mono R3.out.hb))
    have R3 := Lib.hid (R3.out.kept q3 9)
    clear q3
    clear d0 d1 d2 d3 d4 d5 d6 d7 d8 d9 d10 d11 d12 d13
    generalize clsOf h' = c7 at a7 ⊢
    have a8 : (c7 == 5) = false := by simpa using a7
    go_wp2_with (refine cpLoad ND.out rfl rfl rfl ?_)
    refine ((KW.out.kid.all IH.out).1 b Lx _ S psj csj w3 ka' kl' kc' (Lib.hid C3.out.ly) R3.out.hb KX.tv (KW.out.kid.fits hfa.out) rm).mono ?_
    rintro e w4 ⟨rfl, cl4, s4, f4, b4⟩
    have C4 := Lib.hid (C3.out.go s4 f4 b4)
    have R4 := Lib.hid (R3.out.go s4 f4 b4)
    have P4 := Lib.hid (P3'.out.walkV KW.out.kid AB.out)
    clear s4 f4 b4 C3 R3 P3'
    go_wp2_with fail
    exact ⟨⟨j + 1, _, _, _, _, _, by go_num, by omega, by omega, C4, R4, P4⟩, by simp [intOf]; omega⟩
  ·obtain rfl : j = ks.len := by omega
   have c12 := R3.out.nd.facts.c12
   simp only [Nat.zero_add] at c12
   obtain ⟨hD1, hD2⟩ := endF_done (F := fun e => walkF e 0 (kcs ks)) (x := ⟨20, h.fn, (ks.len : Nat), 0, 0, []⟩) P3'.out.pt (P3'.out.done fun _ _ => rfl)
   have HD1 := Lib.hid hD1; have HD2 := Lib.hid hD2
   have hln : psj.length ≤ 900000 := by have := P3'.out.room.1; omega
   have HLT := Lib.hid P3'.out.pt.lt
   obtain ⟨aS, kS, rfl, hS⟩ := C3.out.slice
   have HS := Lib.hid hS
   clear hD1 hD2 P3' hS C3
   go_wp2_with fail
   refine (refPut_any 20 h.fn ks.len 0 0 wr (Lib.hid R3.out.ly) R3.out.hb (by omega)).mono ?_
   rintro e w4 ⟨rfl, cl4, s4, f4, b4⟩
   have R4 := Lib.hid (R3.out.go s4 f4 b4)
   have HS4 := Lib.hid (HS.out.frm f4 p3_7 b4.size)
   clear s4 f4 b4 R3 HS c12
   go_wp2_with fail
   refine (cpClose_any os w4 (Lib.hid R4.out.ly) R4.out.hb (by rw [List.length_append, List.length_singleton]; omega) (by omega) HS4.out (fun i hi => by have := HLT.out i hi; rw [List.length_append]; omega)).mono ?_
   rintro e w5 ⟨rfl, cl5, s5, f5, b5⟩
   rw [HD1.out] at s5
   have L5 := Lib.hid (R4.out.go s5 f5 b5).toLd
   clear s5 f5 b5 R4
   rw [HD2.out] at L5
   go_wp2_with fail
   exact bodyPost_end (results_none rfl _ _ _) rfl ⟨rfl, by rw [HV.out]; exact L5.out⟩
end Go.Proofs.YtlmpiobdgkmmgaaGreatDoor
namespace Go.Proofs.YtlmpiobdgkmmgaaGreatDoor
open Go.RowKit
theorem rarea_leaf {h : Hd} {ks : Trees} (hne : h.kind = 4 ∨ h.kind = 5 ∨ h.kind = 6 ∨ clsOf h ≠ 5) : AreR h ks := by
 intro b Lx cl S ps cs W ka kl kc HL hb tv hf hr0
 have hr := hr0
 obtain ⟨hr1, hr2⟩ := hr
 have hfv : fitsV h ks.len = true ∧ allFits ks = true := by unfold treeFits at hf; simpa using hf
 have hfa := Lib.hid hfv.2
 obtain rfl : kl = ks.len := tv.len
 obtain ⟨w1, hw1⟩ : ∃ w1, w1 = W.alloc (.cells #[.int .i64 h.kind, .int .i64 h.op, .int .i64 h.num, .string ⟨h.text.toArray⟩, .int .i64 h.ref.row, .int .i64 h.ref.col, .bool h.ref.pr, .bool h.ref.pc, .int .i64 h.to.row, .int .i64 h.to.col, .bool h.to.pr, .bool h.to.pc, .int .i64 h.fn, (.slice ka ks.len kc)] 34) := ⟨_, rfl⟩
 have RQ1 : Hid (Rq b Lx W.heap.size h ks ka ks.len kc cl W (upc cl W.heap.size 9) S ps cs w1) := Lib.hid (by rw [hw1]; exact Rq.start HL.out hb tv)
 have NOK := Lib.hid (node_ok hfv.1)
 clear hfv hf
 by_cases q5 : h.kind = 5
 ·have HV : Hid (areaT h ks = rcF (rcOf h.ref.row h.ref.col h.ref.row h.ref.col)) := Lib.hid (by unfold areaT areaF; simp only [q5]; rfl)
  have hin : RcIn (rcOf h.ref.row h.ref.col h.ref.row h.ref.col) := by
   have r1 := NOK.out.ref (by omega)

   constructor <;> simp only [rcOf] <;> omega
  have HIN := Lib.hid hin
  have HQ := Lib.hid q5
  clear hin hne NOK q5 
  go_enter Tryz.func104, Tryz.ntmps104
  go_upto_region 1 with (fail)
  rw [← hw1]
  clear hw1
  generalize W.heap.size = Bt at RQ1 ⊢
  have c0 := RQ1.out.nd.facts.c0
  have c13 := RQ1.out.nd.facts.c13
  have c4 := RQ1.out.nd.facts.c4
  have d5 := RQ1.out.nd.facts.d5
  try simp only [Nat.zero_add] at c0 c13 c4 d5
  simp only [Nat.reduceAdd] at d5
  rw [HQ.out] at c0
  have hbt := RQ1.out.nd.1
  go_upto_region 14 with (fail)
  obtain ⟨w2, hw2⟩ : ∃ w2, w2 = (w1.alloc (.cells #[.int .i64 h.ref.row, .int .i64 h.ref.col] 121)).alloc (.cells #[.int .i64 h.ref.row, .int .i64 h.ref.col] 121) := ⟨_, rfl⟩
  have k2 : Below w1.heap.size w1 w2 := by rw [hw2]; exact ext_alloc (ext_alloc (Below.refl _ _) _) _
  have p5 : w2.heap[w1.heap.size]? = some (.cells #[.int .i64 h.ref.row, .int .i64 h.ref.col] 121 (0, 0)) := by rw [hw2, Below.heap_alloc _ _ _ (by simp)]; exact heap_alloc_new w1 _
  have p6 : w2.heap[w1.heap.size + 1]? = some (.cells #[.int .i64 h.ref.row, .int .i64 h.ref.col] 121 (0, 0)) := by rw [hw2]; have := heap_alloc_new (w1.alloc (.cells #[.int .i64 h.ref.row, .int .i64 h.ref.col] 121)) (.cells #[.int .i64 h.ref.row, .int .i64 h.ref.col] 121); simpa using this
  have RQ2 := Lib.hid (RQ1.out.kept k2 9)
  have e50 := cells_of_block p5 0; have e51 := cells_of_block p5 1; have e60 := cells_of_block p6 0; have e61 := cells_of_block p6 1
  simp only [List.getElem?_toArray, List.getElem?_cons_zero, List.getElem?_cons_succ] at e50 e51 e60 e61
  rw [← hw2]
  clear hw2 k2 p5 p6 RQ1 hbt
  clear c0 c13 c4 d5
  have c0 := RQ2.out.nd.facts.c0
  try simp only [Nat.zero_add] at c0
  rw [HQ.out] at c0
  go_wp2_with fail
  refine (refOf_any h.ref.row h.ref.col h.ref.row h.ref.col _).mono ?_
  rintro e w3 ⟨rfl, q3⟩
  have RQ3 := Lib.hid (RQ2.out.kept q3 9)
  clear RQ2 q3 c0 e50 e51 e60 e61
  obtain ⟨ra, hra⟩ : ∃ ra, ra = arOf h.ref.row h.ref.col h.ref.row h.ref.col := ⟨_, rfl⟩
  have HRA : Hid (rcOf h.ref.row h.ref.col h.ref.row h.ref.col = ⟨ra.top, ra.left, ra.bottom, ra.right⟩) := Lib.hid (by rw [hra]; rfl)
  rw [← hra]
  rw [HRA.out] at HIN
  clear hra
  obtain ⟨at1, al1, ab1, ar1⟩ := ra
  simp only at HIN HRA ⊢
  go_upto_region 16 with (fail)
  obtain ⟨w4, hw4⟩ : ∃ w4, w4 = w3.alloc (.cells #[.int .i64 at1, .int .i64 al1, .int .i64 ab1, .int .i64 ar1] 125) := ⟨_, rfl⟩
  have k4 : Below w3.heap.size w3 w4 := by rw [hw4]; exact ext_alloc (Below.refl _ _) _
  have p7 : w4.heap[w3.heap.size]? = some (.cells #[.int .i64 at1, .int .i64 al1, .int .i64 ab1, .int .i64 ar1] 125 (0, 0)) := by rw [hw4]; exact heap_alloc_new w3 _
  have RQ4 := Lib.hid (RQ3.out.kept k4 9)
  have P7 := Lib.hid p7
  have hlt7 := lt_of_block p7
  have e70 := cells_of_block p7 0; have e71 := cells_of_block p7 1; have e72 := cells_of_block p7 2; have e73 := cells_of_block p7 3
  simp only [List.getElem?_toArray, List.getElem?_cons_zero, List.getElem?_cons_succ] at e70 e71 e72 e73
  rw [← hw4]
  clear hw4 k4 p7 RQ3
  go_wp2_with fail
  refine (ref3Size_any at1 al1 ab1 ar1 w4 HIN.out).mono ?_
  rintro e w5 ⟨rfl, q5⟩
  have RQ5 := Lib.hid (RQ4.out.kept q5 9)
  have p7 := (q5.block _ hlt7).trans P7.out
  clear e70 e71 e72 e73
  have e70 := cells_of_block p7 0; have e71 := cells_of_block p7 1; have e72 := cells_of_block p7 2; have e73 := cells_of_block p7 3
  simp only [List.getElem?_toArray, List.getElem?_cons_zero, List.getElem?_cons_succ] at e70 e71 e72 e73
  clear RQ4 q5 p7 P7 hlt7
  by_cases hok : rcOk ⟨at1, al1, ab1, ar1⟩ = true
  ·have HF : Hid (rcF ⟨at1, al1, ab1, ar1⟩ = insF ⟨3, at1, al1, ab1, ar1, []⟩) := Lib.hid (by unfold rcF; rw [if_pos hok])
   rw [show sizeV ⟨at1, al1, ab1, ar1⟩ = .tuple #[.int .i64 (rcN ⟨at1, al1, ab1, ar1⟩), .int .i64 0] by unfold sizeV; rw [if_pos hok]]
   clear hok
   go_wp2_with fail
   refine (refPut_any 3 at1 al1 ab1 ar1 w5 (Lib.hid RQ5.out.ly) RQ5.out.hb (by omega)).mono ?_
   rintro e w6 ⟨rfl, cl6, s6, f6, b6⟩
   have RQ6 := Lib.hid (RQ5.out.go s6 f6 b6)
   clear RQ5 s6 f6 b6
   go_wp2_with fail
   exact bodyPost_end (results_none rfl _ _ _) rfl ⟨rfl, by rw [HV.out, HRA.out, HF.out]; exact RQ6.out.toLd⟩
  ·have HF : Hid (rcF ⟨at1, al1, ab1, ar1⟩ = errF 3) := Lib.hid (by unfold rcF; rw [if_neg hok])
   rw [show sizeV ⟨at1, al1, ab1, ar1⟩ = .tuple #[.int .i64 0, .int .i64 2] by unfold sizeV; rw [if_neg hok]]
   clear hok
   go_wp2_with fail
   refine (fault_any 3 w5 (Lib.hid RQ5.out.ly) RQ5.out.hb (by omega) (by omega)).mono ?_
   rintro e w6 ⟨rfl, cl6, s6, f6, b6⟩
   have RQ6 := Lib.hid (RQ5.out.go s6 f6 b6)
   clear RQ5 s6 f6 b6
   go_wp2_with fail
   exact bodyPost_ret (results_none rfl _ _ _) rfl ⟨rfl, by rw [HV.out, HRA.out, HF.out]; exact RQ6.out.toLd⟩
 by_cases q6 : h.kind = 6
 ·have HV : Hid (areaT h ks = rcF (rcOf h.ref.row h.ref.col h.to.row h.to.col)) := Lib.hid (by unfold areaT areaF; simp only [q6]; rfl)
  have hin : RcIn (rcOf h.ref.row h.ref.col h.to.row h.to.col) := by
   have r1 := NOK.out.ref (by omega)
   have r2 := NOK.out.tr (by omega)
   constructor <;> simp only [rcOf] <;> omega
  have HIN := Lib.hid hin
  have HQ := Lib.hid q6
  clear hin hne NOK q6 q5
  go_enter Tryz.func104, Tryz.ntmps104
  go_upto_region 1 with (fail)
  rw [← hw1]
  clear hw1
  generalize W.heap.size = Bt at RQ1 ⊢
  have c0 := RQ1.out.nd.facts.c0
  have c13 := RQ1.out.nd.facts.c13
  have c4 := RQ1.out.nd.facts.c4
  have d5 := RQ1.out.nd.facts.d5
  have c8 := RQ1.out.nd.facts.c8
  have d9 := RQ1.out.nd.facts.d9
  try simp only [Nat.zero_add] at c0 c13 c4 d5 c8 d9
  simp only [Nat.reduceAdd] at d5 d9
  rw [HQ.out] at c0
  have hbt := RQ1.out.nd.1
  go_upto_region 14 with (fail)
  obtain ⟨w2, hw2⟩ : ∃ w2, w2 = (w1.alloc (.cells #[.int .i64 h.ref.row, .int .i64 h.ref.col] 121)).alloc (.cells #[.int .i64 h.to.row, .int .i64 h.to.col] 121) := ⟨_, rfl⟩
  have k2 : Below w1.heap.size w1 w2 := by rw [hw2]; exact ext_alloc (ext_alloc (Below.refl _ _) _) _
  have p5 : w2.heap[w1.heap.size]? = some (.cells #[.int .i64 h.ref.row, .int .i64 h.ref.col] 121 (0, 0)) := by rw [hw2, Below.heap_alloc _ _ _ (by simp)]; exact heap_alloc_new w1 _
  have p6 : w2.heap[w1.heap.size + 1]? = some (.cells #[.int .i64 h.to.row, .int .i64 h.to.col] 121 (0, 0)) := by rw [hw2]; have := heap_alloc_new (w1.alloc (.cells #[.int .i64 h.ref.row, .int .i64 h.ref.col] 121)) (.cells #[.int .i64 h.to.row, .int .i64 h.to.col] 121); simpa using this
  have RQ2 := Lib.hid (RQ1.out.kept k2 9)
  have e50 := cells_of_block p5 0; have e51 := cells_of_block p5 1; have e60 := cells_of_block p6 0; have e61 := cells_of_block p6 1
  simp only [List.getElem?_toArray, List.getElem?_cons_zero, List.getElem?_cons_succ] at e50 e51 e60 e61
  rw [← hw2]
  clear hw2 k2 p5 p6 RQ1 hbt
  clear c0 c13 c4 d5 c8 d9
  have c0 := RQ2.out.nd.facts.c0
  try simp only [Nat.zero_add] at c0
  rw [HQ.out] at c0
  go_wp2_with fail
  refine (refOf_any h.ref.row h.ref.col h.to.row h.to.col _).mono ?_
  rintro e w3 ⟨rfl, q3⟩
  have RQ3 := Lib.hid (RQ2.out.kept q3 9)
  clear RQ2 q3 c0 e50 e51 e60 e61
  obtain ⟨ra, hra⟩ : ∃ ra, ra = arOf h.ref.row h.ref.col h.to.row h.to.col := ⟨_, rfl⟩
  have HRA : Hid (rcOf h.ref.row h.ref.col h.to.row h.to.col = ⟨ra.top, ra.left, ra.bottom, ra.right⟩) := Lib.hid (by rw [hra]; rfl)
  rw [← hra]
  rw [HRA.out] at HIN
  clear hra
  obtain ⟨at1, al1, ab1, ar1⟩ := ra
  simp only at HIN HRA ⊢
  go_upto_region 16 with (fail)
  obtain ⟨w4, hw4⟩ : ∃ w4, w4 = w3.alloc (.cells #[.int .i64 at1, .int .i64 al1, .int .i64 ab1, .int .i64 ar1] 125) := ⟨_, rfl⟩
  have k4 : Below w3.heap.size w3 w4 := by rw [hw4]; exact ext_alloc (Below.refl _ _) _
  have p7 : w4.heap[w3.heap.size]? = some (.cells #[.int .i64 at1, .int .i64 al1, .int .i64 ab1, .int .i64 ar1] 125 (0, 0)) := by rw [hw4]; exact heap_alloc_new w3 _
  have RQ4 := Lib.hid (RQ3.out.kept k4 9)
  have P7 := Lib.hid p7
  have hlt7 := lt_of_block p7
  have e70 := cells_of_block p7 0; have e71 := cells_of_block p7 1; have e72 := cells_of_block p7 2; have e73 := cells_of_block p7 3
  simp only [List.getElem?_toArray, List.getElem?_cons_zero, List.getElem?_cons_succ] at e70 e71 e72 e73
  rw [← hw4]
  clear hw4 k4 p7 RQ3
  go_wp2_with fail
  refine (ref3Size_any at1 al1 ab1 ar1 w4 HIN.out).mono ?_
  rintro e w5 ⟨rfl, q5⟩
  have RQ5 := Lib.hid (RQ4.out.kept q5 9)
  have p7 := (q5.block _ hlt7).trans P7.out
  clear e70 e71 e72 e73
  have e70 := cells_of_block p7 0; have e71 := cells_of_block p7 1; have e72 := cells_of_block p7 2; have e73 := cells_of_block p7 3
  simp only [List.getElem?_toArray, List.getElem?_cons_zero, List.getElem?_cons_succ] at e70 e71 e72 e73
  clear RQ4 q5 p7 P7 hlt7
  by_cases hok : rcOk ⟨at1, al1, ab1, ar1⟩ = true
  ·have HF : Hid (rcF ⟨at1, al1, ab1, ar1⟩ = insF ⟨3, at1, al1, ab1, ar1, []⟩) := Lib.hid (by unfold rcF; rw [if_pos hok])
   rw [show sizeV ⟨at1, al1, ab1, ar1⟩ = .tuple #[.int .i64 (rcN ⟨at1, al1, ab1, ar1⟩), .int .i64 0] by unfold sizeV; rw [if_pos hok]]
   clear hok
   go_wp2_with fail
   refine (refPut_any 3 at1 al1 ab1 ar1 w5 (Lib.hid RQ5.out.ly) RQ5.out.hb (by omega)).mono ?_
   rintro e w6 ⟨rfl, cl6, s6, f6, b6⟩
   have RQ6 := Lib.hid (RQ5.out.go s6 f6 b6)
   clear RQ5 s6 f6 b6
   go_wp2_with fail
   exact bodyPost_end (results_none rfl _ _ _) rfl ⟨rfl, by rw [HV.out, HRA.out, HF.out]; exact RQ6.out.toLd⟩
  ·have HF : Hid (rcF ⟨at1, al1, ab1, ar1⟩ = errF 3) := Lib.hid (by unfold rcF; rw [if_neg hok])
   rw [show sizeV ⟨at1, al1, ab1, ar1⟩ = .tuple #[.int .i64 0, .int .i64 2] by unfold sizeV; rw [if_neg hok]]
   clear hok
   go_wp2_with fail
   refine (fault_any 3 w5 (Lib.hid RQ5.out.ly) RQ5.out.hb (by omega) (by omega)).mono ?_
   rintro e w6 ⟨rfl, cl6, s6, f6, b6⟩
   have RQ6 := Lib.hid (RQ5.out.go s6 f6 b6)
   clear RQ5 s6 f6 b6
   go_wp2_with fail
   exact bodyPost_ret (results_none rfl _ _ _) rfl ⟨rfl, by rw [HV.out, HRA.out, HF.out]; exact RQ6.out.toLd⟩
 have q5' : (h.kind == 5) = false := by simpa using q5
 have q6' : (h.kind == 6) = false := by simpa using q6
 by_cases q4 : h.kind = 4
 ·have HV : Hid (areaT h ks = errF h.num) := Lib.hid (by unfold areaT areaF; simp only [q4]; rfl)
  have HQ := Lib.hid q4
  clear hne NOK q4 q5 q6 q5' q6'
  go_enter Tryz.func104, Tryz.ntmps104
  go_upto_region 1 with (fail)
  rw [← hw1]
  clear hw1
  generalize W.heap.size = Bt at RQ1 ⊢
  have c0 := RQ1.out.nd.facts.c0
  have c13 := RQ1.out.nd.facts.c13
  have c4 := RQ1.out.nd.facts.c4
  have d5 := RQ1.out.nd.facts.d5
  try simp only [Nat.zero_add] at c0 c13 c4 d5
  simp only [Nat.reduceAdd] at d5
  rw [HQ.out] at c0
  have hbt := RQ1.out.nd.1
  go_upto_region 14 with (fail)
  obtain ⟨w2, hw2⟩ : ∃ w2, w2 = (w1.alloc (.cells #[.int .i64 h.ref.row, .int .i64 h.ref.col] 121)).alloc (.cells #[.int .i64 h.ref.row, .int .i64 h.ref.col] 121) := ⟨_, rfl⟩
  have k2 : Below w1.heap.size w1 w2 := by rw [hw2]; exact ext_alloc (ext_alloc (Below.refl _ _) _) _
  have p5 : w2.heap[w1.heap.size]? = some (.cells #[.int .i64 h.ref.row, .int .i64 h.ref.col] 121 (0, 0)) := by rw [hw2, Below.heap_alloc _ _ _ (by simp)]; exact heap_alloc_new w1 _
  have p6 : w2.heap[w1.heap.size + 1]? = some (.cells #[.int .i64 h.ref.row, .int .i64 h.ref.col] 121 (0, 0)) := by rw [hw2]; have := heap_alloc_new (w1.alloc (.cells #[.int .i64 h.ref.row, .int .i64 h.ref.col] 121)) (.cells #[.int .i64 h.ref.row, .int .i64 h.ref.col] 121); simpa using this
  have RQ2 := Lib.hid (RQ1.out.kept k2 9)
  have e50 := cells_of_block p5 0; have e51 := cells_of_block p5 1; have e60 := cells_of_block p6 0; have e61 := cells_of_block p6 1
  simp only [List.getElem?_toArray, List.getElem?_cons_zero, List.getElem?_cons_succ] at e50 e51 e60 e61
  rw [← hw2]
  clear hw2 k2 p5 p6 RQ1 hbt
  clear c0 c13 c4 d5 e50 e51 e60 e61
  have c0 := RQ2.out.nd.facts.c0
  have c2 := RQ2.out.nd.facts.c2
  try simp only [Nat.zero_add] at c0 c2
  rw [HQ.out] at c0
  go_wp2_with fail
  refine (fault_any h.num w2 (Lib.hid RQ2.out.ly) RQ2.out.hb (by omega) (by omega)).mono ?_
  rintro e w3 ⟨rfl, cl3, s3, f3, b3⟩
  have RQ3 := Lib.hid (RQ2.out.go s3 f3 b3)
  clear RQ2 s3 f3 b3 c0 c2 
  go_wp2_with fail
  exact bodyPost_end (results_none rfl _ _ _) rfl ⟨rfl, by rw [HV.out]; exact RQ3.out.toLd⟩
 have q4' : (h.kind == 4) = false := by simpa using q4
 have hc5 : clsOf h ≠ 5 := by omega
 have HV : Hid (areaT h ks = errF 4) := Lib.hid (by unfold areaT areaF; rw [if_neg q5, if_neg q6, if_neg q4, if_pos hc5])
 clear hne NOK q4 q5 q6
 go_enter Tryz.func104, Tryz.ntmps104
 go_upto_region 1 with (fail)
 rw [← hw1]
 clear hw1
 generalize W.heap.size = Bt at RQ1 ⊢
 have c0 := RQ1.out.nd.facts.c0
 have c13 := RQ1.out.nd.facts.c13
 have c4 := RQ1.out.nd.facts.c4
 have d5 := RQ1.out.nd.facts.d5
 try simp only [Nat.zero_add] at c0 c13 c4 d5
 simp only [Nat.reduceAdd] at d5
 have hbt := RQ1.out.nd.1
 go_upto_region 14 with (fail)
 obtain ⟨w2, hw2⟩ : ∃ w2, w2 = (w1.alloc (.cells #[.int .i64 h.ref.row, .int .i64 h.ref.col] 121)).alloc (.cells #[.int .i64 h.ref.row, .int .i64 h.ref.col] 121) := ⟨_, rfl⟩
 have k2 : Below w1.heap.size w1 w2 := by rw [hw2]; exact ext_alloc (ext_alloc (Below.refl _ _) _) _
 have p5 : w2.heap[w1.heap.size]? = some (.cells #[.int .i64 h.ref.row, .int .i64 h.ref.col] 121 (0, 0)) := by rw [hw2, Below.heap_alloc _ _ _ (by simp)]; exact heap_alloc_new w1 _
 have p6 : w2.heap[w1.heap.size + 1]? = some (.cells #[.int .i64 h.ref.row, .int .i64 h.ref.col] 121 (0, 0)) := by rw [hw2]; have := heap_alloc_new (w1.alloc (.cells #[.int .i64 h.ref.row, .int .i64 h.ref.col] 121)) (.cells #[.int .i64 h.ref.row, .int .i64 h.ref.col] 121); simpa using this
 have RQ2 := Lib.hid (RQ1.out.kept k2 9)
 have e50 := cells_of_block p5 0; have e51 := cells_of_block p5 1; have e60 := cells_of_block p6 0; have e61 := cells_of_block p6 1
 simp only [List.getElem?_toArray, List.getElem?_cons_zero, List.getElem?_cons_succ] at e50 e51 e60 e61
 rw [← hw2]
 clear hw2 k2 p5 p6 RQ1 hbt
 clear c0 c13 c4 d5 e50 e51 e60 e61
 have c0 := RQ2.out.nd.facts.c0
 try simp only [Nat.zero_add] at c0
 go_wp2_with (refine cpLoad RQ2.out.nd rfl rfl rfl ?_)
 refine (refClass_any h (.slice ka ks.len kc) w2).mono ?_
 rintro e w3 ⟨rfl, k3⟩
 have RQ3 := Lib.hid (RQ2.out.kept k3 9)
 clear RQ2 k3 c0
 generalize clsOf h = c7 at hc5 ⊢
 go_wp2_with fail
 refine (fault_any 4 w3 (Lib.hid RQ3.out.ly) RQ3.out.hb (by omega) (by omega)).mono ?_
 rintro e w4 ⟨rfl, cl4, s4, f4, b4⟩
 have RQ4 := Lib.hid (RQ3.out.go s4 f4 b4)
 clear RQ3 s4 f4 b4  
 go_wp2_with fail
 exact bodyPost_end (results_none rfl _ _ _) rfl ⟨rfl, by rw [HV.out]; exact RQ4.out.toLd⟩
end Go.Proofs.YtlmpiobdgkmmgaaGreatDoor
namespace Go.Proofs.YtlmpiobdgkmmgaaGreatDoor
open Go.RowKit
theorem rarea_ind {h : Hd} {ks : Trees} (ih : AllT VR ks) (hk : h.kind = 9) (hc : clsOf h = 5) (h51 : h.fn = 51) : AreR h ks := by
 intro b Lx cl S ps cs W ka kl kc HL hb tv hf hr0
 have hr := hr0
 obtain ⟨hr1, hr2⟩ := hr
 have hfv : fitsV h ks.len = true ∧ allFits ks = true := by unfold treeFits at hf; simpa using hf
 have hfa := Lib.hid hfv.2
 obtain rfl : kl = ks.len := tv.len
 have hl1 : 1 ≤ ks.len := by have := (call_ok hfv.1 hk).c5 hc; omega
 have hl5 := (call_ok hfv.1 hk).c5 hc
 obtain ⟨kb, ko, h0, k0, r0, ka0, kl0, kc0, rfl, K0'⟩ := tv.kid 0 (by omega)
 have KW0 := Lib.hid K0'
 have hn0 := K0'.kid.nodes
 simp only [Nat.zero_add] at hn0
 rw [tdrop_nodes] at hn0
 have hnt0 := kid_nth K0'.kid
 clear K0'
 obtain ⟨w1, hw1⟩ : ∃ w1, w1 = W.alloc (.cells #[.int .i64 h.kind, .int .i64 h.op, .int .i64 h.num, .string ⟨h.text.toArray⟩, .int .i64 h.ref.row, .int .i64 h.ref.col, .bool h.ref.pr, .bool h.ref.pc, .int .i64 h.to.row, .int .i64 h.to.col, .bool h.to.pr, .bool h.to.pc, .int .i64 h.fn, (.slice (some ⟨kb, ko, none⟩) ks.len kc)] 34) := ⟨_, rfl⟩
 have RQ1 : Hid (Rq b Lx W.heap.size h ks (some ⟨kb, ko, none⟩) ks.len kc cl W (upc cl W.heap.size 9) S ps cs w1) := Lib.hid (by rw [hw1]; exact Rq.start HL.out hb tv)
 have HV0 : areaT h ks = seqF (nth (kcs ks) 0).v (insF ⟨17, 0, 0, 0, 0, []⟩) := by unfold areaT areaF; rw [if_neg (by omega), if_neg (by omega), if_neg (by omega), if_neg (by omega), if_pos h51]
 rw [hnt0] at HV0
 have HV := Lib.hid HV0
 have IH := Lib.hid ih
 have HQ := Lib.hid hk; have HCC := Lib.hid hc; have HFN := Lib.hid h51
 have hx := fb_valT h0 k0 ps.length cs
 have hl2 : (0 : Int) < (ks.len : Int) := by omega
 clear HV0 hnt0 hk hc h51 ih hl5
 go_enter Tryz.func104, Tryz.ntmps104
 go_upto_region 1 with (fail)
 rw [← hw1]
 clear hw1
 generalize W.heap.size = Bt at RQ1 ⊢
 have c0 := RQ1.out.nd.facts.c0
 have c13 := RQ1.out.nd.facts.c13
 have c4 := RQ1.out.nd.facts.c4
 have d5 := RQ1.out.nd.facts.d5
 try simp only [Nat.zero_add] at c0 c13 c4 d5
 simp only [Nat.reduceAdd] at d5
 rw [HQ.out] at c0
 have hbt := RQ1.out.nd.1
 go_upto_region 14 with (fail)
 obtain ⟨w2, hw2⟩ : ∃ w2, w2 = (w1.alloc (.cells #[.int .i64 h.ref.row, .int .i64 h.ref.col] 121)).alloc (.cells #[.int .i64 h.ref.row, .int .i64 h.ref.col] 121) := ⟨_, rfl⟩
 have k2 : Below w1.heap.size w1 w2 := by rw [hw2]; exact ext_alloc (ext_alloc (Below.refl _ _) _) _
 have p5 : w2.heap[w1.heap.size]? = some (.cells #[.int .i64 h.ref.row, .int .i64 h.ref.col] 121 (0, 0)) := by rw [hw2, Below.heap_alloc _ _ _ (by simp)]; exact heap_alloc_new w1 _
 have p6 : w2.heap[w1.heap.size + 1]? = some (.cells #[.int .i64 h.ref.row, .int .i64 h.ref.col] 121 (0, 0)) := by rw [hw2]; have := heap_alloc_new (w1.alloc (.cells #[.int .i64 h.ref.row, .int .i64 h.ref.col] 121)) (.cells #[.int .i64 h.ref.row, .int .i64 h.ref.col] 121); simpa using this
 have RQ2 := Lib.hid (RQ1.out.kept k2 9)
 have e50 := cells_of_block p5 0; have e51 := cells_of_block p5 1; have e60 := cells_of_block p6 0; have e61 := cells_of_block p6 1
 simp only [List.getElem?_toArray, List.getElem?_cons_zero, List.getElem?_cons_succ] at e50 e51 e60 e61
 rw [← hw2]
 clear hw2 k2 p5 p6 RQ1 hbt
 clear c0 c13 c4 d5 e50 e51 e60 e61
 have c0 := RQ2.out.nd.facts.c0
 try simp only [Nat.zero_add] at c0
 rw [HQ.out] at c0
 go_wp2_with (refine cpLoad RQ2.out.nd rfl rfl rfl ?_)
 refine (refClass_any h (.slice (some ⟨kb, ko, none⟩) ks.len kc) w2).mono ?_
 rintro e w3 ⟨rfl, q3⟩
 rw [HCC.out]
 have RQ3 := Lib.hid (RQ2.out.kept q3 9)
 clear RQ2 q3
 clear c0
 have c12 := RQ3.out.nd.facts.c12
 try simp only [Nat.zero_add] at c12
 rw [HFN.out] at c12
 have KX0 := KW0.out.step RQ3.out.be
 have ND0 : Hid (NodeAt w3 kb (ko) h0 (.slice ka0 kl0 kc0)) := Lib.hid (by have := KX0.nd; rwa [show ko + 0 * 14 = ko by omega] at this)
 go_wp2_with (refine cpLoad ND0.out rfl rfl rfl ?_)
 refine ((KW0.out.kid.all IH.out).1 b Lx _ S _ _ w3 ka0 kl0 kc0 (Lib.hid RQ3.out.ly) RQ3.out.hb KX0.tv (KW0.out.kid.fits hfa.out) ⟨by omega, by omega⟩).mono ?_
 rintro e w4 ⟨rfl, cl4, s4, f4, b4⟩
 have RQ4 := Lib.hid (RQ3.out.go s4 f4 b4)
 clear RQ3 s4 f4 b4 KX0 ND0 
 clear c12
 go_wp2_with fail
 refine (refPut_any 17 0 0 0 0 w4 (Lib.hid RQ4.out.ly) RQ4.out.hb (by rw [List.length_append]; omega)).mono ?_
 rintro e w5 ⟨rfl, cl5, s5, f5, b5⟩
 have RQ5 := Lib.hid (RQ4.out.go s5 f5 b5)
 clear RQ4 s5 f5 b5  
 go_wp2_with fail
 exact bodyPost_end (results_none rfl _ _ _) rfl ⟨rfl, by rw [HV.out]; have q := RQ5.out.toLd; rw [List.append_assoc] at q; exact q⟩
theorem rarea_off {h : Hd} {ks : Trees} (ih : AllT VR ks) (hk : h.kind = 9) (hc : clsOf h = 5) (h51 : h.fn ≠ 51) : AreR h ks := by
 intro b Lx cl S ps cs W ka kl kc HL hb tv hf hr0
 have hr := hr0
 obtain ⟨hr1, hr2⟩ := hr
 have hfv : fitsV h ks.len = true ∧ allFits ks = true := by unfold treeFits at hf; simpa using hf
 have hfa := Lib.hid hfv.2
 obtain rfl : kl = ks.len := tv.len
 have hl1 : 1 ≤ ks.len := by have := (call_ok hfv.1 hk).c5 hc; omega
 have hl5 := (call_ok hfv.1 hk).c5 hc
 obtain ⟨kb, ko, h0, k0, r0, ka0, kl0, kc0, rfl, K0'⟩ := tv.kid 0 (by omega)
 have KW0 := Lib.hid K0'
 have hn0 := K0'.kid.nodes
 simp only [Nat.zero_add] at hn0
 rw [tdrop_nodes] at hn0
 have hnt0 := kid_nth K0'.kid
 clear K0'
 obtain ⟨w1, hw1⟩ : ∃ w1, w1 = W.alloc (.cells #[.int .i64 h.kind, .int .i64 h.op, .int .i64 h.num, .string ⟨h.text.toArray⟩, .int .i64 h.ref.row, .int .i64 h.ref.col, .bool h.ref.pr, .bool h.ref.pc, .int .i64 h.to.row, .int .i64 h.to.col, .bool h.to.pr, .bool h.to.pc, .int .i64 h.fn, (.slice (some ⟨kb, ko, none⟩) ks.len kc)] 34) := ⟨_, rfl⟩
 have RQ1 : Hid (Rq b Lx W.heap.size h ks (some ⟨kb, ko, none⟩) ks.len kc cl W (upc cl W.heap.size 9) S ps cs w1) := Lib.hid (by rw [hw1]; exact Rq.start HL.out hb tv)
 obtain ⟨op, hop⟩ : ∃ op : Int, op = if h.fn = 53 then 19 else 18 := ⟨_, rfl⟩
 have HV0 : areaT h ks = seqF (nth (kcs ks) 0).a (fun n cs => seqF (headF (fun e => valsF (e + 1) 1 ((kcs ks).drop 1)) (fun e => ⟨7, e + 1, 0, 0, 0, []⟩)) (insF ⟨op, (((kcs ks).length - 1 : Nat) : Int), 0, 0, 0, []⟩) n cs) := by
  unfold areaT areaF; rw [if_neg (by omega), if_neg (by omega), if_neg (by omega), if_neg (by omega), if_neg h51, hop, List.drop_one]
 rw [hnt0, kcs_len] at HV0
 have HV := Lib.hid HV0
 have IH := Lib.hid ih
 have HQ := Lib.hid hk; have HCC := Lib.hid hc
 have h51' : (h.fn == 51) = false := by simpa using h51
 have hl3 : 2 ≤ ks.len ∧ ks.len ≤ 5 := by omega
 have HL3 := Lib.hid hl3
 have hx := fb_areaT h0 k0 ps.length cs
 generalize hA : areaT h0 k0 ps.length cs = A at hx
 have HA := Lib.hid hA
 obtain ⟨psA, hpsA⟩ : ∃ psA, psA = ps ++ A.1 := ⟨_, rfl⟩
 have hlA : psA.length = ps.length + A.1.length := by rw [hpsA, List.length_append]
 have HPA := Lib.hid hpsA; have HLA := Lib.hid hlA
 have hl2 : (0 : Int) < (ks.len : Int) := by omega
 have hrA : Room (psA ++ [(⟨7, 0, 0, 0, 0, []⟩ : PI)]) A.2 (1 + (tdrop ks 1).nodes) := ⟨by rw [List.length_append, List.length_singleton]; omega, by omega⟩
 have HRA := Lib.hid hrA
 obtain ⟨i0, hi, hz0, hz1, hz2⟩ := info_parts infoIntC
 have hkc : ks.len ≤ 900000 := by omega
 clear HV0 hnt0 hk hc h51 ih hl5 hA hpsA hlA hrA hl3
 go_enter Tryz.func104, Tryz.ntmps104
 go_upto_region 1 with (fail)
 rw [← hw1]
 clear hw1
 generalize W.heap.size = Bt at RQ1 ⊢
 have c0 := RQ1.out.nd.facts.c0
 have c13 := RQ1.out.nd.facts.c13
 have c4 := RQ1.out.nd.facts.c4
 have d5 := RQ1.out.nd.facts.d5
 try simp only [Nat.zero_add] at c0 c13 c4 d5
 simp only [Nat.reduceAdd] at d5
 rw [HQ.out] at c0
 have hbt := RQ1.out.nd.1
 go_upto_region 14 with (fail)
 obtain ⟨w2, hw2⟩ : ∃ w2, w2 = (w1.alloc (.cells #[.int .i64 h.ref.row, .int .i64 h.ref.col] 121)).alloc (.cells #[.int .i64 h.ref.row, .int .i64 h.ref.col] 121) := ⟨_, rfl⟩
 have k2 : Below w1.heap.size w1 w2 := by rw [hw2]; exact ext_alloc (ext_alloc (Below.refl _ _) _) _
 have p5 : w2.heap[w1.heap.size]? = some (.cells #[.int .i64 h.ref.row, .int .i64 h.ref.col] 121 (0, 0)) := by rw [hw2, Below.heap_alloc _ _ _ (by simp)]; exact heap_alloc_new w1 _
 have p6 : w2.heap[w1.heap.size + 1]? = some (.cells #[.int .i64 h.ref.row, .int .i64 h.ref.col] 121 (0, 0)) := by rw [hw2]; have := heap_alloc_new (w1.alloc (.cells #[.int .i64 h.ref.row, .int .i64 h.ref.col] 121)) (.cells #[.int .i64 h.ref.row, .int .i64 h.ref.col] 121); simpa using this
 have RQ2 := Lib.hid (RQ1.out.kept k2 9)
 have e50 := cells_of_block p5 0; have e51 := cells_of_block p5 1; have e60 := cells_of_block p6 0; have e61 := cells_of_block p6 1
 simp only [List.getElem?_toArray, List.getElem?_cons_zero, List.getElem?_cons_succ] at e50 e51 e60 e61
 rw [← hw2]
 clear hw2 k2 p5 p6 RQ1 hbt
 clear c0 c13 c4 d5 e50 e51 e60 e61
 have c0 := RQ2.out.nd.facts.c0
 try simp only [Nat.zero_add] at c0
 rw [HQ.out] at c0
 go_wp2_with (refine cpLoad RQ2.out.nd rfl rfl rfl ?_)
 refine (refClass_any h (.slice (some ⟨kb, ko, none⟩) ks.len kc) w2).mono ?_
 rintro e w3 ⟨rfl, q3⟩
 rw [HCC.out]
 have RQ3 := Lib.hid (RQ2.out.kept q3 9)
 clear RQ2 q3
 clear c0
 have c12 := RQ3.out.nd.facts.c12
 try simp only [Nat.zero_add] at c12
 have KX0 := KW0.out.step RQ3.out.be
 have ND0 : Hid (NodeAt w3 kb (ko) h0 (.slice ka0 kl0 kc0)) := Lib.hid (by have := KX0.nd; rwa [show ko + 0 * 14 = ko by omega] at this)
 go_wp2_with (refine cpLoad ND0.out rfl rfl rfl ?_)
 refine ((KW0.out.kid.all IH.out).2 b Lx _ S _ _ w3 ka0 kl0 kc0 (Lib.hid RQ3.out.ly) RQ3.out.hb KX0.tv (KW0.out.kid.fits hfa.out) ⟨by omega, by omega⟩).mono ?_
 rintro e w4 ⟨rfl, cl4, s4, f4, b4⟩
 have RQ4 := Lib.hid (RQ3.out.go s4 f4 b4)
 clear RQ3 s4 f4 b4 KX0 ND0 
 rw [HA.out, ← HPA.out] at RQ4
 clear c12
 go_wp2_with fail
 refine (refPut_any 7 0 0 0 0 w4 (Lib.hid RQ4.out.ly) RQ4.out.hb (by have := HLA.out; omega)).mono ?_
 rintro e w5 ⟨rfl, cl5, s5, f5, b5⟩
 have RQ5 := Lib.hid (RQ4.out.go s5 f5 b5)
 clear RQ4 s5 f5 b5  
 have hcap := RQ5.out.tv.cap
 have hl3 := HL3.out
 have hl1c : (1 : Int) ≤ (ks.len : Int) := by omega
 have hkc1 : ¬ kc - 1 = 0 := by omega
 go_wp2_with fail
 refine (values1_any (h := h) IH.out 1 b Lx _ S (psA ++ [(⟨7, 0, 0, 0, 0, []⟩ : PI)]) A.2 w5 (Lib.hid RQ5.out.ly) RQ5.out.hb RQ5.out.tv hfa.out (by omega) HRA.out hkc).mono ?_
 rintro e w6 ⟨v, os, cl6, psj, csj, L, rfl, c6, pt, hL, hol, hrj⟩
 have RQ6 := Lib.hid (RQ5.out.go c6.ly c6.fr c6.be)
 have C6 : Hid (CoQ b Lx cl W cl6 S psj csj w6 v os) := Lib.hid ⟨c6.ly, RQ6.out.fr, RQ6.out.be, ⟨own_base c6.row.own RQ5.out.be.size, c6.row.cls⟩⟩
 obtain ⟨aS, kS, rfl, hS⟩ := c6.slice
 have PTE := Lib.hid pt
 have HLL := Lib.hid hL
 have hjb : psj.length ≤ 900000 := by have := hrj.1; omega
 have hzw := C6.out.be.size
 obtain ⟨pl, hpl⟩ : ∃ pl, pl = psA.length := ⟨_, rfl⟩
 rw [← hpl]
 have HPL := Lib.hid hpl
 clear RQ5 c6 hS pt hL hrj hpl hcap hl3 hl1c hkc1
 go_wp2_with (at_builtin; refine wpList_append_lies _ rfl _ _ 45 rfl W.heap.size 3 i0 _ 1 8 Tryz.underlying45 hi hz0 hz1 hz2 rfl (by decide) (.slice aS os.length kS) os.length (posV os) rfl (World.ownsRow.alloc C6.out.row.own _) ⟨w6.heap.size, 0, none⟩ 1 1 [.int .i64 (pl : Nat)] rfl rfl (World.news_of_block (heap_alloc_new w6 _)) (by simp [Value.oneCell']) (by decide) (by unfold maxLen; omega) (by omega) (by simp; omega) _ rfl ?_)
 intro g cap w7 hown hgrow hat _
 obtain ⟨c7, f7, b7⟩ := C6.out.push hb hown hgrow (hat.imp_right fun q => by rw [q]; simp)
 have R7 := Lib.hid (RQ6.out.push c7 f7 b7)
 obtain ⟨aT, kT, eT, hT⟩ := c7.slice
 have HT7 := Lib.hid hT
 simp only [Value.slice.injEq] at eT
 obtain ⟨rfl, -, rfl⟩ := eT
 clear hown hgrow hat C6 RQ6 hzw c7 f7 b7 hT
 have c12 := R7.out.nd.facts.c12
 simp only [Nat.zero_add] at c12
 have hlI : (psA ++ [(⟨7, 0, 0, 0, 0, []⟩ : PI)]).length = psA.length + 1 := by rw [List.length_append, List.length_singleton]
 have hPT : Pt (os ++ [psA.length]) psj (fun E => (psA ++ [⟨7, E, 0, 0, 0, []⟩]) ++ (valsF E 1 ((kcs ks).drop 1) (psA.length + 1) A.2).1) := ⟨fun i hi => by
  have hlt : psA.length < psj.length := by rw [← PTE.out.len 0, (HLL.out 0).1, List.length_append, hlI]; omega
  simp only [List.mem_append, List.mem_singleton] at hi
  rcases hi with hi | hi
  ·exact PTE.out.lt i hi
  ·rw [hi]; exact hlt, fun E => by
  rw [pats_snoc, PTE.out.eq, (HLL.out E).1, patA_app _ _ _ _ (by rw [hlI]; omega), patA_last, hlI]
  rfl⟩
 obtain ⟨hD1, hD2⟩ := area_done (x := ⟨op, ((ks.len - 1 : Nat) : Int), 0, 0, 0, []⟩) hPT fun E => ⟨rfl, by have := (HLL.out E).2; rw [hlI] at this; exact this⟩
 have HD1 := Lib.hid hD1; have HD2 := Lib.hid hD2
 have HPT := Lib.hid hPT
 have hnn : ((ks.len - 1 : Nat) : Int) = (ks.len : Int) - 1 := by have := HL3.out; omega
 have HNN := Lib.hid hnn
 rw [HPL.out] at HT7
 clear hlI hPT hD1 hD2 hnn
 obtain ⟨ox, hox⟩ : ∃ ox, ox = os ++ [psA.length] := ⟨_, rfl⟩
 rw [← hox] at HPT HD1 HT7
 have HOX : Hid (os.length + 1 = ox.length) := Lib.hid (by rw [hox, List.length_append, List.length_singleton])
 clear hox
 by_cases q53 : h.fn = 53
 ·have HOP : Hid (op = 19) := Lib.hid (by rw [hop, if_pos q53])
  rw [q53] at c12
  clear q53 hop h51'
  go_wp2_with fail
  rw [← HNN.out, ← HOP.out]
  refine (refPut_any op ((ks.len - 1 : Nat) : Int) 0 0 0 w7 (Lib.hid R7.out.ly) R7.out.hb (by omega)).mono ?_
  rintro e w8 ⟨rfl, cl8, s8, f8, b8⟩
  have R8 := Lib.hid (R7.out.go s8 f8 b8)
  have HT8 := Lib.hid (HT7.out.frm f8 p3_7 b8.size)
  clear R7 HT7 s8 f8 b8 c12
  go_wp2_with fail
  rw [HOX.out]
  refine (cpClose_any ox w8 (Lib.hid R8.out.ly) R8.out.hb (by rw [List.length_append, List.length_singleton]; omega) (by rw [← HOX.out]; omega) HT8.out (fun i hi => by have := HPT.out.lt i hi; rw [List.length_append]; omega)).mono ?_
  rintro e w9 ⟨rfl, cl9, s9, f9, b9⟩
  rw [HD1.out] at s9
  have L9 := Lib.hid (R8.out.go s9 f9 b9).toLd
  clear s9 f9 b9 R8
  rw [HD2.out] at L9
  go_wp2_with fail
  exact bodyPost_end (results_none rfl _ _ _) rfl ⟨rfl, by rw [HV.out, seqF, HA.out, ← HLA.out]; have q := L9.out; rw [HPA.out, List.append_assoc] at q; rw [HPA.out]; exact q⟩
 ·have HOP : Hid (op = 18) := Lib.hid (by rw [hop, if_neg q53])
  have q53' : (h.fn == 53) = false := by simpa using q53
  clear q53 hop h51'
  go_wp2_with fail
  rw [← HNN.out, ← HOP.out]
  refine (refPut_any op ((ks.len - 1 : Nat) : Int) 0 0 0 w7 (Lib.hid R7.out.ly) R7.out.hb (by omega)).mono ?_
  rintro e w8 ⟨rfl, cl8, s8, f8, b8⟩
  have R8 := Lib.hid (R7.out.go s8 f8 b8)
  have HT8 := Lib.hid (HT7.out.frm f8 p3_7 b8.size)
  clear R7 HT7 s8 f8 b8 c12
  go_wp2_with fail
  rw [HOX.out]
  refine (cpClose_any ox w8 (Lib.hid R8.out.ly) R8.out.hb (by rw [List.length_append, List.length_singleton]; omega) (by rw [← HOX.out]; omega) HT8.out (fun i hi => by have := HPT.out.lt i hi; rw [List.length_append]; omega)).mono ?_
  rintro e w9 ⟨rfl, cl9, s9, f9, b9⟩
  rw [HD1.out] at s9
  have L9 := Lib.hid (R8.out.go s9 f9 b9).toLd
  clear s9 f9 b9 R8
  rw [HD2.out] at L9
  go_wp2_with fail
  exact bodyPost_end (results_none rfl _ _ _) rfl ⟨rfl, by rw [HV.out, seqF, HA.out, ← HLA.out]; have q := L9.out; rw [HPA.out, List.append_assoc] at q; rw [HPA.out]; exact q⟩
end Go.Proofs.YtlmpiobdgkmmgaaGreatDoor
