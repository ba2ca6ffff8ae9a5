/- The document's compiler: IF, IFERROR, IFNA, SWITCH. -/
import Derived.Test.YtlmpiobdgkmmgaaGreatDoorKcQ
set_option maxRecDepth 1000000
set_option maxHeartbeats 16000000
namespace Go.Proofs.YtlmpiobdgkmmgaaGreatDoor
open Go.RowKit
theorem CoQ.drew {b Lx : Nat} {cl0 cl : Nat → Nat} {W0 W : World} {S : SX} {ps : List PI} {cs : List PV} {v : Value} {os : List Nat} (c : CoQ b Lx cl0 W0 cl S ps cs W v os) : CoQ b Lx cl0 W0 cl S ps cs W.drew v os := ⟨c.ly.drew, c.fr, c.be.drew, ⟨c.row.own, c.row.cls⟩⟩
def LazyR (h : Hd) (ks : Trees) : Prop := h.kind = 9 → clsOf h = 3 → RefC 103 (fun h ks => lazyF h (kcs ks)) h ks
theorem rlazyIf2_any {h : Hd} {ks : Trees} (ih : AllT VR ks) (hfn : h.fn = 42) (hlen : ks.len = 2) : LazyR h ks := by
 intro hk hc b Lx cl S ps cs W ka kl kc HL hb tv hf hr0
 have hr := hr0
 obtain ⟨hr1, hr2⟩ := hr
 have hfv : fitsV h ks.len = true ∧ allFits ks = true := by unfold treeFits at hf; simpa using hf
 have hfa := Lib.hid hfv.2
 obtain rfl : kl = ks.len := tv.len
 obtain ⟨kb, ko, h0, k0, r0, ka0, kl0, kc0, rfl, K0'⟩ := tv.kid 0 (by omega)
 have KW0 := Lib.hid K0'
 have hn0 := K0'.kid.nodes
 simp only [Nat.zero_add] at hn0
 rw [tdrop_nodes] at hn0
 have hnt0 := kid_nth K0'.kid
 clear K0'
 obtain ⟨kb', ko', h1, k1, r1, ka1, kl1, kc1, ea, K1'⟩ := tv.kid 1 (by omega)
 simp only [Option.some.injEq, Addr.mk.injEq, and_true] at ea
 obtain ⟨rfl, rfl⟩ := ea
 have KW1 := Lib.hid K1'
 have hn1 := K1'.kid.nodes
 simp only [Nat.reduceAdd] at hn1
 have hnt1 := kid_nth K1'.kid
 clear K1'
 obtain ⟨w1, hw1⟩ : ∃ w1, w1 = W.alloc (.cells #[.int .i64 h.kind, .int .i64 h.op, .int .i64 h.num, .string ⟨h.text.toArray⟩, .int .i64 h.ref.row, .int .i64 h.ref.col, .bool h.ref.pr, .bool h.ref.pc, .int .i64 h.to.row, .int .i64 h.to.col, .bool h.to.pr, .bool h.to.pc, .int .i64 h.fn, (.slice (some ⟨kb, ko, none⟩) ks.len kc)] 34) := ⟨_, rfl⟩
 have RQ1 : Hid (Rq b Lx W.heap.size h ks (some ⟨kb, ko, none⟩) ks.len kc cl W (upc cl W.heap.size 9) S ps cs w1) := Lib.hid (by rw [hw1]; exact Rq.start HL.out hb tv)
 have hx := fb_valT h0 k0 ps.length cs
 generalize hA : valT h0 k0 ps.length cs = A at hx
 have HA := Lib.hid hA
 obtain ⟨psA, hpsA⟩ : ∃ psA, psA = ps ++ A.1 := ⟨_, rfl⟩
 have hlA : psA.length = ps.length + A.1.length := by rw [hpsA, List.length_append]
 have HPA := Lib.hid hpsA; have HLA := Lib.hid hlA
 have IH := Lib.hid ih
 have HCC := Lib.hid hc; have HFN := Lib.hid hfn
 obtain ⟨i0, hi, hz0, hz1, hz2⟩ := info_parts infoIntC
 have hps8 : ps.length ≤ 900000 := by omega
 have HV0 : lazyF h (kcs ks) = seqF (nth (kcs ks) 0).v (ifF (kcs ks)) := by unfold lazyF; rw [if_pos hfn]
 have HE0 : elseF (kcs ks) = conF ⟨2, 0, []⟩ := by unfold elseF; rw [kcs_len, hlen, if_neg (by decide)]
 have HV1 : lazyF h (kcs ks) = seqF (valT h0 k0) (ifF (kcs ks)) := by rw [HV0, hnt0]
 have hx1 := fb_valT h1 k1 (psA ++ [(⟨8, 0, 0, 0, 0, []⟩ : PI)]).length A.2
 generalize hX : valT h1 k1 (psA ++ [(⟨8, 0, 0, 0, 0, []⟩ : PI)]).length A.2 = X at hx1
 have HX := Lib.hid hX
 obtain ⟨a1, ha1⟩ : ∃ a1 : Nat, a1 = psA.length + 1 + X.1.length + 1 := ⟨_, rfl⟩
 have hx2 := fb_con ⟨2, 0, []⟩ a1 X.2
 generalize hY : (conF ⟨2, 0, []⟩ : CF) a1 X.2 = Y at hx2
 have HY := Lib.hid hY
 have hlX : (psA ++ [(⟨8, 0, 0, 0, 0, []⟩ : PI)] ++ X.1).length = psA.length + 1 + X.1.length := by simp only [List.length_append, List.length_singleton]
 have hl1 : (psA ++ [(⟨8, 0, 0, 0, 0, []⟩ : PI)] ++ X.1 ++ [(⟨13, 0, 0, 0, 0, []⟩ : PI)]).length = a1 := by simp only [List.length_append, List.length_singleton]; omega
 have HLB := Lib.hid hl1; have HLX := Lib.hid hlX; have HA1 := Lib.hid ha1
 have HV : Hid (lazyF h (kcs ks) ps.length cs = (A.1 ++ (⟨8, (a1 : Nat), ((a1 + Y.1.length : Nat) : Int), 0, 0, []⟩ :: (X.1 ++ ⟨13, ((a1 + Y.1.length : Nat) : Int), 0, 0, 0, []⟩ :: Y.1)), Y.2)) := Lib.hid (by
  rw [HV1, seqF, HA.out]
  have e1 : psA.length + 1 = (psA ++ [(⟨8, 0, 0, 0, 0, []⟩ : PI)]).length := by rw [List.length_append, List.length_singleton]
  simp only [ifF, HE0, hnt1]
  rw [← hlA, e1, hX]
  have e2 : (psA ++ [(⟨8, 0, 0, 0, 0, []⟩ : PI)]).length + X.1.length + 1 = a1 := by rw [← e1]; omega
  rw [e2, hY])
 have hl20 : (0 : Int) < (ks.len : Int) := by omega
 have hl21 : (1 : Int) < (ks.len : Int) := by omega
 have hl23 : ((ks.len : Int) == 3) = false := by rw [hlen]; rfl
 have HL23 := Lib.hid hl23
 clear hk hc ih hfn HV0 HV1 HE0 hnt0 hnt1 hA hX hY hpsA hlA hlX hl1 ha1 hlen hl23
 go_enter Tryz.func103, Tryz.ntmps103
 go_upto_region 1 with (fail)
 rw [← hw1]
 clear hw1
 generalize W.heap.size = Bt at RQ1 ⊢
 have c13 := RQ1.out.nd.facts.c13
 try simp only [Nat.zero_add] at c13
 have KX0 := KW0.out.step RQ1.out.be
 have ND0 : Hid (NodeAt w1 kb (ko) h0 (.slice ka0 kl0 kc0)) := Lib.hid (by have := KX0.nd; rwa [show ko + 0 * 14 = ko by omega] at this)
 go_wp2_with (refine cpLoad ND0.out rfl rfl rfl ?_)
 refine ((KW0.out.kid.all IH.out).1 b Lx _ S _ _ w1 ka0 kl0 kc0 (Lib.hid RQ1.out.ly) RQ1.out.hb KX0.tv (KW0.out.kid.fits hfa.out) ⟨by omega, by omega⟩).mono ?_
 rintro e w2 ⟨rfl, cl2, s2, f2, b2⟩
 have RQ2 := Lib.hid (RQ1.out.go s2 f2 b2)
 clear RQ1 s2 f2 b2 KX0 ND0 
 rw [HA.out, ← HPA.out] at RQ2
 have C2 := Lib.hid (CoQ.of RQ2.out)
 clear c13
 have c12 := RQ2.out.nd.facts.c12
 try simp only [Nat.zero_add] at c12
 rw [HFN.out] at c12
 go_wp2_with fail
 refine (refPut_any 8 0 0 0 0 w2 (Lib.hid RQ2.out.ly) RQ2.out.hb (by have := HLA.out; omega)).mono ?_
 rintro e w3 ⟨rfl, cl3, s3, f3, b3⟩
 have RQ3 := Lib.hid (RQ2.out.go s3 f3 b3)
 have C3 := Lib.hid (C2.out.go s3 f3 b3)
 clear RQ2 s3 f3 b3 c12 C2
 have KX1 := KW1.out.step RQ3.out.be
 have ND1 : Hid (NodeAt w3 kb (ko + 14) h1 (.slice ka1 kl1 kc1)) := Lib.hid (by have := KX1.nd; rwa [show ko + 1 * 14 = ko + 14 by omega] at this)
 go_wp2_with (refine cpLoad ND1.out rfl rfl rfl ?_)
 refine ((KW1.out.kid.all IH.out).1 b Lx _ S _ _ w3 ka1 kl1 kc1 (Lib.hid RQ3.out.ly) RQ3.out.hb KX1.tv (KW1.out.kid.fits hfa.out) ⟨by have := HLA.out; rw [List.length_append, List.length_singleton]; omega, by omega⟩).mono ?_
 rintro e w4 ⟨rfl, cl4, s4, f4, b4⟩
 have RQ4 := Lib.hid (RQ3.out.go s4 f4 b4)
 have C4 := Lib.hid (C3.out.go s4 f4 b4)
 clear RQ3 s4 f4 b4 KX1 ND1 C3
 rw [HX.out] at RQ4 C4
 obtain ⟨P4, hP4⟩ : ∃ P4, P4 = psA ++ [(⟨8, 0, 0, 0, 0, []⟩ : PI)] ++ X.1 := ⟨_, rfl⟩
 have hPl : P4.length = psA.length + 1 + X.1.length := by rw [hP4]; exact HLX.out
 rw [← hP4] at RQ4 C4
 have HP4 := Lib.hid hP4; have HPl := Lib.hid hPl
 clear hP4 hPl
 go_wp2_with fail
 refine (refPut_any 13 0 0 0 0 w4 (Lib.hid RQ4.out.ly) RQ4.out.hb (by have := HPl.out; have := HLA.out; omega)).mono ?_
 rintro e w5 ⟨rfl, cl5, s5, f5, b5⟩
 have RQ5 := Lib.hid (RQ4.out.go s5 f5 b5)
 have C5 := Lib.hid (C4.out.go s5 f5 b5)
 clear RQ4 s5 f5 b5  C4
 obtain ⟨pl, hpl⟩ : ∃ pl, pl = P4.length := ⟨_, rfl⟩
 rw [← hpl]
 have HPL := Lib.hid hpl
 clear hpl
 obtain ⟨os0, hos0⟩ : ∃ os0 : List Nat, os0 = [] := ⟨_, rfl⟩
 rw [← hos0] at C5
 have HOS0 := Lib.hid hos0
 have hol0 : os0.length ≤ 3 := by rw [hos0]; simp
 clear hos0
 have hzw := C5.out.be.size
 go_wp2_with (at_builtin; refine wpList_append_lies _ rfl _ _ 45 rfl W.heap.size 3 i0 _ 1 8 Tryz.underlying45 hi hz0 hz1 hz2 rfl (by decide) (.slice none 0 0) os0.length (posV os0) rfl (World.ownsRow.alloc C5.out.row.own _) ⟨w5.heap.size, 0, none⟩ 1 1 [.int .i64 (pl : Nat)] rfl rfl (World.news_of_block (heap_alloc_new w5 _)) (by simp [Value.oneCell']) (by decide) (by unfold maxLen; omega) (by omega) (by simp; omega) _ rfl ?_)
 intro g6 cap6 w6 hown hgrow hat _
 obtain ⟨c6, f6, b6⟩ := C5.out.push hb hown hgrow (hat.imp_right fun q => by rw [q]; simp)
 have RQ6 := Lib.hid (RQ5.out.push c6 f6 b6)
 have C6 := Lib.hid c6
 clear hown hgrow hat C5 RQ5 hzw c6 f6 b6
 obtain ⟨L6, hL6⟩ : ∃ L, L = P4 ++ [(⟨13, 0, 0, 0, 0, []⟩ : PI)] := ⟨_, rfl⟩
 rw [← hL6] at RQ6 C6
 have HL6 := Lib.hid hL6
 have hN6 : L6.length = a1 := by rw [HL6.out, HP4.out]; exact HLB.out
 have HN6 := Lib.hid hN6
 clear hL6 hN6
 have RD6 := Lib.hid RQ6.out.drew
 have CD6 := Lib.hid C6.out.drew
 obtain ⟨g7, cap7, v7, x0, x3, y3, l3⟩ := RD6.out.ly.pat (i := psA.length) (by rw [HN6.out]; have := HA1.out; omega) RD6.out.hb (L6.length : Int)
 have x0' : w6.cell? ⟨Lx, 0, none⟩ = some (.slice (some ⟨g7, 0, none⟩) L6.length cap7) := x0
 have L3 := Lib.hid l3
 have hli : ((psA.length : Nat) : Int) < ((L6.length : Nat) : Int) := Int.ofNat_lt.2 (by rw [HN6.out]; have := HA1.out; omega)
 clear RQ6 C6 x0 l3
 go_upto_region 23 with (fail)
 go_still_tail 12, (by kernel_rfl)
 change wpList _ _ _ _ _ w6.drew
 generalize w6.drew = wd at RD6 CD6 x3 y3 L3 ⊢
 go_upto_region 24 with (fail)
 obtain ⟨cl7, s3, f4, b3⟩ := L3.out
 generalize World.setCell wd _ _ = w7 at s3 f4 b3 ⊢
 have RQ7 := Lib.hid (RD6.out.go s3 f4 b3)
 have C7 := Lib.hid (CD6.out.go s3 f4 b3)
 clear RD6 CD6 L3 s3 f4 b3 x0' x3 y3 hli
 obtain ⟨L7, hL7⟩ : ∃ L, L = patA L6 psA.length (L6.length : Int) := ⟨_, rfl⟩
 rw [← hL7] at RQ7 C7
 have HL7 := Lib.hid hL7
 have hN7 : L7.length = a1 := by rw [HL7.out, patA_len]; exact HN6.out
 have HN7 := Lib.hid hN7
 clear hL7 hN7
 have hl23 := HL23.out
 go_wp2_with fail
 refine (refCon_any 2 0 [] w7 (Lib.hid RQ7.out.ly) RQ7.out.hb (by have := HA1.out; have := HLA.out; rw [HN7.out]; omega) (by omega)).mono ?_
 rintro e w8 ⟨rfl, cl8, s8, f8, b8⟩
 have RQ8 := Lib.hid (RQ7.out.go s8 f8 b8)
 have C8 := Lib.hid (C7.out.go s8 f8 b8)
 clear RQ7 s8 f8 b8  C7
 have RQ8 : Hid (Rq b Lx Bt h ks (some ⟨kb, ko, none⟩) ks.len kc cl W cl8 S (L7 ++ Y.1) Y.2 w8) := by rw [← HY.out]; exact RQ8
 have C8 := Lib.hid (show CoQ b Lx cl W cl8 S (L7 ++ (conF ⟨2, 0, []⟩ a1 X.2).1) (conF ⟨2, 0, []⟩ a1 X.2).2 w8 (.slice (some ⟨g6, 0, none⟩) (os0.length + 1) cap6) (os0 ++ [pl]) from C8.out)
 rw [HY.out] at C8
 obtain ⟨L8, hL8⟩ : ∃ L, L = L7 ++ Y.1 := ⟨_, rfl⟩
 rw [← hL8] at RQ8 C8
 have HL8 := Lib.hid hL8
 have hN8 : L8.length = a1 + Y.1.length := by rw [HL8.out, List.length_append, HN7.out]
 have HN8 := Lib.hid hN8
 clear hL8 hN8
 clear hl23
 go_upto_region 27 with (fail)
 have RD8 := Lib.hid RQ8.out.drew
 have CD8 := Lib.hid C8.out.drew
 obtain ⟨g9, cap9, v9, x0, x3, y3, l3⟩ := RD8.out.ly.pat2 (i := psA.length) (by rw [HN8.out]; have := HA1.out; omega) RD8.out.hb (L8.length : Int)
 have x0' : w8.cell? ⟨Lx, 0, none⟩ = some (.slice (some ⟨g9, 0, none⟩) L8.length cap9) := x0
 have L3 := Lib.hid l3
 have hli : ((psA.length : Nat) : Int) < ((L8.length : Nat) : Int) := Int.ofNat_lt.2 (by rw [HN8.out]; have := HA1.out; omega)
 clear RQ8 C8 x0 l3
 go_upto_region 27 with (fail)
 go_still_tail 12, (by kernel_rfl)
 change wpList _ _ _ _ _ w8.drew
 generalize w8.drew = wd at RD8 CD8 x3 y3 L3 ⊢
 go_upto_region 45 with (fail)
 obtain ⟨cl9, s3, f4, b3⟩ := L3.out
 generalize World.setCell wd _ _ = w9 at s3 f4 b3 ⊢
 have RQ9 := Lib.hid (RD8.out.go s3 f4 b3)
 have C9 := Lib.hid (CD8.out.go s3 f4 b3)
 clear RD8 CD8 L3 s3 f4 b3 x0' x3 y3 hli
 obtain ⟨L9, hL9⟩ : ∃ L, L = patB L8 psA.length (L8.length : Int) := ⟨_, rfl⟩
 rw [← hL9] at RQ9 C9
 have HL9 := Lib.hid hL9
 have hN9 : L9.length = a1 + Y.1.length := by rw [HL9.out, patB_len]; exact HN8.out
 have HN9 := Lib.hid hN9
 clear hL9 hN9
 obtain ⟨aS, kS, eS, hS⟩ := C9.out.slice
 simp only [Value.slice.injEq] at eS
 obtain ⟨rfl, -, rfl⟩ := eS
 have HS := Lib.hid hS
 clear hS
 go_wp2_with fail
 have hox : os0.length + 1 = (os0 ++ [pl]).length := by rw [List.length_append, List.length_singleton]
 obtain ⟨ox, hoxe⟩ : ∃ ox, ox = os0 ++ [pl] := ⟨_, rfl⟩
 rw [← hoxe] at hox HS
 have hoxp : ox = [P4.length] := by rw [hoxe, HOS0.out, HPL.out]; rfl
 rw [hox]
 have hoxl : ox.length ≤ 3 := by rw [hoxp]; simp
 have HOXP := Lib.hid hoxp
 clear hox hoxe hoxp hol0
 refine (cpClose_any ox w9 (Lib.hid RQ9.out.ly) RQ9.out.hb (by have := HA1.out; have := HLA.out; rw [HN9.out]; omega) (by omega) HS.out (fun i hi => by rw [HOXP.out, List.mem_singleton] at hi; rw [hi, HN9.out, HPl.out]; have := HA1.out; omega)).mono ?_
 rintro e w10 ⟨rfl, cl10, s10, f10, b10⟩
 have L10 := Lib.hid (RQ9.out.go s10 f10 b10).toLd
 clear RQ9 C9 s10 f10 b10
 go_wp2_with fail
 have q : Ld b cl S Lx 59 [] W (ps ++ (lazyF h (kcs ks) ps.length cs).1) (lazyF h (kcs ks) ps.length cs).2 w10 := by
  have q := L10.out
  rw [HOXP.out, show pats [P4.length] (L9.length : Int) L9 = patA L9 P4.length (L9.length : Int) from rfl, HN9.out, HL9.out, HN8.out, HL8.out, HL7.out, HN6.out, HL6.out, HP4.out, if_done] at q
  rw [HV.out]
  rw [HPA.out, List.append_assoc] at q
  exact q
 exact bodyPost_end (results_none rfl _ _ _) rfl ⟨rfl, q⟩
theorem rlazyIf3_any {h : Hd} {ks : Trees} (ih : AllT VR ks) (hfn : h.fn = 42) (hlen : ks.len = 3) : LazyR h ks := by
 intro hk hc b Lx cl S ps cs W ka kl kc HL hb tv hf hr0
 have hr := hr0
 obtain ⟨hr1, hr2⟩ := hr
 have hfv : fitsV h ks.len = true ∧ allFits ks = true := by unfold treeFits at hf; simpa using hf
 have hfa := Lib.hid hfv.2
 obtain rfl : kl = ks.len := tv.len
 obtain ⟨kb, ko, h0, k0, r0, ka0, kl0, kc0, rfl, K0'⟩ := tv.kid 0 (by omega)
 have KW0 := Lib.hid K0'
 have hn0 := K0'.kid.nodes
 simp only [Nat.zero_add] at hn0
 rw [tdrop_nodes] at hn0
 have hnt0 := kid_nth K0'.kid
 clear K0'
 obtain ⟨kb', ko', h1, k1, r1, ka1, kl1, kc1, ea, K1'⟩ := tv.kid 1 (by omega)
 simp only [Option.some.injEq, Addr.mk.injEq, and_true] at ea
 obtain ⟨rfl, rfl⟩ := ea
 have KW1 := Lib.hid K1'
 have hn1 := K1'.kid.nodes
 simp only [Nat.reduceAdd] at hn1
 have hnt1 := kid_nth K1'.kid
 clear K1'
 obtain ⟨kb', ko', h2, k2, r2, ka2, kl2, kc2, ea, K2'⟩ := tv.kid 2 (by omega)
 simp only [Option.some.injEq, Addr.mk.injEq, and_true] at ea
 obtain ⟨rfl, rfl⟩ := ea
 have KW2 := Lib.hid K2'
 have hn2 := K2'.kid.nodes
 simp only [Nat.reduceAdd] at hn2
 have hnt2 := kid_nth K2'.kid
 clear K2'
 obtain ⟨w1, hw1⟩ : ∃ w1, w1 = W.alloc (.cells #[.int .i64 h.kind, .int .i64 h.op, .int .i64 h.num, .string ⟨h.text.toArray⟩, .int .i64 h.ref.row, .int .i64 h.ref.col, .bool h.ref.pr, .bool h.ref.pc, .int .i64 h.to.row, .int .i64 h.to.col, .bool h.to.pr, .bool h.to.pc, .int .i64 h.fn, (.slice (some ⟨kb, ko, none⟩) ks.len kc)] 34) := ⟨_, rfl⟩
 have RQ1 : Hid (Rq b Lx W.heap.size h ks (some ⟨kb, ko, none⟩) ks.len kc cl W (upc cl W.heap.size 9) S ps cs w1) := Lib.hid (by rw [hw1]; exact Rq.start HL.out hb tv)
 have hx := fb_valT h0 k0 ps.length cs
 generalize hA : valT h0 k0 ps.length cs = A at hx
 have HA := Lib.hid hA
 obtain ⟨psA, hpsA⟩ : ∃ psA, psA = ps ++ A.1 := ⟨_, rfl⟩
 have hlA : psA.length = ps.length + A.1.length := by rw [hpsA, List.length_append]
 have HPA := Lib.hid hpsA; have HLA := Lib.hid hlA
 have IH := Lib.hid ih
 have HCC := Lib.hid hc; have HFN := Lib.hid hfn
 obtain ⟨i0, hi, hz0, hz1, hz2⟩ := info_parts infoIntC
 have hps8 : ps.length ≤ 900000 := by omega
 have HV0 : lazyF h (kcs ks) = seqF (nth (kcs ks) 0).v (ifF (kcs ks)) := by unfold lazyF; rw [if_pos hfn]
 have HE0 : elseF (kcs ks) = valT h2 k2 := by unfold elseF; rw [kcs_len, hlen, if_pos rfl, hnt2]
 have HV1 : lazyF h (kcs ks) = seqF (valT h0 k0) (ifF (kcs ks)) := by rw [HV0, hnt0]
 have hx1 := fb_valT h1 k1 (psA ++ [(⟨8, 0, 0, 0, 0, []⟩ : PI)]).length A.2
 generalize hX : valT h1 k1 (psA ++ [(⟨8, 0, 0, 0, 0, []⟩ : PI)]).length A.2 = X at hx1
 have HX := Lib.hid hX
 obtain ⟨a1, ha1⟩ : ∃ a1 : Nat, a1 = psA.length + 1 + X.1.length + 1 := ⟨_, rfl⟩
 have hx2 := fb_valT h2 k2 a1 X.2
 generalize hY : (valT h2 k2 : CF) a1 X.2 = Y at hx2
 have HY := Lib.hid hY
 have hlX : (psA ++ [(⟨8, 0, 0, 0, 0, []⟩ : PI)] ++ X.1).length = psA.length + 1 + X.1.length := by simp only [List.length_append, List.length_singleton]
 have hl1 : (psA ++ [(⟨8, 0, 0, 0, 0, []⟩ : PI)] ++ X.1 ++ [(⟨13, 0, 0, 0, 0, []⟩ : PI)]).length = a1 := by simp only [List.length_append, List.length_singleton]; omega
 have HLB := Lib.hid hl1; have HLX := Lib.hid hlX; have HA1 := Lib.hid ha1
 have HV : Hid (lazyF h (kcs ks) ps.length cs = (A.1 ++ (⟨8, (a1 : Nat), ((a1 + Y.1.length : Nat) : Int), 0, 0, []⟩ :: (X.1 ++ ⟨13, ((a1 + Y.1.length : Nat) : Int), 0, 0, 0, []⟩ :: Y.1)), Y.2)) := Lib.hid (by
  rw [HV1, seqF, HA.out]
  have e1 : psA.length + 1 = (psA ++ [(⟨8, 0, 0, 0, 0, []⟩ : PI)]).length := by rw [List.length_append, List.length_singleton]
  simp only [ifF, HE0, hnt1]
  rw [← hlA, e1, hX]
  have e2 : (psA ++ [(⟨8, 0, 0, 0, 0, []⟩ : PI)]).length + X.1.length + 1 = a1 := by rw [← e1]; omega
  rw [e2, hY])
 have hl20 : (0 : Int) < (ks.len : Int) := by omega
 have hl21 : (1 : Int) < (ks.len : Int) := by omega
 have hl22 : (2 : Int) < (ks.len : Int) := by omega
 have hl23 : (ks.len : Int) = 3 := by omega
 have HL23 := Lib.hid hl23
 clear hk hc ih hfn HV0 HV1 HE0 hnt0 hnt1 hnt2 hA hX hY hpsA hlA hlX hl1 ha1 hlen hl23
 go_enter Tryz.func103, Tryz.ntmps103
 go_upto_region 1 with (fail)
 rw [← hw1]
 clear hw1
 generalize W.heap.size = Bt at RQ1 ⊢
 have c13 := RQ1.out.nd.facts.c13
 try simp only [Nat.zero_add] at c13
 have KX0 := KW0.out.step RQ1.out.be
 have ND0 : Hid (NodeAt w1 kb (ko) h0 (.slice ka0 kl0 kc0)) := Lib.hid (by have := KX0.nd; rwa [show ko + 0 * 14 = ko by omega] at this)
 go_wp2_with (refine cpLoad ND0.out rfl rfl rfl ?_)
 refine ((KW0.out.kid.all IH.out).1 b Lx _ S _ _ w1 ka0 kl0 kc0 (Lib.hid RQ1.out.ly) RQ1.out.hb KX0.tv (KW0.out.kid.fits hfa.out) ⟨by omega, by omega⟩).mono ?_
 rintro e w2 ⟨rfl, cl2, s2, f2, b2⟩
 have RQ2 := Lib.hid (RQ1.out.go s2 f2 b2)
 clear RQ1 s2 f2 b2 KX0 ND0 
 rw [HA.out, ← HPA.out] at RQ2
 have C2 := Lib.hid (CoQ.of RQ2.out)
 clear c13
 have c12 := RQ2.out.nd.facts.c12
 try simp only [Nat.zero_add] at c12
 rw [HFN.out] at c12
 go_wp2_with fail
 refine (refPut_any 8 0 0 0 0 w2 (Lib.hid RQ2.out.ly) RQ2.out.hb (by have := HLA.out; omega)).mono ?_
 rintro e w3 ⟨rfl, cl3, s3, f3, b3⟩
 have RQ3 := Lib.hid (RQ2.out.go s3 f3 b3)
 have C3 := Lib.hid (C2.out.go s3 f3 b3)
 clear RQ2 s3 f3 b3 c12 C2
 have KX1 := KW1.out.step RQ3.out.be
 have ND1 : Hid (NodeAt w3 kb (ko + 14) h1 (.slice ka1 kl1 kc1)) := Lib.hid (by have := KX1.nd; rwa [show ko + 1 * 14 = ko + 14 by omega] at this)
 go_wp2_with (refine cpLoad ND1.out rfl rfl rfl ?_)
 refine ((KW1.out.kid.all IH.out).1 b Lx _ S _ _ w3 ka1 kl1 kc1 (Lib.hid RQ3.out.ly) RQ3.out.hb KX1.tv (KW1.out.kid.fits hfa.out) ⟨by have := HLA.out; rw [List.length_append, List.length_singleton]; omega, by omega⟩).mono ?_
 rintro e w4 ⟨rfl, cl4, s4, f4, b4⟩
 have RQ4 := Lib.hid (RQ3.out.go s4 f4 b4)
 have C4 := Lib.hid (C3.out.go s4 f4 b4)
 clear RQ3 s4 f4 b4 KX1 ND1 C3
 rw [HX.out] at RQ4 C4
 obtain ⟨P4, hP4⟩ : ∃ P4, P4 = psA ++ [(⟨8, 0, 0, 0, 0, []⟩ : PI)] ++ X.1 := ⟨_, rfl⟩
 have hPl : P4.length = psA.length + 1 + X.1.length := by rw [hP4]; exact HLX.out
 rw [← hP4] at RQ4 C4
 have HP4 := Lib.hid hP4; have HPl := Lib.hid hPl
 clear hP4 hPl
 go_wp2_with fail
 refine (refPut_any 13 0 0 0 0 w4 (Lib.hid RQ4.out.ly) RQ4.out.hb (by have := HPl.out; have := HLA.out; omega)).mono ?_
 rintro e w5 ⟨rfl, cl5, s5, f5, b5⟩
 have RQ5 := Lib.hid (RQ4.out.go s5 f5 b5)
 have C5 := Lib.hid (C4.out.go s5 f5 b5)
 clear RQ4 s5 f5 b5  C4
 obtain ⟨pl, hpl⟩ : ∃ pl, pl = P4.length := ⟨_, rfl⟩
 rw [← hpl]
 have HPL := Lib.hid hpl
 clear hpl
 obtain ⟨os0, hos0⟩ : ∃ os0 : List Nat, os0 = [] := ⟨_, rfl⟩
 rw [← hos0] at C5
 have HOS0 := Lib.hid hos0
 have hol0 : os0.length ≤ 3 := by rw [hos0]; simp
 clear hos0
 have hzw := C5.out.be.size
 go_wp2_with (at_builtin; refine wpList_append_lies _ rfl _ _ 45 rfl W.heap.size 3 i0 _ 1 8 Tryz.underlying45 hi hz0 hz1 hz2 rfl (by decide) (.slice none 0 0) os0.length (posV os0) rfl (World.ownsRow.alloc C5.out.row.own _) ⟨w5.heap.size, 0, none⟩ 1 1 [.int .i64 (pl : Nat)] rfl rfl (World.news_of_block (heap_alloc_new w5 _)) (by simp [Value.oneCell']) (by decide) (by unfold maxLen; omega) (by omega) (by simp; omega) _ rfl ?_)
 intro g6 cap6 w6 hown hgrow hat _
 obtain ⟨c6, f6, b6⟩ := C5.out.push hb hown hgrow (hat.imp_right fun q => by rw [q]; simp)
 have RQ6 := Lib.hid (RQ5.out.push c6 f6 b6)
 have C6 := Lib.hid c6
 clear hown hgrow hat C5 RQ5 hzw c6 f6 b6
 obtain ⟨L6, hL6⟩ : ∃ L, L = P4 ++ [(⟨13, 0, 0, 0, 0, []⟩ : PI)] := ⟨_, rfl⟩
 rw [← hL6] at RQ6 C6
 have HL6 := Lib.hid hL6
 have hN6 : L6.length = a1 := by rw [HL6.out, HP4.out]; exact HLB.out
 have HN6 := Lib.hid hN6
 clear hL6 hN6
 have RD6 := Lib.hid RQ6.out.drew
 have CD6 := Lib.hid C6.out.drew
 obtain ⟨g7, cap7, v7, x0, x3, y3, l3⟩ := RD6.out.ly.pat (i := psA.length) (by rw [HN6.out]; have := HA1.out; omega) RD6.out.hb (L6.length : Int)
 have x0' : w6.cell? ⟨Lx, 0, none⟩ = some (.slice (some ⟨g7, 0, none⟩) L6.length cap7) := x0
 have L3 := Lib.hid l3
 have hli : ((psA.length : Nat) : Int) < ((L6.length : Nat) : Int) := Int.ofNat_lt.2 (by rw [HN6.out]; have := HA1.out; omega)
 clear RQ6 C6 x0 l3
 go_upto_region 23 with (fail)
 go_still_tail 12, (by kernel_rfl)
 change wpList _ _ _ _ _ w6.drew
 generalize w6.drew = wd at RD6 CD6 x3 y3 L3 ⊢
 go_upto_region 24 with (fail)
 obtain ⟨cl7, s3, f4, b3⟩ := L3.out
 generalize World.setCell wd _ _ = w7 at s3 f4 b3 ⊢
 have RQ7 := Lib.hid (RD6.out.go s3 f4 b3)
 have C7 := Lib.hid (CD6.out.go s3 f4 b3)
 clear RD6 CD6 L3 s3 f4 b3 x0' x3 y3 hli
 obtain ⟨L7, hL7⟩ : ∃ L, L = patA L6 psA.length (L6.length : Int) := ⟨_, rfl⟩
 rw [← hL7] at RQ7 C7
 have HL7 := Lib.hid hL7
 have hN7 : L7.length = a1 := by rw [HL7.out, patA_len]; exact HN6.out
 have HN7 := Lib.hid hN7
 clear hL7 hN7
 have hl23 := HL23.out
 have KX2 := KW2.out.step RQ7.out.be
 have ND2 : Hid (NodeAt w7 kb (ko + 28) h2 (.slice ka2 kl2 kc2)) := Lib.hid (by have := KX2.nd; rwa [show ko + 2 * 14 = ko + 28 by omega] at this)
 go_wp2_with (refine cpLoad ND2.out rfl rfl rfl ?_)
 refine ((KW2.out.kid.all IH.out).1 b Lx _ S _ _ w7 ka2 kl2 kc2 (Lib.hid RQ7.out.ly) RQ7.out.hb KX2.tv (KW2.out.kid.fits hfa.out) ⟨by have := HA1.out; have := HLA.out; rw [HN7.out]; omega, by omega⟩).mono ?_
 rintro e w8 ⟨rfl, cl8, s8, f8, b8⟩
 have RQ8 := Lib.hid (RQ7.out.go s8 f8 b8)
 have C8 := Lib.hid (C7.out.go s8 f8 b8)
 clear RQ7 s8 f8 b8 KX2 ND2 C7
 rw [HN7.out, HY.out] at RQ8 C8
 obtain ⟨L8, hL8⟩ : ∃ L, L = L7 ++ Y.1 := ⟨_, rfl⟩
 rw [← hL8] at RQ8 C8
 have HL8 := Lib.hid hL8
 have hN8 : L8.length = a1 + Y.1.length := by rw [HL8.out, List.length_append, HN7.out]
 have HN8 := Lib.hid hN8
 clear hL8 hN8
 clear hl23
 go_upto_region 27 with (fail)
 have RD8 := Lib.hid RQ8.out.drew
 have CD8 := Lib.hid C8.out.drew
 obtain ⟨g9, cap9, v9, x0, x3, y3, l3⟩ := RD8.out.ly.pat2 (i := psA.length) (by rw [HN8.out]; have := HA1.out; omega) RD8.out.hb (L8.length : Int)
 have x0' : w8.cell? ⟨Lx, 0, none⟩ = some (.slice (some ⟨g9, 0, none⟩) L8.length cap9) := x0
 have L3 := Lib.hid l3
 have hli : ((psA.length : Nat) : Int) < ((L8.length : Nat) : Int) := Int.ofNat_lt.2 (by rw [HN8.out]; have := HA1.out; omega)
 clear RQ8 C8 x0 l3
 go_upto_region 27 with (fail)
 go_still_tail 12, (by kernel_rfl)
 change wpList _ _ _ _ _ w8.drew
 generalize w8.drew = wd at RD8 CD8 x3 y3 L3 ⊢
 go_upto_region 45 with (fail)
 obtain ⟨cl9, s3, f4, b3⟩ := L3.out
 generalize World.setCell wd _ _ = w9 at s3 f4 b3 ⊢
 have RQ9 := Lib.hid (RD8.out.go s3 f4 b3)
 have C9 := Lib.hid (CD8.out.go s3 f4 b3)
 clear RD8 CD8 L3 s3 f4 b3 x0' x3 y3 hli
 obtain ⟨L9, hL9⟩ : ∃ L, L = patB L8 psA.length (L8.length : Int) := ⟨_, rfl⟩
 rw [← hL9] at RQ9 C9
 have HL9 := Lib.hid hL9
 have hN9 : L9.length = a1 + Y.1.length := by rw [HL9.out, patB_len]; exact HN8.out
 have HN9 := Lib.hid hN9
 clear hL9 hN9
 obtain ⟨aS, kS, eS, hS⟩ := C9.out.slice
 simp only [Value.slice.injEq] at eS
 obtain ⟨rfl, -, rfl⟩ := eS
 have HS := Lib.hid hS
 clear hS
 go_wp2_with fail
 have hox : os0.length + 1 = (os0 ++ [pl]).length := by rw [List.length_append, List.length_singleton]
 obtain ⟨ox, hoxe⟩ : ∃ ox, ox = os0 ++ [pl] := ⟨_, rfl⟩
 rw [← hoxe] at hox HS
 have hoxp : ox = [P4.length] := by rw [hoxe, HOS0.out, HPL.out]; rfl
 rw [hox]
 have hoxl : ox.length ≤ 3 := by rw [hoxp]; simp
 have HOXP := Lib.hid hoxp
 clear hox hoxe hoxp hol0
 refine (cpClose_any ox w9 (Lib.hid RQ9.out.ly) RQ9.out.hb (by have := HA1.out; have := HLA.out; rw [HN9.out]; omega) (by omega) HS.out (fun i hi => by rw [HOXP.out, List.mem_singleton] at hi; rw [hi, HN9.out, HPl.out]; have := HA1.out; omega)).mono ?_
 rintro e w10 ⟨rfl, cl10, s10, f10, b10⟩
 have L10 := Lib.hid (RQ9.out.go s10 f10 b10).toLd
 clear RQ9 C9 s10 f10 b10
 go_wp2_with fail
 have q : Ld b cl S Lx 59 [] W (ps ++ (lazyF h (kcs ks) ps.length cs).1) (lazyF h (kcs ks) ps.length cs).2 w10 := by
  have q := L10.out
  rw [HOXP.out, show pats [P4.length] (L9.length : Int) L9 = patA L9 P4.length (L9.length : Int) from rfl, HN9.out, HL9.out, HN8.out, HL8.out, HL7.out, HN6.out, HL6.out, HP4.out, if_done] at q
  rw [HV.out]
  rw [HPA.out, List.append_assoc] at q
  exact q
 exact bodyPost_end (results_none rfl _ _ _) rfl ⟨rfl, q⟩
end Go.Proofs.YtlmpiobdgkmmgaaGreatDoor
namespace Go.Proofs.YtlmpiobdgkmmgaaGreatDoor
open Go.RowKit
theorem rlazyErr43_any {h : Hd} {ks : Trees} (ih : AllT VR ks) (hfn : h.fn = 43) (hlen : ks.len = 2) : LazyR h ks := by
 intro hk hc b Lx cl S ps cs W ka kl kc HL hb tv hf hr0
 have hr := hr0
 obtain ⟨hr1, hr2⟩ := hr
 have hfv : fitsV h ks.len = true ∧ allFits ks = true := by unfold treeFits at hf; simpa using hf
 have hfa := Lib.hid hfv.2
 obtain rfl : kl = ks.len := tv.len
 obtain ⟨kb, ko, h0, k0, r0, ka0, kl0, kc0, rfl, K0'⟩ := tv.kid 0 (by omega)
 have KW0 := Lib.hid K0'
 have hn0 := K0'.kid.nodes
 simp only [Nat.zero_add] at hn0
 rw [tdrop_nodes] at hn0
 have hnt0 := kid_nth K0'.kid
 clear K0'
 obtain ⟨kb', ko', h1, k1, r1, ka1, kl1, kc1, ea, K1'⟩ := tv.kid 1 (by omega)
 simp only [Option.some.injEq, Addr.mk.injEq, and_true] at ea
 obtain ⟨rfl, rfl⟩ := ea
 have KW1 := Lib.hid K1'
 have hn1 := K1'.kid.nodes
 simp only [Nat.reduceAdd] at hn1
 have hnt1 := kid_nth K1'.kid
 clear K1'
 obtain ⟨w1, hw1⟩ : ∃ w1, w1 = W.alloc (.cells #[.int .i64 h.kind, .int .i64 h.op, .int .i64 h.num, .string ⟨h.text.toArray⟩, .int .i64 h.ref.row, .int .i64 h.ref.col, .bool h.ref.pr, .bool h.ref.pc, .int .i64 h.to.row, .int .i64 h.to.col, .bool h.to.pr, .bool h.to.pc, .int .i64 h.fn, (.slice (some ⟨kb, ko, none⟩) ks.len kc)] 34) := ⟨_, rfl⟩
 have RQ1 : Hid (Rq b Lx W.heap.size h ks (some ⟨kb, ko, none⟩) ks.len kc cl W (upc cl W.heap.size 9) S ps cs w1) := Lib.hid (by rw [hw1]; exact Rq.start HL.out hb tv)
 have hx := fb_valT h0 k0 ps.length cs
 generalize hA : valT h0 k0 ps.length cs = A at hx
 have HA := Lib.hid hA
 obtain ⟨psA, hpsA⟩ : ∃ psA, psA = ps ++ A.1 := ⟨_, rfl⟩
 have hlA : psA.length = ps.length + A.1.length := by rw [hpsA, List.length_append]
 have HPA := Lib.hid hpsA; have HLA := Lib.hid hlA
 have IH := Lib.hid ih
 have HCC := Lib.hid hc; have HFN := Lib.hid hfn
 obtain ⟨i0, hi, hz0, hz1, hz2⟩ := info_parts infoIntC
 have hps8 : ps.length ≤ 900000 := by omega
 have HV0 : lazyF h (kcs ks) = seqF (nth (kcs ks) 0).v (headF (fun _ => (nth (kcs ks) 1).v) (fun e => ⟨9, e, 0, 0, 0, []⟩)) := by unfold lazyF; rw [if_neg (by omega), if_pos (by omega), hfn]; rfl
 have HV1 : lazyF h (kcs ks) = seqF (valT h0 k0) (headF (fun _ => valT h1 k1) (fun e => ⟨9, e, 0, 0, 0, []⟩)) := by rw [HV0, hnt0, hnt1]
 have hx1 := fb_valT h1 k1 (psA.length + 1) A.2
 generalize hX : valT h1 k1 (psA.length + 1) A.2 = X at hx1
 have HX := Lib.hid hX
 obtain ⟨a1, ha1⟩ : ∃ a1 : Nat, a1 = psA.length + 1 + X.1.length := ⟨_, rfl⟩
 have HA1 := Lib.hid ha1
 have HV : Hid (lazyF h (kcs ks) ps.length cs = (A.1 ++ (⟨9, (a1 : Nat), 0, 0, 0, []⟩ :: X.1), X.2)) := Lib.hid (by
  rw [HV1, seqF, HA.out]
  simp only [headF, seqF, insF, List.length_singleton]
  rw [← hlA, hX, ← ha1]
  rfl)
 have hl20 : (0 : Int) < (ks.len : Int) := by omega
 have hl21 : (1 : Int) < (ks.len : Int) := by omega
 clear hk hc ih hfn HV0 HV1 hnt0 hnt1 hA hX hpsA hlA ha1 hlen
 go_enter Tryz.func103, Tryz.ntmps103
 go_upto_region 1 with (fail)
 rw [← hw1]
 clear hw1
 generalize W.heap.size = Bt at RQ1 ⊢
 have c13 := RQ1.out.nd.facts.c13
 try simp only [Nat.zero_add] at c13
 have KX0 := KW0.out.step RQ1.out.be
 have ND0 : Hid (NodeAt w1 kb (ko) h0 (.slice ka0 kl0 kc0)) := Lib.hid (by have := KX0.nd; rwa [show ko + 0 * 14 = ko by omega] at this)
 go_wp2_with (refine cpLoad ND0.out rfl rfl rfl ?_)
 refine ((KW0.out.kid.all IH.out).1 b Lx _ S _ _ w1 ka0 kl0 kc0 (Lib.hid RQ1.out.ly) RQ1.out.hb KX0.tv (KW0.out.kid.fits hfa.out) ⟨by omega, by omega⟩).mono ?_
 rintro e w2 ⟨rfl, cl2, s2, f2, b2⟩
 have RQ2 := Lib.hid (RQ1.out.go s2 f2 b2)
 clear RQ1 s2 f2 b2 KX0 ND0 
 rw [HA.out, ← HPA.out] at RQ2
 have C2 := Lib.hid (CoQ.of RQ2.out)
 clear c13
 have c12 := RQ2.out.nd.facts.c12
 try simp only [Nat.zero_add] at c12
 rw [HFN.out] at c12
 go_wp2_with fail
 refine (refPut_any 9 0 0 0 0 w2 (Lib.hid RQ2.out.ly) RQ2.out.hb (by have := HLA.out; omega)).mono ?_
 rintro e w3 ⟨rfl, cl3, s3, f3, b3⟩
 have RQ3 := Lib.hid (RQ2.out.go s3 f3 b3)
 have C3 := Lib.hid (C2.out.go s3 f3 b3)
 clear RQ2 s3 f3 b3 c12 C2
 obtain ⟨pl, hpl⟩ : ∃ pl, pl = psA.length := ⟨_, rfl⟩
 rw [← hpl]
 have HPL := Lib.hid hpl
 clear hpl
 obtain ⟨os0, hos0⟩ : ∃ os0 : List Nat, os0 = [] := ⟨_, rfl⟩
 rw [← hos0] at C3
 have HOS0 := Lib.hid hos0
 have hol0 : os0.length ≤ 3 := by rw [hos0]; simp
 clear hos0
 have hzw := C3.out.be.size
 go_wp2_with (at_builtin; refine wpList_append_lies _ rfl _ _ 45 rfl W.heap.size 3 i0 _ 1 8 Tryz.underlying45 hi hz0 hz1 hz2 rfl (by decide) (.slice none 0 0) os0.length (posV os0) rfl (World.ownsRow.alloc C3.out.row.own _) ⟨w3.heap.size, 0, none⟩ 1 1 [.int .i64 (pl : Nat)] rfl rfl (World.news_of_block (heap_alloc_new w3 _)) (by simp [Value.oneCell']) (by decide) (by unfold maxLen; omega) (by omega) (by simp; omega) _ rfl ?_)
 intro g4 cap4 w4 hown hgrow hat _
 obtain ⟨c4, f4, b4⟩ := C3.out.push hb hown hgrow (hat.imp_right fun q => by rw [q]; simp)
 have RQ4 := Lib.hid (RQ3.out.push c4 f4 b4)
 have C4 := Lib.hid c4
 clear hown hgrow hat C3 RQ3 hzw c4 f4 b4
 have KX1 := KW1.out.step RQ4.out.be
 have ND1 : Hid (NodeAt w4 kb (ko + 14) h1 (.slice ka1 kl1 kc1)) := Lib.hid (by have := KX1.nd; rwa [show ko + 1 * 14 = ko + 14 by omega] at this)
 go_wp2_with (refine cpLoad ND1.out rfl rfl rfl ?_)
 refine ((KW1.out.kid.all IH.out).1 b Lx _ S _ _ w4 ka1 kl1 kc1 (Lib.hid RQ4.out.ly) RQ4.out.hb KX1.tv (KW1.out.kid.fits hfa.out) ⟨by have := HLA.out; rw [List.length_append, List.length_singleton]; omega, by omega⟩).mono ?_
 rintro e w5 ⟨rfl, cl5, s5, f5, b5⟩
 have RQ5 := Lib.hid (RQ4.out.go s5 f5 b5)
 have C5 := Lib.hid (C4.out.go s5 f5 b5)
 clear RQ4 s5 f5 b5 KX1 ND1 C4
 have hl3 : (psA ++ [(⟨9, 0, 0, 0, 0, []⟩ : PI)]).length = psA.length + 1 := by rw [List.length_append, List.length_singleton]
 rw [hl3, HX.out] at RQ5 C5
 have hl4 : (psA ++ [(⟨9, 0, 0, 0, 0, []⟩ : PI)] ++ X.1).length = a1 := by rw [List.length_append, hl3]; exact HA1.out.symm
 have HL4 := Lib.hid hl4
 clear hl3 hl4
 go_wp2_with fail
 obtain ⟨aS, kS, eS, hS⟩ := C5.out.slice
 simp only [Value.slice.injEq] at eS
 obtain ⟨rfl, -, rfl⟩ := eS
 have HS := Lib.hid hS
 clear hS
 have hox : os0.length + 1 = (os0 ++ [pl]).length := by rw [List.length_append, List.length_singleton]
 obtain ⟨ox, hoxe⟩ : ∃ ox, ox = os0 ++ [pl] := ⟨_, rfl⟩
 rw [← hoxe] at hox HS
 have hoxp : ox = [psA.length] := by rw [hoxe, HOS0.out, HPL.out]; rfl
 rw [hox]
 have hoxl : ox.length ≤ 3 := by rw [hoxp]; simp
 have HOXP := Lib.hid hoxp
 clear hox hoxe hoxp hol0
 refine (cpClose_any ox w5 (Lib.hid RQ5.out.ly) RQ5.out.hb (by have := HA1.out; have := HLA.out; rw [HL4.out]; omega) (by omega) HS.out (fun i hi => by rw [HOXP.out, List.mem_singleton] at hi; rw [hi, HL4.out]; have := HA1.out; omega)).mono ?_
 rintro e w10 ⟨rfl, cl10, s10, f10, b10⟩
 have L10 := Lib.hid (RQ5.out.go s10 f10 b10).toLd
 clear RQ5 C5 s10 f10 b10
 go_wp2_with fail
 have q : Ld b cl S Lx 59 [] W (ps ++ (lazyF h (kcs ks) ps.length cs).1) (lazyF h (kcs ks) ps.length cs).2 w10 := by
  have q := L10.out
  rw [HOXP.out, HL4.out, show pats [psA.length] ((a1 : Nat) : Int) (psA ++ [(⟨9, 0, 0, 0, 0, []⟩ : PI)] ++ X.1) = patA (psA ++ (⟨9, 0, 0, 0, 0, []⟩ : PI) :: X.1) psA.length ((a1 : Nat) : Int) by simp [pats], patA_mid] at q
  rw [HV.out]
  rw [HPA.out, List.append_assoc] at q
  exact q
 exact bodyPost_end (results_none rfl _ _ _) rfl ⟨rfl, q⟩
theorem rlazyErr44_any {h : Hd} {ks : Trees} (ih : AllT VR ks) (hfn : h.fn = 44) (hlen : ks.len = 2) : LazyR h ks := by
 intro hk hc b Lx cl S ps cs W ka kl kc HL hb tv hf hr0
 have hr := hr0
 obtain ⟨hr1, hr2⟩ := hr
 have hfv : fitsV h ks.len = true ∧ allFits ks = true := by unfold treeFits at hf; simpa using hf
 have hfa := Lib.hid hfv.2
 obtain rfl : kl = ks.len := tv.len
 obtain ⟨kb, ko, h0, k0, r0, ka0, kl0, kc0, rfl, K0'⟩ := tv.kid 0 (by omega)
 have KW0 := Lib.hid K0'
 have hn0 := K0'.kid.nodes
 simp only [Nat.zero_add] at hn0
 rw [tdrop_nodes] at hn0
 have hnt0 := kid_nth K0'.kid
 clear K0'
 obtain ⟨kb', ko', h1, k1, r1, ka1, kl1, kc1, ea, K1'⟩ := tv.kid 1 (by omega)
 simp only [Option.some.injEq, Addr.mk.injEq, and_true] at ea
 obtain ⟨rfl, rfl⟩ := ea
 have KW1 := Lib.hid K1'
 have hn1 := K1'.kid.nodes
 simp only [Nat.reduceAdd] at hn1
 have hnt1 := kid_nth K1'.kid
 clear K1'
 obtain ⟨w1, hw1⟩ : ∃ w1, w1 = W.alloc (.cells #[.int .i64 h.kind, .int .i64 h.op, .int .i64 h.num, .string ⟨h.text.toArray⟩, .int .i64 h.ref.row, .int .i64 h.ref.col, .bool h.ref.pr, .bool h.ref.pc, .int .i64 h.to.row, .int .i64 h.to.col, .bool h.to.pr, .bool h.to.pc, .int .i64 h.fn, (.slice (some ⟨kb, ko, none⟩) ks.len kc)] 34) := ⟨_, rfl⟩
 have RQ1 : Hid (Rq b Lx W.heap.size h ks (some ⟨kb, ko, none⟩) ks.len kc cl W (upc cl W.heap.size 9) S ps cs w1) := Lib.hid (by rw [hw1]; exact Rq.start HL.out hb tv)
 have hx := fb_valT h0 k0 ps.length cs
 generalize hA : valT h0 k0 ps.length cs = A at hx
 have HA := Lib.hid hA
 obtain ⟨psA, hpsA⟩ : ∃ psA, psA = ps ++ A.1 := ⟨_, rfl⟩
 have hlA : psA.length = ps.length + A.1.length := by rw [hpsA, List.length_append]
 have HPA := Lib.hid hpsA; have HLA := Lib.hid hlA
 have IH := Lib.hid ih
 have HCC := Lib.hid hc; have HFN := Lib.hid hfn
 obtain ⟨i0, hi, hz0, hz1, hz2⟩ := info_parts infoIntC
 have hps8 : ps.length ≤ 900000 := by omega
 have HV0 : lazyF h (kcs ks) = seqF (nth (kcs ks) 0).v (headF (fun _ => (nth (kcs ks) 1).v) (fun e => ⟨9, e, 6, 0, 0, []⟩)) := by unfold lazyF; rw [if_neg (by omega), if_pos (by omega), hfn]; rfl
 have HV1 : lazyF h (kcs ks) = seqF (valT h0 k0) (headF (fun _ => valT h1 k1) (fun e => ⟨9, e, 6, 0, 0, []⟩)) := by rw [HV0, hnt0, hnt1]
 have hx1 := fb_valT h1 k1 (psA.length + 1) A.2
 generalize hX : valT h1 k1 (psA.length + 1) A.2 = X at hx1
 have HX := Lib.hid hX
 obtain ⟨a1, ha1⟩ : ∃ a1 : Nat, a1 = psA.length + 1 + X.1.length := ⟨_, rfl⟩
 have HA1 := Lib.hid ha1
 have HV : Hid (lazyF h (kcs ks) ps.length cs = (A.1 ++ (⟨9, (a1 : Nat), 6, 0, 0, []⟩ :: X.1), X.2)) := Lib.hid (by
  rw [HV1, seqF, HA.out]
  simp only [headF, seqF, insF, List.length_singleton]
  rw [← hlA, hX, ← ha1]
  rfl)
 have hl20 : (0 : Int) < (ks.len : Int) := by omega
 have hl21 : (1 : Int) < (ks.len : Int) := by omega
 clear hk hc ih hfn HV0 HV1 hnt0 hnt1 hA hX hpsA hlA ha1 hlen
 go_enter Tryz.func103, Tryz.ntmps103
 go_upto_region 1 with (fail)
 rw [← hw1]
 clear hw1
 generalize W.heap.size = Bt at RQ1 ⊢
 have c13 := RQ1.out.nd.facts.c13
 try simp only [Nat.zero_add] at c13
 have KX0 := KW0.out.step RQ1.out.be
 have ND0 : Hid (NodeAt w1 kb (ko) h0 (.slice ka0 kl0 kc0)) := Lib.hid (by have := KX0.nd; rwa [show ko + 0 * 14 = ko by omega] at this)
 go_wp2_with (refine cpLoad ND0.out rfl rfl rfl ?_)
 refine ((KW0.out.kid.all IH.out).1 b Lx _ S _ _ w1 ka0 kl0 kc0 (Lib.hid RQ1.out.ly) RQ1.out.hb KX0.tv (KW0.out.kid.fits hfa.out) ⟨by omega, by omega⟩).mono ?_
 rintro e w2 ⟨rfl, cl2, s2, f2, b2⟩
 have RQ2 := Lib.hid (RQ1.out.go s2 f2 b2)
 clear RQ1 s2 f2 b2 KX0 ND0 
 rw [HA.out, ← HPA.out] at RQ2
 have C2 := Lib.hid (CoQ.of RQ2.out)
 clear c13
 have c12 := RQ2.out.nd.facts.c12
 try simp only [Nat.zero_add] at c12
 rw [HFN.out] at c12
 go_wp2_with fail
 refine (refPut_any 9 0 6 0 0 w2 (Lib.hid RQ2.out.ly) RQ2.out.hb (by have := HLA.out; omega)).mono ?_
 rintro e w3 ⟨rfl, cl3, s3, f3, b3⟩
 have RQ3 := Lib.hid (RQ2.out.go s3 f3 b3)
 have C3 := Lib.hid (C2.out.go s3 f3 b3)
 clear RQ2 s3 f3 b3 c12 C2
 obtain ⟨pl, hpl⟩ : ∃ pl, pl = psA.length := ⟨_, rfl⟩
 rw [← hpl]
 have HPL := Lib.hid hpl
 clear hpl
 obtain ⟨os0, hos0⟩ : ∃ os0 : List Nat, os0 = [] := ⟨_, rfl⟩
 rw [← hos0] at C3
 have HOS0 := Lib.hid hos0
 have hol0 : os0.length ≤ 3 := by rw [hos0]; simp
 clear hos0
 have hzw := C3.out.be.size
 go_wp2_with (at_builtin; refine wpList_append_lies _ rfl _ _ 45 rfl W.heap.size 3 i0 _ 1 8 Tryz.underlying45 hi hz0 hz1 hz2 rfl (by decide) (.slice none 0 0) os0.length (posV os0) rfl (World.ownsRow.alloc C3.out.row.own _) ⟨w3.heap.size, 0, none⟩ 1 1 [.int .i64 (pl : Nat)] rfl rfl (World.news_of_block (heap_alloc_new w3 _)) (by simp [Value.oneCell']) (by decide) (by unfold maxLen; omega) (by omega) (by simp; omega) _ rfl ?_)
 intro g4 cap4 w4 hown hgrow hat _
 obtain ⟨c4, f4, b4⟩ := C3.out.push hb hown hgrow (hat.imp_right fun q => by rw [q]; simp)
 have RQ4 := Lib.hid (RQ3.out.push c4 f4 b4)
 have C4 := Lib.hid c4
 clear hown hgrow hat C3 RQ3 hzw c4 f4 b4
 have KX1 := KW1.out.step RQ4.out.be
 have ND1 : Hid (NodeAt w4 kb (ko + 14) h1 (.slice ka1 kl1 kc1)) := Lib.hid (by have := KX1.nd; rwa [show ko + 1 * 14 = ko + 14 by omega] at this)
 go_wp2_with (refine cpLoad ND1.out rfl rfl rfl ?_)
 refine ((KW1.out.kid.all IH.out).1 b Lx _ S _ _ w4 ka1 kl1 kc1 (Lib.hid RQ4.out.ly) RQ4.out.hb KX1.tv (KW1.out.kid.fits hfa.out) ⟨by have := HLA.out; rw [List.length_append, List.length_singleton]; omega, by omega⟩).mono ?_
 rintro e w5 ⟨rfl, cl5, s5, f5, b5⟩
 have RQ5 := Lib.hid (RQ4.out.go s5 f5 b5)
 have C5 := Lib.hid (C4.out.go s5 f5 b5)
 clear RQ4 s5 f5 b5 KX1 ND1 C4
 have hl3 : (psA ++ [(⟨9, 0, 6, 0, 0, []⟩ : PI)]).length = psA.length + 1 := by rw [List.length_append, List.length_singleton]
 rw [hl3, HX.out] at RQ5 C5
 have hl4 : (psA ++ [(⟨9, 0, 6, 0, 0, []⟩ : PI)] ++ X.1).length = a1 := by rw [List.length_append, hl3]; exact HA1.out.symm
 have HL4 := Lib.hid hl4
 clear hl3 hl4
 go_wp2_with fail
 obtain ⟨aS, kS, eS, hS⟩ := C5.out.slice
 simp only [Value.slice.injEq] at eS
 obtain ⟨rfl, -, rfl⟩ := eS
 have HS := Lib.hid hS
 clear hS
 have hox : os0.length + 1 = (os0 ++ [pl]).length := by rw [List.length_append, List.length_singleton]
 obtain ⟨ox, hoxe⟩ : ∃ ox, ox = os0 ++ [pl] := ⟨_, rfl⟩
 rw [← hoxe] at hox HS
 have hoxp : ox = [psA.length] := by rw [hoxe, HOS0.out, HPL.out]; rfl
 rw [hox]
 have hoxl : ox.length ≤ 3 := by rw [hoxp]; simp
 have HOXP := Lib.hid hoxp
 clear hox hoxe hoxp hol0
 refine (cpClose_any ox w5 (Lib.hid RQ5.out.ly) RQ5.out.hb (by have := HA1.out; have := HLA.out; rw [HL4.out]; omega) (by omega) HS.out (fun i hi => by rw [HOXP.out, List.mem_singleton] at hi; rw [hi, HL4.out]; have := HA1.out; omega)).mono ?_
 rintro e w10 ⟨rfl, cl10, s10, f10, b10⟩
 have L10 := Lib.hid (RQ5.out.go s10 f10 b10).toLd
 clear RQ5 C5 s10 f10 b10
 go_wp2_with fail
 have q : Ld b cl S Lx 59 [] W (ps ++ (lazyF h (kcs ks) ps.length cs).1) (lazyF h (kcs ks) ps.length cs).2 w10 := by
  have q := L10.out
  rw [HOXP.out, HL4.out, show pats [psA.length] ((a1 : Nat) : Int) (psA ++ [(⟨9, 0, 6, 0, 0, []⟩ : PI)] ++ X.1) = patA (psA ++ (⟨9, 0, 6, 0, 0, []⟩ : PI) :: X.1) psA.length ((a1 : Nat) : Int) by simp [pats], patA_mid] at q
  rw [HV.out]
  rw [HPA.out, List.append_assoc] at q
  exact q
 exact bodyPost_end (results_none rfl _ _ _) rfl ⟨rfl, q⟩
end Go.Proofs.YtlmpiobdgkmmgaaGreatDoor
namespace Go.Proofs.YtlmpiobdgkmmgaaGreatDoor
open Go.RowKit
def SwR (b Lx Bt : Nat) (h : Hd) (ks : Trees) (ka : Option Addr) (kc : Nat) (cl0 : Nat → Nat) (W0 : World) (S : SX) (fin : Int → List PI × List PV) (v iv : Value) (wr : World) : Prop :=
 ∃ (j : Nat) (cl : Nat → Nat) (os : List Nat) (ps : List PI) (cs : List PV) (L : Int → List PI), iv = .int .i64 (j : Int) ∧ 1 ≤ j ∧ j ≤ ks.len ∧ os.length ≤ j ∧ Hid (CoQ b Lx cl0 W0 cl S ps cs wr v os) ∧ Hid (Rq b Lx Bt h ks ka ks.len kc cl0 W0 cl S ps cs wr) ∧ Hid (VkP swG ks 1 j ps cs os L fin)
theorem rlazySw_any {h : Hd} {ks : Trees} (ih : AllT VR ks) (hfn : h.fn = 46) (hlen : 3 ≤ ks.len) : LazyR h ks := by
 intro hk hc b Lx cl S ps cs W ka kl kc HL hb tv hf hr0
 have hr := hr0
 obtain ⟨hr1, hr2⟩ := hr
 have hfv : fitsV h ks.len = true ∧ allFits ks = true := by unfold treeFits at hf; simpa using hf
 have hfa := Lib.hid hfv.2
 obtain rfl : kl = ks.len := tv.len
 obtain ⟨kb, ko, h0, k0, r0, ka0, kl0, kc0, rfl, K0'⟩ := tv.kid 0 (by omega)
 have KW0 := Lib.hid K0'
 have hn0 := K0'.kid.nodes
 simp only [Nat.zero_add] at hn0
 rw [tdrop_nodes] at hn0
 have hnt0 := kid_nth K0'.kid
 clear K0'
 obtain ⟨w1, hw1⟩ : ∃ w1, w1 = W.alloc (.cells #[.int .i64 h.kind, .int .i64 h.op, .int .i64 h.num, .string ⟨h.text.toArray⟩, .int .i64 h.ref.row, .int .i64 h.ref.col, .bool h.ref.pr, .bool h.ref.pc, .int .i64 h.to.row, .int .i64 h.to.col, .bool h.to.pr, .bool h.to.pc, .int .i64 h.fn, (.slice (some ⟨kb, ko, none⟩) ks.len kc)] 34) := ⟨_, rfl⟩
 have RQ1 : Hid (Rq b Lx W.heap.size h ks (some ⟨kb, ko, none⟩) ks.len kc cl W (upc cl W.heap.size 9) S ps cs w1) := Lib.hid (by rw [hw1]; exact Rq.start HL.out hb tv)
 have hx := fb_valT h0 k0 ps.length cs
 generalize hA : valT h0 k0 ps.length cs = A at hx
 have HA := Lib.hid hA
 obtain ⟨psA, hpsA⟩ : ∃ psA, psA = ps ++ A.1 := ⟨_, rfl⟩
 have hlA : psA.length = ps.length + A.1.length := by rw [hpsA, List.length_append]
 have HPA := Lib.hid hpsA; have HLA := Lib.hid hlA
 have IH := Lib.hid ih
 have HCC := Lib.hid hc; have HFN := Lib.hid hfn
 obtain ⟨i0, hi, hz0, hz1, hz2⟩ := info_parts infoIntC
 have hps8 : ps.length ≤ 900000 := by omega
 have HV0 : lazyF h (kcs ks) = seqF (nth (kcs ks) 0).v (headF (fun e => swF e ((kcs ks).drop 1)) (fun e => ⟨7, e, 0, 0, 0, []⟩)) := by unfold lazyF; rw [if_neg (by omega), if_neg (by omega), if_neg (by omega), List.drop_one]
 have HV1 : lazyF h (kcs ks) = seqF (valT h0 k0) (headF (fun e => swF e ((kcs ks).drop 1)) (fun e => ⟨7, e, 0, 0, 0, []⟩)) := by rw [HV0, hnt0]
 have hl1 : (psA ++ [(⟨7, 0, 0, 0, 0, []⟩ : PI)]).length = psA.length + 1 := by rw [List.length_append, List.length_singleton]
 have PT0 : Hid (VkP swG ks 1 1 (psA ++ [(⟨7, 0, 0, 0, 0, []⟩ : PI)]) A.2 [psA.length] (fun E => psA ++ [⟨7, E, 0, 0, 0, []⟩]) (fun E => ((psA ++ [⟨7, E, 0, 0, 0, []⟩]) ++ (swF E ((kcs ks).drop 1) (psA.length + 1) A.2).1, (swF E ((kcs ks).drop 1) (psA.length + 1) A.2).2))) :=
  Lib.hid ⟨(Pt.nil psA).opened (⟨7, 0, 0, 0, 0, []⟩ : PI), fun E => by rw [hl1]; exact ⟨rfl, rfl⟩, ⟨by rw [hl1]; omega, by omega⟩⟩
 have HV : Hid (lazyF h (kcs ks) ps.length cs = (A.1 ++ (headF (fun e => swF e ((kcs ks).drop 1)) (fun e => ⟨7, e, 0, 0, 0, []⟩) psA.length A.2).1, (headF (fun e => swF e ((kcs ks).drop 1)) (fun e => ⟨7, e, 0, 0, 0, []⟩) psA.length A.2).2)) := Lib.hid (by
  rw [HV1, seqF, HA.out, hlA])
 have TV := Lib.hid tv
 have hkm : ks.len ≤ ks.nodes := len_nodes ks
 have hl20 : (0 : Int) < (ks.len : Int) := by omega
 clear hk hc ih hfn HV0 HV1 hnt0 hA hpsA hlA hl1
 go_enter Tryz.func103, Tryz.ntmps103
 go_upto_region 1 with (fail)
 rw [← hw1]
 clear hw1
 generalize W.heap.size = Bt at RQ1 ⊢
 have c13 := RQ1.out.nd.facts.c13
 try simp only [Nat.zero_add] at c13
 have KX0 := KW0.out.step RQ1.out.be
 have ND0 : Hid (NodeAt w1 kb (ko) h0 (.slice ka0 kl0 kc0)) := Lib.hid (by have := KX0.nd; rwa [show ko + 0 * 14 = ko by omega] at this)
 go_wp2_with (refine cpLoad ND0.out rfl rfl rfl ?_)
 refine ((KW0.out.kid.all IH.out).1 b Lx _ S _ _ w1 ka0 kl0 kc0 (Lib.hid RQ1.out.ly) RQ1.out.hb KX0.tv (KW0.out.kid.fits hfa.out) ⟨by omega, by omega⟩).mono ?_
 rintro e w2 ⟨rfl, cl2, s2, f2, b2⟩
 have RQ2 := Lib.hid (RQ1.out.go s2 f2 b2)
 clear RQ1 s2 f2 b2 KX0 ND0 
 rw [HA.out, ← HPA.out] at RQ2
 have C2 := Lib.hid (CoQ.of RQ2.out)
 clear c13
 have c12 := RQ2.out.nd.facts.c12
 try simp only [Nat.zero_add] at c12
 rw [HFN.out] at c12
 go_wp2_with fail
 refine (refPut_any 7 0 0 0 0 w2 (Lib.hid RQ2.out.ly) RQ2.out.hb (by have := HLA.out; omega)).mono ?_
 rintro e w3 ⟨rfl, cl3, s3, f3, b3⟩
 have RQ3 := Lib.hid (RQ2.out.go s3 f3 b3)
 have C3 := Lib.hid (C2.out.go s3 f3 b3)
 clear RQ2 s3 f3 b3 c12 C2
 obtain ⟨pl, hpl⟩ : ∃ pl, pl = psA.length := ⟨_, rfl⟩
 rw [← hpl]
 have HPL := Lib.hid hpl
 clear hpl
 obtain ⟨os0, hos0⟩ : ∃ os0 : List Nat, os0 = [] := ⟨_, rfl⟩
 rw [← hos0] at C3
 have HOS0 := Lib.hid hos0
 have hol0 : os0.length ≤ 3 := by rw [hos0]; simp
 clear hos0
 have hzw := C3.out.be.size
 go_wp2_with (at_builtin; refine wpList_append_lies _ rfl _ _ 45 rfl W.heap.size 3 i0 _ 1 8 Tryz.underlying45 hi hz0 hz1 hz2 rfl (by decide) (.slice none 0 0) os0.length (posV os0) rfl (World.ownsRow.alloc C3.out.row.own _) ⟨w3.heap.size, 0, none⟩ 1 1 [.int .i64 (pl : Nat)] rfl rfl (World.news_of_block (heap_alloc_new w3 _)) (by simp [Value.oneCell']) (by decide) (by unfold maxLen; omega) (by omega) (by simp; omega) _ rfl ?_)
 intro g4 cap4 w4 hown hgrow hat _
 obtain ⟨c4, f4, b4⟩ := C3.out.push hb hown hgrow (hat.imp_right fun q => by rw [q]; simp)
 have RQ4 := Lib.hid (RQ3.out.push c4 f4 b4)
 have C4 := Lib.hid c4
 clear hown hgrow hat C3 RQ3 hzw c4 f4 b4
 rw [HOS0.out, List.nil_append, HPL.out] at C4
 go_wp2_with fail
 go_loopw [5, 10] (fun v iv wr => SwR b Lx Bt h ks (some ⟨kb, ko, none⟩) kc cl W S (fun E => ((psA ++ [⟨7, E, 0, 0, 0, []⟩]) ++ (swF E ((kcs ks).drop 1) (psA.length + 1) A.2).1, (swF E ((kcs ks).drop 1) (psA.length + 1) A.2).2)) v iv wr) (fun _ iv _ => ks.len - (intOf iv).toNat)
 case atStart => exact ⟨1, _, _, _, _, _, rfl, Nat.le_refl _, by omega, by simp, (by rw [HOS0.out]; exact C4), RQ4, PT0⟩
 case round =>
  obtain ⟨j, cl3, os, psj, csj, L, rfl, hj0, hj, hol, C3, R3, P3'⟩ := hrel
  by_cases hlt : j + 1 < ks.len
  ·obtain ⟨kb', ko', h', k', r', ka', kl', kc', ea, K⟩ := TV.out.kid j (by omega)
   simp only [Option.some.injEq, Addr.mk.injEq, and_true] at ea
   obtain ⟨rfl, rfl⟩ := ea
   obtain ⟨kb', ko', h2, k2, r2, ka2, kl2, kc2, ea, K2'⟩ := TV.out.kid (j + 1) hlt
   simp only [Option.some.injEq, Addr.mk.injEq, and_true] at ea
   obtain ⟨rfl, rfl⟩ := ea
   have rm0 := P3'.out.room
   rw [K.kid.nodes, K2'.kid.nodes] at rm0
   obtain ⟨rm1, rm2⟩ := rm0
   have hxV := fb_valT h' k' psj.length csj
   generalize hV : valT h' k' psj.length csj = V at hxV
   have hxV2 := fb_valT h2 k2 (psj.length + V.1.length + 1 + 1) V.2
   generalize hV2 : valT h2 k2 (psj.length + V.1.length + 1 + 1) V.2 = V2 at hxV2
   obtain ⟨x, hx2⟩ : ∃ x : Int, x = ((psj.length + V.1.length + 1 + V2.1.length + 2 : Nat) : Int) := ⟨_, rfl⟩
   have P4 := Lib.hid (P3'.out.sw K.kid K2'.kid hV hV2 hx2)
   have HVV := Lib.hid hV; have HVV2 := Lib.hid hV2; have HX2 := Lib.hid hx2
   have KW := Lib.hid K; have KW2 := Lib.hid K2'
   have hjj : (j : Int) < (ks.len : Int) := by omega
   have KX := K.step R3.out.be
   have ND := Lib.hid KX.nd
   clear K K2' hV hV2 hx2 P3'
   go_wp2_with (refine cpLoad ND.out rfl rfl rfl ?_)
   refine ((KW.out.kid.all IH.out).1 b Lx _ S psj csj wr ka' kl' kc' (Lib.hid C3.out.ly) R3.out.hb KX.tv (KW.out.kid.fits hfa.out) ⟨by omega, by omega⟩).mono ?_
   rintro e w4 ⟨rfl, cl4, s4, f4, b4⟩
   have C4 := Lib.hid (C3.out.go s4 f4 b4)
   have R4 := Lib.hid (R3.out.go s4 f4 b4)
   clear s4 f4 b4 C3 R3 KX ND
   rw [HVV.out] at C4 R4
   obtain ⟨P1, hP1⟩ : ∃ P1, P1 = psj ++ V.1 := ⟨_, rfl⟩
   have hlP : P1.length = psj.length + V.1.length := by rw [hP1, List.length_append]
   rw [← hP1] at C4 R4 P4
   have HLP := Lib.hid hlP
   clear hP1 hlP
   go_wp2_with fail
   refine (refPut_any 7 0 1 0 0 w4 (Lib.hid C4.out.ly) R4.out.hb (by have := HLP.out; omega)).mono ?_
   rintro e w2 ⟨rfl, cl2, s2, f2, b2⟩
   have C2 := Lib.hid (C4.out.go s2 f2 b2)
   have R2 := Lib.hid (R4.out.go s2 f2 b2)
   have hzw := C2.out.be.size
   obtain ⟨pl1, hpl⟩ : ∃ pl, pl = P1.length := ⟨_, rfl⟩
   rw [← hpl]
   have HPL1 := Lib.hid hpl
   clear s2 f2 b2 C4 R4 hpl
   go_wp2_with (at_builtin; refine wpList_append_lies _ rfl _ _ 45 rfl W.heap.size 3 i0 _ 1 8 Tryz.underlying45 hi hz0 hz1 hz2 rfl (by decide) u5 os.length (posV os) rfl (World.ownsRow.alloc C2.out.row.own _) ⟨w2.heap.size, 0, none⟩ 1 1 [.int .i64 (pl1 : Nat)] rfl rfl (World.news_of_block (heap_alloc_new w2 _)) (by simp [Value.oneCell']) (by decide) (by unfold maxLen; omega) (by omega) (by simp; omega) _ rfl ?_)
   intro g cap w6 hown hgrow hat _
   obtain ⟨c6, f6, b6⟩ := C2.out.push hb hown hgrow (hat.imp_right fun q => by rw [q]; simp)
   have R6 := Lib.hid (R2.out.push c6 f6 b6)
   have C6 := Lib.hid c6
   rw [HPL1.out] at C6
   clear hown hgrow hat C2 R2 hzw c6 f6 b6
   go_upto_region 11 with (fail)
   generalize (Value.slice (some ⟨g, 0, none⟩) (os.length + 1) cap) = v6 at C6 ⊢
   obtain ⟨os6, hos6⟩ : ∃ os6, os6 = os ++ [P1.length] := ⟨_, rfl⟩
   have hol6 : os6.length ≤ j + 1 := by rw [hos6]; simp; omega
   rw [← hos6] at C6 P4
   clear hos6
   go_wp2_with fail
   refine (refPut_any 11 0 0 0 0 w6 (Lib.hid C6.out.ly) R6.out.hb (by have := HLP.out; rw [List.length_append, List.length_singleton]; omega)).mono ?_
   rintro e w7 ⟨rfl, cl7, s7, f7, b7⟩
   have C7 := Lib.hid (C6.out.go s7 f7 b7)
   have R7 := Lib.hid (R6.out.go s7 f7 b7)
   obtain ⟨pl2, hpl⟩ : ∃ pl, pl = (P1 ++ [(⟨7, 0, 1, 0, 0, []⟩ : PI)]).length := ⟨_, rfl⟩
   rw [← hpl]
   have HPL2 := Lib.hid hpl
   have KX := KW2.out.step R7.out.be
   have ND := Lib.hid KX.nd
   clear s7 f7 b7 C6 R6 hpl
   go_wp2_with (refine cpLoad ND.out rfl rfl rfl ?_)
   refine ((KW2.out.kid.all IH.out).1 b Lx _ S _ _ w7 ka2 kl2 kc2 (Lib.hid C7.out.ly) R7.out.hb KX.tv (KW2.out.kid.fits hfa.out) ⟨by have := HLP.out; simp only [List.length_append, List.length_singleton]; omega, by omega⟩).mono ?_
   rintro e w8 ⟨rfl, cl8, s8, f8, b8⟩
   have C8 := Lib.hid (C7.out.go s8 f8 b8)
   have R8 := Lib.hid (R7.out.go s8 f8 b8)
   clear s8 f8 b8 C7 R7 KX ND
   have hl8 : (P1 ++ [(⟨7, 0, 1, 0, 0, []⟩ : PI)] ++ [(⟨11, 0, 0, 0, 0, []⟩ : PI)]).length = psj.length + V.1.length + 1 + 1 := by rw [List.length_append, List.length_append, HLP.out]; rfl
   rw [hl8, HVV2.out] at C8 R8
   clear hl8
   go_wp2_with fail
   refine (refPut_any 13 0 0 0 0 w8 (Lib.hid C8.out.ly) R8.out.hb (by have := HLP.out; simp only [List.length_append, List.length_singleton]; omega)).mono ?_
   rintro e w9 ⟨rfl, cl9, s9, f9, b9⟩
   have C9 := Lib.hid (C8.out.go s9 f9 b9)
   have R9 := Lib.hid (R8.out.go s9 f9 b9)
   have hzw := C9.out.be.size
   obtain ⟨pl3, hpl⟩ : ∃ pl, pl = (P1 ++ [(⟨7, 0, 1, 0, 0, []⟩ : PI)] ++ [(⟨11, 0, 0, 0, 0, []⟩ : PI)] ++ V2.1).length := ⟨_, rfl⟩
   rw [← hpl]
   have HPL3 := Lib.hid hpl
   clear s9 f9 b9 C8 R8 hpl
   go_wp2_with (at_builtin; refine wpList_append_lies _ rfl _ _ 45 rfl W.heap.size 3 i0 _ 1 8 Tryz.underlying45 hi hz0 hz1 hz2 rfl (by decide) v6 os6.length (posV os6) rfl (World.ownsRow.alloc C9.out.row.own _) ⟨w9.heap.size, 0, none⟩ 1 1 [.int .i64 (pl3 : Nat)] rfl rfl (World.news_of_block (heap_alloc_new w9 _)) (by simp [Value.oneCell']) (by decide) (by unfold maxLen; omega) (by omega) (by simp; omega) _ rfl ?_)
   intro g2 cap2 w10 hown hgrow hat _
   obtain ⟨c10, f10, b10⟩ := C9.out.push hb hown hgrow (hat.imp_right fun q => by rw [q]; simp)
   have R10 := Lib.hid (R9.out.push c10 f10 b10)
   have C10 := Lib.hid c10
   rw [HPL3.out] at C10
   clear hown hgrow hat C9 R9 hzw c10 f10 b10
   go_wp2_with fail
   have k10 : Below w10.heap.size w10 (w10.alloc (.cells #[.int .i64 (pl2 : Int)] 3)) := ext_alloc (Below.refl _ _) _
   have R11 := Lib.hid (R10.out.kept k10 7)
   have C11 := Lib.hid (C10.out.go (C10.out.ly.kept k10 7) (Frm.kept k10) (k10.mono R10.out.hb))
   refine (cpClose_any [pl2] (w10.alloc (.cells #[.int .i64 (pl2 : Int)] 3)) (Lib.hid R11.out.ly) R11.out.hb (by have := HLP.out; simp only [List.length_append, List.length_singleton]; omega) (by simp) (IntR.one pl2) (fun i hi => by rw [List.mem_singleton] at hi; rw [hi, HPL2.out]; simp only [List.length_append, List.length_singleton]; omega)).mono ?_
   rintro e w11 ⟨rfl, cl11, s11, f11, b11⟩
   have e11 : ∀ l E, pats [pl2] E l = patA l (P1 ++ [(⟨7, 0, 1, 0, 0, []⟩ : PI)]).length E := fun l E => by rw [← HPL2.out]; rfl
   rw [e11, sw_done P1 V2.1 x (by rw [HX2.out]; have := HLP.out; simp only [List.length_append, List.length_singleton]; omega)] at s11
   have C12 := Lib.hid (C11.out.go s11 f11 b11)
   have R12 := Lib.hid (R11.out.go s11 f11 b11)
   rw [show (P1 ++ [(⟨7, 0, 1, 0, 0, []⟩ : PI)] ++ [(⟨11, 0, 0, 0, 0, []⟩ : PI)] ++ V2.1).length = (P1 ++ [(⟨7, 0, 1, 0, 0, []⟩ : PI)] ++ ⟨11, x, 0, 0, 0, []⟩ :: V2.1).length by simp] at C12
   clear s11 f11 b11 C10 R10 C11 R11 k10
   go_wp2_with fail
   exact ⟨⟨j + 2, _, _, _, _, _, by go_num, by omega, by omega, by simp; omega, C12, R12, P4⟩, by simp [intOf]; omega⟩
  ·have hle := len_nodes (tdrop ks j)
   rw [tdrop_len] at hle
   have rm0 := P3'.out.room
   obtain ⟨rm1, rm2⟩ := rm0
   have hjn : ¬ (j : Int) + 1 < (ks.len : Int) := by omega
   go_upto_region 15 with (fail)
   clear hjn
   go_wp2_with fail
   refine (refPut_any 12 0 0 0 0 wr (Lib.hid C3.out.ly) R3.out.hb (by omega)).mono ?_
   rintro e w4 ⟨rfl, cl4, s4, f4, b4⟩
   have C4 := Lib.hid (C3.out.go s4 f4 b4)
   have R4 := Lib.hid (R3.out.go s4 f4 b4)
   clear s4 f4 b4 C3 R3
   have hl4 : (psj ++ [(⟨12, 0, 0, 0, 0, []⟩ : PI)]).length = psj.length + 1 := by rw [List.length_append, List.length_singleton]
   have HL4 := Lib.hid hl4
   clear hl4
   by_cases hjl : j < ks.len
   ·have hj1 : j + 1 = ks.len := by omega
    obtain ⟨kb', ko', h', k', r', ka', kl', kc', ea, K⟩ := TV.out.kid j hjl
    simp only [Option.some.injEq, Addr.mk.injEq, and_true] at ea
    obtain ⟨rfl, rfl⟩ := ea
    have hxZ := fb_valT h' k' (psj.length + 1) csj
    generalize hZ : valT h' k' (psj.length + 1) csj = Z at hxZ
    have HZ := Lib.hid hZ
    rw [K.kid.nodes] at rm1 rm2
    have hq : ∀ E, L E ++ ([(⟨12, 0, 0, 0, 0, []⟩ : PI)] ++ Z.1) = (((fun E => ((psA ++ [⟨7, E, 0, 0, 0, []⟩]) ++ (swF E ((kcs ks).drop 1) (psA.length + 1) A.2).1, (swF E ((kcs ks).drop 1) (psA.length + 1) A.2).2)) : Int → List PI × List PV) E).1 ∧ Z.2 = (((fun E => ((psA ++ [⟨7, E, 0, 0, 0, []⟩]) ++ (swF E ((kcs ks).drop 1) (psA.length + 1) A.2).1, (swF E ((kcs ks).drop 1) (psA.length + 1) A.2).2)) : Int → List PI × List PV) E).2 := fun E => by
     have q := P3'.out.eq E
     rw [K.kid.kcs, hj1, kcs_dropped] at q
     have e1 : swG E (j : Int) [⟨h', valT h' k', areaT h' k'⟩] psj.length csj = ([(⟨12, 0, 0, 0, 0, []⟩ : PI)] ++ Z.1, Z.2) := by
      show seqF (insF ⟨12, 0, 0, 0, 0, []⟩) (valT h' k') psj.length csj = _
      simp only [seqF, insF, List.length_singleton]
      rw [hZ]
     rw [e1] at q
     exact q
    have HQ := Lib.hid hq
    have KW := Lib.hid K
    have hjj : (j : Int) < (ks.len : Int) := by omega
    have hjb : psj.length ≤ 900000 := by omega
    have hZb : psj.length + 1 + Z.1.length ≤ 1000000 := by omega
    have PTE := Lib.hid P3'.out.pt
    have KX := K.step R4.out.be
    have ND := Lib.hid KX.nd
    clear K hZ hq P3' hle hjl
    go_wp2_with (refine cpLoad ND.out rfl rfl rfl ?_)
    refine ((KW.out.kid.all IH.out).1 b Lx _ S _ _ w4 ka' kl' kc' (Lib.hid C4.out.ly) R4.out.hb KX.tv (KW.out.kid.fits hfa.out) ⟨by rw [HL4.out]; omega, by omega⟩).mono ?_
    rintro e w5 ⟨rfl, cl5, s5, f5, b5⟩
    rw [HL4.out, HZ.out] at s5
    have C5 := Lib.hid (C4.out.go s5 f5 b5)
    have R5 := Lib.hid (R4.out.go s5 f5 b5)
    clear s5 f5 b5 C4 R4
    obtain ⟨aS, kS, rfl, hS⟩ := C5.out.slice
    have HS := Lib.hid hS
    clear hS
    have hl5 : (psj ++ [(⟨12, 0, 0, 0, 0, []⟩ : PI)] ++ Z.1).length = psj.length + 1 + Z.1.length := by rw [List.length_append, HL4.out]
    have HL5 := Lib.hid hl5
    clear hl5
    go_wp2_with fail
    refine (cpClose_any os w5 (Lib.hid C5.out.ly) R5.out.hb (by rw [HL5.out]; omega) (by omega) HS.out (fun i hi => by have := PTE.out.lt i hi; rw [HL5.out]; omega)).mono ?_
    rintro e w6 ⟨rfl, cl6, s6, f6, b6⟩
    have L6 := Lib.hid (R5.out.go s6 f6 b6).toLd
    clear s6 f6 b6 C5 R5
    go_wp2_with fail
    have q : Ld b cl S Lx 59 [] W (ps ++ (lazyF h (kcs ks) ps.length cs).1) (lazyF h (kcs ks) ps.length cs).2 w6 := by
     have q := L6.out
     have hlp : psj.length + 1 + Z.1.length = psA.length + 1 + (swF 0 ((kcs ks).drop 1) (psA.length + 1) A.2).1.length := by
      have e := congrArg List.length (HQ.out 0).1
      simp only [List.length_append, List.length_singleton, PTE.out.len] at e
      omega
     rw [HL5.out, List.append_assoc, (PTE.out.app _).eq, (HQ.out _).1, (HQ.out (psj.length + 1 + Z.1.length : Nat)).2, hlp] at q
     rw [HV.out]
     simp only [headF, seqF, insF, List.length_singleton]
     rw [HPA.out] at q ⊢
     simp only [List.append_assoc] at q ⊢
     exact q
    exact bodyPost_end (results_none rfl _ _ _) rfl ⟨rfl, q⟩
   ·obtain rfl : j = ks.len := by omega
    obtain ⟨Z, hZ⟩ : ∃ Z, Z = errF 6 (psj.length + 1) csj := ⟨_, rfl⟩
    have hxZ := fb_err 6 (psj.length + 1) csj
    rw [← hZ] at hxZ
    have HZ := Lib.hid hZ.symm
    have hq : ∀ E, L E ++ ([(⟨12, 0, 0, 0, 0, []⟩ : PI)] ++ Z.1) = (((fun E => ((psA ++ [⟨7, E, 0, 0, 0, []⟩]) ++ (swF E ((kcs ks).drop 1) (psA.length + 1) A.2).1, (swF E ((kcs ks).drop 1) (psA.length + 1) A.2).2)) : Int → List PI × List PV) E).1 ∧ Z.2 = (((fun E => ((psA ++ [⟨7, E, 0, 0, 0, []⟩]) ++ (swF E ((kcs ks).drop 1) (psA.length + 1) A.2).1, (swF E ((kcs ks).drop 1) (psA.length + 1) A.2).2)) : Int → List PI × List PV) E).2 := fun E => by
     have q := P3'.out.eq E
     rw [kcs_dropped] at q
     have e1 : swG E (ks.len : Int) [] psj.length csj = ([(⟨12, 0, 0, 0, 0, []⟩ : PI)] ++ Z.1, Z.2) := by
      show seqF (insF ⟨12, 0, 0, 0, 0, []⟩) (errF 6) psj.length csj = _
      simp only [seqF, insF, List.length_singleton]
      rw [← hZ]
     rw [e1] at q
     exact q
    have HQ := Lib.hid hq
    have hjb : psj.length ≤ 900000 := by omega
    have hZb : psj.length + 1 + Z.1.length ≤ 1000000 := by omega
    have PTE := Lib.hid P3'.out.pt
    have hcb : csj.length ≤ 1000000 := by omega
    clear hZ hq P3' hle hjl
    go_wp2_with fail
    refine (fault_any 6 w4 (Lib.hid C4.out.ly) R4.out.hb (by rw [HL4.out]; omega) hcb).mono ?_
    rintro e w5 ⟨rfl, cl5, s5, f5, b5⟩
    rw [HL4.out, HZ.out] at s5
    have C5 := Lib.hid (C4.out.go s5 f5 b5)
    have R5 := Lib.hid (R4.out.go s5 f5 b5)
    clear s5 f5 b5 C4 R4
    obtain ⟨aS, kS, rfl, hS⟩ := C5.out.slice
    have HS := Lib.hid hS
    clear hS
    have hl5 : (psj ++ [(⟨12, 0, 0, 0, 0, []⟩ : PI)] ++ Z.1).length = psj.length + 1 + Z.1.length := by rw [List.length_append, HL4.out]
    have HL5 := Lib.hid hl5
    clear hl5
    go_wp2_with fail
    refine (cpClose_any os w5 (Lib.hid C5.out.ly) R5.out.hb (by rw [HL5.out]; omega) (by omega) HS.out (fun i hi => by have := PTE.out.lt i hi; rw [HL5.out]; omega)).mono ?_
    rintro e w6 ⟨rfl, cl6, s6, f6, b6⟩
    have L6 := Lib.hid (R5.out.go s6 f6 b6).toLd
    clear s6 f6 b6 C5 R5
    go_wp2_with fail
    have q : Ld b cl S Lx 59 [] W (ps ++ (lazyF h (kcs ks) ps.length cs).1) (lazyF h (kcs ks) ps.length cs).2 w6 := by
     have q := L6.out
     have hlp : psj.length + 1 + Z.1.length = psA.length + 1 + (swF 0 ((kcs ks).drop 1) (psA.length + 1) A.2).1.length := by
      have e := congrArg List.length (HQ.out 0).1
      simp only [List.length_append, List.length_singleton, PTE.out.len] at e
      omega
     rw [HL5.out, List.append_assoc, (PTE.out.app _).eq, (HQ.out _).1, (HQ.out (psj.length + 1 + Z.1.length : Nat)).2, hlp] at q
     rw [HV.out]
     simp only [headF, seqF, insF, List.length_singleton]
     rw [HPA.out] at q ⊢
     simp only [List.append_assoc] at q ⊢
     exact q
    exact bodyPost_end (results_none rfl _ _ _) rfl ⟨rfl, q⟩
end Go.Proofs.YtlmpiobdgkmmgaaGreatDoor
