/- Comp: IFERROR, IFNA, CHOOSE. -/
import Derived.Test.YtlmpiobdgkmmgaaGreatDoorKcM
set_option maxRecDepth 1000000
set_option maxHeartbeats 16000000
namespace Go.Proofs.YtlmpiobdgkmmgaaGreatDoor
open Go.RowKit
theorem lazyErr43_any {h : Hd} {ks : Trees} (ih : AllT VA ks) (hfn : h.fn = 43) (hlen : ks.len = 2) : LazyP h ks := by
 intro hk hc b Lx Bl Mx nb off cl S ps cs W ka kl kc HC NDW hf hr
 have RN0 := Lib.hid (Rn.start HC.out)
 obtain ⟨hr1, hr2⟩ := hr
 have hfv : fitsV h ks.len = true ∧ allFits ks = true := by unfold treeFits at hf; simpa using hf
 have OKC := (call_ok hfv.1 hk).c3 hc
 have hfa := Lib.hid hfv.2
 have IH := Lib.hid ih
 obtain rfl : kl = ks.len := NDW.out.tv.len
 have hkm : ks.len ≤ ks.nodes := len_nodes ks
 have hbW := RN0.out.cx.hb
 obtain ⟨kb, ko, h0, k0, r0, ka0, kl0, kc0, rfl, K0'⟩ := NDW.out.kid 0 (by omega)
 have K0 := Lib.hid K0'
 obtain ⟨kb1, ko1, h1, k1, r1, ka1, kl1, kc1, ea, K1'⟩ := NDW.out.kid 1 (by omega)
 simp only [Option.some.injEq, Addr.mk.injEq, and_true] at ea
 obtain ⟨rfl, rfl⟩ := ea
 have K1 := Lib.hid K1'
 have hnt0 := kid_nth K0'
 have hnt1 := kid_nth K1'
 have hn0 := K0'.nodes
 have hn1 := K1'.nodes
 simp only [Nat.zero_add, Nat.reduceAdd] at hn0 hn1
 rw [tdrop_nodes] at hn0
 have hx := fb_valT h0 k0 ps.length cs
 generalize hA : valT h0 k0 ps.length cs = A at hx
 have HA := Lib.hid hA
 clear HC hfv hf ih K0' K1' hA
 have HV0 : lazyF h (kcs ks) = seqF (nth (kcs ks) 0).v (headF (fun _ => (nth (kcs ks) 1).v) (fun e => ⟨9, e, 0, 0, 0, []⟩)) := by unfold lazyF; rw [if_neg (by omega), if_pos (by omega), hfn]; rfl
 have HV1 : lazyF h (kcs ks) = seqF (valT h0 k0) (headF (fun _ => valT h1 k1) (fun e => ⟨9, e, 0, 0, 0, []⟩)) := by rw [HV0, hnt0, hnt1]
 obtain ⟨psA, hpsA⟩ : ∃ psA, psA = ps ++ A.1 := ⟨_, rfl⟩
 have hlA : psA.length = ps.length + A.1.length := by rw [hpsA, List.length_append]
 have hx1 := fb_valT h1 k1 (psA.length + 1) A.2
 generalize hX : valT h1 k1 (psA.length + 1) A.2 = X at hx1
 have HX := Lib.hid hX
 obtain ⟨a1, ha1⟩ : ∃ a1 : Nat, a1 = psA.length + 1 + X.1.length := ⟨_, rfl⟩
 have HLA := Lib.hid hlA; have HA1 := Lib.hid ha1
 have HV : Hid (lazyF h (kcs ks) ps.length cs = (A.1 ++ (⟨9, (a1 : Nat), 0, 0, 0, []⟩ :: X.1), X.2)) := Lib.hid (by
  rw [HV1, seqF, HA.out]
  simp only [headF, seqF, insF, List.length_singleton]
  rw [← hlA, hX, ← ha1]
  rfl)
 have HPA := Lib.hid hpsA
 have hps8 : ps.length ≤ 900000 := by omega
 clear hk hc HV0 HV1 hnt0 hnt1 hpsA hX hlA ha1
 have c12 := NDW.out.nd.facts.c12
 have c13 := NDW.out.nd.facts.c13
 rw [hlen] at c13
 clear hlen hkm
 go_enter Tryz.func66, Tryz.ntmps66
 go_upto_region 1 with (fail)
 go_wp2_with fail
 refine ((K0.out.all IH.out).1 b Lx Bl Mx kb _ _ S _ _ _ ka0 kl0 kc0 (Lib.hid RN0.out.cx) (Lib.hid (K0.out.nd.step RN0.out.be)) (K0.out.fits hfa.out) ⟨by omega, by omega⟩).mono ?_
 rintro e w1 ⟨rfl, cl1, s1, f1, b1⟩
 have RN1 := Lib.hid (RN0.out.go s1 f1 b1)
 clear RN0 s1 f1 b1  c12 c13
 rw [HA.out, ← HPA.out] at RN1
 have NX := NDW.out.step RN1.out.be
 have c12 := NX.nd.facts.c12
 clear NX
 rw [hfn] at c12
 have hnl : nb < w1.heap.size := Nat.lt_of_lt_of_le NDW.out.lt RN1.out.cx.hb
 go_upto_region 18 with (fail)
 obtain ⟨w2, hw2⟩ : ∃ w2, w2 = w1.alloc (.cells #[.int .i64 9, .int .i64 0, .int .i64 0, .int .i64 0, .int .i64 0, .slice none 0 0] 47) := ⟨_, rfl⟩
 have q2 : Below w1.heap.size w1 w2 := by rw [hw2]; exact ext_alloc (Below.refl _ _) _
 have hB2 : w2.heap[w1.heap.size]? = some (.cells #[.int .i64 9, .int .i64 0, .int .i64 0, .int .i64 0, .int .i64 0, .slice none 0 0] 47 (0, 0)) := by rw [hw2]; exact heap_alloc_new w1 _
 have RN2 := Lib.hid (RN1.out.kept q2 9)
 have e0 := cells_of_block hB2 0; have e1 := cells_of_block hB2 1; have e2 := cells_of_block hB2 2; have e3 := cells_of_block hB2 3; have e4 := cells_of_block hB2 4; have e5 := cells_of_block hB2 5
 simp only [List.getElem?_toArray, List.getElem?_cons_zero, List.getElem?_cons_succ] at e0 e1 e2 e3 e4 e5
 rw [← hw2]
 clear hw2 q2 hB2 RN1 c12 hnl
 generalize w1.heap.size = B9 at e0 e1 e2 e3 e4 e5 RN2 ⊢
 go_wp2_with fail
 refine (open_any 9 0 0 0 0 w2 (Lib.hid RN2.out.cx.ly) RN2.out.cx.hb (by have := HLA.out; omega)).mono ?_
 rintro e w3 ⟨Bl3, Ba3, cl3, rfl, s3, f3, b3, o3⟩
 have RN3 := Lib.hid (RN2.out.go s3 f3 b3)
 have OC3 := Lib.hid o3
 simp only [cloV]
 clear RN2 s3 f3 b3  o3 e0 e1 e2 e3 e4 e5
 go_wp2_with fail
 refine ((K1.out.all IH.out).1 b Lx Bl Mx kb _ _ S _ _ _ ka1 kl1 kc1 (Lib.hid RN3.out.cx) (Lib.hid (K1.out.nd.step RN3.out.be)) (K1.out.fits hfa.out) ⟨by have := HLA.out; rw [List.length_append, List.length_singleton]; omega, by omega⟩).mono ?_
 rintro e w4 ⟨rfl, cl4, s4, f4, b4⟩
 have RN4 := Lib.hid (RN3.out.go s4 f4 b4)
 have OC4 := Lib.hid (OC3.out.frm f4 p3_6 (Nat.le_refl _))
 clear RN3 s4 f4 b4 OC3
 have hl3 : (psA ++ [(⟨9, 0, 0, 0, 0, []⟩ : PI)]).length = psA.length + 1 := by rw [List.length_append, List.length_singleton]
 rw [hl3, HX.out] at RN4
 clear hl3
 have hl4 : (psA ++ [(⟨9, 0, 0, 0, 0, []⟩ : PI)] ++ X.1).length = a1 := by rw [List.length_append, List.length_append, List.length_singleton]; exact HA1.out.symm
 have HL4 := Lib.hid hl4
 clear hl4
 go_wp2_with fail
 refine (closeFn_any w4 (Lib.hid RN4.out.cx.ly) RN4.out.cx.hb (by have := HA1.out; have := HLA.out; rw [HL4.out]; omega) OC4.out (by have := HA1.out; rw [HL4.out]; omega)).mono ?_
 rintro e w5 ⟨rfl, cl5, s5, f5, b5⟩
 have RN5 := Lib.hid (RN4.out.go s5 f5 b5)
 have OC5 := Lib.hid (OC4.out.frm f5 p3_6 (Nat.le_refl _))
 clear RN4 s5 f5 b5 OC4
 go_wp2_with fail
 have q : Ld b cl S Lx 64 [.map (some Mx)] W (ps ++ (lazyF h (kcs ks) ps.length cs).1) (lazyF h (kcs ks) ps.length cs).2 w5 := by
  have q := RN5.out.toLd
  rw [HL4.out, show psA ++ [(⟨9, 0, 0, 0, 0, []⟩ : PI)] ++ X.1 = psA ++ (⟨9, 0, 0, 0, 0, []⟩ : PI) :: X.1 by simp, patA_mid] at q
  rw [HV.out]
  rw [HPA.out, List.append_assoc] at q
  exact q
 exact bodyPost_end (results_none rfl _ _ _) rfl ⟨rfl, q⟩
theorem lazyErr44_any {h : Hd} {ks : Trees} (ih : AllT VA ks) (hfn : h.fn = 44) (hlen : ks.len = 2) : LazyP h ks := by
 intro hk hc b Lx Bl Mx nb off cl S ps cs W ka kl kc HC NDW hf hr
 have RN0 := Lib.hid (Rn.start HC.out)
 obtain ⟨hr1, hr2⟩ := hr
 have hfv : fitsV h ks.len = true ∧ allFits ks = true := by unfold treeFits at hf; simpa using hf
 have OKC := (call_ok hfv.1 hk).c3 hc
 have hfa := Lib.hid hfv.2
 have IH := Lib.hid ih
 obtain rfl : kl = ks.len := NDW.out.tv.len
 have hkm : ks.len ≤ ks.nodes := len_nodes ks
 have hbW := RN0.out.cx.hb
 obtain ⟨kb, ko, h0, k0, r0, ka0, kl0, kc0, rfl, K0'⟩ := NDW.out.kid 0 (by omega)
 have K0 := Lib.hid K0'
 obtain ⟨kb1, ko1, h1, k1, r1, ka1, kl1, kc1, ea, K1'⟩ := NDW.out.kid 1 (by omega)
 simp only [Option.some.injEq, Addr.mk.injEq, and_true] at ea
 obtain ⟨rfl, rfl⟩ := ea
 have K1 := Lib.hid K1'
 have hnt0 := kid_nth K0'
 have hnt1 := kid_nth K1'
 have hn0 := K0'.nodes
 have hn1 := K1'.nodes
 simp only [Nat.zero_add, Nat.reduceAdd] at hn0 hn1
 rw [tdrop_nodes] at hn0
 have hx := fb_valT h0 k0 ps.length cs
 generalize hA : valT h0 k0 ps.length cs = A at hx
 have HA := Lib.hid hA
 clear HC hfv hf ih K0' K1' hA
 have HV0 : lazyF h (kcs ks) = seqF (nth (kcs ks) 0).v (headF (fun _ => (nth (kcs ks) 1).v) (fun e => ⟨9, e, 6, 0, 0, []⟩)) := by unfold lazyF; rw [if_neg (by omega), if_pos (by omega), hfn]; rfl
 have HV1 : lazyF h (kcs ks) = seqF (valT h0 k0) (headF (fun _ => valT h1 k1) (fun e => ⟨9, e, 6, 0, 0, []⟩)) := by rw [HV0, hnt0, hnt1]
 obtain ⟨psA, hpsA⟩ : ∃ psA, psA = ps ++ A.1 := ⟨_, rfl⟩
 have hlA : psA.length = ps.length + A.1.length := by rw [hpsA, List.length_append]
 have hx1 := fb_valT h1 k1 (psA.length + 1) A.2
 generalize hX : valT h1 k1 (psA.length + 1) A.2 = X at hx1
 have HX := Lib.hid hX
 obtain ⟨a1, ha1⟩ : ∃ a1 : Nat, a1 = psA.length + 1 + X.1.length := ⟨_, rfl⟩
 have HLA := Lib.hid hlA; have HA1 := Lib.hid ha1
 have HV : Hid (lazyF h (kcs ks) ps.length cs = (A.1 ++ (⟨9, (a1 : Nat), 6, 0, 0, []⟩ :: X.1), X.2)) := Lib.hid (by
  rw [HV1, seqF, HA.out]
  simp only [headF, seqF, insF, List.length_singleton]
  rw [← hlA, hX, ← ha1]
  rfl)
 have HPA := Lib.hid hpsA
 have hps8 : ps.length ≤ 900000 := by omega
 clear hk hc HV0 HV1 hnt0 hnt1 hpsA hX hlA ha1
 have c12 := NDW.out.nd.facts.c12
 have c13 := NDW.out.nd.facts.c13
 rw [hlen] at c13
 clear hlen hkm
 go_enter Tryz.func66, Tryz.ntmps66
 go_upto_region 1 with (fail)
 go_wp2_with fail
 refine ((K0.out.all IH.out).1 b Lx Bl Mx kb _ _ S _ _ _ ka0 kl0 kc0 (Lib.hid RN0.out.cx) (Lib.hid (K0.out.nd.step RN0.out.be)) (K0.out.fits hfa.out) ⟨by omega, by omega⟩).mono ?_
 rintro e w1 ⟨rfl, cl1, s1, f1, b1⟩
 have RN1 := Lib.hid (RN0.out.go s1 f1 b1)
 clear RN0 s1 f1 b1  c12 c13
 rw [HA.out, ← HPA.out] at RN1
 have NX := NDW.out.step RN1.out.be
 have c12 := NX.nd.facts.c12
 clear NX
 rw [hfn] at c12
 have hnl : nb < w1.heap.size := Nat.lt_of_lt_of_le NDW.out.lt RN1.out.cx.hb
 go_upto_region 18 with (fail)
 obtain ⟨w2, hw2⟩ : ∃ w2, w2 = w1.alloc (.cells #[.int .i64 9, .int .i64 0, .int .i64 6, .int .i64 0, .int .i64 0, .slice none 0 0] 47) := ⟨_, rfl⟩
 have q2 : Below w1.heap.size w1 w2 := by rw [hw2]; exact ext_alloc (Below.refl _ _) _
 have hB2 : w2.heap[w1.heap.size]? = some (.cells #[.int .i64 9, .int .i64 0, .int .i64 6, .int .i64 0, .int .i64 0, .slice none 0 0] 47 (0, 0)) := by rw [hw2]; exact heap_alloc_new w1 _
 have RN2 := Lib.hid (RN1.out.kept q2 9)
 have e0 := cells_of_block hB2 0; have e1 := cells_of_block hB2 1; have e2 := cells_of_block hB2 2; have e3 := cells_of_block hB2 3; have e4 := cells_of_block hB2 4; have e5 := cells_of_block hB2 5
 simp only [List.getElem?_toArray, List.getElem?_cons_zero, List.getElem?_cons_succ] at e0 e1 e2 e3 e4 e5
 rw [← hw2]
 clear hw2 q2 hB2 RN1 c12 hnl
 generalize w1.heap.size = B9 at e0 e1 e2 e3 e4 e5 RN2 ⊢
 go_wp2_with fail
 refine (open_any 9 0 6 0 0 w2 (Lib.hid RN2.out.cx.ly) RN2.out.cx.hb (by have := HLA.out; omega)).mono ?_
 rintro e w3 ⟨Bl3, Ba3, cl3, rfl, s3, f3, b3, o3⟩
 have RN3 := Lib.hid (RN2.out.go s3 f3 b3)
 have OC3 := Lib.hid o3
 simp only [cloV]
 clear RN2 s3 f3 b3  o3 e0 e1 e2 e3 e4 e5
 go_wp2_with fail
 refine ((K1.out.all IH.out).1 b Lx Bl Mx kb _ _ S _ _ _ ka1 kl1 kc1 (Lib.hid RN3.out.cx) (Lib.hid (K1.out.nd.step RN3.out.be)) (K1.out.fits hfa.out) ⟨by have := HLA.out; rw [List.length_append, List.length_singleton]; omega, by omega⟩).mono ?_
 rintro e w4 ⟨rfl, cl4, s4, f4, b4⟩
 have RN4 := Lib.hid (RN3.out.go s4 f4 b4)
 have OC4 := Lib.hid (OC3.out.frm f4 p3_6 (Nat.le_refl _))
 clear RN3 s4 f4 b4 OC3
 have hl3 : (psA ++ [(⟨9, 0, 6, 0, 0, []⟩ : PI)]).length = psA.length + 1 := by rw [List.length_append, List.length_singleton]
 rw [hl3, HX.out] at RN4
 clear hl3
 have hl4 : (psA ++ [(⟨9, 0, 6, 0, 0, []⟩ : PI)] ++ X.1).length = a1 := by rw [List.length_append, List.length_append, List.length_singleton]; exact HA1.out.symm
 have HL4 := Lib.hid hl4
 clear hl4
 go_wp2_with fail
 refine (closeFn_any w4 (Lib.hid RN4.out.cx.ly) RN4.out.cx.hb (by have := HA1.out; have := HLA.out; rw [HL4.out]; omega) OC4.out (by have := HA1.out; rw [HL4.out]; omega)).mono ?_
 rintro e w5 ⟨rfl, cl5, s5, f5, b5⟩
 have RN5 := Lib.hid (RN4.out.go s5 f5 b5)
 have OC5 := Lib.hid (OC4.out.frm f5 p3_6 (Nat.le_refl _))
 clear RN4 s5 f5 b5 OC4
 go_wp2_with fail
 have q : Ld b cl S Lx 64 [.map (some Mx)] W (ps ++ (lazyF h (kcs ks) ps.length cs).1) (lazyF h (kcs ks) ps.length cs).2 w5 := by
  have q := RN5.out.toLd
  rw [HL4.out, show psA ++ [(⟨9, 0, 6, 0, 0, []⟩ : PI)] ++ X.1 = psA ++ (⟨9, 0, 6, 0, 0, []⟩ : PI) :: X.1 by simp, patA_mid] at q
  rw [HV.out]
  rw [HPA.out, List.append_assoc] at q
  exact q
 exact bodyPost_end (results_none rfl _ _ _) rfl ⟨rfl, q⟩
end Go.Proofs.YtlmpiobdgkmmgaaGreatDoor
namespace Go.Proofs.YtlmpiobdgkmmgaaGreatDoor
open Go.RowKit
section
variable {b n0 j kb ko kl' kc' : Nat} {W : World} {ks k' r' : Trees} {h' : Hd} {ka' : Option Addr} {ps : List PI} {cs : List PV} {os : List Nat} {L : Int → List PI} {fin : Int → List PI × List PV}
def chF : Int → Int → List KC → CF := fun E _ l => chsF E l
theorem drop_ne {ks : Trees} {j : Nat} (hj : j < ks.len) : (kcs ks).drop j ≠ [] := fun e => by
 have := congrArg List.length e
 rw [List.length_drop, kcs_len] at this
 simp at this
 omega
theorem chs_more (E : Int) {k : KC} {r : List KC} (hr : r ≠ []) (n : Nat) (cs : List PV) : chsF E (k :: r) n cs = ((k.v n cs).1 ++ (⟨13, E, 0, 0, 0, []⟩ :: (chsF E r (n + (k.v n cs).1.length + 1) (k.v n cs).2).1), (chsF E r (n + (k.v n cs).1.length + 1) (k.v n cs).2).2) := by
 cases r with
 | nil => exact absurd rfl hr
 | cons k2 r => rfl
theorem chsT_more {k : KC} {r : List KC} (hr : r ≠ []) (n : Nat) (cs : List PV) : chsT (k :: r) n cs = (n : Int) :: chsT r (n + (k.v n cs).1.length + 1) (k.v n cs).2 := by
 cases r with
 | nil => exact absurd rfl hr
 | cons k2 r => rfl
theorem VkP.chN (h : VkP chF ks n0 j ps cs os L fin) (K : Kid b W ks j kb ko h' k' r' ka' kl' kc') (hj : j + 1 < ks.len) :
 VkP chF ks n0 (j + 1) (ps ++ (valT h' k' ps.length cs).1 ++ [⟨13, 0, 0, 0, 0, []⟩]) (valT h' k' ps.length cs).2 (os ++ [(ps ++ (valT h' k' ps.length cs).1).length]) (fun E => L E ++ (valT h' k' ps.length cs).1 ++ [⟨13, E, 0, 0, 0, []⟩]) fin := by
 have hx := fb_valT h' k' ps.length cs
 have hne := drop_ne hj
 refine ⟨(h.pt.app _).opened ⟨13, 0, 0, 0, 0, []⟩, fun E => ?_, ?_⟩
 ·have q := h.eq E
  rw [K.kcs] at q
  unfold chF at q ⊢
  rw [chs_more E hne] at q
  have hl : (ps ++ (valT h' k' ps.length cs).1 ++ [(⟨13, 0, 0, 0, 0, []⟩ : PI)]).length = ps.length + (valT h' k' ps.length cs).1.length + 1 := by simp only [List.length_append, List.length_singleton]
  rw [hl]
  refine ⟨?_, q.2⟩
  rw [← q.1]
  simp only [List.append_assoc, List.singleton_append]
 ·have := h.room
  rw [K.nodes] at this
  unfold Room at this ⊢
  simp only [List.length_append, List.length_singleton]
  omega
theorem VkP.chL (h : VkP chF ks n0 j ps cs os L fin) (K : Kid b W ks j kb ko h' k' r' ka' kl' kc') (hj : j + 1 = ks.len) :
 VkP chF ks n0 (j + 1) (ps ++ (valT h' k' ps.length cs).1) (valT h' k' ps.length cs).2 os (fun E => L E ++ (valT h' k' ps.length cs).1) fin := by
 have hx := fb_valT h' k' ps.length cs
 have hne : (kcs ks).drop (j + 1) = [] := by rw [hj]; exact kcs_dropped ks
 refine ⟨h.pt.app _, fun E => ?_, ?_⟩
 ·have q := h.eq E
  rw [K.kcs, hne] at q
  rw [hne]
  refine ⟨?_, q.2⟩
  rw [← q.1]
  exact List.append_nil _
 ·have := h.room
  rw [K.nodes] at this
  unfold Room at this ⊢
  rw [List.length_append]
  omega
theorem tab_next {ns T : List Int} (h : ns ++ chsT ((kcs ks).drop j) ps.length cs = T) (K : Kid b W ks j kb ko h' k' r' ka' kl' kc') (hj : j + 1 < ks.len) :
 (ns ++ [(ps.length : Int)]) ++ chsT ((kcs ks).drop (j + 1)) (ps ++ (valT h' k' ps.length cs).1 ++ [(⟨13, 0, 0, 0, 0, []⟩ : PI)]).length (valT h' k' ps.length cs).2 = T := by
 rw [K.kcs, chsT_more (drop_ne hj)] at h
 have hl : (ps ++ (valT h' k' ps.length cs).1 ++ [(⟨13, 0, 0, 0, 0, []⟩ : PI)]).length = ps.length + (valT h' k' ps.length cs).1.length + 1 := by simp only [List.length_append, List.length_singleton]
 rw [hl, ← h, List.append_assoc]
 rfl
theorem tab_last {ns T : List Int} (h : ns ++ chsT ((kcs ks).drop j) ps.length cs = T) (K : Kid b W ks j kb ko h' k' r' ka' kl' kc') (hj : j + 1 = ks.len) (n : Nat) (cs' : List PV) :
 (ns ++ [(ps.length : Int)]) ++ chsT ((kcs ks).drop (j + 1)) n cs' = T := by
 have hne : (kcs ks).drop (j + 1) = [] := by rw [hj]; exact kcs_dropped ks
 rw [K.kcs, hne] at h
 rw [hne, ← h]
 exact List.append_nil _
end
def patT : List PI → Nat → List Int → List PI
 | [], _, _ => []
 | p :: r, 0, x => { p with t := x } :: r
 | p :: r, i + 1, x => p :: patT r i x
theorem patT_len : ∀ (ps : List PI) (i : Nat) (x : List Int), (patT ps i x).length = ps.length
 | [], _, _ => rfl
 | _ :: _, 0, _ => rfl
 | p :: r, i + 1, x => by simp [patT, patT_len r i x]
theorem patT_set : ∀ (ps : List PI) (i : Nat) (x : List Int) (p : PI), ps[i]? = some p → patT ps i x = ps.set i { p with t := x }
 | [], _, _, _, h => by simp at h
 | q :: r, 0, x, p, h => by
  simp only [List.getElem?_cons_zero, Option.some.injEq] at h
  subst h
  rfl
 | q :: r, i + 1, x, p, h => by simp only [patT, List.set_cons_succ, patT_set r i x p (by simpa using h)]
theorem patT_mid (r : List PI) (p : PI) (x : List Int) : ∀ l : List PI, patT (l ++ p :: r) l.length x = l ++ { p with t := x } :: r
 | [] => rfl
 | q :: l => by simp only [List.cons_append, List.length_cons, patT, patT_mid r p x l]
theorem patAT : ∀ (ps : List PI) (i j : Nat) (x : Int) (t : List Int), patA (patT ps i t) j x = patT (patA ps j x) i t
 | [], _, _, _, _ => rfl
 | _ :: _, 0, 0, _, _ => rfl
 | _ :: _, 0, _ + 1, _, _ => rfl
 | _ :: _, _ + 1, 0, _, _ => rfl
 | p :: r, i + 1, j + 1, x, t => by simp only [patT, patA, patAT r i j x t]
theorem patsT : ∀ (os : List Nat) (ps : List PI) (i : Nat) (x : Int) (t : List Int), pats os x (patT ps i t) = patT (pats os x ps) i t
 | [], _, _, _, _ => rfl
 | o :: os, ps, i, x, t => by
  show pats os x (patA (patT ps i t) o x) = patT (pats os x (patA ps o x)) i t
  rw [patAT, patsT os]
theorem Ly.pat5 {b Lx i : Nat} {TL : TypeId} {ex : List Value} {cl : Nat → Nat} {S : SX} {ps : List PI} {cs : List PV} {W : World} {tv : Value} {xs : List Int} (s : Ly b cl S Lx TL ex ps cs W) (hi : i < ps.length) (hSn : S i = none) (ht : TRow b W.heap.size cl (10 + i) W tv xs) :
 ∃ g cap v, W.cell? ⟨Lx, 0, none⟩ = some (.slice (some ⟨g, 0, none⟩) ps.length cap) ∧ W.cell? ⟨g, i * 6 + 5, none⟩ = some v ∧ W.frozen? ⟨g, i * 6 + 5, none⟩ = false ∧ Ld b cl S Lx TL ex W (patT ps i xs) cs (W.setCell ⟨g, i * 6 + 5, none⟩ tv) := by
 obtain ⟨vI, vC, ts, s⟩ := s
 obtain ⟨p, hp⟩ : ∃ p, ps[i]? = some p := ⟨_, List.getElem?_eq_getElem hi⟩
 obtain ⟨t, ht0⟩ : ∃ t, ts[i]? = some t := ⟨_, List.getElem?_eq_getElem (by rw [s.len]; exact hi)⟩
 rcases s.rI.own.2 with ⟨e, h0⟩ | ⟨g, cap, cur, e, hbg, -⟩
 ·exact absurd h0 (by omega)
 subst e
 obtain ⟨s2, f2⟩ := s.setI (p' := { p with t := xs }) (t' := tv) (j := 5) (u := tv) hp ht0 (by omega) rfl (fun W' f _ => ht.frm f (by omega) (Nat.le_refl _)) (fun v hv => by rw [hSn] at hv; cases hv)
 have ly : Ly b cl S Lx TL ex (patT ps i xs) cs (W.setCell ⟨g, i * 6 + 5, none⟩ tv) := by
  rw [patT_set ps i xs p hp]
  have hz : (W.setCell ⟨g, i * 6 + 5, none⟩ tv).heap.size = W.heap.size := setCell_hsize _ _ _
  rw [← hz] at s2
  exact ⟨_, _, _, s2⟩
 refine ⟨g, cap, t, (cells_of_block s.box 0).trans rfl, ?_, own_frz s.rI.own _, cl, ly, f2.mono fun c h => h.1, (Below.refl b W).setCell (p := ⟨g, i * 6 + 5, none⟩) hbg _⟩
 exact (own_cell s.rI.own (i * 6 + 5) (by rw [insC_len _ _ s.len]; omega)).trans (insC_get ps ts i 5 p t hp ht0 (by omega))
theorem Ly.sn {b Lx : Nat} {TL : TypeId} {ex : List Value} {cl : Nat → Nat} {S : SX} {ps : List PI} {cs : List PV} {W : World} (s : Ly b cl S Lx TL ex ps cs W) (i : Nat) (hi : ps.length ≤ i) : S i = none := by
 obtain ⟨vI, vC, ts, s⟩ := s
 cases h : S i with
 | none => rfl
 | some v => have := s.sn i v h; omega
def TbR (cl : Nat → Nat) (W0 W : World) (v : Value) (ns : List Int) : Prop := Rw W0.heap.size W.heap.size cl 8 3 1 W v ns.length (ns.map fun x => Value.int .i64 x)
theorem p3_8 : P3 8 := ⟨by omega, by omega, by omega⟩
section
variable {b Lx Bl Mx : Nat} {cl0 cl cl' : Nat → Nat} {S : SX} {ps ps' : List PI} {cs cs' : List PV} {W0 W W' W1 : World} {v vt : Value} {vs : List Value} {os : List Nat} {ns : List Int}
theorem TbR.frm {P : Nat → Prop} (h : TbR cl W0 W vt ns) (f : Frm P cl W.heap.size cl' W W') (hp : P 8) (hz : W.heap.size ≤ W'.heap.size) : TbR cl' W0 W' vt ns := Rw.frm h f hp hz
theorem CoR.other {P : Nat → Prop} (h : CoR b Lx Bl Mx cl0 W0 cl S ps cs W v vs os) (f : Frm P cl W.heap.size cl' W W') (hp : ∀ c, c ≠ 8 → P c) (hu : ∀ x, x < W0.heap.size → cl' x = cl x) (bel : Below W0.heap.size W W') (hb : b ≤ W0.heap.size) : CoR b Lx Bl Mx cl0 W0 cl' S ps cs W' v vs os := by
 have s1 : Ly b cl' S Lx 64 [.map (some Mx)] ps cs W' := by
  obtain ⟨vI, vC, ts, s⟩ := h.rn.cx.ly
  exact ⟨vI, vC, ts, s.frm f bel.size (hp _ (by omega)) (hp _ (by omega)) (hp _ (by omega)) fun i _ => hp _ (by omega)⟩
 refine ⟨⟨⟨s1, h.rn.cx.env.frm f (hp _ (by omega)), Nat.le_trans h.rn.cx.hb bel.size⟩, ?_, h.rn.be.trans (bel.mono hb)⟩, h.row.frm f (hp _ (by omega)) bel.size, fun i o hi => ?_, h.len⟩
 ·exact h.rn.fr.trans (cl1 := cl) (N1 := W0.heap.size) (fun x hx _ => ⟨hu x hx, bel.block x hx⟩) (Nat.le_refl _)
 ·obtain ⟨B1, B2, e, c⟩ := h.clo i o hi
  exact ⟨B1, B2, e, c.frm f (hp _ (by omega)) (Nat.le_refl _)⟩
theorem TbR.push {g cap : Nat} {x : Int} {ob : Obj} (h : TbR cl W0 W vt ns) (c : CoR b Lx Bl Mx cl0 W0 cl S ps cs W v vs os) (hb : b ≤ W0.heap.size) (hown : W1.ownsRow W0.heap.size 3 1 (.slice (some ⟨g, 0, none⟩) (ns.length + 1) cap) (ns.length + 1) ((ns.map fun x => Value.int .i64 x) ++ [.int .i64 x])) (hgrow : (W.alloc ob).grownBy W1 vt.ownBlock) (hat : vt.ownBlock = some g ∨ g = (W.alloc ob).heap.size) :
 CoR b Lx Bl Mx cl0 W0 (upc cl W.heap.size 8) S ps cs W1 v vs os ∧ TbR (upc cl W.heap.size 8) W0 W1 (.slice (some ⟨g, 0, none⟩) (ns.length + 1) cap) (ns ++ [x]) := by
 have hz := c.rn.be.size
 have bel : Below W0.heap.size W W1 := ((Below.refl _ W).alloc hz ob).grown hgrow (by simp; omega) (fun k hk => (World.ownsRow.lt h.own k hk).1)
 have f1 : Frm (· ≠ 8) cl W.heap.size (upc cl W.heap.size 8) W W1 := Frm.but fun x hx hc => grow_same9 hgrow x hx fun e => hc (h.cls x e).1
 refine ⟨c.other f1 (fun _ q => q) (fun x hx => upc_lt (by omega)) bel hb, ?_⟩
 unfold TbR
 rw [List.length_append, List.length_singleton, List.map_append]
 exact h.make hown (hat.imp (fun e => e.symm) fun e k hk => by
  simp only [Value.ownBlock, Option.some.injEq] at hk
  rw [← hk, e]; simp) (Nat.le_refl _)
theorem TbR.give (h : TbR cl W0 W vt ns) (c : CoR b Lx Bl Mx cl0 W0 cl S ps cs W v vs os) (hb : b ≤ W0.heap.size) (hne : ns ≠ []) (i : Nat) :
 ∃ g kc cl', vt = .slice (some ⟨g, 0, none⟩) ns.length kc ∧ ns.length ≤ kc ∧ CoR b Lx Bl Mx cl0 W0 cl' S ps cs W v vs os ∧ TRow b W.heap.size cl' (10 + i) W (.slice (some ⟨g, 0, none⟩) ns.length ns.length) ns := by
 have hl : 0 < ns.length := List.length_pos_iff.2 hne
 rcases h.own.2 with ⟨e, h0⟩ | ⟨g, cap, cur, e, hbg, hg, h1, h2, h3, h4⟩
 ·omega
 have hc := h.cls g (by rw [e]; rfl)
 have f : Frm (· ≠ 8) cl W.heap.size (fun x => if x = g then 10 + i else cl x) W W := fun x _ hx => ⟨if_neg (fun q => hx (by rw [q]; exact hc.1)), rfl⟩
 refine ⟨g, cap, _, e, h1, c.other f (fun _ q => q) (fun x hx => if_neg (by omega)) (Below.refl _ _) hb, .inr ⟨g, ns.length, cur, rfl, if_pos rfl, hc.2, by omega, hg, ⟨hl, Nat.le_refl _⟩, by omega, fun j x hj => ?_⟩⟩
 have hjl := (List.getElem?_eq_some_iff.1 hj).1
 have q := congrArg (fun l : List Value => l[j]?) h4
 simp only [List.getElem?_take, List.getElem?_map, hj, Option.map_some] at q
 rw [if_pos (by omega)] at q
 simpa using q
end
end Go.Proofs.YtlmpiobdgkmmgaaGreatDoor
namespace Go.Proofs.YtlmpiobdgkmmgaaGreatDoor
open Go.RowKit
theorem infoIntC : (Tryz.prog.info? 3).map (fun i => (i.zero, i.size, i.bytes)) = some (some (.int .i64 0), 1, 8) := by kernel_rfl
theorem Ly.cell0 {b Lx : Nat} {TL : TypeId} {ex : List Value} {cl : Nat → Nat} {S : SX} {ps : List PI} {cs : List PV} {W : World} (h : Ly b cl S Lx TL ex ps cs W) : ∃ a cap, W.cell? ⟨Lx, 0, none⟩ = some (.slice a ps.length cap) := by
 obtain ⟨vI, vC, ts, s⟩ := h
 obtain ⟨a, kc, e⟩ := s.rI.own.slice9
 exact ⟨a, kc, (cells_of_block s.box 0).trans (by rw [← e]; rfl)⟩
def ChRel (b Lx Bl Mx : Nat) (cl0 : Nat → Nat) (W0 : World) (S : SX) (ks : Trees) (lo : Nat) (T : List Int) (fin : Int → List PI × List PV) (v vt iv : Value) (wr : World) : Prop :=
 ∃ (j : Nat) (cl : Nat → Nat) (vs : List Value) (os : List Nat) (ns : List Int) (ps : List PI) (cs : List PV) (L : Int → List PI), iv = .int .i64 (j : Int) ∧ 1 ≤ j ∧ j ≤ ks.len ∧ os.length ≤ j ∧ ns.length < j ∧ Hid (ns.length + 1 = j) ∧ lo < ps.length ∧ Hid (CoR b Lx Bl Mx cl0 W0 cl S ps cs wr v vs os) ∧ Hid (VkP chF ks 0 j ps cs os L fin) ∧ Hid (TbR cl W0 wr vt ns) ∧ Hid (ns ++ chsT ((kcs ks).drop j) ps.length cs = T)
theorem lazyCh_any {h : Hd} {ks : Trees} (ih : AllT VA ks) (hfn : h.fn = 45) (hlen : 2 ≤ ks.len) : LazyP h ks := by
 intro hk hc b Lx Bl Mx nb off cl S ps cs W ka kl kc HC NDW hf hr
 have RN0 := Lib.hid (Rn.start HC.out)
 obtain ⟨hr1, hr2⟩ := hr
 have hfv : fitsV h ks.len = true ∧ allFits ks = true := by unfold treeFits at hf; simpa using hf
 have OKC := (call_ok hfv.1 hk).c3 hc
 have hfa := Lib.hid hfv.2
 have IH := Lib.hid ih
 obtain rfl : kl = ks.len := NDW.out.tv.len
 have hkm : ks.len ≤ ks.nodes := len_nodes ks
 have hbW := RN0.out.cx.hb
 obtain ⟨kb, ko, h0, k0, r0, ka0, kl0, kc0, rfl, K0'⟩ := NDW.out.kid 0 (by omega)
 have K0 := Lib.hid K0'
 obtain ⟨kb1, ko1, h1, k1, r1, ka1, kl1, kc1, ea, K1'⟩ := NDW.out.kid 1 (by omega)
 simp only [Option.some.injEq, Addr.mk.injEq, and_true] at ea
 obtain ⟨rfl, rfl⟩ := ea
 have K1 := Lib.hid K1'
 have hnt0 := kid_nth K0'
 have hnt1 := kid_nth K1'
 have hn0 := K0'.nodes
 have hn1 := K1'.nodes
 simp only [Nat.zero_add, Nat.reduceAdd] at hn0 hn1
 rw [tdrop_nodes] at hn0
 have hx := fb_valT h0 k0 ps.length cs
 generalize hA : valT h0 k0 ps.length cs = A at hx
 have HA := Lib.hid hA
 clear HC hfv hf ih K0' K1' hA
 have HV0 : lazyF h (kcs ks) = seqF (nth (kcs ks) 0).v (fun n cs => headF (fun e => chsF e ((kcs ks).drop 1)) (fun e => ⟨10, e, 0, 0, 0, chsT ((kcs ks).drop 1) (n + 1) cs⟩) n cs) := by unfold lazyF; rw [if_neg (by omega), if_neg (by omega), if_pos hfn, List.drop_one]
 have HV1 : lazyF h (kcs ks) = seqF (valT h0 k0) (fun n cs => headF (fun e => chsF e ((kcs ks).drop 1)) (fun e => ⟨10, e, 0, 0, 0, chsT ((kcs ks).drop 1) (n + 1) cs⟩) n cs) := by rw [HV0, hnt0]
 obtain ⟨psA, hpsA⟩ : ∃ psA, psA = ps ++ A.1 := ⟨_, rfl⟩
 have hlA : psA.length = ps.length + A.1.length := by rw [hpsA, List.length_append]
 have HLA := Lib.hid hlA
 have hl1 : (psA ++ [(⟨10, 0, 0, 0, 0, []⟩ : PI)]).length = psA.length + 1 := by rw [List.length_append, List.length_singleton]
 have PT0 : Hid (VkP chF ks 0 1 (psA ++ [(⟨10, 0, 0, 0, 0, []⟩ : PI)]) A.2 [psA.length] (fun E => psA ++ [⟨10, E, 0, 0, 0, []⟩]) (fun E => ((psA ++ [⟨10, E, 0, 0, 0, []⟩]) ++ (chsF E ((kcs ks).drop 1) (psA.length + 1) A.2).1, (chsF E ((kcs ks).drop 1) (psA.length + 1) A.2).2))) :=
  Lib.hid ⟨(Pt.nil psA).opened (⟨10, 0, 0, 0, 0, []⟩ : PI), fun E => by rw [hl1]; exact ⟨rfl, rfl⟩, ⟨by rw [hl1]; omega, by omega⟩⟩
 obtain ⟨T, hT⟩ : ∃ T, T = chsT ((kcs ks).drop 1) (psA.length + 1) A.2 := ⟨_, rfl⟩
 have HT := Lib.hid hT
 have HT0 : Hid ([] ++ chsT ((kcs ks).drop 1) (psA ++ [(⟨10, 0, 0, 0, 0, []⟩ : PI)]).length A.2 = T) := Lib.hid (by rw [hl1, hT]; rfl)
 have HV : Hid (lazyF h (kcs ks) ps.length cs = (A.1 ++ (headF (fun e => chsF e ((kcs ks).drop 1)) (fun e => ⟨10, e, 0, 0, 0, T⟩) psA.length A.2).1, (headF (fun e => chsF e ((kcs ks).drop 1)) (fun e => ⟨10, e, 0, 0, 0, T⟩) psA.length A.2).2)) := Lib.hid (by
  rw [HV1, seqF, HA.out, hlA, hT, ← hlA])
 have HSN : Hid (S psA.length = none) := Lib.hid (RN0.out.cx.ly.sn _ (by omega))
 have HPA := Lib.hid hpsA
 have hps8 : ps.length ≤ 900000 := by omega
 obtain ⟨i0, hi, hz0, hz1, hz2⟩ := info_parts infoFun
 obtain ⟨i1, hj1, hy0, hy1, hy2⟩ := info_parts infoIntC
 have hl20 : (0 : Int) < (ks.len : Int) := by omega
 have HL1 := Lib.hid hl1
 clear hk hc HV0 HV1 hnt0 hnt1 hpsA hlA hT hl1 hn0 hn1
 have c13 := NDW.out.nd.facts.c13
 go_enter Tryz.func66, Tryz.ntmps66
 go_upto_region 1 with (fail)
 go_wp2_with fail
 refine ((K0.out.all IH.out).1 b Lx Bl Mx kb _ _ S _ _ _ ka0 kl0 kc0 (Lib.hid RN0.out.cx) (Lib.hid (K0.out.nd.step RN0.out.be)) (K0.out.fits hfa.out) ⟨by have := K0.out.nodes; rw [tdrop_nodes] at this; omega, by have := K0.out.nodes; rw [tdrop_nodes] at this; omega⟩).mono ?_
 rintro e w1 ⟨rfl, cl1, s1, f1, b1⟩
 have RN1 := Lib.hid (RN0.out.go s1 f1 b1)
 clear RN0 s1 f1 b1  c13
 rw [HA.out, ← HPA.out] at RN1
 have NX := NDW.out.step RN1.out.be
 have c12 := NX.nd.facts.c12
 clear NX
 rw [hfn] at c12
 go_wp2_with fail
 refine (open_any 10 0 0 0 0 w1 (Lib.hid RN1.out.cx.ly) RN1.out.cx.hb (by have := HLA.out; have := PT0.out.room.1; rw [HL1.out] at this; omega)).mono ?_
 rintro e w2 ⟨Bl2, Ba2, cl2, rfl, s2, f2, b2, o2⟩
 have RN2 := Lib.hid (RN1.out.go s2 f2 b2)
 have OC2 := Lib.hid o2
 simp only [cloV]
 clear RN1 s2 f2 b2  o2 c12
 have hbl : psA.length ≤ 900000 := by have := PT0.out.room.1; rw [HL1.out] at this; omega
 have C3 := Lib.hid (CoR.first RN2.out OC2.out)
 simp only [cloV] at C3
 clear RN2 OC2
 go_upto_region 23 with (fail)
 generalize World.alloc w2 _ = w3 at C3 ⊢
 generalize upc _ _ 7 = cl3 at C3
 obtain ⟨a0, kp0, c0⟩ := C3.out.rn.cx.ly.cell0
 rw [List.length_append, List.length_singleton] at c0
 go_wp2_with fail
 clear c0
 go_loopw [9, 11, 12] (fun v vt iv wr => ChRel b Lx Bl Mx cl W S ks psA.length T (fun E => ((psA ++ [⟨10, E, 0, 0, 0, []⟩]) ++ (chsF E ((kcs ks).drop 1) (psA.length + 1) A.2).1, (chsF E ((kcs ks).drop 1) (psA.length + 1) A.2).2)) v vt iv wr) (fun _ _ iv _ => ks.len - (intOf iv).toNat)
 case atStart => exact ⟨1, cl3, _, _, [], _, _, _, rfl, Nat.le_refl _, by omega, by simp, by simp, Lib.hid rfl, by simp, C3, PT0, Lib.hid ⟨World.ownsRow_nil _ _ _ _, fun k hk => by simp [Value.ownBlock] at hk⟩, HT0⟩
 case round =>
  obtain ⟨j, cl3, vs, os, ns, psj, csj, L, rfl, hj0, hj, hol, hnb, HNL, hlo, C3, P3', T3, HT3⟩ := hrel
  by_cases hlt : j < ks.len
  ·obtain ⟨kb', ko', h', k', r', ka', kl', kc', ea, K⟩ := NDW.out.kid j hlt
   simp only [Option.some.injEq, Addr.mk.injEq, and_true] at ea
   obtain ⟨rfl, rfl⟩ := ea
   have rm : Room psj csj (1 + k'.nodes) := by have := P3'.out.room; rw [K.nodes] at this; unfold Room at this ⊢; omega
   have KW := Lib.hid K
   obtain ⟨a0, kp0, c0⟩ := C3.out.rn.cx.ly.cell0
   have hzw := C3.out.rn.be.size
   clear K
   go_wp2_with (at_builtin; refine wpList_append_lies _ rfl _ _ 45 rfl W.heap.size 3 i1 _ 1 8 Tryz.underlying45 hj1 hy0 hy1 hy2 rfl (by decide) u11 ns.length (ns.map fun x => Value.int .i64 x) rfl (World.ownsRow.alloc (Rw.own T3.out) _) ⟨wr.heap.size, 0, none⟩ 1 1 [.int .i64 (psj.length : Int)] rfl rfl (World.news_of_block (heap_alloc_new wr _)) (by simp [Value.oneCell']) (by decide) (by unfold maxLen; omega) (by omega) (by simp; omega) _ rfl ?_)
   intro g cap w6 hown hgrow hat _
   obtain ⟨c6, t6⟩ := T3.out.push C3.out hbW hown hgrow (hat.imp_right fun q => by rw [q]; simp)
   have C6 := Lib.hid c6; have T6 := Lib.hid t6
   clear hown hgrow hat c6 t6 C3 T3 c0 hzw
   go_wp2_with fail
   refine ((KW.out.all IH.out).1 b Lx Bl Mx kb _ _ S psj csj w6 ka' kl' kc' (Lib.hid C6.out.rn.cx) (Lib.hid (KW.out.nd.step C6.out.rn.be)) (KW.out.fits hfa.out) rm).mono ?_
   rintro e w4 ⟨rfl, cl4, s4, f4, b4⟩
   have C4 := Lib.hid (C6.out.go s4 f4 b4)
   have T4 := Lib.hid (T6.out.frm f4 p3_8 b4.size)
   clear s4 f4 b4 C6 T6 rm
   by_cases hj1 : j + 1 < ks.len
   ·have P4 := Lib.hid (P3'.out.chN KW.out hj1)
    have HT4 := Lib.hid (tab_next HT3.out KW.out hj1)
    have rm4 := P4.out.room.1
    rw [List.length_append, List.length_singleton] at rm4
    have RM4 := Lib.hid rm4
    have hjn2 : (j : Int) < (ks.len : Int) - 1 := by omega
    clear rm4 P3' HT3
    go_wp2_with fail
    refine (open_any 13 0 0 0 0 w4 (Lib.hid C4.out.rn.cx.ly) C4.out.rn.cx.hb (by have := RM4.out; omega)).mono ?_
    rintro e w2 ⟨Bl2, Ba2, cl2, rfl, s2, f2, b2, o2⟩
    have C2 := Lib.hid (C4.out.go s2 f2 b2)
    have T2 := Lib.hid (T4.out.frm f2 p3_8 b2.size)
    have OC := Lib.hid o2
    have hvl := C2.out.len
    have hzw := C2.out.rn.be.size
    clear s2 f2 b2 o2 C4 T4
    simp only [cloV]
    go_wp2_with (at_builtin; refine wpList_append_lies _ rfl _ _ 113 rfl W.heap.size 1 i0 _ 1 8 Tryz.underlying113 hi hz0 hz1 hz2 rfl (by decide) u9 vs.length vs rfl (World.ownsRow.alloc C2.out.row.own _) ⟨w2.heap.size, 0, none⟩ 1 1 [cloV Bl2 Ba2] rfl rfl (World.news_of_block (heap_alloc_new w2 _)) (by simp [Value.oneCell', cloV]) (by decide) (by unfold maxLen; omega) (by omega) (by simp; omega) _ rfl ?_)
    intro g2 cap2 w7 hown hgrow hat _
    have C7 := Lib.hid (C2.out.push OC.out hbW hown hgrow (hat.imp_right fun q => by rw [q]; simp))
    have f7 : Frm (· ≠ 7) cl2 w2.heap.size (upc cl2 w2.heap.size 7) w2 w7 := Frm.but fun x hx hc => grow_same9 hgrow x hx fun e => hc (C2.out.row.cls x e).1
    have T7 := Lib.hid (T2.out.frm f7 (by omega) (by have := hgrow.size; simp at this; omega))
    clear hown hgrow hat C2 T2 OC hvl hzw f7
    go_wp2_with fail
    exact ⟨⟨j + 1, _, _, _, _, _, _, _, by go_num, by omega, by omega, by simp; omega, by simp; omega, Lib.hid (by have := HNL.out; simp; omega), by simp; omega, C7, P4, T7, HT4⟩, by simp [intOf]; omega⟩
   ·have P4 := Lib.hid (P3'.out.chL KW.out (by omega))
    have HT4 := Lib.hid (tab_last HT3.out KW.out (by omega) (psj ++ (valT h' k' psj.length csj).1).length (valT h' k' psj.length csj).2)
    clear P3' HT3
    have hj2 : ¬ (j : Int) < (ks.len : Int) - 1 := by omega
    go_wp2_with fail
    exact ⟨⟨j + 1, _, _, _, _, _, _, _, by go_num, by omega, by omega, by omega, by simp; omega, Lib.hid (by have := HNL.out; simp; omega), by simp; omega, C4, P4, T4, HT4⟩, by simp [intOf]; omega⟩
  ·obtain rfl : j = ks.len := by omega
   have hns : ns = T := by
    have := HT3.out
    rw [kcs_dropped] at this
    rw [← this]
    exact (List.append_nil _).symm
   have HNS := Lib.hid hns
   have hnne : ns ≠ [] := fun e => by have := HNL.out; rw [e] at this; simp at this; omega
   obtain ⟨g5, kc5, cl5, rfl, hnk, c5, t5⟩ := T3.out.give C3.out hbW hnne psA.length
   have C5 := Lib.hid c5.drew
   have t5d : TRow b wr.drew.heap.size cl5 (10 + psA.length) wr.drew (.slice (some ⟨g5, 0, none⟩) ns.length ns.length) ns := t5.frm (P := fun _ => True) (cl := cl5) (cl' := cl5) (fun _ _ _ => ⟨rfl, rfl⟩) trivial (Nat.le_refl _)
   obtain ⟨g6, cap6, v6, c0, c3, f3, l3⟩ := C5.out.rn.cx.ly.pat5 hlo HSN.out t5d
   have c0' : wr.cell? ⟨Lx, 0, none⟩ = some (.slice (some ⟨g6, 0, none⟩) psj.length cap6) := c0
   have L3 := Lib.hid l3
   have hD := P3'.out.done fun _ _ => rfl
   have HD := Lib.hid hD
   have PTE := Lib.hid P3'.out.pt
   have hln : psj.length ≤ 900000 := by have := P3'.out.room.1; omega
   have hli : ((psA.length : Nat) : Int) < ((psj.length : Nat) : Int) := Int.ofNat_lt.2 hlo
   clear c0 l3 hD P3' c5 t5 t5d C3 T3 HT3 hns
   go_upto_region 32 with (fail)
   go_still_tail 14, (by kernel_rfl)
   change wpList _ _ _ _ _ wr.drew
   generalize wr.drew = wd at C5 c3 f3 L3 ⊢
   go_upto_region 33 with (fail)
   obtain ⟨cl6, s6, f6, b6⟩ := L3.out
   generalize World.setCell wd _ _ = w6 at s6 f6 b6 ⊢
   have C6 := Lib.hid (C5.out.go s6 f6 b6)
   clear L3 s6 f6 b6 C5 c0' c3 f3 hli
   obtain ⟨aS, kS, rfl, hS⟩ := C6.out.slice
   have HS := Lib.hid hS
   clear hS
   go_wp2_with fail
   refine (cpAll_any os w6 (Lib.hid C6.out.rn.cx.ly) C6.out.rn.cx.hb (by rw [patT_len]; omega) (by omega) HS.out (fun i hi => by rw [patT_len]; exact PTE.out.lt i hi)).mono ?_
   rintro e w5 ⟨rfl, cl5, s5, f5, b5⟩
   have L5 := Lib.hid (C6.out.rn.go s5 f5 b5).toLd
   clear s5 f5 b5 C6
   go_wp2_with fail
   have q : Ld b cl S Lx 64 [.map (some Mx)] W (ps ++ (lazyF h (kcs ks) ps.length cs).1) (lazyF h (kcs ks) ps.length cs).2 w5 := by
    have q := L5.out
    have hlp : psj.length = psA.length + 1 + (chsF 0 ((kcs ks).drop 1) (psA.length + 1) A.2).1.length := by
     rw [← PTE.out.len 0, (HD.out 0).1]; simp only [List.length_append, List.length_singleton]
    rw [patT_len, patsT, PTE.out.eq, (HD.out _).1, (HD.out _).2, List.append_assoc, List.singleton_append, patT_mid, HNS.out] at q
    rw [HV.out]
    simp only [headF, seqF, insF, List.length_singleton]
    rw [← hlp]
    rw [HPA.out] at q ⊢
    rw [List.append_assoc] at q
    exact q
   exact bodyPost_end (results_none rfl _ _ _) rfl ⟨rfl, q⟩
end Go.Proofs.YtlmpiobdgkmmgaaGreatDoor
