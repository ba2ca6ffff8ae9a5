/- Comp: SWITCH, all values, Formula. -/
import Derived.Test.YtlmpiobdgkmmgaaGreatDoorKcN
import Derived.Test.YtlmpiobdgkmmgaaGreatDoorKcE
import Derived.Laws.ResultCell
import Derived.Laws.Rows
set_option maxRecDepth 1000000
set_option maxHeartbeats 16000000
namespace Go.Proofs.YtlmpiobdgkmmgaaGreatDoor
open Go.RowKit
section
variable {b n0 j kb ko kl' kc' kb2 ko2 kl2 kc2 : Nat} {W : World} {ks k' r' k2 r2 : Trees} {h' h2 : Hd} {ka' ka2 : Option Addr} {ps : List PI} {cs : List PV} {os : List Nat} {L : Int → List PI} {fin : Int → List PI × List PV}
def swG : Int → Int → List KC → CF := fun E _ l => swF E l
theorem VkP.sw {V V2 : List PI × List PV} {x : Int} (h : VkP swG ks n0 j ps cs os L fin) (K : Kid b W ks j kb ko h' k' r' ka' kl' kc') (K2 : Kid b W ks (j + 1) kb2 ko2 h2 k2 r2 ka2 kl2 kc2) (hV : valT h' k' ps.length cs = V) (hV2 : valT h2 k2 (ps.length + V.1.length + 1 + 1) V.2 = V2) (hx : x = ((ps.length + V.1.length + 1 + V2.1.length + 2 : Nat) : Int)) :
 VkP swG ks n0 (j + 2) (ps ++ V.1 ++ [⟨7, 0, 1, 0, 0, []⟩] ++ ⟨11, x, 0, 0, 0, []⟩ :: V2.1 ++ [⟨13, 0, 0, 0, 0, []⟩]) V2.2 (os ++ [(ps ++ V.1).length] ++ [(ps ++ V.1 ++ [(⟨7, 0, 1, 0, 0, []⟩ : PI)] ++ ⟨11, x, 0, 0, 0, []⟩ :: V2.1).length]) (fun E => L E ++ V.1 ++ [⟨7, E, 1, 0, 0, []⟩] ++ ⟨11, x, 0, 0, 0, []⟩ :: V2.1 ++ [⟨13, E, 0, 0, 0, []⟩]) fin := by
 have hx1 := fb_valT h' k' ps.length cs
 rw [hV] at hx1
 have hx2 := fb_valT h2 k2 (ps.length + V.1.length + 1 + 1) V.2
 rw [hV2] at hx2
 have hl : (ps ++ V.1 ++ [(⟨7, 0, 1, 0, 0, []⟩ : PI)] ++ ⟨11, x, 0, 0, 0, []⟩ :: V2.1 ++ [(⟨13, 0, 0, 0, 0, []⟩ : PI)]).length = ps.length + V.1.length + 1 + (V2.1.length + 1 + 1) := by simp only [List.length_append, List.length_cons, List.length_nil]; omega
 refine ⟨(((h.pt.app V.1).opened ⟨7, 0, 1, 0, 0, []⟩).app (⟨11, x, 0, 0, 0, []⟩ :: V2.1)).opened ⟨13, 0, 0, 0, 0, []⟩, fun E => ?_, ?_⟩
 ·have q := h.eq E
  rw [K.kcs, K2.kcs] at q
  have e1 : swG E (j : Int) (⟨h', valT h' k', areaT h' k'⟩ :: ⟨h2, valT h2 k2, areaT h2 k2⟩ :: (kcs ks).drop (j + 1 + 1)) ps.length cs =
   (V.1 ++ (⟨7, E, 1, 0, 0, []⟩ :: (⟨11, x, 0, 0, 0, []⟩ :: (V2.1 ++ [⟨13, E, 0, 0, 0, []⟩])) ++ (swF E ((kcs ks).drop (j + 1 + 1)) (ps.length + V.1.length + 1 + (V2.1.length + 1 + 1)) V2.2).1), (swF E ((kcs ks).drop (j + 1 + 1)) (ps.length + V.1.length + 1 + (V2.1.length + 1 + 1)) V2.2).2) := by
   show seqF (valT h' k') (seqF (insF ⟨7, E, 1, 0, 0, []⟩) (seqF (armF E (valT h2 k2)) (swF E ((kcs ks).drop (j + 1 + 1))))) ps.length cs = _
   simp only [seqF, hV, insF, armF, List.length_cons, List.length_append]
   simp only [List.cons_append, List.nil_append, List.length_nil, Nat.zero_add]
   rw [hV2, hx]
  rw [e1] at q
  rw [hl]
  unfold swG
  refine ⟨?_, q.2⟩
  rw [← q.1]
  simp only [List.append_assoc, List.cons_append, List.nil_append]
 ·have q := h.room
  rw [K.nodes, K2.nodes] at q
  unfold Room at q ⊢
  rw [hl]
  have : (tdrop ks (j + 1 + 1)).nodes = (tdrop ks (j + 2)).nodes := rfl
  omega
end
theorem sw_done (P V2 : List PI) (x : Int) (hx : (((P ++ [(⟨7, 0, 1, 0, 0, []⟩ : PI)] ++ [(⟨11, 0, 0, 0, 0, []⟩ : PI)] ++ V2 ++ [(⟨13, 0, 0, 0, 0, []⟩ : PI)]).length : Nat) : Int) = x) : patA (P ++ [(⟨7, 0, 1, 0, 0, []⟩ : PI)] ++ [(⟨11, 0, 0, 0, 0, []⟩ : PI)] ++ V2 ++ [(⟨13, 0, 0, 0, 0, []⟩ : PI)]) (P ++ [(⟨7, 0, 1, 0, 0, []⟩ : PI)]).length (((P ++ [(⟨7, 0, 1, 0, 0, []⟩ : PI)] ++ [(⟨11, 0, 0, 0, 0, []⟩ : PI)] ++ V2 ++ [(⟨13, 0, 0, 0, 0, []⟩ : PI)]).length : Nat) : Int) = P ++ [⟨7, 0, 1, 0, 0, []⟩] ++ ⟨11, x, 0, 0, 0, []⟩ :: V2 ++ [⟨13, 0, 0, 0, 0, []⟩] := by
 rw [hx]
 have e : P ++ [(⟨7, 0, 1, 0, 0, []⟩ : PI)] ++ [(⟨11, 0, 0, 0, 0, []⟩ : PI)] ++ V2 ++ [(⟨13, 0, 0, 0, 0, []⟩ : PI)] = (P ++ [(⟨7, 0, 1, 0, 0, []⟩ : PI)]) ++ ⟨11, 0, 0, 0, 0, []⟩ :: (V2 ++ [⟨13, 0, 0, 0, 0, []⟩]) := by simp
 rw [e, patA_mid]
 simp
def SwRel (b Lx Bl Mx : Nat) (cl0 : Nat → Nat) (W0 : World) (S : SX) (ks : Trees) (fin : Int → List PI × List PV) (v iv : Value) (wr : World) : Prop :=
 ∃ (j : Nat) (cl : Nat → Nat) (vs : List Value) (os : List Nat) (ps : List PI) (cs : List PV) (L : Int → List PI), iv = .int .i64 (j : Int) ∧ 1 ≤ j ∧ j ≤ ks.len ∧ os.length ≤ j ∧ Hid (CoR b Lx Bl Mx cl0 W0 cl S ps cs wr v vs os) ∧ Hid (VkP swG ks 1 j ps cs os L fin)
theorem lazySw_any {h : Hd} {ks : Trees} (ih : AllT VA ks) (hfn : h.fn = 46) (hlen : 3 ≤ ks.len) : LazyP h ks := by
 intro hk hc b Lx Bl Mx nb off cl S ps cs W ka kl kc HC NDW hf hr
 have RN0 := Lib.hid (Rn.start HC.out)
 obtain ⟨hr1, hr2⟩ := hr
 have hfv : fitsV h ks.len = true ∧ allFits ks = true := by unfold treeFits at hf; simpa using hf
 have OKC := (call_ok hfv.1 hk).c3 hc
 have hfa := Lib.hid hfv.2
 have IH := Lib.hid ih
 obtain rfl : kl = ks.len := NDW.out.tv.len
 have hkm : ks.len ≤ ks.nodes := len_nodes ks
 have hbW := RN0.out.cx.hb
 obtain ⟨kb, ko, h0, k0, r0, ka0, kl0, kc0, rfl, K0'⟩ := NDW.out.kid 0 (by omega)
 have K0 := Lib.hid K0'
 obtain ⟨kb1, ko1, h1, k1, r1, ka1, kl1, kc1, ea, K1'⟩ := NDW.out.kid 1 (by omega)
 simp only [Option.some.injEq, Addr.mk.injEq, and_true] at ea
 obtain ⟨rfl, rfl⟩ := ea
 have K1 := Lib.hid K1'
 have hnt0 := kid_nth K0'
 have hnt1 := kid_nth K1'
 have hn0 := K0'.nodes
 have hn1 := K1'.nodes
 simp only [Nat.zero_add, Nat.reduceAdd] at hn0 hn1
 rw [tdrop_nodes] at hn0
 have hx := fb_valT h0 k0 ps.length cs
 generalize hA : valT h0 k0 ps.length cs = A at hx
 have HA := Lib.hid hA
 clear HC hfv hf ih K0' K1' hA
 have HV0 : lazyF h (kcs ks) = seqF (nth (kcs ks) 0).v (headF (fun e => swF e ((kcs ks).drop 1)) (fun e => ⟨7, e, 0, 0, 0, []⟩)) := by unfold lazyF; rw [if_neg (by omega), if_neg (by omega), if_neg (by omega), List.drop_one]
 have HV1 : lazyF h (kcs ks) = seqF (valT h0 k0) (headF (fun e => swF e ((kcs ks).drop 1)) (fun e => ⟨7, e, 0, 0, 0, []⟩)) := by rw [HV0, hnt0]
 obtain ⟨psA, hpsA⟩ : ∃ psA, psA = ps ++ A.1 := ⟨_, rfl⟩
 have hlA : psA.length = ps.length + A.1.length := by rw [hpsA, List.length_append]
 have HLA := Lib.hid hlA
 have hl1 : (psA ++ [(⟨7, 0, 0, 0, 0, []⟩ : PI)]).length = psA.length + 1 := by rw [List.length_append, List.length_singleton]
 have PT0 : Hid (VkP swG ks 1 1 (psA ++ [(⟨7, 0, 0, 0, 0, []⟩ : PI)]) A.2 [psA.length] (fun E => psA ++ [⟨7, E, 0, 0, 0, []⟩]) (fun E => ((psA ++ [⟨7, E, 0, 0, 0, []⟩]) ++ (swF E ((kcs ks).drop 1) (psA.length + 1) A.2).1, (swF E ((kcs ks).drop 1) (psA.length + 1) A.2).2))) :=
  Lib.hid ⟨(Pt.nil psA).opened (⟨7, 0, 0, 0, 0, []⟩ : PI), fun E => by rw [hl1]; exact ⟨rfl, rfl⟩, ⟨by rw [hl1]; omega, by omega⟩⟩
 have HV : Hid (lazyF h (kcs ks) ps.length cs = (A.1 ++ (headF (fun e => swF e ((kcs ks).drop 1)) (fun e => ⟨7, e, 0, 0, 0, []⟩) psA.length A.2).1, (headF (fun e => swF e ((kcs ks).drop 1)) (fun e => ⟨7, e, 0, 0, 0, []⟩) psA.length A.2).2)) := Lib.hid (by
  rw [HV1, seqF, HA.out, hlA])
 have HPA := Lib.hid hpsA
 have hps8 : ps.length ≤ 900000 := by omega
 obtain ⟨i0, hi, hz0, hz1, hz2⟩ := info_parts infoFun
 have hl20 : (0 : Int) < (ks.len : Int) := by omega
 have HL1 := Lib.hid hl1
 clear hk hc HV0 HV1 hnt0 hnt1 hpsA hlA hl1 hn0 hn1
 have c13 := NDW.out.nd.facts.c13
 go_enter Tryz.func66, Tryz.ntmps66
 go_upto_region 1 with (fail)
 go_wp2_with fail
 refine ((K0.out.all IH.out).1 b Lx Bl Mx kb _ _ S _ _ _ ka0 kl0 kc0 (Lib.hid RN0.out.cx) (Lib.hid (K0.out.nd.step RN0.out.be)) (K0.out.fits hfa.out) ⟨by have := K0.out.nodes; rw [tdrop_nodes] at this; omega, by have := K0.out.nodes; rw [tdrop_nodes] at this; omega⟩).mono ?_
 rintro e w1 ⟨rfl, cl1, s1, f1, b1⟩
 have RN1 := Lib.hid (RN0.out.go s1 f1 b1)
 clear RN0 s1 f1 b1  c13
 rw [HA.out, ← HPA.out] at RN1
 have NX := NDW.out.step RN1.out.be
 have c12 := NX.nd.facts.c12
 clear NX
 rw [hfn] at c12
 go_wp2_with fail
 refine (open_any 7 0 0 0 0 w1 (Lib.hid RN1.out.cx.ly) RN1.out.cx.hb (by have := HLA.out; have := PT0.out.room.1; rw [HL1.out] at this; omega)).mono ?_
 rintro e w2 ⟨Bl2, Ba2, cl2, rfl, s2, f2, b2, o2⟩
 have RN2 := Lib.hid (RN1.out.go s2 f2 b2)
 have OC2 := Lib.hid o2
 simp only [cloV]
 clear RN1 s2 f2 b2  o2 c12
 have C3 := Lib.hid (CoR.first RN2.out OC2.out)
 simp only [cloV] at C3
 clear RN2 OC2
 go_upto_region 36 with (fail)
 generalize World.alloc w2 _ = w3 at C3 ⊢
 generalize upc _ _ 7 = cl3 at C3
 go_wp2_with fail
 go_loopw [13, 14] (fun v iv wr => SwRel b Lx Bl Mx cl W S ks (fun E => ((psA ++ [⟨7, E, 0, 0, 0, []⟩]) ++ (swF E ((kcs ks).drop 1) (psA.length + 1) A.2).1, (swF E ((kcs ks).drop 1) (psA.length + 1) A.2).2)) v iv wr) (fun _ iv _ => ks.len - (intOf iv).toNat)
 case atStart => exact ⟨1, cl3, _, _, _, _, _, rfl, Nat.le_refl _, by omega, by simp, C3, PT0⟩
 case round =>
  obtain ⟨j, cl3, vs, os, psj, csj, L, rfl, hj0, hj, hol, C3, P3'⟩ := hrel
  by_cases hlt : j + 1 < ks.len
  ·obtain ⟨kb', ko', h', k', r', ka', kl', kc', ea, K⟩ := NDW.out.kid j (by omega)
   simp only [Option.some.injEq, Addr.mk.injEq, and_true] at ea
   obtain ⟨rfl, rfl⟩ := ea
   obtain ⟨kb', ko', h2, k2, r2, ka2, kl2, kc2, ea, K2'⟩ := NDW.out.kid (j + 1) hlt
   simp only [Option.some.injEq, Addr.mk.injEq, and_true] at ea
   obtain ⟨rfl, rfl⟩ := ea
   have rm0 := P3'.out.room
   rw [K.nodes, K2'.nodes] at rm0
   obtain ⟨rm1, rm2⟩ := rm0
   have hxV := fb_valT h' k' psj.length csj
   generalize hV : valT h' k' psj.length csj = V at hxV
   have hxV2 := fb_valT h2 k2 (psj.length + V.1.length + 1 + 1) V.2
   generalize hV2 : valT h2 k2 (psj.length + V.1.length + 1 + 1) V.2 = V2 at hxV2
   obtain ⟨x, hx2⟩ : ∃ x : Int, x = ((psj.length + V.1.length + 1 + V2.1.length + 2 : Nat) : Int) := ⟨_, rfl⟩
   have P4 := Lib.hid (P3'.out.sw K K2' hV hV2 hx2)
   have HVV := Lib.hid hV; have HVV2 := Lib.hid hV2; have HX2 := Lib.hid hx2
   have KW := Lib.hid K; have KW2 := Lib.hid K2'
   have hjj : (j : Int) < (ks.len : Int) := by omega
   clear K K2' hV hV2 hx2 P3'
   go_wp2_with fail
   refine ((KW.out.all IH.out).1 b Lx Bl Mx kb _ _ S psj csj wr ka' kl' kc' (Lib.hid C3.out.rn.cx) (Lib.hid (KW.out.nd.step C3.out.rn.be)) (KW.out.fits hfa.out) ⟨by omega, by omega⟩).mono ?_
   rintro e w4 ⟨rfl, cl4, s4, f4, b4⟩
   have C4 := Lib.hid (C3.out.go s4 f4 b4)
   clear s4 f4 b4 C3
   rw [HVV.out] at C4
   obtain ⟨P1, hP1⟩ : ∃ P1, P1 = psj ++ V.1 := ⟨_, rfl⟩
   have hlP : P1.length = psj.length + V.1.length := by rw [hP1, List.length_append]
   rw [← hP1] at C4 P4
   have HLP := Lib.hid hlP
   clear hP1 hlP
   go_wp2_with fail
   refine (open_any 7 0 1 0 0 w4 (Lib.hid C4.out.rn.cx.ly) C4.out.rn.cx.hb (by have := HLP.out; omega)).mono ?_
   rintro e w2 ⟨Bl2, Ba2, cl2, rfl, s2, f2, b2, o2⟩
   have C2 := Lib.hid (C4.out.go s2 f2 b2)
   have OC := Lib.hid o2
   have hvl := C2.out.len
   have hzw := C2.out.rn.be.size
   clear s2 f2 b2 o2 C4
   simp only [cloV]
   go_wp2_with (at_builtin; refine wpList_append_lies _ rfl _ _ 113 rfl W.heap.size 1 i0 _ 1 8 Tryz.underlying113 hi hz0 hz1 hz2 rfl (by decide) u13 vs.length vs rfl (World.ownsRow.alloc C2.out.row.own _) ⟨w2.heap.size, 0, none⟩ 1 1 [cloV Bl2 Ba2] rfl rfl (World.news_of_block (heap_alloc_new w2 _)) (by simp [Value.oneCell', cloV]) (by decide) (by unfold maxLen; omega) (by omega) (by simp; omega) _ rfl ?_)
   intro g cap w6 hown hgrow hat _
   have C6 := Lib.hid (C2.out.push OC.out hbW hown hgrow (hat.imp_right fun q => by rw [q]; simp))
   clear hown hgrow hat C2 OC hvl hzw
   go_upto_region 41 with (fail)
   generalize (Value.slice (some ⟨g, 0, none⟩) (os.length + 1) cap) = v6 at C6 ⊢
   generalize vs ++ [cloV Bl2 Ba2] = vs6 at C6
   obtain ⟨os6, hos6⟩ : ∃ os6, os6 = os ++ [P1.length] := ⟨_, rfl⟩
   have hol6 : os6.length ≤ j + 1 := by rw [hos6]; simp; omega
   rw [← hos6] at C6 P4
   clear hos6
   go_wp2_with fail
   refine (open_any 11 0 0 0 0 w6 (Lib.hid C6.out.rn.cx.ly) C6.out.rn.cx.hb (by have := HLP.out; rw [List.length_append, List.length_singleton]; omega)).mono ?_
   rintro e w7 ⟨Bl7, Ba7, cl7, rfl, s7, f7, b7, o7⟩
   have C7 := Lib.hid (C6.out.go s7 f7 b7)
   have OC7 := Lib.hid o7
   clear s7 f7 b7 o7 C6
   simp only [cloV]
   go_wp2_with fail
   refine ((KW2.out.all IH.out).1 b Lx Bl Mx kb _ _ S _ _ w7 ka2 kl2 kc2 (Lib.hid C7.out.rn.cx) (Lib.hid (KW2.out.nd.step C7.out.rn.be)) (KW2.out.fits hfa.out) ⟨by have := HLP.out; simp only [List.length_append, List.length_singleton]; omega, by omega⟩).mono ?_
   rintro e w8 ⟨rfl, cl8, s8, f8, b8⟩
   have C8 := Lib.hid (C7.out.go s8 f8 b8)
   have OC8 := Lib.hid (OC7.out.frm f8 p3_6 (Nat.le_refl _))
   clear s8 f8 b8 C7 OC7
   have hl8 : (P1 ++ [(⟨7, 0, 1, 0, 0, []⟩ : PI)] ++ [(⟨11, 0, 0, 0, 0, []⟩ : PI)]).length = psj.length + V.1.length + 1 + 1 := by rw [List.length_append, List.length_append, HLP.out]; rfl
   rw [hl8, HVV2.out] at C8
   clear hl8
   go_wp2_with fail
   refine (open_any 13 0 0 0 0 w8 (Lib.hid C8.out.rn.cx.ly) C8.out.rn.cx.hb (by have := HLP.out; simp only [List.length_append, List.length_singleton]; omega)).mono ?_
   rintro e w9 ⟨Bl9, Ba9, cl9, rfl, s9, f9, b9, o9⟩
   have C9 := Lib.hid (C8.out.go s9 f9 b9)
   have OC9 := Lib.hid o9
   have OC8' := Lib.hid (OC8.out.frm f9 p3_6 (Nat.le_refl _))
   have hvl := C9.out.len
   have hzw := C9.out.rn.be.size
   clear s9 f9 b9 o9 C8 OC8
   simp only [cloV]
   go_wp2_with (at_builtin; refine wpList_append_lies _ rfl _ _ 113 rfl W.heap.size 1 i0 _ 1 8 Tryz.underlying113 hi hz0 hz1 hz2 rfl (by decide) v6 vs6.length vs6 rfl (World.ownsRow.alloc C9.out.row.own _) ⟨w9.heap.size, 0, none⟩ 1 1 [cloV Bl9 Ba9] rfl rfl (World.news_of_block (heap_alloc_new w9 _)) (by simp [Value.oneCell', cloV]) (by decide) (by unfold maxLen; omega) (by omega) (by simp; omega) _ rfl ?_)
   intro g2 cap2 w10 hown hgrow hat _
   have C10 := Lib.hid (C9.out.push OC9.out hbW hown hgrow (hat.imp_right fun q => by rw [q]; simp))
   have f10 : Frm (· ≠ 7) cl9 w9.heap.size (upc cl9 w9.heap.size 7) w9 w10 := Frm.but fun x hx hc => grow_same9 hgrow x hx fun e => hc (C9.out.row.cls x e).1
   have OC10 := Lib.hid (OC8'.out.frm f10 (by omega) (Nat.le_refl _))
   clear hown hgrow hat C9 OC9 OC8' hvl hzw f10
   go_wp2_with fail
   refine (closeFn_any w10 (Lib.hid C10.out.rn.cx.ly) C10.out.rn.cx.hb (by have := HLP.out; simp only [List.length_append, List.length_singleton]; omega) OC10.out (by simp only [List.length_append, List.length_singleton]; omega)).mono ?_
   rintro e w11 ⟨rfl, cl11, s11, f11, b11⟩
   rw [sw_done P1 V2.1 x (by rw [HX2.out]; have := HLP.out; simp only [List.length_append, List.length_singleton]; omega)] at s11
   have C11 := Lib.hid (C10.out.go s11 f11 b11)
   rw [show (P1 ++ [(⟨7, 0, 1, 0, 0, []⟩ : PI)] ++ [(⟨11, 0, 0, 0, 0, []⟩ : PI)] ++ V2.1).length = (P1 ++ [(⟨7, 0, 1, 0, 0, []⟩ : PI)] ++ ⟨11, x, 0, 0, 0, []⟩ :: V2.1).length by simp] at C11
   clear s11 f11 b11 C10 OC10
   go_wp2_with fail
   exact ⟨⟨j + 2, _, _, _, _, _, _, by go_num, by omega, by omega, by simp; omega, C11, P4⟩, by simp [intOf]; omega⟩
  ·have hle := len_nodes (tdrop ks j)
   rw [tdrop_len] at hle
   have rm0 := P3'.out.room
   obtain ⟨rm1, rm2⟩ := rm0
   have hjn : ¬ (j : Int) + 1 < (ks.len : Int) := by omega
   go_upto_region 45 with (fail)
   clear hjn
   go_wp2_with fail
   refine (put_any 12 0 0 0 0 wr (Lib.hid C3.out.rn.cx.ly) C3.out.rn.cx.hb (by omega)).mono ?_
   rintro e w4 ⟨rfl, cl4, s4, f4, b4⟩
   have C4 := Lib.hid (C3.out.go s4 f4 b4)
   clear s4 f4 b4 C3
   have hl4 : (psj ++ [(⟨12, 0, 0, 0, 0, []⟩ : PI)]).length = psj.length + 1 := by rw [List.length_append, List.length_singleton]
   have HL4 := Lib.hid hl4
   clear hl4
   by_cases hjl : j < ks.len
   ·have hj1 : j + 1 = ks.len := by omega
    obtain ⟨kb', ko', h', k', r', ka', kl', kc', ea, K⟩ := NDW.out.kid j hjl
    simp only [Option.some.injEq, Addr.mk.injEq, and_true] at ea
    obtain ⟨rfl, rfl⟩ := ea
    have hxZ := fb_valT h' k' (psj.length + 1) csj
    generalize hZ : valT h' k' (psj.length + 1) csj = Z at hxZ
    have HZ := Lib.hid hZ
    rw [K.nodes] at rm1 rm2
    have hq : ∀ E, L E ++ ([(⟨12, 0, 0, 0, 0, []⟩ : PI)] ++ Z.1) = (((fun E => ((psA ++ [⟨7, E, 0, 0, 0, []⟩]) ++ (swF E ((kcs ks).drop 1) (psA.length + 1) A.2).1, (swF E ((kcs ks).drop 1) (psA.length + 1) A.2).2)) : Int → List PI × List PV) E).1 ∧ Z.2 = (((fun E => ((psA ++ [⟨7, E, 0, 0, 0, []⟩]) ++ (swF E ((kcs ks).drop 1) (psA.length + 1) A.2).1, (swF E ((kcs ks).drop 1) (psA.length + 1) A.2).2)) : Int → List PI × List PV) E).2 := fun E => by
     have q := P3'.out.eq E
     rw [K.kcs, hj1, kcs_dropped] at q
     have e1 : swG E (j : Int) [⟨h', valT h' k', areaT h' k'⟩] psj.length csj = ([(⟨12, 0, 0, 0, 0, []⟩ : PI)] ++ Z.1, Z.2) := by
      show seqF (insF ⟨12, 0, 0, 0, 0, []⟩) (valT h' k') psj.length csj = _
      simp only [seqF, insF, List.length_singleton]
      rw [hZ]
     rw [e1] at q
     exact q
    have HQ := Lib.hid hq
    have KW := Lib.hid K
    have hjj : (j : Int) < (ks.len : Int) := by omega
    have hjb : psj.length ≤ 900000 := by omega
    have hZb : psj.length + 1 + Z.1.length ≤ 1000000 := by omega
    have PTE := Lib.hid P3'.out.pt
    clear K hZ hq P3' hle hjl
    go_wp2_with fail
    refine ((KW.out.all IH.out).1 b Lx Bl Mx kb _ _ S _ _ w4 ka' kl' kc' (Lib.hid C4.out.rn.cx) (Lib.hid (KW.out.nd.step C4.out.rn.be)) (KW.out.fits hfa.out) ⟨by rw [HL4.out]; omega, by omega⟩).mono ?_
    rintro e w5 ⟨rfl, cl5, s5, f5, b5⟩
    rw [HL4.out, HZ.out] at s5
    have C5 := Lib.hid (C4.out.go s5 f5 b5)
    clear s5 f5 b5 C4
    obtain ⟨aS, kS, rfl, hS⟩ := C5.out.slice
    have HS := Lib.hid hS
    clear hS
    have hl5 : (psj ++ [(⟨12, 0, 0, 0, 0, []⟩ : PI)] ++ Z.1).length = psj.length + 1 + Z.1.length := by rw [List.length_append, HL4.out]
    have HL5 := Lib.hid hl5
    clear hl5
    go_wp2_with fail
    refine (cpAll_any os w5 (Lib.hid C5.out.rn.cx.ly) C5.out.rn.cx.hb (by rw [HL5.out]; omega) (by omega) HS.out (fun i hi => by have := PTE.out.lt i hi; rw [HL5.out]; omega)).mono ?_
    rintro e w6 ⟨rfl, cl6, s6, f6, b6⟩
    have L6 := Lib.hid (C5.out.rn.go s6 f6 b6).toLd
    clear s6 f6 b6 C5
    go_wp2_with fail
    have q : Ld b cl S Lx 64 [.map (some Mx)] W (ps ++ (lazyF h (kcs ks) ps.length cs).1) (lazyF h (kcs ks) ps.length cs).2 w6 := by
     have q := L6.out
     have hlp : psj.length + 1 + Z.1.length = psA.length + 1 + (swF 0 ((kcs ks).drop 1) (psA.length + 1) A.2).1.length := by
      have e := congrArg List.length (HQ.out 0).1
      simp only [List.length_append, List.length_singleton, PTE.out.len] at e
      omega
     rw [HL5.out, List.append_assoc, (PTE.out.app _).eq, (HQ.out _).1, (HQ.out (psj.length + 1 + Z.1.length : Nat)).2, hlp] at q
     rw [HV.out]
     simp only [headF, seqF, insF, List.length_singleton]
     rw [HPA.out] at q ⊢
     simp only [List.append_assoc] at q ⊢
     exact q
    exact bodyPost_end (results_none rfl _ _ _) rfl ⟨rfl, q⟩
   ·obtain rfl : j = ks.len := by omega
    obtain ⟨Z, hZ⟩ : ∃ Z, Z = errF 6 (psj.length + 1) csj := ⟨_, rfl⟩
    have hxZ := fb_err 6 (psj.length + 1) csj
    rw [← hZ] at hxZ
    have HZ := Lib.hid hZ.symm
    have hq : ∀ E, L E ++ ([(⟨12, 0, 0, 0, 0, []⟩ : PI)] ++ Z.1) = (((fun E => ((psA ++ [⟨7, E, 0, 0, 0, []⟩]) ++ (swF E ((kcs ks).drop 1) (psA.length + 1) A.2).1, (swF E ((kcs ks).drop 1) (psA.length + 1) A.2).2)) : Int → List PI × List PV) E).1 ∧ Z.2 = (((fun E => ((psA ++ [⟨7, E, 0, 0, 0, []⟩]) ++ (swF E ((kcs ks).drop 1) (psA.length + 1) A.2).1, (swF E ((kcs ks).drop 1) (psA.length + 1) A.2).2)) : Int → List PI × List PV) E).2 := fun E => by
     have q := P3'.out.eq E
     rw [kcs_dropped] at q
     have e1 : swG E (ks.len : Int) [] psj.length csj = ([(⟨12, 0, 0, 0, 0, []⟩ : PI)] ++ Z.1, Z.2) := by
      show seqF (insF ⟨12, 0, 0, 0, 0, []⟩) (errF 6) psj.length csj = _
      simp only [seqF, insF, List.length_singleton]
      rw [← hZ]
     rw [e1] at q
     exact q
    have HQ := Lib.hid hq
    have hjb : psj.length ≤ 900000 := by omega
    have hZb : psj.length + 1 + Z.1.length ≤ 1000000 := by omega
    have PTE := Lib.hid P3'.out.pt
    have hcb : csj.length ≤ 1000000 := by omega
    clear hZ hq P3' hle hjl
    go_wp2_with fail
    refine (wrong_any 6 w4 (Lib.hid C4.out.rn.cx.ly) C4.out.rn.cx.hb (by rw [HL4.out]; omega) hcb).mono ?_
    rintro e w5 ⟨rfl, cl5, s5, f5, b5⟩
    rw [HL4.out, HZ.out] at s5
    have C5 := Lib.hid (C4.out.go s5 f5 b5)
    clear s5 f5 b5 C4
    obtain ⟨aS, kS, rfl, hS⟩ := C5.out.slice
    have HS := Lib.hid hS
    clear hS
    have hl5 : (psj ++ [(⟨12, 0, 0, 0, 0, []⟩ : PI)] ++ Z.1).length = psj.length + 1 + Z.1.length := by rw [List.length_append, HL4.out]
    have HL5 := Lib.hid hl5
    clear hl5
    go_wp2_with fail
    refine (cpAll_any os w5 (Lib.hid C5.out.rn.cx.ly) C5.out.rn.cx.hb (by rw [HL5.out]; omega) (by omega) HS.out (fun i hi => by have := PTE.out.lt i hi; rw [HL5.out]; omega)).mono ?_
    rintro e w6 ⟨rfl, cl6, s6, f6, b6⟩
    have L6 := Lib.hid (C5.out.rn.go s6 f6 b6).toLd
    clear s6 f6 b6 C5
    go_wp2_with fail
    have q : Ld b cl S Lx 64 [.map (some Mx)] W (ps ++ (lazyF h (kcs ks) ps.length cs).1) (lazyF h (kcs ks) ps.length cs).2 w6 := by
     have q := L6.out
     have hlp : psj.length + 1 + Z.1.length = psA.length + 1 + (swF 0 ((kcs ks).drop 1) (psA.length + 1) A.2).1.length := by
      have e := congrArg List.length (HQ.out 0).1
      simp only [List.length_append, List.length_singleton, PTE.out.len] at e
      omega
     rw [HL5.out, List.append_assoc, (PTE.out.app _).eq, (HQ.out _).1, (HQ.out (psj.length + 1 + Z.1.length : Nat)).2, hlp] at q
     rw [HV.out]
     simp only [headF, seqF, insF, List.length_singleton]
     rw [HPA.out] at q ⊢
     simp only [List.append_assoc] at q ⊢
     exact q
    exact bodyPost_end (results_none rfl _ _ _) rfl ⟨rfl, q⟩
end Go.Proofs.YtlmpiobdgkmmgaaGreatDoor
namespace Go.Proofs.YtlmpiobdgkmmgaaGreatDoor
open Go.RowKit
theorem lazy_any {h : Hd} {ks : Trees} (ih : AllT VA ks) : LazyP h ks := by
 intro hk hc b Lx Bl Mx nb off cl S ps cs W ka kl kc HC HN hf hr
 have hfv : fitsV h ks.len = true := by unfold treeFits at hf; simp only [Bool.and_eq_true] at hf; exact hf.1
 rcases (call_ok hfv hk).c3 hc with ⟨f1, f2 | f2⟩ | ⟨f1 | f1, f2⟩ | ⟨f1, f2⟩ | ⟨f1, f2⟩
 ·exact lazyIf2_any ih f1 f2 hk hc b Lx Bl Mx nb off cl S ps cs W ka kl kc HC HN hf hr
 ·exact lazyIf3_any ih f1 f2 hk hc b Lx Bl Mx nb off cl S ps cs W ka kl kc HC HN hf hr
 ·exact lazyErr43_any ih f1 f2 hk hc b Lx Bl Mx nb off cl S ps cs W ka kl kc HC HN hf hr
 ·exact lazyErr44_any ih f1 f2 hk hc b Lx Bl Mx nb off cl S ps cs W ka kl kc HC HN hf hr
 ·exact lazyCh_any ih f1 f2 hk hc b Lx Bl Mx nb off cl S ps cs W ka kl kc HC HN hf hr
 ·exact lazySw_any ih f1 f2 hk hc b Lx Bl Mx nb off cl S ps cs W ka kl kc HC HN hf hr
theorem call3_any {h : Hd} {ks : Trees} (ih : AllT VA ks) : CallP 3 h ks := by
 have hL := Lib.hid (lazy_any (h := h) ih)
 intro hk hc b Lx Bl Mx nb off cl S ps cs W ka kl kc HC ND0 hf hr
 have RN0 := Lib.hid (Rn.start HC.out)
 obtain ⟨hr1, hr2⟩ := hr
 have hfv : fitsV h ks.len = true ∧ allFits ks = true := by unfold treeFits at hf; simpa using hf
 have OKC := Lib.hid (call_ok hfv.1 hk)
 have hfa := Lib.hid hfv.2
 obtain rfl : kl = ks.len := ND0.out.tv.len
 have NDW := ND0
 have hkm : ks.len ≤ ks.nodes := len_nodes ks
 have IH := Lib.hid ih
 clear HC hfv ih
 have HV : Hid (valT h ks = lazyF h (kcs ks)) := Lib.hid (by
  rw [valT_call ks hk]; unfold callF; rw [if_neg (by omega), if_pos hc])
 have HK := Lib.hid hk
 have HCC := Lib.hid hc
 clear hk IH OKC
 go_enter Tryz.func36, Tryz.ntmps36
 go_wp2_with fail
 refine (class_any h _ W ND0.out.nd).mono ?_
 rintro e w1 ⟨rfl, q1⟩
 rw [hc]
 have f1 := Frm.kept (P := P3) (cl := cl) (c0 := 9) q1
 have b1 := q1.mono RN0.out.cx.hb
 have RN1 := Lib.hid (RN0.out.go (RN0.out.cx.ly.kept q1 9) f1 b1)
 have ND1 := Lib.hid (ND0.out.step b1)
 clear RN0 f1 b1 q1 ND0
 go_wp2_with fail
 refine (hL.out HK.out HCC.out b Lx Bl Mx nb _ _ S ps cs _ ka _ kc (Lib.hid RN1.out.cx) ND1 hf ⟨hr1, hr2⟩).mono ?_
 rintro e w2 ⟨rfl, cl2, s2, f2, b2⟩
 have RN2 := Lib.hid (RN1.out.go s2 f2 b2)
 have ND2 := Lib.hid (ND1.out.step b2)
 clear RN1 s2 f2 b2 ND1
 go_wp2_with fail
 exact bodyPost_end (results_none rfl _ _ _) rfl ⟨rfl, by rw [HV.out]; exact RN2.out.toLd⟩
theorem kind_any {h : Hd} {ks : Trees} (ih : AllT VA ks) : KindC h ks := by
 by_cases q9 : h.kind = 9
 ·intro b Lx Bl Mx nb off cl S ps cs W ka kl kc HC HN hf hr
  have hfv : fitsV h ks.len = true := by unfold treeFits at hf; simp only [Bool.and_eq_true] at hf; exact hf.1
  have ok := call_ok hfv q9
  have h1 := ok.lo
  have h2 := ok.hi
  rw [if_pos q9, (by rw [q9]; rfl : kindF h.kind.toNat = 36)]
  rcases (by omega : clsOf h = 1 ∨ clsOf h = 2 ∨ clsOf h = 3 ∨ clsOf h = 4 ∨ clsOf h = 5 ∨ clsOf h = 6) with q | q | q | q | q | q
  ·exact call1_any ih q9 q b Lx Bl Mx nb off cl S ps cs W ka kl kc HC HN hf hr
  ·exact call2_any ih q9 q b Lx Bl Mx nb off cl S ps cs W ka kl kc HC HN hf hr
  ·exact call3_any ih q9 q b Lx Bl Mx nb off cl S ps cs W ka kl kc HC HN hf hr
  ·exact call4_any ih q9 q b Lx Bl Mx nb off cl S ps cs W ka kl kc HC HN hf hr
  ·exact call5_any ih (area_any ih) q9 q b Lx Bl Mx nb off cl S ps cs W ka kl kc HC HN hf hr
  ·exact call6_any ih q9 q b Lx Bl Mx nb off cl S ps cs W ka kl kc HC HN hf hr
 ·intro b Lx Bl Mx nb off cl S ps cs W ka kl kc HC HN hf hr
  have hfv : fitsV h ks.len = true := by unfold treeFits at hf; simp only [Bool.and_eq_true] at hf; exact hf.1
  have hk := (node_ok hfv).k
  rcases (by omega : h.kind = 1 ∨ h.kind = 2 ∨ h.kind = 3 ∨ h.kind = 4 ∨ h.kind = 5 ∨ h.kind = 6 ∨ h.kind = 7 ∨ h.kind = 8) with q | q | q | q | q | q | q | q
  ·exact kind1_any q b Lx Bl Mx nb off cl S ps cs W ka kl kc HC HN hf hr
  ·exact kind2_any q b Lx Bl Mx nb off cl S ps cs W ka kl kc HC HN hf hr
  ·exact kind3_any q b Lx Bl Mx nb off cl S ps cs W ka kl kc HC HN hf hr
  ·exact kind4_any q b Lx Bl Mx nb off cl S ps cs W ka kl kc HC HN hf hr
  ·exact kind5_any q b Lx Bl Mx nb off cl S ps cs W ka kl kc HC HN hf hr
  ·exact kind6_any q b Lx Bl Mx nb off cl S ps cs W ka kl kc HC HN hf hr
  ·exact kind7_any q ih b Lx Bl Mx nb off cl S ps cs W ka kl kc HC HN hf hr
  ·exact kind8_any q ih b Lx Bl Mx nb off cl S ps cs W ka kl kc HC HN hf hr
theorem va_all : ∀ ts : Trees, AllT VA ts := allT fun _ _ ih => ⟨value_any (kind_any ih), area_any ih⟩
theorem value_all (h : Hd) (ks : Trees) : ValC h ks := value_any (kind_any (va_all ks))
end Go.Proofs.YtlmpiobdgkmmgaaGreatDoor
namespace Go.Proofs.YtlmpiobdgkmmgaaGreatDoor
open Go.RowKit Go.Lib Go.WideMaps Go.Maps
def CodeV (b : Nat) (W : World) (vI vC : Value) (ps : List PI) (cs : List PV) : Prop := ∃ (cl : Nat → Nat) (ts : List Value), ts.length = ps.length ∧ Rw b W.heap.size cl 0 47 6 W vI ps.length (insC ps ts) ∧ Rw b W.heap.size cl 1 54 3 W vC cs.length (conC cs) ∧ ∀ (i : Nat) (p : PI) (t : Value), ps[i]? = some p → ts[i]? = some t → TRow b W.heap.size cl (10 + i) W t p.t
theorem CodeV.nil (b : Nat) (W : World) : CodeV b W (.slice none 0 0) (.slice none 0 0) [] [] :=
 ⟨fun _ => 0, [], rfl, ⟨World.ownsRow_nil W _ _ _, fun k hk => by simp [Value.ownBlock] at hk⟩, ⟨World.ownsRow_nil W _ _ _, fun k hk => by simp [Value.ownBlock] at hk⟩, fun i p t h => by simp at h⟩
theorem CodeV.keep {b : Nat} {W W' : World} {vI vC : Value} {ps : List PI} {cs : List PV} (h : CodeV b W vI vC ps cs) (k : ∀ x, b ≤ x → x < W.heap.size → W'.heap[x]? = W.heap[x]?) (hz : W.heap.size ≤ W'.heap.size) : CodeV b W' vI vC ps cs := by
 obtain ⟨cl, ts, h1, h2, h3, h4⟩ := h
 refine ⟨cl, ts, h1, ⟨own_row9 h2.own fun x hx => k x (h2.own.lt x hx).1 (h2.own.lt x hx).2, fun x hx => ⟨(h2.cls x hx).1, by have := (h2.cls x hx).2; omega⟩⟩, ⟨own_row9 h3.own fun x hx => k x (h3.own.lt x hx).1 (h3.own.lt x hx).2, fun x hx => ⟨(h3.cls x hx).1, by have := (h3.cls x hx).2; omega⟩⟩, fun i p t hp ht => ?_⟩
 rcases h4 i p t hp ht with q | ⟨g, cap, cur, e, q1, q2, q3, q4, q5⟩
 ·exact .inl q
 ·exact .inr ⟨g, cap, cur, e, q1, by omega, q3, (k g q3 q2).trans q4, q5⟩
theorem CodeV.base {b b' : Nat} {W : World} {vI vC : Value} {ps : List PI} {cs : List PV} (h : CodeV b W vI vC ps cs) (hb : b' ≤ b) : CodeV b' W vI vC ps cs := by
 obtain ⟨cl, ts, h1, h2, h3, h4⟩ := h
 refine ⟨cl, ts, h1, ⟨own_base h2.own hb, h2.cls⟩, ⟨own_base h3.own hb, h3.cls⟩, fun i p t hp ht => ?_⟩
 rcases h4 i p t hp ht with q | ⟨g, cap, cur, e, q1, q2, q3, q4, q5⟩
 ·exact .inl q
 ·exact .inr ⟨g, cap, cur, e, q1, q2, by omega, q4, q5⟩
theorem LayS.code {b Lx : Nat} {TL : TypeId} {ex : List Value} {cl : Nat → Nat} {vI vC : Value} {ps : List PI} {ts : List Value} {cs : List PV} {W : World} (s : LayS b W.heap.size cl (fun _ => none) Lx TL ex vI vC ps ts cs W) : CodeV b W vI vC ps cs :=
 ⟨cl, ts, s.len, s.rI, s.rC, fun i p t hp ht => s.tt i p t rfl hp ht⟩
def codeT (h : Hd) (ks : Trees) : List PI × List PV := if mayE h ks = 0 then valT h ks 0 [] else ([], [])
def FormPost (h : Hd) (ks : Trees) (w : World) (e : Ending) (w' : World) : Prop :=
 ∃ vI vC, e = .returned (.tuple #[.agg #[vI, vC], .int .i64 (mayE h ks)]) ∧ CodeV w.heap.size w' vI vC (codeT h ks).1 (codeT h ks).2 ∧ Below w.heap.size w w'
theorem infoCode9 : (Tryz.prog.info? 27).map (·.size) = some 2 := by kernel_rfl
theorem results_code {fn : Func} {p u : Tmp} (h : fn.results = #[.cell p 27, .tmp u]) (tmps : Array Value) (w : World) (g : Nat) (x y : Value) (hp : tmps.getD p undef = .pointer (some ⟨g, 0, none⟩)) (hg : w.heap[g]? = some (.cells #[x, y] 27 (0, 0))) :
 (results fn tmps).run Tryz.prog w = .ok (.tuple #[.agg #[x, y], tmps.getD u undef]) w := by
 rw [results_cell_tmp h, hp]
 simp only [asAddr, Sem.run_pure, Result.andThen_ok, run_loadVar_row w g 27 27 #[x, y] (0, 0) _ hg Tryz.underlying27 rfl infoCode9]
theorem setCell2 {w : World} {g : Nat} {x y x' y' : Value} {T : TypeId} (h : w.heap[g]? = some (.cells #[x, y] T (0, 0))) : ((w.setCell ⟨g, 0, none⟩ x').setCell ⟨g, 1, none⟩ y').heap[g]? = some (.cells #[x', y'] T (0, 0)) := by
 have h1 := heap_setCell_same w g 0 _ _ x' h
 rw [heap_setCell_same _ g 1 _ _ y' h1]
 rfl
theorem kiR_ok {Lx Bl f : Nat} (h : f ≠ 36) : kiR Lx Bl (.func (.func f) #[] #[.pointer (some ⟨Bl, 0, none⟩)]) = some (.lit (.int .i64 (f : Int)), []) := by
 show (if Bl = Bl ∧ f ≠ 36 then some (DataW.lit (.int .i64 (f : Int)), []) else none) = _
 rw [if_pos ⟨rfl, h⟩]
theorem kiR_call {Lx Bl : Nat} : kiR Lx Bl (.func (.func 36) #[.pointer (some ⟨Lx, 0, none⟩)] #[]) = some (.lit (.int .i64 ((36 : Nat) : Int)), []) := by
 show (if Lx = Lx ∧ _ then some (DataW.lit (.int .i64 ((36 : Nat) : Int)), []) else none) = _
 rw [if_pos ⟨rfl, rfl⟩]
theorem cpInsert {P : Program} (w : World) {ops : Array Oper} {rest : List Oper} {o : Oper} {a : Act} {Q : Exit → Act → World → Prop}
 (hg : o.guard = none) (m x v : Operand) (t : TypeId) (hop : o.op = Op.insert t m x v)
 (k e : TypeId) (K : Keyed P k) (ht : P.underlying t = some (.map k e)) (R : Value → Option (DataW Unit × List MemPlace)) (b n : Nat) (D : DataW Unit)
 (hm : a.eval m = .map (some b)) (hown : w.ownsMap P k R b n D) (hn : n < maxLen) (key val : Value) (kl : Lit) (hx : a.eval x = key) (hv : a.eval v = val) (hkey : keyOf P k key = some kl)
 (d : DataW Unit) (ps : List MemPlace) (hval : R val = some (d, ps))
 (hK : ∀ w', w'.ownsMap P k R b (n + 1) (D.put kl d) → w.grownBy w' (some b) → wpList P ops Q rest (a.put o.dst undef) w') :
 wpList P ops Q (o :: rest) a w := by
 refine wpList_plain hg fun K' hK' => ?_
 obtain ⟨w', hrun, r1, r2⟩ := hown.update K ht hn hkey hval
 unfold Oper.wp
 simp [execOp, hop, hm, hx, hv, hrun, Result.andThen]
 exact hK' _ _ (hK w' r1 r2)
structure KsS (Lx Bl : Nat) (w : World) (k : Nat) (W : World) : Prop where
 own : W.ownsMap Tryz.prog 3 (kiR Lx Bl) w.heap.size k (kindsD k)
 bel : Below w.heap.size w W
theorem KsS.next {Lx Bl : Nat} {w W W' : World} {k : Nat} (h : KsS Lx Bl w k W) (own : W'.ownsMap Tryz.prog 3 (kiR Lx Bl) w.heap.size (k + 1) (kindsD (k + 1))) (g : W.grownBy W' (some w.heap.size)) : KsS Lx Bl w (k + 1) W' :=
 ⟨own, h.bel.grown g h.bel.size (fun j hj => by cases hj; exact Nat.le_refl _)⟩
theorem formula_code (h : Hd) (ks : Trees) (w : World) (B : Nat) (ka : Option Addr) (kl kc : Nat) (hB : B ≤ w.heap.size) (tv : TreeV w B h ks ka kl) : Calls Tryz.prog 9 #[.agg #[.int .i64 h.kind, .int .i64 h.op, .int .i64 h.num, .string ⟨h.text.toArray⟩, .int .i64 h.ref.row, .int .i64 h.ref.col, .bool h.ref.pr, .bool h.ref.pc, .int .i64 h.to.row, .int .i64 h.to.col, .bool h.to.pr, .bool h.to.pc, .int .i64 h.fn, .slice ka kl kc]] w (FormPost h ks w) := by
 obtain ⟨w2, hw2⟩ : ∃ w2, w2 = (w.alloc (.cells #[.int .i64 h.kind, .int .i64 h.op, .int .i64 h.num, .string ⟨h.text.toArray⟩, .int .i64 h.ref.row, .int .i64 h.ref.col, .bool h.ref.pr, .bool h.ref.pc, .int .i64 h.to.row, .int .i64 h.to.col, .bool h.to.pr, .bool h.to.pc, .int .i64 h.fn, .slice ka kl kc] 34)).alloc (.cells #[.slice none 0 0, .slice none 0 0] 27) := ⟨_, rfl⟩
 have b2 : Below w.heap.size w w2 := by rw [hw2]; exact ext_alloc (ext_alloc (Below.refl _ _) _) _
 have n2 : NodeAt w2 w.heap.size 0 h (.slice ka kl kc) := by rw [hw2]; exact (node_box w h (.slice ka kl kc)).kept (Below.refl _ _ |>.alloc (by simp) _ : Below (w.heap.size + 1) _ _) (Nat.lt_succ_self _)
 have r2 : w2.heap[w.heap.size + 1]? = some (.cells #[.slice none 0 0, .slice none 0 0] 27 (0, 0)) := by rw [hw2]; have := heap_alloc_new (w.alloc (.cells #[.int .i64 h.kind, .int .i64 h.op, .int .i64 h.num, .string ⟨h.text.toArray⟩, .int .i64 h.ref.row, .int .i64 h.ref.col, .bool h.ref.pr, .bool h.ref.pc, .int .i64 h.to.row, .int .i64 h.to.col, .bool h.to.pr, .bool h.to.pc, .int .i64 h.fn, .slice ka kl kc] 34)) (.cells #[.slice none 0 0, .slice none 0 0] 27); simpa using this
 have T2 := Lib.hid (tv.kept (b2.mono hB) (Nat.le_refl _))
 have N2 := Lib.hid n2; have R2 := Lib.hid r2; have B2 := Lib.hid b2
 have hB2 : B ≤ w2.heap.size := Nat.le_trans hB b2.size
 have hsz : w2.heap.size = w.heap.size + 2 := by rw [hw2]; simp
 have HSZ := Lib.hid hsz
 clear tv n2 r2 b2 hsz
 go_enter Tryz.func9, Tryz.ntmps9
 go_wp2_with fail
 rw [← hw2]
 clear hw2
 refine (may_any h ks w2 B ka kl kc hB2 T2.out).mono ?_
 rintro e w3 ⟨rfl, b3⟩
 have N3 := Lib.hid (N2.out.kept b3 (by have := HSZ.out; omega))
 have T3 := Lib.hid (T2.out.kept (b3.mono hB2) (Nat.le_refl _))
 have R3 := Lib.hid ((b3.block (w.heap.size + 1) (by have := HSZ.out; omega)).trans R2.out)
 have B3 := Lib.hid (ext_trans B2.out b3)
 have hz3 : w.heap.size + 1 < w3.heap.size := by have := HSZ.out; have := b3.size; omega
 have hB3 : B ≤ w.heap.size := hB
 have HM : Hid (codeT h ks = if mayE h ks = 0 then valT h ks 0 [] else ([], [])) := Lib.hid rfl
 have hmay : mayE h ks = 0 → 1 + ks.nodes ≤ 512 ∧ treeFits h ks = true := fun q => by
  unfold mayE at q
  split at q
  ·rename_i hf
   split at q
   ·rename_i hf2
    exact ⟨hf.1, hf2⟩
   ·cases q
  ·cases q
 have HMAY := Lib.hid hmay
 clear N2 T2 R2 B2 b3 hmay HSZ hB2
 by_cases hm : mayE h ks = 0
 ·have hc := HM.out
  rw [if_pos hm] at hc
  have HC := Lib.hid hc
  obtain ⟨hnd, hfit⟩ := HMAY.out hm
  have HM0 := Lib.hid hm
  rw [hm]
  clear HM HMAY hm hc
  obtain ⟨w4, hw4⟩ : ∃ w4, w4 = (w3.alloc (.cells #[.slice none 0 0, .slice none 0 0, .map none] 64)).alloc (.cells #[.pointer (some ⟨w3.heap.size, 0, none⟩)] 61) := ⟨_, rfl⟩
  have b4 : Below w3.heap.size w3 w4 := by rw [hw4]; exact ext_alloc (ext_alloc (Below.refl _ _) _) _
  have l4 : w4.heap[w3.heap.size]? = some (.cells #[.slice none 0 0, .slice none 0 0, .map none] 64 (0, 0)) := by rw [hw4, Below.heap_alloc _ _ _ (by simp)]; exact heap_alloc_new w3 _
  have p4 : w4.heap[w3.heap.size + 1]? = some (.cells #[.pointer (some ⟨w3.heap.size, 0, none⟩)] 61 (0, 0)) := by rw [hw4]; have := heap_alloc_new (w3.alloc (.cells #[.slice none 0 0, .slice none 0 0, .map none] 64)) (.cells #[.pointer (some ⟨w3.heap.size, 0, none⟩)] 61); simpa using this
  have z4 : w4.heap.size = w3.heap.size + 2 := by rw [hw4]; simp
  have N4 := Lib.hid (N3.out.kept b4 (by omega))
  have T4 := Lib.hid (T3.out.kept (b4.mono (Nat.le_trans hB3 (by omega))) (Nat.le_refl _))
  have R4 := Lib.hid ((b4.block (w.heap.size + 1) hz3).trans R3.out)
  have B4 := Lib.hid (ext_trans B3.out b4)
  go_upto_region 5 with (fail)
  rw [← hw4]
  clear hw4 N3 T3 R3 B3 b4
  generalize w3.heap.size = Lx at l4 p4 z4 hz3 ⊢
  obtain ⟨Bl, hBl⟩ : ∃ Bl, Bl = Lx + 1 := ⟨_, rfl⟩
  rw [← hBl] at p4 ⊢
  have hBl2 : Lx < Bl ∧ Bl < w4.heap.size ∧ Bl ≠ Lx := by omega
  have hBL := hBl2.2.1
  have HZ4 := Lib.hid hBl2
  have HBl := Lib.hid hBl
  have L4 := Lib.hid l4; have P4 := Lib.hid p4
  clear z4 hBl hBl2 l4 p4
  have hmm := @run_makeMap Tryz.prog
  have d0 := (cells_of_block P4.out 0)
  simp only [List.getElem?_toArray, List.getElem?_cons_zero] at d0
  have H0 : Hid (KsS Lx Bl w4 0 (w4.alloc (.map #[] 0))) := Lib.hid ⟨World.ownsMap_made _ _ _ _, (Below.refl _ _).alloc (Nat.le_refl _) _⟩
  go_wp2_with (refine cpInsert _ rfl _ _ _ 62 rfl 3 67 cpIntLaw Tryz.underlying62 (kiR Lx Bl) w4.heap.size 0 (kindsD 0) rfl H0.out.own (by decide) _ _ (.int .i64 1) rfl rfl (keyOf_int_mk Tryz.underlying3 (by decide)) (kiD 1) [] (kiR_ok (by decide)) ?_)
  intro w11 own1 g1
  have H1 := Lib.hid (H0.out.next own1 g1)
  clear own1 g1 H0 d0
  go_wp2_with (refine cpInsert _ rfl _ _ _ 62 rfl 3 67 cpIntLaw Tryz.underlying62 (kiR Lx Bl) w4.heap.size 1 (kindsD 1) rfl H1.out.own (by decide) _ _ (.int .i64 2) rfl rfl (keyOf_int_mk Tryz.underlying3 (by decide)) (kiD 2) [] (kiR_ok (by decide)) ?_)
  intro w12 own2 g2
  have H2 := Lib.hid (H1.out.next own2 g2)
  clear own2 g2 H1
  go_wp2_with (refine cpInsert _ rfl _ _ _ 62 rfl 3 67 cpIntLaw Tryz.underlying62 (kiR Lx Bl) w4.heap.size 2 (kindsD 2) rfl H2.out.own (by decide) _ _ (.int .i64 3) rfl rfl (keyOf_int_mk Tryz.underlying3 (by decide)) (kiD 3) [] (kiR_ok (by decide)) ?_)
  intro w13 own3 g3
  have H3 := Lib.hid (H2.out.next own3 g3)
  clear own3 g3 H2
  go_wp2_with (refine cpInsert _ rfl _ _ _ 62 rfl 3 67 cpIntLaw Tryz.underlying62 (kiR Lx Bl) w4.heap.size 3 (kindsD 3) rfl H3.out.own (by decide) _ _ (.int .i64 4) rfl rfl (keyOf_int_mk Tryz.underlying3 (by decide)) (kiD 4) [] (kiR_ok (by decide)) ?_)
  intro w14 own4 g4
  have H4 := Lib.hid (H3.out.next own4 g4)
  clear own4 g4 H3
  go_wp2_with (refine cpInsert _ rfl _ _ _ 62 rfl 3 67 cpIntLaw Tryz.underlying62 (kiR Lx Bl) w4.heap.size 4 (kindsD 4) rfl H4.out.own (by decide) _ _ (.int .i64 5) rfl rfl (keyOf_int_mk Tryz.underlying3 (by decide)) (kiD 5) [] (kiR_ok (by decide)) ?_)
  intro w15 own5 g5
  have H5 := Lib.hid (H4.out.next own5 g5)
  clear own5 g5 H4
  go_wp2_with (refine cpInsert _ rfl _ _ _ 62 rfl 3 67 cpIntLaw Tryz.underlying62 (kiR Lx Bl) w4.heap.size 5 (kindsD 5) rfl H5.out.own (by decide) _ _ (.int .i64 6) rfl rfl (keyOf_int_mk Tryz.underlying3 (by decide)) (kiD 6) [] (kiR_ok (by decide)) ?_)
  intro w16 own6 g6
  have H6 := Lib.hid (H5.out.next own6 g6)
  clear own6 g6 H5
  go_wp2_with (refine cpInsert _ rfl _ _ _ 62 rfl 3 67 cpIntLaw Tryz.underlying62 (kiR Lx Bl) w4.heap.size 6 (kindsD 6) rfl H6.out.own (by decide) _ _ (.int .i64 7) rfl rfl (keyOf_int_mk Tryz.underlying3 (by decide)) (kiD 7) [] (kiR_ok (by decide)) ?_)
  intro w17 own7 g7
  have H7 := Lib.hid (H6.out.next own7 g7)
  clear own7 g7 H6
  go_wp2_with (refine cpInsert _ rfl _ _ _ 62 rfl 3 67 cpIntLaw Tryz.underlying62 (kiR Lx Bl) w4.heap.size 7 (kindsD 7) rfl H7.out.own (by decide) _ _ (.int .i64 8) rfl rfl (keyOf_int_mk Tryz.underlying3 (by decide)) (kiD 8) [] (kiR_ok (by decide)) ?_)
  intro w18 own8 g8
  have H8 := Lib.hid (H7.out.next own8 g8)
  clear own8 g8 H7
  have d8 := (cells_of_block ((H8.out.bel.block Bl hBL).trans P4.out) 0)
  simp only [List.getElem?_toArray, List.getElem?_cons_zero] at d8
  go_wp2_with (refine cpInsert _ rfl _ _ _ 62 rfl 3 67 cpIntLaw Tryz.underlying62 (kiR Lx Bl) w4.heap.size 8 (kindsD 8) rfl H8.out.own (by decide) _ _ (.int .i64 9) rfl rfl (keyOf_int_mk Tryz.underlying3 (by decide)) (kiD 9) [] kiR_call ?_)
  intro w19 own9 g9
  have H9 := Lib.hid (H8.out.next own9 g9)
  clear own9 g9 H8
  clear d8
  have e2 := (cells_of_block ((H9.out.bel.block Lx (by have := HZ4.out; omega)).trans L4.out) 2)
  have f2 := frees_of_block ((H9.out.bel.block Lx (by have := HZ4.out; omega)).trans L4.out) 2
  simp only [List.getElem?_toArray, List.getElem?_cons_zero, List.getElem?_cons_succ] at e2
  go_upto_region 6 with (fail)
  obtain ⟨w20, hw20⟩ : ∃ w20, w20 = w19.setCell ⟨Lx, 2, none⟩ (.map (some w4.heap.size)) := ⟨_, rfl⟩
  rw [← hw20]
  obtain ⟨hz41, hz42, hz43⟩ := HZ4.out
  have z9 := H9.out.bel.size
  have z20 : w20.heap.size = w19.heap.size := by rw [hw20]; exact setCell_hsize _ _ _
  have o20 : ∀ x, x ≠ Lx → w20.heap[x]? = w19.heap[x]? := fun x hx => by rw [hw20]; exact heap_setCell_other _ _ _ _ (by intro e; exact hx e)
  have x20 : w20.heap[Lx]? = some (.cells #[.slice none 0 0, .slice none 0 0, .map (some w4.heap.size)] 64 (0, 0)) := by
   rw [hw20, heap_setCell_same _ _ 2 _ _ _ ((H9.out.bel.block Lx (by omega)).trans L4.out)]; rfl
  have lM := H9.out.own.lt
  have hcl : ∀ x, (fun x => if x = Lx then 2 else if x = Bl ∨ x = w4.heap.size then 3 else 9 : Nat → Nat) x = (if x = Lx then 2 else if x = Bl ∨ x = w4.heap.size then 3 else 9) := fun _ => rfl
  have cx : Cx Lx Lx Bl w4.heap.size (fun x => if x = Lx then 2 else if x = Bl ∨ x = w4.heap.size then 3 else 9) (fun _ => none) [] [] w20 := by
   refine ⟨⟨.slice none 0 0, .slice none 0 0, [], ?_⟩, ⟨(o20 Bl hz43).trans ((H9.out.bel.block Bl hz42).trans P4.out), by show (if Bl = Lx then 2 else if Bl = Bl ∨ Bl = w4.heap.size then 3 else 9) = 3; rw [if_neg hz43, if_pos (Or.inl rfl)], ?_, by show (if w4.heap.size = Lx then 2 else if w4.heap.size = Bl ∨ w4.heap.size = w4.heap.size then 3 else 9) = 3; rw [if_neg (by omega), if_pos (Or.inr rfl)]⟩, by omega⟩
   ·exact ⟨x20, ⟨if_pos rfl, by omega, Nat.le_refl _⟩, rfl, ⟨World.ownsRow_nil _ _ _ _, fun k hk => by simp [Value.ownBlock] at hk⟩, ⟨World.ownsRow_nil _ _ _ _, fun k hk => by simp [Value.ownBlock] at hk⟩, fun i p t _ hp => by simp at hp, fun i v t h => (by cases h), fun i v h => (by cases h)⟩
   ·obtain ⟨es, clock, hb, r⟩ := H9.out.own
    exact ⟨es, clock, (o20 _ (by omega)).trans hb, r⟩
  have b20 : Below Lx w4 w20 := (H9.out.bel.mono (by omega)).trans (by rw [hw20]; exact (Below.refl Lx w19).setCell (p := ⟨Lx, 2, none⟩) (Nat.le_refl _) _)
  have nd : Nd Lx w20 w.heap.size 0 h ks ka kl kc := ⟨N4.out.kept b20 (by omega), by omega, (T4.out.mono (by omega)).kept b20 (Nat.le_refl _)⟩
  have CX := Lib.hid cx; have ND := Lib.hid nd
  have d20 := cells_of_block ((o20 Bl hz43).trans ((H9.out.bel.block Bl hz42).trans P4.out)) 0
  simp only [List.getElem?_toArray, List.getElem?_cons_zero] at d20
  have R20 := Lib.hid ((b20.block (w.heap.size + 1) hz3).trans R4.out)
  have B20 := Lib.hid (B4.out.trans (b20.mono (by omega)))
  clear cx nd b20 x20 o20 hcl z20 lM hw20 e2 f2 H9 N4 T4 R4 B4 z9 L4 P4
  go_wp2_with fail
  refine (value_all h ks Lx Lx Bl w4.heap.size w.heap.size 0 _ (fun _ => none) [] [] w20 ka kl kc CX ND hfit ⟨by simp; omega, by simp; omega⟩).mono ?_
  rintro e w21 ⟨rfl, cl1, s1, f1, b1⟩
  have E1 := CX.out.env.frm f1 p3_3
  obtain ⟨vI, vC, ts, s1⟩ := s1
  simp only [List.nil_append, List.length_nil] at s1
  obtain ⟨aI, kI, rfl⟩ := s1.rI.own.slice9
  obtain ⟨aC, kC, rfl⟩ := s1.rC.own.slice9
  have d21 := cells_of_block E1.c1 0
  have x0 := cells_of_block s1.box 0
  have x1 := cells_of_block s1.box 1
  have r21 := (b1.block (w.heap.size + 1) hz3).trans R20.out
  have R21 := Lib.hid r21
  have y0 := cells_of_block r21 0
  have y1 := cells_of_block r21 1
  have fy0 := frees_of_block r21 0
  have fy1 := frees_of_block r21 1
  simp only [List.getElem?_toArray, List.getElem?_cons_zero, List.getElem?_cons_succ] at d21 x0 x1 y0 y1
  have CD := Lib.hid s1.code
  have hz21 : w.heap.size + 1 < w21.heap.size := lt_of_block r21
  have B21 := Lib.hid (B20.out.trans (b1.mono (by omega)))
  clear CX ND d20 R20 B20 s1 f1 b1 E1 r21
  go_wp2_with fail
  obtain ⟨w22, hw22⟩ : ∃ w22, w22 = (w21.setCell ⟨w.heap.size + 1, 0, none⟩ (.slice aI (valT h ks 0 []).1.length kI)).setCell ⟨w.heap.size + 1, 1, none⟩ (.slice aC (valT h ks 0 []).2.length kC) := ⟨_, rfl⟩
  rw [← hw22]
  have r22 : w22.heap[w.heap.size + 1]? = some (.cells #[.slice aI (valT h ks 0 []).1.length kI, .slice aC (valT h ks 0 []).2.length kC] 27 (0, 0)) := by rw [hw22]; exact setCell2 R21.out
  refine bodyPost_ret (results_code rfl _ _ _ _ _ rfl r22) rfl ⟨_, _, by rw [HM0.out]; rfl, ?_, ?_⟩
  ·rw [HC.out]
   refine (CD.out.keep (fun x hx _ => ?_) ?_).base (by omega)
   ·rw [hw22, heap_setCell_other _ _ _ _ (by intro e; have : w.heap.size + 1 = x := e.symm; omega), heap_setCell_other _ _ _ _ (by intro e; have : w.heap.size + 1 = x := e.symm; omega)]
   ·rw [hw22, setCell_hsize, setCell_hsize]; exact Nat.le_refl _
  ·rw [hw22]
   exact (B21.out.setCell (p := ⟨w.heap.size + 1, 0, none⟩) (by show w.heap.size ≤ w.heap.size + 1; omega) _).setCell (p := ⟨w.heap.size + 1, 1, none⟩) (by show w.heap.size ≤ w.heap.size + 1; omega) _
 ·have hc := HM.out
  rw [if_neg hm] at hc
  have HC := Lib.hid hc
  have y0 := cells_of_block R3.out 0
  have y1 := cells_of_block R3.out 1
  have fy0 := frees_of_block R3.out 0
  have fy1 := frees_of_block R3.out 1
  simp only [List.getElem?_toArray, List.getElem?_cons_zero, List.getElem?_cons_succ] at y0 y1
  clear HM HMAY hc N3 T3
  obtain ⟨mm, hmm⟩ : ∃ mm, mm = mayE h ks := ⟨_, rfl⟩
  have HMM := Lib.hid hmm
  rw [← hmm] at hm ⊢
  have hmb : (mm == 0) = false := by simpa using hm
  clear hmm
  go_wp2_with fail
  obtain ⟨w22, hw22⟩ : ∃ w22, w22 = (w3.setCell ⟨w.heap.size + 1, 0, none⟩ (.slice none 0 0)).setCell ⟨w.heap.size + 1, 1, none⟩ (.slice none 0 0) := ⟨_, rfl⟩
  rw [← hw22]
  have r22 : w22.heap[w.heap.size + 1]? = some (.cells #[.slice none 0 0, .slice none 0 0] 27 (0, 0)) := by rw [hw22]; exact setCell2 R3.out
  refine bodyPost_ret (results_code rfl _ _ _ _ _ rfl r22) rfl ⟨.slice none 0 0, .slice none 0 0, by rw [← HMM.out]; rfl, ?_, ?_⟩
  ·rw [HC.out]; exact CodeV.nil _ _
  ·rw [hw22]
   exact (B3.out.setCell (p := ⟨w.heap.size + 1, 0, none⟩) (by show w.heap.size ≤ w.heap.size + 1; omega) _).setCell (p := ⟨w.heap.size + 1, 1, none⟩) (by show w.heap.size ≤ w.heap.size + 1; omega) _
end Go.Proofs.YtlmpiobdgkmmgaaGreatDoor
