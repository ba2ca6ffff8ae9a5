/- Comp: scalar calls, asking, place, area, walking. -/
import Derived.Test.YtlmpiobdgkmmgaaGreatDoorKcK
set_option maxRecDepth 1000000
set_option maxHeartbeats 16000000
namespace Go.Proofs.YtlmpiobdgkmmgaaGreatDoor
open Go.RowKit
theorem infoFun : (Tryz.prog.info? 1).map (fun i => (i.zero, i.size, i.bytes)) = some (some .nilFunc, 1, 8) := by kernel_rfl
structure Kid (b : Nat) (W : World) (ks : Trees) (j kb ko : Nat) (h' : Hd) (k' r' : Trees) (ka' : Option Addr) (kl' kc' : Nat) : Prop where
 e : tdrop ks j = .cons h' k' r'
 e1 : tdrop ks (j + 1) = r'
 nd : Nd b W kb (ko + j * 14) h' k' ka' kl' kc'
theorem Nd.kid {b nb off kl kc : Nat} {W : World} {h : Hd} {ks : Trees} {ka : Option Addr} (n : Nd b W nb off h ks ka kl kc) (j : Nat) (hj : j < ks.len) : ∃ kb ko h' k' r' ka' kl' kc', ka = some ⟨kb, ko, none⟩ ∧ Kid b W ks j kb ko h' k' r' ka' kl' kc' := by
 obtain ⟨h', k', r', e, e1⟩ := tdrop_cons ks j hj
 have r := tdrop_row ks j 0 ka n.tv.row
 rw [e, Nat.zero_add] at r
 obtain ⟨kb, ko, ka', kl', kc', a, hb, N, t⟩ := r.head
 exact ⟨kb, ko, h', k', r', ka', kl', kc', a, e, e1, N, hb, t⟩
section
variable {b j kb ko kl' kc' : Nat} {W : World} {ks k' r' : Trees} {h' : Hd} {ka' : Option Addr}
theorem Kid.all {Q : Hd → Trees → Prop} (k : Kid b W ks j kb ko h' k' r' ka' kl' kc') (ih : AllT Q ks) : Q h' k' := by
 have := tdrop_all ks j ih
 rw [k.e] at this
 exact this.1
theorem Kid.fits (k : Kid b W ks j kb ko h' k' r' ka' kl' kc') (hf : allFits ks = true) : treeFits h' k' = true := by
 have := tdrop_fits ks j hf
 rw [k.e] at this
 simp only [allFits, Bool.and_eq_true] at this
 unfold treeFits
 simp [this]
theorem Kid.kcs (k : Kid b W ks j kb ko h' k' r' ka' kl' kc') : (kcs ks).drop j = ⟨h', valT h' k', areaT h' k'⟩ :: (kcs ks).drop (j + 1) := by
 rw [← tdrop_kcs, ← tdrop_kcs, k.e, k.e1]
 rfl
theorem Kid.nodes (k : Kid b W ks j kb ko h' k' r' ka' kl' kc') : (tdrop ks j).nodes = 1 + k'.nodes + (tdrop ks (j + 1)).nodes := by rw [k.e, k.e1]; rfl
end
theorem kcs_dropped (ks : Trees) : (kcs ks).drop ks.len = [] := List.drop_eq_nil_of_le (by rw [kcs_len]; exact Nat.le_refl _)
structure CoR (b Lx Bl Mx : Nat) (cl0 : Nat → Nat) (W0 : World) (cl : Nat → Nat) (S : SX) (ps : List PI) (cs : List PV) (W : World) (v : Value) (vs : List Value) (os : List Nat) : Prop where
 rn : Rn b Lx Bl Mx cl0 W0 cl S ps cs W
 row : Rw W0.heap.size W.heap.size cl 7 1 1 W v vs.length vs
 clo : ∀ (i o : Nat), os[i]? = some o → ∃ B1 B2, vs[i]? = some (cloV B1 B2) ∧ Clo cl W Lx B1 B2 o
 len : vs.length = os.length
section
variable {b Lx Bl Mx : Nat} {cl0 cl cl' : Nat → Nat} {S : SX} {ps ps' : List PI} {cs cs' : List PV} {W0 W W' W1 : World} {v : Value} {vs : List Value} {os : List Nat}
theorem CoR.start (h : Rn b Lx Bl Mx cl0 W0 cl S ps cs W) : CoR b Lx Bl Mx cl0 W0 cl S ps cs W (.slice none 0 0) [] [] :=
 ⟨h, ⟨World.ownsRow_nil W _ _ _, fun k hk => by simp [Value.ownBlock] at hk⟩, fun i o h => by simp at h, rfl⟩
theorem CoR.go (h : CoR b Lx Bl Mx cl0 W0 cl S ps cs W v vs os) (s : Ly b cl' S Lx 64 [.map (some Mx)] ps' cs' W') (f : Frm P3 cl W.heap.size cl' W W') (bb : Below b W W') : CoR b Lx Bl Mx cl0 W0 cl' S ps' cs' W' v vs os :=
 ⟨h.rn.go s f bb, h.row.frm f p3_7 bb.size, fun i o hi => by
  obtain ⟨B1, B2, e, c⟩ := h.clo i o hi
  exact ⟨B1, B2, e, c.frm f p3_6 (Nat.le_refl _)⟩, h.len⟩
theorem CoR.drew (h : CoR b Lx Bl Mx cl0 W0 cl S ps cs W v vs os) : CoR b Lx Bl Mx cl0 W0 cl S ps cs W.drew v vs os :=
 ⟨h.rn.drew, ⟨h.row.own, h.row.cls⟩, fun i o hi => by
  obtain ⟨B1, B2, e, c⟩ := h.clo i o hi
  exact ⟨B1, B2, e, ⟨c.c1, c.c2, c.k1, c.k2⟩⟩, h.len⟩
theorem CoR.push {g cap o B1 B2 : Nat} {ob : Obj} (h : CoR b Lx Bl Mx cl0 W0 cl S ps cs W v vs os) (oc : Clo cl W Lx B1 B2 o) (hbW : b ≤ W0.heap.size) (hown : W1.ownsRow W0.heap.size 1 1 (.slice (some ⟨g, 0, none⟩) (os.length + 1) cap) (os.length + 1) (vs ++ [cloV B1 B2])) (hgrow : (W.alloc ob).grownBy W1 v.ownBlock) (hat : v.ownBlock = some g ∨ g = (W.alloc ob).heap.size) :
 CoR b Lx Bl Mx cl0 W0 (upc cl W.heap.size 7) S ps cs W1 (.slice (some ⟨g, 0, none⟩) (os.length + 1) cap) (vs ++ [cloV B1 B2]) (os ++ [o]) := by
 rw [← h.len] at hown ⊢
 have c0 : Cos b cl0 W0 cl S Lx 64 [.map (some Mx)] ps cs 1 v vs W := ⟨h.rn.cx.ly, h.rn.fr, h.rn.be, h.row⟩
 obtain ⟨c1, f1⟩ := c0.push hbW hown hgrow hat
 refine ⟨⟨⟨c1.ly, h.rn.cx.env.frm f1 (by omega), Nat.le_trans hbW c1.be.size⟩, c1.fr, c1.be⟩, ?_, fun i o' hi => ?_, by simp [h.len]⟩
 ·have := c1.row
  rw [List.length_append, List.length_singleton] at this ⊢
  exact this
 ·rcases Nat.lt_or_ge i os.length with q | q
  ·rw [List.getElem?_append_left q] at hi
   obtain ⟨X1, X2, e, c⟩ := h.clo i o' hi
   exact ⟨X1, X2, by rw [List.getElem?_append_left (h.len ▸ q)]; exact e, c.frm f1 (by omega) (Nat.le_refl _)⟩
  ·have q2 := (List.getElem?_eq_some_iff.1 hi).1
   rw [List.length_append, List.length_singleton] at q2
   obtain rfl : i = os.length := by omega
   rw [List.getElem?_append_right (Nat.le_refl _), Nat.sub_self, List.getElem?_cons_zero, Option.some.injEq] at hi
   subst hi
   exact ⟨B1, B2, by rw [← h.len, List.getElem?_append_right (Nat.le_refl _), Nat.sub_self]; rfl, oc.frm f1 (by omega) (Nat.le_refl _)⟩
theorem CoR.slice (h : CoR b Lx Bl Mx cl0 W0 cl S ps cs W v vs os) : ∃ a kc, v = .slice a os.length kc ∧ CloR cl W Lx a os := by
 obtain ⟨a, kc, e⟩ := h.row.own.slice9
 refine ⟨a, kc, by rw [e, h.len], ⟨fun i o hi => ?_⟩⟩
 have hl := (List.getElem?_eq_some_iff.1 hi).1
 obtain ⟨B1, B2, e2, c⟩ := h.clo i o hi
 rcases h.row.own.2 with ⟨q, h0⟩ | ⟨g, cap, cur, q, -⟩
 ·rw [h.len] at h0; omega
 ·have hv := q
  rw [e] at q
  simp only [Value.slice.injEq] at q
  obtain ⟨rfl, -, rfl⟩ := q
  have hc := h.row.cls g (by rw [hv]; rfl)
  have ho := h.row.own
  rw [hv] at ho
  exact ⟨g, B1, B2, rfl, (own_cell ho i (by rw [h.len]; exact hl)).trans e2, hc.1, hc.2, c⟩
end
theorem endF_done {F : Int → CF} {x : PI} {ps psj : List PI} {cs csj : List PV} {os : List Nat} {L : Int → List PI} (p : Pt os psj L) (h : ∀ E, L E = ps ++ (F E ps.length cs).1 ∧ csj = (F E ps.length cs).2) :
 pats os ((psj ++ [x]).length : Int) (psj ++ [x]) = ps ++ (endF F x ps.length cs).1 ∧ csj = (endF F x ps.length cs).2 := by
 have hl : psj.length = ps.length + (F 0 ps.length cs).1.length := by rw [← p.len 0, (h 0).1, List.length_append]
 rw [(p.app [x]).eq]
 have hE : (((psj ++ [x]).length : Nat) : Int) = ((ps.length + (F 0 ps.length cs).1.length + 1 : Nat) : Int) := by rw [List.length_append, List.length_singleton, hl]
 rw [hE]
 refine ⟨?_, (h _).2⟩
 rw [(h _).1, List.append_assoc]
 rfl
structure VkP (F : Int → Int → List KC → CF) (ks : Trees) (n0 j : Nat) (ps : List PI) (cs : List PV) (os : List Nat) (L : Int → List PI) (fin : Int → List PI × List PV) : Prop where
 pt : Pt os ps L
 eq : ∀ E, L E ++ (F E (j : Int) ((kcs ks).drop j) ps.length cs).1 = (fin E).1 ∧ (F E (j : Int) ((kcs ks).drop j) ps.length cs).2 = (fin E).2
 room : Room ps cs (n0 + (tdrop ks j).nodes)
section
variable {F : Int → Int → List KC → CF} {b n0 j kb ko kl' kc' : Nat} {W : World} {ks k' r' : Trees} {h' : Hd} {ka' : Option Addr} {ps : List PI} {cs : List PV} {os : List Nat} {L : Int → List PI} {fin : Int → List PI × List PV}
theorem vals_more (E i : Int) {k : KC} {r : List KC} (hr : r ≠ []) (n : Nat) (cs : List PV) : valsF E i (k :: r) n cs = ((k.v n cs).1 ++ (⟨7, E, i, 0, 0, []⟩ :: (valsF E (i + 1) r (n + (k.v n cs).1.length + 1) (k.v n cs).2).1), (valsF E (i + 1) r (n + (k.v n cs).1.length + 1) (k.v n cs).2).2) := by
 cases r with
 | nil => exact absurd rfl hr
 | cons k2 r => rfl
theorem VkP.next (h : VkP valsF ks n0 j ps cs os L fin) (K : Kid b W ks j kb ko h' k' r' ka' kl' kc') (hj : j + 1 < ks.len) :
 VkP valsF ks n0 (j + 1) (ps ++ (valT h' k' ps.length cs).1 ++ [⟨7, 0, j, 0, 0, []⟩]) (valT h' k' ps.length cs).2 (os ++ [(ps ++ (valT h' k' ps.length cs).1).length]) (fun E => L E ++ (valT h' k' ps.length cs).1 ++ [⟨7, E, j, 0, 0, []⟩]) fin := by
 have hx := fb_valT h' k' ps.length cs
 have hne : (kcs ks).drop (j + 1) ≠ [] := fun e => by
  have := congrArg List.length e
  rw [List.length_drop, kcs_len] at this
  simp at this
  omega
 refine ⟨(h.pt.app _).opened ⟨7, 0, j, 0, 0, []⟩, fun E => ?_, ?_⟩
 ·have q := h.eq E
  rw [K.kcs, vals_more E j hne] at q
  have hl : (ps ++ (valT h' k' ps.length cs).1 ++ [(⟨7, 0, j, 0, 0, []⟩ : PI)]).length = ps.length + (valT h' k' ps.length cs).1.length + 1 := by simp only [List.length_append, List.length_singleton]
  rw [hl, Int.natCast_add]
  refine ⟨?_, q.2⟩
  rw [← q.1]
  simp only [List.append_assoc, List.singleton_append, Int.cast_ofNat_Int]
 ·have := h.room
  rw [K.nodes] at this
  unfold Room at this ⊢
  simp only [List.length_append, List.length_singleton]
  omega
theorem VkP.last (h : VkP valsF ks n0 j ps cs os L fin) (K : Kid b W ks j kb ko h' k' r' ka' kl' kc') (hj : j + 1 = ks.len) :
 VkP valsF ks n0 (j + 1) (ps ++ (valT h' k' ps.length cs).1) (valT h' k' ps.length cs).2 os (fun E => L E ++ (valT h' k' ps.length cs).1) fin := by
 have hx := fb_valT h' k' ps.length cs
 have hne : (kcs ks).drop (j + 1) = [] := by rw [hj]; exact kcs_dropped ks
 refine ⟨h.pt.app _, fun E => ?_, ?_⟩
 ·have q := h.eq E
  rw [K.kcs, hne] at q
  rw [hne]
  refine ⟨?_, q.2⟩
  rw [← q.1]
  exact List.append_nil _
 ·have := h.room
  rw [K.nodes] at this
  unfold Room at this ⊢
  rw [List.length_append]
  omega
theorem VkP.done (h : VkP F ks n0 ks.len ps cs os L fin) (hF : ∀ E i, F E i [] = nilF) : ∀ E, L E = (fin E).1 ∧ cs = (fin E).2 := fun E => by
 have q := h.eq E
 rw [kcs_dropped, hF] at q
 exact ⟨by rw [← q.1]; exact (List.append_nil _).symm, q.2⟩
end
def CallP (c : Int) (h : Hd) (ks : Trees) : Prop := h.kind = 9 → clsOf h = c → ∀ (b Lx Bl Mx nb off : Nat) (cl : Nat → Nat) (S : SX) (ps : List PI) (cs : List PV) (W : World) (ka : Option Addr) (kl kc : Nat),
 Hid (Cx b Lx Bl Mx cl S ps cs W) → Hid (Nd b W nb off h ks ka kl kc) → treeFits h ks = true → Room ps cs (1 + ks.nodes) →
 Calls Tryz.prog 36 #[.pointer (some ⟨Lx, 0, none⟩), .pointer (some ⟨nb, off, none⟩)] W (LayPost b Lx Mx cl S ps cs W (valT h ks))
theorem valT_call {h : Hd} (ks : Trees) (q : h.kind = 9) : valT h ks = callF h (kcs ks) := by unfold valT valF; simp only [q]; rfl
end Go.Proofs.YtlmpiobdgkmmgaaGreatDoor
namespace Go.Proofs.YtlmpiobdgkmmgaaGreatDoor
open Go.RowKit
theorem len_nodes : ∀ ks : Trees, ks.len ≤ ks.nodes
 | .nil => Nat.le_refl _
 | .cons _ k r => by have := len_nodes r; simp only [Trees.len, Trees.nodes]; omega
def SclRel (F : Int → Int → List KC → CF) (b Lx Bl Mx : Nat) (cl0 : Nat → Nat) (W0 : World) (S : SX) (ks : Trees) (n0 : Nat) (fin : Int → List PI × List PV) (v iv : Value) (wr : World) : Prop :=
 ∃ (j : Nat) (cl : Nat → Nat) (vs : List Value) (os : List Nat) (ps : List PI) (cs : List PV) (L : Int → List PI), iv = .int .i64 (j : Int) ∧ j ≤ ks.len ∧ os.length ≤ j ∧ Hid (CoR b Lx Bl Mx cl0 W0 cl S ps cs wr v vs os) ∧ Hid (VkP F ks n0 j ps cs os L fin)
theorem call1_any {h : Hd} {ks : Trees} (ih : AllT VA ks) : CallP 1 h ks := by
 intro hk hc b Lx Bl Mx nb off cl S ps cs W ka kl kc HC ND0 hf hr
 have RN0 := Lib.hid (Rn.start HC.out)
 obtain ⟨hr1, hr2⟩ := hr
 have hfv : fitsV h ks.len = true ∧ allFits ks = true := by unfold treeFits at hf; simpa using hf
 have OKC := Lib.hid (call_ok hfv.1 hk)
 have hfa := Lib.hid hfv.2
 obtain rfl : kl = ks.len := ND0.out.tv.len
 have NDW := ND0
 have hkm : ks.len ≤ ks.nodes := len_nodes ks
 have IH := Lib.hid ih
 clear HC hfv hf ih
 have HV : Hid (valT h ks = endF (fun e => valsF e 0 (kcs ks)) ⟨6, h.fn, (ks.len : Nat), 0, 0, []⟩) := Lib.hid (by rw [valT_call ks hk]; unfold callF; rw [if_pos (Or.inl hc), kcs_len])
 obtain ⟨i0, hi, hz0, hz1, hz2⟩ := info_parts infoFun
 have hbW := RN0.out.cx.hb
 have PT0 : Hid (VkP valsF ks 0 0 ps cs [] (fun _ => ps) (fun E => (ps ++ (valsF E 0 (kcs ks) ps.length cs).1, (valsF E 0 (kcs ks) ps.length cs).2))) := Lib.hid ⟨Pt.nil ps, fun E => ⟨rfl, rfl⟩, by rw [tdrop_nodes]; exact ⟨by omega, by omega⟩⟩
 clear hk
 go_enter Tryz.func36, Tryz.ntmps36
 go_wp2_with fail
 refine (class_any h _ W ND0.out.nd).mono ?_
 rintro e w1 ⟨rfl, q1⟩
 rw [hc]
 have f1 := Frm.kept (P := P3) (cl := cl) (c0 := 9) q1
 have b1 := q1.mono RN0.out.cx.hb
 have RN1 := Lib.hid (RN0.out.go (RN0.out.cx.ly.kept q1 9) f1 b1)
 have ND1 := Lib.hid (ND0.out.step b1)
 clear RN0 f1 b1 q1 ND0
 have c13 := ND1.out.nd.facts.c13
 go_wp2_with fail
 clear c13
 go_loopw [4, 18] (fun v iv wr => SclRel valsF b Lx Bl Mx cl W S ks 0 (fun E => (ps ++ (valsF E 0 (kcs ks) ps.length cs).1, (valsF E 0 (kcs ks) ps.length cs).2)) v iv wr) (fun _ iv _ => ks.len - (intOf iv).toNat)
 case atStart => exact ⟨0, _, [], [], ps, cs, fun _ => ps, rfl, Nat.zero_le _, Nat.le_refl _, Lib.hid (CoR.start RN1.out), PT0⟩
 case round =>
  obtain ⟨j, cl3, vs, os, psj, csj, L, rfl, hj, hol, C3, P3'⟩ := hrel
  have N3 := Lib.hid (NDW.out.step C3.out.rn.be)
  by_cases hlt : j < ks.len
  ·obtain ⟨kb, ko, h', k', r', ka', kl', kc', rfl, K⟩ := N3.out.kid j hlt
   have K3 := Lib.hid K
   have c13 := N3.out.nd.facts.c13
   have rm : Room psj csj (1 + k'.nodes) := by have := P3'.out.room; rw [K.nodes] at this; unfold Room at this ⊢; omega
   clear K
   go_wp2_with fail
   refine ((K3.out.all IH.out).1 b Lx Bl Mx kb _ cl3 S psj csj wr ka' kl' kc' (Lib.hid C3.out.rn.cx) (Lib.hid K3.out.nd) (K3.out.fits hfa.out) rm).mono ?_
   rintro e w4 ⟨rfl, cl4, s4, f4, b4⟩
   have C4 := Lib.hid (C3.out.go s4 f4 b4)
   clear s4 f4 b4 c13 C3 N3 rm
   have N4 := NDW.out.step C4.out.rn.be
   have c13 := N4.nd.facts.c13
   clear N4
   by_cases hj1 : j + 1 < ks.len
   ·have P4 := Lib.hid (P3'.out.next K3.out hj1)
    have rm4 := P4.out.room.1
    rw [List.length_append, List.length_singleton] at rm4
    have RM4 := Lib.hid rm4
    clear rm4 P3'
    go_wp2_with fail
    refine (open_any 7 0 j 0 0 w4 (Lib.hid C4.out.rn.cx.ly) C4.out.rn.cx.hb (by have := RM4.out; omega)).mono ?_
    rintro e w2 ⟨Bl2, Ba2, cl2, rfl, s2, f2, b2, o2⟩
    have C2 := Lib.hid (C4.out.go s2 f2 b2)
    have OC := Lib.hid o2
    have hvl := C2.out.len
    have hzw := C2.out.rn.be.size
    clear s2 f2 b2 o2 c13 C4
    simp only [cloV]
    go_wp2_with (at_builtin; refine wpList_append_lies _ rfl _ _ 113 rfl W.heap.size 1 i0 _ 1 8 Tryz.underlying113 hi hz0 hz1 hz2 rfl (by decide) u4 vs.length vs rfl (World.ownsRow.alloc C2.out.row.own _) ⟨w2.heap.size, 0, none⟩ 1 1 [cloV Bl2 Ba2] rfl rfl (World.news_of_block (heap_alloc_new w2 _)) (by simp [Value.oneCell', cloV]) (by decide) (by unfold maxLen; omega) (by omega) (by simp; omega) _ rfl ?_)
    intro g cap w6 hown hgrow hat _
    have C6 := Lib.hid (C2.out.push OC.out hbW hown hgrow (hat.imp_right fun q => by rw [q]; simp))
    clear hown hgrow hat C2 OC hvl hzw
    go_wp2_with fail
    exact ⟨⟨j + 1, _, _, _, _, _, _, by go_num, by omega, by simp; omega, C6, P4⟩, by simp [intOf]; omega⟩
   ·have P4 := Lib.hid (P3'.out.last K3.out (by omega))
    clear P3'
    have hj2 : ¬ (j : Int) < (ks.len : Int) - 1 := by omega
    go_wp2_with fail
    exact ⟨⟨j + 1, _, _, _, _, _, _, by go_num, by omega, by omega, C4, P4⟩, by simp [intOf]; omega⟩
  ·obtain rfl : j = ks.len := by omega
   have c12 := N3.out.nd.facts.c12
   have c13 := N3.out.nd.facts.c13
   obtain ⟨hD1, hD2⟩ := endF_done (F := fun e => valsF e 0 (kcs ks)) (x := ⟨6, h.fn, (ks.len : Nat), 0, 0, []⟩) P3'.out.pt (P3'.out.done fun _ _ => rfl)
   have HD1 := Lib.hid hD1; have HD2 := Lib.hid hD2
   have hln : psj.length ≤ 900000 := by have := P3'.out.room.1; omega
   have HLT := Lib.hid P3'.out.pt.lt
   clear hD1 hD2 P3' N3
   go_upto_region 10 with (fail)
   go_still_tail 11, (by kernel_rfl)
   change wpList _ _ _ _ _ wr.drew
   go_wp2_with fail
   have C4 := Lib.hid C3.out.drew
   clear C3
   refine (put_any 6 h.fn ks.len 0 0 wr.drew (Lib.hid C4.out.rn.cx.ly) C4.out.rn.cx.hb (by omega)).mono ?_
   rintro e w4 ⟨rfl, cl4, s4, f4, b4⟩
   have C5 := Lib.hid (C4.out.go s4 f4 b4)
   clear s4 f4 b4 C4 c12 c13
   obtain ⟨aS, kS, rfl, hS⟩ := C5.out.slice
   have HS := Lib.hid hS
   clear hS
   go_wp2_with fail
   refine (cpAll_any os w4 (Lib.hid C5.out.rn.cx.ly) C5.out.rn.cx.hb (by rw [List.length_append, List.length_singleton]; omega) (by omega) HS.out (fun i hi => by have := HLT.out i hi; rw [List.length_append]; omega)).mono ?_
   rintro e w5 ⟨rfl, cl5, s5, f5, b5⟩
   rw [HD1.out] at s5
   have L5 := Lib.hid (C5.out.rn.go s5 f5 b5).toLd
   clear s5 f5 b5 C5
   rw [HD2.out] at L5
   go_wp2_with fail
   exact bodyPost_end (results_none rfl _ _ _) rfl ⟨rfl, by rw [HV.out]; exact L5.out⟩
end Go.Proofs.YtlmpiobdgkmmgaaGreatDoor
namespace Go.Proofs.YtlmpiobdgkmmgaaGreatDoor
open Go.RowKit
theorem kid_nth {b j kb ko kl' kc' : Nat} {W : World} {ks k' r' : Trees} {h' : Hd} {ka' : Option Addr} (k : Kid b W ks j kb ko h' k' r' ka' kl' kc') : nth (kcs ks) j = ⟨h', valT h' k', areaT h' k'⟩ := by
 have e := congrArg (fun l : List KC => l[0]?) k.kcs
 simp only [List.getElem?_drop, Nat.add_zero, List.getElem?_cons_zero] at e
 unfold nth
 rw [List.getD_eq_getElem?_getD, e]
 rfl
theorem kcs_one {ks : Trees} (h : ks.len = 1) : kcs ks = [nth (kcs ks) 0] := by
 have hl := kcs_len ks
 rw [h] at hl
 obtain ⟨a, e⟩ := List.length_eq_one_iff.1 hl
 rw [e]
 rfl
theorem call2_any {h : Hd} {ks : Trees} (ih : AllT VA ks) : CallP 2 h ks := by
 intro hk hc b Lx Bl Mx nb off cl S ps cs W ka kl kc HC ND0 hf hr
 have RN0 := Lib.hid (Rn.start HC.out)
 obtain ⟨hr1, hr2⟩ := hr
 have hfv : fitsV h ks.len = true ∧ allFits ks = true := by unfold treeFits at hf; simpa using hf
 have OKC := Lib.hid (call_ok hfv.1 hk)
 have hfa := Lib.hid hfv.2
 obtain rfl : kl = ks.len := ND0.out.tv.len
 have NDW := ND0
 have hkm : ks.len ≤ ks.nodes := len_nodes ks
 have IH := Lib.hid ih
 clear HC hfv hf ih
 have hl1 := OKC.out.c2 hc
 obtain ⟨kb, ko, h0, k0, r0, ka0, kl0, kc0, rfl, K⟩ := ND0.out.kid 0 (by omega)
 have hnt := kid_nth K
 have hf0 := K.fits hfa.out
 have IH0 := Lib.hid (K.all IH.out)
 have rm0 : 1 + k0.nodes ≤ ks.nodes := by have := tdrop_le ks 0; rw [K.e] at this; simp only [Trees.nodes] at this; omega
 have KA0 := Lib.hid K.nd
 clear K hkm
 have HV : Hid (valT h ks ps.length cs = seqF (valT h0 k0) (insF ⟨6, h.fn, 1, 0, 0, []⟩) ps.length cs) := Lib.hid (by
  rw [valT_call ks hk]; unfold callF; rw [if_pos (Or.inr hc), kcs_one hl1, hnt]; rfl)
 have hx := fb_valT h0 k0 ps.length cs
 clear hk hnt
 go_enter Tryz.func36, Tryz.ntmps36
 go_wp2_with fail
 refine (class_any h _ W ND0.out.nd).mono ?_
 rintro e w1 ⟨rfl, q1⟩
 rw [hc]
 have f1 := Frm.kept (P := P3) (cl := cl) (c0 := 9) q1
 have b1 := q1.mono RN0.out.cx.hb
 have RN1 := Lib.hid (RN0.out.go (RN0.out.cx.ly.kept q1 9) f1 b1)
 have ND1 := Lib.hid (ND0.out.step b1)
 have KA1 := Lib.hid (KA0.out.step b1)
 clear RN0 f1 b1 q1 ND0 KA0
 have c13 := ND1.out.nd.facts.c13
 have hl2 : (0 : Int) < (ks.len : Int) := by omega
 go_wp2_with fail
 refine (IH0.out.1 b Lx Bl Mx kb _ _ S ps cs _ ka0 kl0 kc0 (Lib.hid RN1.out.cx) KA1 hf0 ⟨by omega, by omega⟩).mono ?_
 rintro e w2 ⟨rfl, cl2, s2, f2, b2⟩
 have RN2 := Lib.hid (RN1.out.go s2 f2 b2)
 have ND2 := Lib.hid (ND1.out.step b2)
 have KA2 := Lib.hid (KA1.out.step b2)
 clear RN1 s2 f2 b2 ND1 KA1 c13
 have c12 := ND2.out.nd.facts.c12
 go_wp2_with fail
 refine (put_any 6 h.fn 1 0 0 w2 (Lib.hid RN2.out.cx.ly) RN2.out.cx.hb (by rw [List.length_append]; omega)).mono ?_
 rintro e w3 ⟨rfl, cl3, s3, f3, b3⟩
 have RN3 := Lib.hid (RN2.out.go s3 f3 b3)
 have ND3 := Lib.hid (ND2.out.step b3)
 have KA3 := Lib.hid (KA2.out.step b3)
 clear RN2 s3 f3 b3 ND2 KA2 c12
 go_wp2_with fail
 exact bodyPost_end (results_none rfl _ _ _) rfl ⟨rfl, by rw [HV.out]; have q := RN3.out.toLd; rw [List.append_assoc] at q; exact q⟩
theorem call4_any {h : Hd} {ks : Trees} (ih : AllT VA ks) : CallP 4 h ks := by
 intro hk hc b Lx Bl Mx nb off cl S ps cs W ka kl kc HC ND0 hf hr
 have RN0 := Lib.hid (Rn.start HC.out)
 obtain ⟨hr1, hr2⟩ := hr
 have hfv : fitsV h ks.len = true ∧ allFits ks = true := by unfold treeFits at hf; simpa using hf
 have OKC := Lib.hid (call_ok hfv.1 hk)
 have hfa := Lib.hid hfv.2
 obtain rfl : kl = ks.len := ND0.out.tv.len
 have NDW := ND0
 have hkm : ks.len ≤ ks.nodes := len_nodes ks
 have IH := Lib.hid ih
 clear HC hfv hf ih
 have hl1 := OKC.out.c4 hc
 have hV : valT h ks = if (kcs ks).length = 0 then insF ⟨14, h.fn, 0, 0, 0, []⟩ else seqF (nth (kcs ks) 0).a (insF ⟨15, h.fn, 0, 0, 0, []⟩) := by
  rw [valT_call ks hk]; unfold callF; rw [if_neg (by omega), if_neg (by omega), if_pos hc]
 rw [kcs_len] at hV
 clear hk
 by_cases hl0 : ks.len = 0
 ·have HV : Hid (valT h ks = insF ⟨14, h.fn, 0, 0, 0, []⟩) := Lib.hid (by rw [hV, if_pos hl0])
  have hl00 : (ks.len : Int) = 0 := by omega
  clear hV hl1
  go_enter Tryz.func36, Tryz.ntmps36
  go_wp2_with fail
  refine (class_any h _ W ND0.out.nd).mono ?_
  rintro e w1 ⟨rfl, q1⟩
  rw [hc]
  have f1 := Frm.kept (P := P3) (cl := cl) (c0 := 9) q1
  have b1 := q1.mono RN0.out.cx.hb
  have RN1 := Lib.hid (RN0.out.go (RN0.out.cx.ly.kept q1 9) f1 b1)
  have ND1 := Lib.hid (ND0.out.step b1)
  clear RN0 f1 b1 q1 ND0
  have c12 := ND1.out.nd.facts.c12
  have c13 := ND1.out.nd.facts.c13
  go_wp2_with fail
  refine (put_any 14 h.fn 0 0 0 w1 (Lib.hid RN1.out.cx.ly) RN1.out.cx.hb (by omega)).mono ?_
  rintro e w2 ⟨rfl, cl2, s2, f2, b2⟩
  have RN2 := Lib.hid (RN1.out.go s2 f2 b2)
  have ND2 := Lib.hid (ND1.out.step b2)
  clear RN1 s2 f2 b2 ND1 c12 c13
  go_wp2_with fail
  exact bodyPost_ret (results_none rfl _ _ _) rfl ⟨rfl, by rw [HV.out]; have q := RN2.out.toLd; exact q⟩
 ·have hV2 : valT h ks = seqF (nth (kcs ks) 0).a (insF ⟨15, h.fn, 0, 0, 0, []⟩) := by rw [hV, if_neg hl0]
  have hl00 : ¬ (ks.len : Int) = 0 := by omega
  have hl2 : (0 : Int) < (ks.len : Int) := by omega
  clear hV
  obtain ⟨kb, ko, h0, k0, r0, ka0, kl0, kc0, rfl, K⟩ := ND0.out.kid 0 (by omega)
  have hnt := kid_nth K
  have hf0 := K.fits hfa.out
  have IH0 := Lib.hid (K.all IH.out)
  have rm0 : 1 + k0.nodes ≤ ks.nodes := by have := tdrop_le ks 0; rw [K.e] at this; simp only [Trees.nodes] at this; omega
  have KA0 := Lib.hid K.nd
  clear K hkm
  rw [hnt] at hV2
  have HV := Lib.hid hV2
  have hx := fb_areaT h0 k0 ps.length cs
  clear hV2 hnt
  go_enter Tryz.func36, Tryz.ntmps36
  go_wp2_with fail
  refine (class_any h _ W ND0.out.nd).mono ?_
  rintro e w1 ⟨rfl, q1⟩
  rw [hc]
  have f1 := Frm.kept (P := P3) (cl := cl) (c0 := 9) q1
  have b1 := q1.mono RN0.out.cx.hb
  have RN1 := Lib.hid (RN0.out.go (RN0.out.cx.ly.kept q1 9) f1 b1)
  have ND1 := Lib.hid (ND0.out.step b1)
  have KA1 := Lib.hid (KA0.out.step b1)
  clear RN0 f1 b1 q1 ND0 KA0
  have c13 := ND1.out.nd.facts.c13
  go_wp2_with fail
  refine (IH0.out.2 b Lx Bl Mx kb _ _ S ps cs _ ka0 kl0 kc0 (Lib.hid RN1.out.cx) KA1 hf0 ⟨by omega, by omega⟩).mono ?_
  rintro e w2 ⟨rfl, cl2, s2, f2, b2⟩
  have RN2 := Lib.hid (RN1.out.go s2 f2 b2)
  have ND2 := Lib.hid (ND1.out.step b2)
  have KA2 := Lib.hid (KA1.out.step b2)
  clear RN1 s2 f2 b2 ND1 KA1 c13
  have c12 := ND2.out.nd.facts.c12
  go_wp2_with fail
  refine (put_any 15 h.fn 0 0 0 w2 (Lib.hid RN2.out.cx.ly) RN2.out.cx.hb (by rw [List.length_append]; omega)).mono ?_
  rintro e w3 ⟨rfl, cl3, s3, f3, b3⟩
  have RN3 := Lib.hid (RN2.out.go s3 f3 b3)
  have ND3 := Lib.hid (ND2.out.step b3)
  have KA3 := Lib.hid (KA2.out.step b3)
  clear RN2 s3 f3 b3 ND2 KA2 c12
  go_wp2_with fail
  exact bodyPost_end (results_none rfl _ _ _) rfl ⟨rfl, by rw [HV.out]; have q := RN3.out.toLd; rw [List.append_assoc] at q; exact q⟩
theorem call5_any {h : Hd} {ks : Trees} (ih : AllT VA ks) (hA : AreC h ks) : CallP 5 h ks := by
 intro hk hc b Lx Bl Mx nb off cl S ps cs W ka kl kc HC ND0 hf hr
 have RN0 := Lib.hid (Rn.start HC.out)
 obtain ⟨hr1, hr2⟩ := hr
 have hfv : fitsV h ks.len = true ∧ allFits ks = true := by unfold treeFits at hf; simpa using hf
 have OKC := Lib.hid (call_ok hfv.1 hk)
 have hfa := Lib.hid hfv.2
 obtain rfl : kl = ks.len := ND0.out.tv.len
 have NDW := ND0
 have hkm : ks.len ≤ ks.nodes := len_nodes ks
 have IH := Lib.hid ih
 clear HC hfv ih
 have HV : Hid (valT h ks = seqF (areaT h ks) (insF ⟨16, 0, 0, 0, 0, []⟩)) := Lib.hid (by
  rw [valT_call ks hk]; unfold callF; rw [if_neg (by omega), if_neg (by omega), if_neg (by omega), if_pos hc]; rfl)
 have hx := fb_areaT h ks ps.length cs
 have HA := Lib.hid hA
 clear hk IH OKC hA
 go_enter Tryz.func36, Tryz.ntmps36
 go_wp2_with fail
 refine (class_any h _ W ND0.out.nd).mono ?_
 rintro e w1 ⟨rfl, q1⟩
 rw [hc]
 have f1 := Frm.kept (P := P3) (cl := cl) (c0 := 9) q1
 have b1 := q1.mono RN0.out.cx.hb
 have RN1 := Lib.hid (RN0.out.go (RN0.out.cx.ly.kept q1 9) f1 b1)
 have ND1 := Lib.hid (ND0.out.step b1)
 clear RN0 f1 b1 q1 ND0
 go_wp2_with fail
 refine (HA.out b Lx Bl Mx nb _ _ S ps cs _ ka _ kc (Lib.hid RN1.out.cx) ND1 hf ⟨by omega, by omega⟩).mono ?_
 rintro e w2 ⟨rfl, cl2, s2, f2, b2⟩
 have RN2 := Lib.hid (RN1.out.go s2 f2 b2)
 have ND2 := Lib.hid (ND1.out.step b2)
 clear RN1 s2 f2 b2 ND1
 go_wp2_with fail
 refine (put_any 16 0 0 0 0 w2 (Lib.hid RN2.out.cx.ly) RN2.out.cx.hb (by rw [List.length_append]; omega)).mono ?_
 rintro e w3 ⟨rfl, cl3, s3, f3, b3⟩
 have RN3 := Lib.hid (RN2.out.go s3 f3 b3)
 have ND3 := Lib.hid (ND2.out.step b3)
 clear RN2 s3 f3 b3 ND2
 go_wp2_with fail
 exact bodyPost_end (results_none rfl _ _ _) rfl ⟨rfl, by rw [HV.out]; have q := RN3.out.toLd; rw [List.append_assoc] at q; exact q⟩
end Go.Proofs.YtlmpiobdgkmmgaaGreatDoor
namespace Go.Proofs.YtlmpiobdgkmmgaaGreatDoor
open Go.RowKit
section
variable {b n0 j kb ko kl' kc' : Nat} {W : World} {ks k' r' : Trees} {h' : Hd} {ka' : Option Addr} {ps : List PI} {cs : List PV} {os : List Nat} {L : Int → List PI} {fin : Int → List PI × List PV}
def arB (h : Hd) : Bool := decide (h.kind = 5) || decide (h.kind = 6) || decide (clsOf h = 5)
theorem VkP.walkA (h : VkP walkF ks n0 j ps cs os L fin) (K : Kid b W ks j kb ko h' k' r' ka' kl' kc') (ha : arB h' = true) :
 VkP walkF ks n0 (j + 1) (ps ++ (areaT h' k' ps.length cs).1 ++ [⟨7, 0, j, 0, 0, []⟩]) (areaT h' k' ps.length cs).2 (os ++ [(ps ++ (areaT h' k' ps.length cs).1).length]) (fun E => L E ++ (areaT h' k' ps.length cs).1 ++ [⟨7, E, j, 0, 0, []⟩]) fin := by
 have hx := fb_areaT h' k' ps.length cs
 refine ⟨(h.pt.app _).opened ⟨7, 0, j, 0, 0, []⟩, fun E => ?_, ?_⟩
 ·have q := h.eq E
  have hw : walkF E (j : Int) (⟨h', valT h' k', areaT h' k'⟩ :: (kcs ks).drop (j + 1)) = seqF (seqF (areaT h' k') (insF ⟨7, E, j, 0, 0, []⟩)) (walkF E ((j : Int) + 1) ((kcs ks).drop (j + 1))) := by
   show seqF (if isAr ⟨h', valT h' k', areaT h' k'⟩ then seqF (areaT h' k') (insF ⟨7, E, j, 0, 0, []⟩) else valT h' k') _ = _
   rw [if_pos (show isAr ⟨h', valT h' k', areaT h' k'⟩ = true from ha)]
  rw [K.kcs, hw] at q
  have hl : (ps ++ (areaT h' k' ps.length cs).1 ++ [(⟨7, 0, j, 0, 0, []⟩ : PI)]).length = ps.length + ((areaT h' k' ps.length cs).1.length + 1) := by simp only [List.length_append, List.length_singleton, Nat.add_assoc]
  rw [hl, Int.natCast_add]
  simp only [seqF, insF, List.length_append, List.length_singleton] at q
  refine ⟨?_, q.2⟩
  rw [← q.1]
  simp only [List.append_assoc, Int.cast_ofNat_Int]
 ·have := h.room
  rw [K.nodes] at this
  unfold Room at this ⊢
  simp only [List.length_append, List.length_singleton]
  omega
theorem VkP.walkV (h : VkP walkF ks n0 j ps cs os L fin) (K : Kid b W ks j kb ko h' k' r' ka' kl' kc') (ha : arB h' = false) :
 VkP walkF ks n0 (j + 1) (ps ++ (valT h' k' ps.length cs).1) (valT h' k' ps.length cs).2 os (fun E => L E ++ (valT h' k' ps.length cs).1) fin := by
 have hx := fb_valT h' k' ps.length cs
 refine ⟨h.pt.app _, fun E => ?_, ?_⟩
 ·have q := h.eq E
  have hw : walkF E (j : Int) (⟨h', valT h' k', areaT h' k'⟩ :: (kcs ks).drop (j + 1)) = seqF (valT h' k') (walkF E ((j : Int) + 1) ((kcs ks).drop (j + 1))) := by
   show seqF (if isAr ⟨h', valT h' k', areaT h' k'⟩ then seqF (areaT h' k') (insF ⟨7, E, j, 0, 0, []⟩) else valT h' k') _ = _
   rw [if_neg (by rw [show isAr ⟨h', valT h' k', areaT h' k'⟩ = false from ha]; simp)]
  rw [K.kcs, hw] at q
  rw [List.length_append, Int.natCast_add]
  simp only [seqF] at q
  refine ⟨?_, q.2⟩
  rw [← q.1]
  simp only [List.append_assoc, Int.cast_ofNat_Int]
 ·have := h.room
  rw [K.nodes] at this
  unfold Room at this ⊢
  rw [List.length_append]
  omega
end
theorem call6_any {h : Hd} {ks : Trees} (ih : AllT VA ks) : CallP 6 h ks := by
 intro hk hc b Lx Bl Mx nb off cl S ps cs W ka kl kc HC ND0 hf hr
 have RN0 := Lib.hid (Rn.start HC.out)
 obtain ⟨hr1, hr2⟩ := hr
 have hfv : fitsV h ks.len = true ∧ allFits ks = true := by unfold treeFits at hf; simpa using hf
 have OKC := Lib.hid (call_ok hfv.1 hk)
 have hfa := Lib.hid hfv.2
 obtain rfl : kl = ks.len := ND0.out.tv.len
 have NDW := ND0
 have hkm : ks.len ≤ ks.nodes := len_nodes ks
 have IH := Lib.hid ih
 clear HC hfv hf ih
 have HV : Hid (valT h ks = endF (fun e => walkF e 0 (kcs ks)) ⟨20, h.fn, (ks.len : Nat), 0, 0, []⟩) := Lib.hid (by rw [valT_call ks hk]; unfold callF; rw [if_neg (by omega), if_neg (by omega), if_neg (by omega), if_neg (by omega), kcs_len])
 obtain ⟨i0, hi, hz0, hz1, hz2⟩ := info_parts infoFun
 have hbW := RN0.out.cx.hb
 have PT0 : Hid (VkP walkF ks 0 0 ps cs [] (fun _ => ps) (fun E => (ps ++ (walkF E 0 (kcs ks) ps.length cs).1, (walkF E 0 (kcs ks) ps.length cs).2))) := Lib.hid ⟨Pt.nil ps, fun E => ⟨rfl, rfl⟩, by rw [tdrop_nodes]; exact ⟨by omega, by omega⟩⟩
 clear hk
 go_enter Tryz.func36, Tryz.ntmps36
 go_wp2_with fail
 refine (class_any h _ W ND0.out.nd).mono ?_
 rintro e w1 ⟨rfl, q1⟩
 rw [hc]
 have f1 := Frm.kept (P := P3) (cl := cl) (c0 := 9) q1
 have b1 := q1.mono RN0.out.cx.hb
 have RN1 := Lib.hid (RN0.out.go (RN0.out.cx.ly.kept q1 9) f1 b1)
 have ND1 := Lib.hid (ND0.out.step b1)
 clear RN0 f1 b1 q1 ND0
 have c13 := ND1.out.nd.facts.c13
 go_wp2_with fail
 clear c13
 go_loopw [6, 124] (fun v iv wr => SclRel walkF b Lx Bl Mx cl W S ks 0 (fun E => (ps ++ (walkF E 0 (kcs ks) ps.length cs).1, (walkF E 0 (kcs ks) ps.length cs).2)) v iv wr) (fun _ iv _ => ks.len - (intOf iv).toNat)
 case atStart => exact ⟨0, _, [], [], ps, cs, fun _ => ps, rfl, Nat.zero_le _, Nat.le_refl _, Lib.hid (CoR.start RN1.out), PT0⟩
 case round =>
  obtain ⟨j, cl3, vs, os, psj, csj, L, rfl, hj, hol, C3, P3'⟩ := hrel
  have N3 := Lib.hid (NDW.out.step C3.out.rn.be)
  by_cases hlt : j < ks.len
  ·obtain ⟨kb, ko, h', k', r', ka', kl', kc', rfl, K⟩ := N3.out.kid j hlt
   have K3 := Lib.hid K
   have c13 := N3.out.nd.facts.c13
   have d0 := K.nd.nd.facts.c0
   have rm : Room psj csj (1 + k'.nodes) := by have := P3'.out.room; rw [K.nodes] at this; unfold Room at this ⊢; omega
   clear K N3
   by_cases a5 : h'.kind = 5
   ·have AB : Hid (arB h' = true) := Lib.hid (by unfold arB; simp [a5])
    rw [a5] at d0
    go_wp2_with fail
    refine ((K3.out.all IH.out).2 b Lx Bl Mx kb _ _ S psj csj wr ka' kl' kc' (Lib.hid C3.out.rn.cx) (Lib.hid K3.out.nd) (K3.out.fits hfa.out) rm).mono ?_
    rintro e w4 ⟨rfl, cl4, s4, f4, b4⟩
    have C4 := Lib.hid (C3.out.go s4 f4 b4)
    have P4 := Lib.hid (P3'.out.walkA K3.out AB.out)
    have rm4 := P4.out.room.1
    rw [List.length_append, List.length_singleton] at rm4
    have RM4 := Lib.hid rm4
    clear s4 f4 b4 C3 rm rm4 P3'
    go_wp2_with fail
    refine (open_any 7 0 j 0 0 w4 (Lib.hid C4.out.rn.cx.ly) C4.out.rn.cx.hb (by have := RM4.out; omega)).mono ?_
    rintro e w2 ⟨Bl2, Ba2, cl2, rfl, s2, f2, b2, o2⟩
    have C2 := Lib.hid (C4.out.go s2 f2 b2)
    have OC := Lib.hid o2
    have hvl := C2.out.len
    have hzw := C2.out.rn.be.size
    clear s2 f2 b2 o2 C4
    simp only [cloV]
    go_wp2_with (at_builtin; refine wpList_append_lies _ rfl _ _ 113 rfl W.heap.size 1 i0 _ 1 8 Tryz.underlying113 hi hz0 hz1 hz2 rfl (by decide) u6 vs.length vs rfl (World.ownsRow.alloc C2.out.row.own _) ⟨w2.heap.size, 0, none⟩ 1 1 [cloV Bl2 Ba2] rfl rfl (World.news_of_block (heap_alloc_new w2 _)) (by simp [Value.oneCell', cloV]) (by decide) (by unfold maxLen; omega) (by omega) (by simp; omega) _ rfl ?_)
    intro g cap w6 hown hgrow hat _
    have C6 := Lib.hid (C2.out.push OC.out hbW hown hgrow (hat.imp_right fun q => by rw [q]; simp))
    clear hown hgrow hat C2 OC hvl hzw
    go_wp2_with fail
    exact ⟨⟨j + 1, _, _, _, _, _, _, by go_num, by omega, by simp; omega, C6, P4⟩, by simp [intOf]; omega⟩
   by_cases a6 : h'.kind = 6
   ·have AB : Hid (arB h' = true) := Lib.hid (by unfold arB; simp [a6])
    rw [a6] at d0
    clear a5
    go_wp2_with fail
    refine ((K3.out.all IH.out).2 b Lx Bl Mx kb _ _ S psj csj wr ka' kl' kc' (Lib.hid C3.out.rn.cx) (Lib.hid K3.out.nd) (K3.out.fits hfa.out) rm).mono ?_
    rintro e w4 ⟨rfl, cl4, s4, f4, b4⟩
    have C4 := Lib.hid (C3.out.go s4 f4 b4)
    have P4 := Lib.hid (P3'.out.walkA K3.out AB.out)
    have rm4 := P4.out.room.1
    rw [List.length_append, List.length_singleton] at rm4
    have RM4 := Lib.hid rm4
    clear s4 f4 b4 C3 rm rm4 P3'
    go_wp2_with fail
    refine (open_any 7 0 j 0 0 w4 (Lib.hid C4.out.rn.cx.ly) C4.out.rn.cx.hb (by have := RM4.out; omega)).mono ?_
    rintro e w2 ⟨Bl2, Ba2, cl2, rfl, s2, f2, b2, o2⟩
    have C2 := Lib.hid (C4.out.go s2 f2 b2)
    have OC := Lib.hid o2
    have hvl := C2.out.len
    have hzw := C2.out.rn.be.size
    clear s2 f2 b2 o2 C4
    simp only [cloV]
    go_wp2_with (at_builtin; refine wpList_append_lies _ rfl _ _ 113 rfl W.heap.size 1 i0 _ 1 8 Tryz.underlying113 hi hz0 hz1 hz2 rfl (by decide) u6 vs.length vs rfl (World.ownsRow.alloc C2.out.row.own _) ⟨w2.heap.size, 0, none⟩ 1 1 [cloV Bl2 Ba2] rfl rfl (World.news_of_block (heap_alloc_new w2 _)) (by simp [Value.oneCell', cloV]) (by decide) (by unfold maxLen; omega) (by omega) (by simp; omega) _ rfl ?_)
    intro g cap w6 hown hgrow hat _
    have C6 := Lib.hid (C2.out.push OC.out hbW hown hgrow (hat.imp_right fun q => by rw [q]; simp))
    clear hown hgrow hat C2 OC hvl hzw
    go_wp2_with fail
    exact ⟨⟨j + 1, _, _, _, _, _, _, by go_num, by omega, by simp; omega, C6, P4⟩, by simp [intOf]; omega⟩
   by_cases a7 : clsOf h' = 5
   ·have AB : Hid (arB h' = true) := Lib.hid (by unfold arB; simp [a7])
    go_wp2_with fail
    refine (class_any h' _ wr K3.out.nd.nd).mono ?_
    rintro e w3 ⟨rfl, q3⟩
    have KN := Lib.hid (K3.out.nd.step (q3.mono C3.out.rn.cx.hb))
    have C3 := Lib.hid (C3.out.go (C3.out.rn.cx.ly.kept q3 9) (Frm.kept (P := P3) q3) (q3.mono C3.out.rn.cx.hb))
    clear q3
    have d0 := KN.out.nd.facts.c0
    rw [a7]
    go_wp2_with fail
    refine ((K3.out.all IH.out).2 b Lx Bl Mx kb _ _ S psj csj w3 ka' kl' kc' (Lib.hid C3.out.rn.cx) (Lib.hid KN.out) (K3.out.fits hfa.out) rm).mono ?_
    rintro e w4 ⟨rfl, cl4, s4, f4, b4⟩
    have C4 := Lib.hid (C3.out.go s4 f4 b4)
    have P4 := Lib.hid (P3'.out.walkA K3.out AB.out)
    have rm4 := P4.out.room.1
    rw [List.length_append, List.length_singleton] at rm4
    have RM4 := Lib.hid rm4
    clear s4 f4 b4 C3 rm rm4 P3'
    go_wp2_with fail
    refine (open_any 7 0 j 0 0 w4 (Lib.hid C4.out.rn.cx.ly) C4.out.rn.cx.hb (by have := RM4.out; omega)).mono ?_
    rintro e w2 ⟨Bl2, Ba2, cl2, rfl, s2, f2, b2, o2⟩
    have C2 := Lib.hid (C4.out.go s2 f2 b2)
    have OC := Lib.hid o2
    have hvl := C2.out.len
    have hzw := C2.out.rn.be.size
    clear s2 f2 b2 o2 C4
    simp only [cloV]
    go_wp2_with (at_builtin; refine wpList_append_lies _ rfl _ _ 113 rfl W.heap.size 1 i0 _ 1 8 Tryz.underlying113 hi hz0 hz1 hz2 rfl (by decide) u6 vs.length vs rfl (World.ownsRow.alloc C2.out.row.own _) ⟨w2.heap.size, 0, none⟩ 1 1 [cloV Bl2 Ba2] rfl rfl (World.news_of_block (heap_alloc_new w2 _)) (by simp [Value.oneCell', cloV]) (by decide) (by unfold maxLen; omega) (by omega) (by simp; omega) _ rfl ?_)
    intro g cap w6 hown hgrow hat _
    have C6 := Lib.hid (C2.out.push OC.out hbW hown hgrow (hat.imp_right fun q => by rw [q]; simp))
    clear hown hgrow hat C2 OC hvl hzw
    go_wp2_with fail
    exact ⟨⟨j + 1, _, _, _, _, _, _, by go_num, by omega, by simp; omega, C6, P4⟩, by simp [intOf]; omega⟩
   ·have AB : Hid (arB h' = false) := Lib.hid (by unfold arB; simp [a5, a6, a7])
    go_wp2_with fail
    refine (class_any h' _ wr K3.out.nd.nd).mono ?_
    rintro e w3 ⟨rfl, q3⟩
    have KN := Lib.hid (K3.out.nd.step (q3.mono C3.out.rn.cx.hb))
    have C3 := Lib.hid (C3.out.go (C3.out.rn.cx.ly.kept q3 9) (Frm.kept (P := P3) q3) (q3.mono C3.out.rn.cx.hb))
    clear q3
    have d0 := KN.out.nd.facts.c0
    clear AB
    have AB : Hid (arB h' = false) := Lib.hid (by unfold arB; simp [a5, a6, a7])
    generalize clsOf h' = c7 at a7 ⊢
    have a8 : (c7 == 5) = false := by simpa using a7
    have b5 : (h'.kind == 5) = false := by simpa using a5
    have b6 : (h'.kind == 6) = false := by simpa using a6
    go_wp2_with fail
    refine ((K3.out.all IH.out).1 b Lx Bl Mx kb _ _ S psj csj w3 ka' kl' kc' (Lib.hid C3.out.rn.cx) (Lib.hid KN.out) (K3.out.fits hfa.out) rm).mono ?_
    rintro e w4 ⟨rfl, cl4, s4, f4, b4⟩
    have C4 := Lib.hid (C3.out.go s4 f4 b4)
    have P4 := Lib.hid (P3'.out.walkV K3.out AB.out)
    clear s4 f4 b4 C3 P3'
    go_wp2_with fail
    exact ⟨⟨j + 1, _, _, _, _, _, _, by go_num, by omega, by omega, C4, P4⟩, by simp [intOf]; omega⟩
  ·obtain rfl : j = ks.len := by omega
   have c12 := N3.out.nd.facts.c12
   have c13 := N3.out.nd.facts.c13
   obtain ⟨hD1, hD2⟩ := endF_done (F := fun e => walkF e 0 (kcs ks)) (x := ⟨20, h.fn, (ks.len : Nat), 0, 0, []⟩) P3'.out.pt (P3'.out.done fun _ _ => rfl)
   have HD1 := Lib.hid hD1; have HD2 := Lib.hid hD2
   have hln : psj.length ≤ 900000 := by have := P3'.out.room.1; omega
   have HLT := Lib.hid P3'.out.pt.lt
   clear hD1 hD2 P3' N3
   go_upto_region 36 with (fail)
   go_still_tail 11, (by kernel_rfl)
   change wpList _ _ _ _ _ wr.drew
   go_wp2_with fail
   have C4 := Lib.hid C3.out.drew
   clear C3
   refine (put_any 20 h.fn ks.len 0 0 wr.drew (Lib.hid C4.out.rn.cx.ly) C4.out.rn.cx.hb (by omega)).mono ?_
   rintro e w4 ⟨rfl, cl4, s4, f4, b4⟩
   have C5 := Lib.hid (C4.out.go s4 f4 b4)
   clear s4 f4 b4 C4 c12 c13
   obtain ⟨aS, kS, rfl, hS⟩ := C5.out.slice
   have HS := Lib.hid hS
   clear hS
   go_wp2_with fail
   refine (cpAll_any os w4 (Lib.hid C5.out.rn.cx.ly) C5.out.rn.cx.hb (by rw [List.length_append, List.length_singleton]; omega) (by omega) HS.out (fun i hi => by have := HLT.out i hi; rw [List.length_append]; omega)).mono ?_
   rintro e w5 ⟨rfl, cl5, s5, f5, b5⟩
   rw [HD1.out] at s5
   have L5 := Lib.hid (C5.out.rn.go s5 f5 b5).toLd
   clear s5 f5 b5 C5
   rw [HD2.out] at L5
   go_wp2_with fail
   exact bodyPost_end (results_none rfl _ _ _) rfl ⟨rfl, by rw [HV.out]; exact L5.out⟩
end Go.Proofs.YtlmpiobdgkmmgaaGreatDoor
