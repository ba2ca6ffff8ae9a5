/- Code: May. -/
import Derived.Test.YtlmpiobdgkmmgaaGreatDoorKdI
import Derived.Test.YtlmpiobdgkmmgaaGreatDoorKdD
import Derived.Deep.Cut
import Derived.Deep.MidRow
set_option maxRecDepth 1000000
set_option maxHeartbeats 16000000
namespace Go.Proofs.YtlmpiobdgkmmgaaGreatDoor
open Go.RowKit Go.Lib
structure CodeA (W : World) (b : Nat) (vI vC : Value) (ps : List PI) (cs : List PV) : Prop where
 iI : ∃ a cap, vI = .slice a ps.length cap ∧ (0 < ps.length → ∃ g off, a = some ⟨g, off, none⟩ ∧ ∀ (i : Nat) (p : PI), ps[i]? = some p → ∃ tv, InP W b g (off + i * 6) p tv)
 cC : CoL W b vC cs
 wf : ∀ p ∈ ps, (Lit.int .i64 p.op).wf = true
 nI : ps.length ≤ 1000000000
 nC : cs.length ≤ 1000000000
 long : longS ps ≤ 1000000000000000
theorem infoValC : (Tryz.prog.info? 54).map (·.size) = some 3 := by kernel_rfl
theorem load_con {ops : Array Oper} {rest : List Oper} {o : Oper} {a : Act} {Q : Exit → Act → World → Prop} {w : World} {x : Operand} {g off : Nat} {k n : Int} {t : ByteArray} (c0 : w.cell? ⟨g, off, none⟩ = some (.int .i64 k)) (c1 : w.cell? ⟨g, off + 1, none⟩ = some (.int .i64 n)) (c2 : w.cell? ⟨g, off + 2, none⟩ = some (.string t))
 (hg : o.guard = none) (ho : o.op = .load 54 x) (hx : a.eval x = .pointer (some ⟨g, off, none⟩)) (hK : wpList Tryz.prog ops Q rest (a.put o.dst (.agg #[.int .i64 k, .int .i64 n, .string t])) w) : wpList Tryz.prog ops Q (o :: rest) a w :=
 wpList_load_mid hg _ x ho g off hx [.int .i64 k, .int .i64 n, .string t] _ (fun j v hj => by
  match j, hj with
  | 0, hj => simp at hj; subst hj; exact c0
  | 1, hj => simp at hj; subst hj; exact c1
  | 2, hj => simp at hj; subst hj; exact c2
  | j + 3, hj => simp at hj) Tryz.underlying54 rfl infoValC hK
theorem infoState : (Tryz.prog.info? 90).map (fun i => (i.zero, i.size, i.bytes)) = some (some (.slice none 0 0), 1, 24) := by kernel_rfl
theorem infoBool : (Tryz.prog.info? 4).map (fun i => (i.zero, i.size, i.bytes)) = some (some (.bool false), 1, 1) := by kernel_rfl
theorem exl_form {Q : Nat → Prop} {W : World} {v : Value} {l : Exits} (h : ExL Q W v l) : ∃ a n k, v = .slice a n k := by
 obtain ⟨a, c, e, -⟩ := h
 exact ⟨_, _, _, e⟩
theorem infoExitC : (Tryz.prog.info? 92).map (·.size) = some 2 := by kernel_rfl
theorem load_exit {ops : Array Oper} {rest : List Oper} {o : Oper} {a : Act} {Q : Exit → Act → World → Prop} {w : World} {x : Operand} {g off : Nat} {k : Int} {v : Value} (c0 : w.cell? ⟨g, off, none⟩ = some (.int .i64 k)) (c1 : w.cell? ⟨g, off + 1, none⟩ = some v)
 (hg : o.guard = none) (ho : o.op = .load 92 x) (hx : a.eval x = .pointer (some ⟨g, off, none⟩)) (hK : wpList Tryz.prog ops Q rest (a.put o.dst (.agg #[.int .i64 k, v])) w) : wpList Tryz.prog ops Q (o :: rest) a w :=
 wpList_load_mid hg _ x ho g off hx [.int .i64 k, v] _ (fun j u hj => by
  match j, hj with
  | 0, hj => simp at hj; subst hj; exact c0
  | 1, hj => simp at hj; subst hj; exact c1
  | j + 2, hj => simp at hj) Tryz.underlying92 rfl infoExitC hK
theorem field3C (nm : ByteArray) (uu : Int) (gf sf : Nat) (gc sc : Array Value) (W : World) : (Instr.field 88 (.agg #[.string nm, .int .i64 uu, .func (.func gf) #[] gc, .func (.func sf) #[] sc]) 3).run Tryz.prog W = .ok (.func (.func sf) #[] sc) W := by kernel_rfl
theorem longS_step {ps : List PI} {j : Nat} {p : PI} (h : ps[j]? = some p) : longS (ps.take (j + 1)) = longS (ps.take j) + p.t.length := by
 unfold longS
 rw [List.take_add_one, h]
 simp
theorem longS_le (ps : List PI) (j : Nat) : longS (ps.take j) ≤ longS ps := by
 have : longS ps = longS (ps.take j) + longS (ps.drop j) := by
  unfold longS
  rw [← List.sum_append, ← List.map_append, List.take_append_drop]
 omega
theorem longS_mem {ps : List PI} {p : PI} (h : p ∈ ps) : p.t.length ≤ longS ps := by
 obtain ⟨i, hi, rfl⟩ := List.getElem_of_mem h
 have h1 := longS_step (List.getElem?_eq_getElem hi)
 have h2 := longS_le ps (i + 1)
 omega
theorem codeMay_any {b : Nat} {vI vC : Value} {ps : List PI} {cs : List PV} (W : World) (h : CodeA W b vI vC ps cs) (hb : b ≤ W.heap.size) :
 Calls Tryz.prog 19 #[.agg #[vI, vC]] W fun e w' => e = .returned (.int .i64 (mayC ps cs)) ∧ Below W.heap.size W w' := by
 obtain ⟨ia, ik, rfl, rI⟩ := id h.iI
 obtain ⟨ca, ck, rfl, rC⟩ := id h.cC
 have hLg := h.long
 have hN := h.nI; have hNC := h.nC
 have HH := Lib.hid h
 have HRI := Lib.hid rI; have HRC := Lib.hid rC
 have HMAY : ∀ r : Int, mayC ps cs = r → Hid (mayC ps cs = r) := fun r h => Lib.hid h
 obtain ⟨ni, hni⟩ : ∃ ni, ps.length = ni := ⟨_, rfl⟩
 obtain ⟨nc, hnc⟩ : ∃ nc, cs.length = nc := ⟨_, rfl⟩
 rw [hni] at hN HRI ⊢
 rw [hnc] at hNC HRC ⊢
 have HNI := Lib.hid hni; have HNC := Lib.hid hnc
 have hW : (W.alloc (.cells #[.slice ia ni ik, .slice ca nc ck] 27)).heap.size = W.heap.size + 1 := by simp
 have k0 : ∀ g, g < b → (W.alloc (.cells #[.slice ia ni ik, .slice ca nc ck] 27)).heap[g]? = W.heap[g]? := fun g hg => Below.heap_alloc _ _ _ (by omega)
 have CB0 : Hid ((W.alloc (.cells #[.slice ia ni ik, .slice ca nc ck] 27)).cell? ⟨W.heap.size, 0, none⟩ = some (.slice ia ni ik)) := Lib.hid (by rw [World.cell?_alloc_at _ _ _ _ rfl]; rfl)
 have CB1 : Hid ((W.alloc (.cells #[.slice ia ni ik, .slice ca nc ck] 27)).cell? ⟨W.heap.size, 1, none⟩ = some (.slice ca nc ck)) := Lib.hid (by rw [World.cell?_alloc_at _ _ _ _ rfl]; rfl)
 have BW0 := Lib.hid (ext_alloc (Below.refl W.heap.size W) (.cells #[.slice ia ni ik, .slice ca nc ck] 27))
 have HK0 : Hid (∀ w', Below (W.heap.size + 1) (W.alloc (.cells #[.slice ia ni ik, .slice ca nc ck] 27)) w' → ∀ g, g < b → w'.heap[g]? = W.heap[g]?) := Lib.hid fun w' bw g hg => (bw.block g (by omega)).trans (k0 g hg)
 have HCC : Hid (∀ w', Below (W.heap.size + 1) (W.alloc (.cells #[.slice ia ni ik, .slice ca nc ck] 27)) w' → CoL w' b (.slice ca nc ck) cs) := Lib.hid fun w' bw => by have := HH.out.cC.kept (W' := w') (fun g hg => (bw.block g (by omega)).trans (k0 g hg)); rwa [HNC.out] at this
 have HW0 : Hid (W.heap.size < (W.alloc (.cells #[.slice ia ni ik, .slice ca nc ck] 27)).heap.size) := Lib.hid (by omega)
 have HLG := Lib.hid hLg
 clear h rI rC hni hnc k0 hLg
 go_enter Tryz.func19, Tryz.ntmps19
 go_upto_region 2 with (fail)
 generalize W.alloc (.cells #[.slice ia ni ik, .slice ca nc ck] 27) = w0 at CB0 CB1 BW0 HK0 HCC HW0 hW ⊢
 have HWW := Lib.hid hW
 clear hW
 have cb0 := CB0.out
 have hzb := HW0.out
 go_wp2_with fail
 go_loopw [22, 3] (fun iv lv wr => w0 = wr ∧ ∃ j : Nat, iv = .int .i64 (j : Int) ∧ j ≤ ni ∧ lv = .int .i64 (longS (ps.take j) : Int)) (fun iv _ _ => ni - (intOf iv).toNat)
 case atStart => exact ⟨rfl, 0, rfl, Nat.zero_le _, rfl⟩
 case round =>
  obtain ⟨rfl, j, rfl, hj, rfl⟩ := hrel
  by_cases hjl : j < ni
  ·obtain ⟨p, hp⟩ : ∃ p, ps[j]? = some p := ⟨_, List.getElem?_eq_getElem (by have := HNI.out; omega)⟩
   obtain ⟨G, off, rfl, ri⟩ := HRI.out (by omega)
   obtain ⟨tv, ip⟩ := ri j p hp
   have ip2 := ip.kept (HK0.out _ (Below.refl _ _))
   obtain ⟨ta, tk, rfl, -⟩ := id ip2.t
   have c5 := ip2.c5
   have hst : longS (ps.take (j + 1)) = longS (ps.take j) + p.t.length := longS_step hp
   have hle : longS (ps.take (j + 1)) ≤ 1000000000000000 := Nat.le_trans (longS_le ps (j + 1)) HLG.out
   obtain ⟨L, hL⟩ : ∃ L, longS (ps.take j) = L := ⟨_, rfl⟩
   obtain ⟨nt, hnt⟩ : ∃ nt, p.t.length = nt := ⟨_, rfl⟩
   rw [hnt] at hst c5
   rw [hst, hL] at hle
   rw [hL] at hst ⊢
   have HST := Lib.hid hst
   have hG : G < w0.heap.size := by have := ip.lt; have := HWW.out; omega
   clear hst hp ri ip ip2 hL hnt
   go_wp2
   exact ⟨⟨trivial, j + 1, by go_num, by omega, by rw [HST.out]; push_cast; rfl⟩, by simp [intOf]; omega⟩
  ·have hjn : j = ni := by omega
   have hLL : longS (ps.take j) = longS ps := by rw [hjn, ← HNI.out, List.take_length]
   obtain ⟨L, hL⟩ : ∃ L, longS ps = L := ⟨_, rfl⟩
   rw [hLL, hL]
   have HL := Lib.hid hL
   have hL9 := HLG.out
   rw [hL] at hL9
   rw [hjn]
   clear hLL hL hj hjl hjn
   by_cases z1 : ni = 0
   ·have HR := HMAY 2 (mayC_long (.inl (by rw [HNI.out]; exact z1)))
    subst z1
    clear HMAY
    go_wp2
    go_ret
    exact ⟨by rw [HR.out]; rfl, BW0.out⟩
   have z1b : ((ni : Int) == 0) = false := by simpa using z1
   have z1d : decide ((ni : Int) = 0) = false := decide_eq_false (by omega)
   by_cases z2 : 8192 < ni
   ·have HR := HMAY 2 (mayC_long (.inr (.inl (by rw [HNI.out]; exact z2))))
    clear HMAY
    go_wp2
    go_ret
    exact ⟨by rw [HR.out]; rfl, BW0.out⟩
   have z2d : decide ((8192 : Int) < (ni : Int)) = false := decide_eq_false (by omega)
   by_cases z3 : 1024 < nc
   ·have HR := HMAY 2 (mayC_long (.inr (.inr (.inl (by rw [HNC.out]; exact z3)))))
    have cb1 := CB1.out
    clear HMAY
    go_wp2
    go_ret
    exact ⟨by rw [HR.out]; rfl, BW0.out⟩
   have z3d : decide ((1024 : Int) < (nc : Int)) = false := decide_eq_false (by omega)
   by_cases z4 : 8192 < L
   ·have HR := HMAY 2 (mayC_long (.inr (.inr (.inr (by rw [HL.out]; exact z4)))))
    have cb1 := CB1.out
    clear HMAY
    go_wp2
    go_ret
    exact ⟨by rw [HR.out]; rfl, BW0.out⟩
   have z4d : decide ((8192 : Int) < (L : Int)) = false := decide_eq_false (by omega)
   have HNL : Hid (¬ LongC ps cs) := Lib.hid (by
    unfold LongC
    rw [HNI.out, HNC.out, HL.out]
    omega)
   have cb1 := CB1.out
   have hni : 1 ≤ ni ∧ ni ≤ 8192 := by omega
   have hnc : nc ≤ 1024 := by omega
   have HLL : Hid (L ≤ 8192) := Lib.hid (by omega)
   go_upto_region 9 with (fail)
   clear z1 z1b z1d z2 z2d z3 z3d z4 z4d hN hNC hL9
   go_wp2_with fail
   go_loopw [58] (fun iv wr => ∃ j : Nat, iv = .int .i64 (j : Int) ∧ j ≤ nc ∧ Hid (∀ (i : Nat) (c : PV), i < j → cs[i]? = some c → okV c = true ∧ c.kind ≠ 0) ∧ Hid (Below (W.heap.size + 1) w0 wr)) (fun iv _ => nc - (intOf iv).toNat)
   case atStart => exact ⟨0, rfl, Nat.zero_le _, Lib.hid (fun i c h => absurd h (Nat.not_lt_zero _)), Lib.hid (Below.refl _ _)⟩
   case round =>
    obtain ⟨j, rfl, hj, HC, HB⟩ := hrel
    by_cases hjl : j < nc
    ·obtain ⟨⟨ck9, cn9, ct9⟩, hc⟩ : ∃ c, cs[j]? = some c := ⟨_, List.getElem?_eq_getElem (by have := HNC.out; omega)⟩
     obtain ⟨G, off, rfl, hG, rc⟩ := HRC.out (by omega)
     obtain ⟨c0, c1, c2⟩ := rc j _ hc
     have kG := HK0.out wr HB.out G hG
     have c0 := (World.cell?_of_block (a := ⟨G, off + j * 3, none⟩) kG).trans c0
     have c1 := (World.cell?_of_block (a := ⟨G, off + j * 3 + 1, none⟩) kG).trans c1
     have c2 := (World.cell?_of_block (a := ⟨G, off + j * 3 + 2, none⟩) kG).trans c2
     simp only at c0 c1 c2
     have HCC := Lib.hid hc
     have hz2 : W.heap.size + 1 ≤ wr.heap.size := by have := HB.out.size; have := HWW.out; omega
     have hzW := hz2
     clear rc kG hc cb0 cb1
     go_wp2_with (refine load_con c0 c1 c2 rfl rfl rfl ?_)
     refine (valMay_any ck9 cn9 ct9 _).mono ?_
     rintro e w1 ⟨rfl, b1⟩
     obtain ⟨zb, cbx⟩ := kept_block b1
     have k1 := cbx 0
     simp only [List.getElem?_toArray, List.getElem?_cons_zero] at k1
     have HB2 := Lib.hid ((HB.out.alloc hz2 (.cells #[.int .i64 ck9, .int .i64 cn9, .string ⟨ct9.toArray⟩] 54)).trans (b1.mono (by simp; omega)))
     clear b1 cbx c0 c1 c2
     cases hq : okV ⟨ck9, cn9, ct9⟩
     ·have HR := HMAY 23 (mayC_con HNL.out HCC.out (.inl hq))
      clear HMAY hq HC
      go_wp2
      go_ret
      exact ⟨by rw [HR.out]; rfl, BW0.out.trans (HB2.out.mono (Nat.le_succ _))⟩
     ·by_cases k0 : ck9 = 0
      ·have HR := HMAY 23 (mayC_con HNL.out HCC.out (.inr k0))
       subst k0
       clear HMAY hq HC
       go_wp2
       go_ret
       exact ⟨by rw [HR.out]; rfl, BW0.out.trans (HB2.out.mono (Nat.le_succ _))⟩
      ·have k0b : (ck9 == 0) = false := by simpa using k0
       have k0d : decide (ck9 = 0) = false := decide_eq_false k0
       have HC2 : Hid (∀ (i : Nat) (c : PV), i < j + 1 → cs[i]? = some c → okV c = true ∧ c.kind ≠ 0) := Lib.hid fun i c hi hc => by
        rcases Nat.lt_or_ge i j with q | q
        ·exact HC.out i c q hc
        ·obtain rfl : i = j := by omega
         have := HCC.out
         rw [hc] at this
         cases this
         exact ⟨hq, k0⟩
       clear hq HC HCC
       go_wp2
       exact ⟨⟨j + 1, by go_num, by omega, HC2, HB2⟩, by simp [intOf]; omega⟩
    ·have HCO : Hid (ConOk cs) := Lib.hid fun i c hc => HC.out i c (by have := (List.getElem?_eq_some_iff.1 hc).1; have := HNC.out; omega) hc
     have hjn : j = nc := by omega
     rw [hjn]
     have cb0 := (HB.out.cell (p := ⟨W.heap.size, 0, none⟩) (Nat.lt_succ_self _)).trans CB0.out
     have cb1 := (HB.out.cell (p := ⟨W.heap.size, 1, none⟩) (Nat.lt_succ_self _)).trans CB1.out
     have hzb : W.heap.size < wr.heap.size := Nat.lt_of_lt_of_le HW0.out HB.out.size
     clear HC hjl hj hjn
     go_wp2_with fail
     refine (rows_any9 (bc := b) (cs := cs) (.slice ca nc ck) wr (by rw [← HNC.out]; exact HH.out.cC.kept (HK0.out wr HB.out))).mono ?_
     rintro e w2 ⟨Mx, Bc, T, rfl, hr, b2⟩
     have HRW := Lib.hid hr
     have HB2 := Lib.hid (HB.out.trans (b2.mono (by have := HB.out.size; have := HWW.out; omega)))
     have HZR := Lib.hid b2.size
     have cb0 := (b2.cell (p := ⟨W.heap.size, 0, none⟩) hzb).trans cb0
     have cb1 := (b2.cell (p := ⟨W.heap.size, 1, none⟩) hzb).trans cb1
     have hzb : W.heap.size < w2.heap.size := Nat.lt_of_lt_of_le hzb b2.size
     clear hr b2
     clear cb0
     have cb0 := (HB2.out.cell (p := ⟨W.heap.size, 0, none⟩) (Nat.lt_succ_self _)).trans CB0.out
     have hzr : W.heap.size + 1 ≤ w2.heap.size := hzb
     clear HB cb1
     go_wp2_with fail
     go_loopw [80] (fun iv wr => ∃ j : Nat, iv = .int .i64 (j : Int) ∧ j ≤ ni ∧ Hid (∀ (i : Nat) (p : PI), i < j → ps[i]? = some p → formedI cs p i ni = true) ∧ Hid (Below w2.heap.size w2 wr)) (fun iv _ => ni - (intOf iv).toNat)
     case atStart => exact ⟨0, rfl, Nat.zero_le _, Lib.hid (fun i c h => absurd h (Nat.not_lt_zero _)), Lib.hid (Below.refl _ _)⟩
     case round =>
      obtain ⟨j, rfl, hj, HF, HB⟩ := hrel
      have HBB := Lib.hid (HB2.out.trans (HB.out.mono hzr))
      have cb0 := (HBB.out.cell (p := ⟨W.heap.size, 0, none⟩) (Nat.lt_succ_self _)).trans CB0.out
      have hzb : W.heap.size < wr.heap.size := Nat.lt_of_lt_of_le hzr HB.out.size
      by_cases hjl : j < ni
      ·obtain ⟨p, hp⟩ : ∃ p, ps[j]? = some p := ⟨_, List.getElem?_eq_getElem (by have := HNI.out; omega)⟩
       obtain ⟨G, off, rfl, ri⟩ := HRI.out (by omega)
       obtain ⟨tv, ip⟩ := ri j p hp
       have ip2 := Lib.hid (ip.kept (HK0.out _ HBB.out))
       have hpm := List.mem_of_getElem? hp
       have hwf := HH.out.wf p hpm
       have htl : p.t.length ≤ 10000 := by have := longS_mem hpm; have := HL.out; have := HLL.out; omega
       have hr : RowsA (fun _ => True) wr Mx Bc T (.slice ca nc ck) := HRW.out.kept (fun _ _ _ => trivial) (fun g _ hg => HB.out.block g hg) HB.out.size
       have HC := Lib.hid (formed_any (n := (j : Int)) (e := (ni : Int)) wr hr ip2.out (Nat.le_trans hb (Nat.le_of_lt hzb)) (HCC.out _ HBB.out) (by rw [HNC.out]; omega) htl hwf)
       have HP := Lib.hid hp
       clear ri ip hp hpm hwf htl hr
       go_wp2_with fail
       refine HC.out.mono ?_
       rintro e w3 ⟨rfl, b3⟩
       have HB3 := Lib.hid (HB.out.trans (b3.mono HB.out.size))
       have HBB3 := Lib.hid (HBB.out.trans (b3.mono (Nat.le_trans hzr HB.out.size)))
       clear HC b3 HBB HB cb0
       cases hq : formedI cs p (j : Int) (ni : Int)
       ·have HR := HMAY 23 (mayC_form HNL.out HCO.out HP.out (by rw [HNI.out]; exact hq))
        clear HMAY hq HF
        go_wp2
        go_ret
        exact ⟨by rw [HR.out]; rfl, BW0.out.trans (HBB3.out.mono (Nat.le_succ _))⟩
       ·have HF2 : Hid (∀ (i : Nat) (p : PI), i < j + 1 → ps[i]? = some p → formedI cs p i ni = true) := Lib.hid fun i c hi hc => by
         rcases Nat.lt_or_ge i j with q | q
         ·exact HF.out i c q hc
         ·obtain rfl : i = j := by omega
          have := HP.out
          rw [hc] at this
          cases this
          exact hq
        clear hq HF HP ip2
        go_wp2
        exact ⟨⟨j + 1, by go_num, by omega, HF2, HB3⟩, by simp [intOf]; omega⟩
      ·have HFO : Hid (FormOk ps cs) := Lib.hid fun i c hc => by
        have := HF.out i c (by have := (List.getElem?_eq_some_iff.1 hc).1; have := HNI.out; omega) hc
        rw [HNI.out]
        exact this
       have hjn : j = ni := by omega
       rw [hjn]
       have HGO := HMAY _ (mayC_go HNL.out HCO.out HFO.out)
       clear HF hjl hj hjn HMAY
       obtain ⟨i1, hi1, hz10, hz11, hz12⟩ := infoParts9 infoState
       obtain ⟨i2, hi2, hz20, hz21, hz22⟩ := infoParts9 infoBool
       go_upto_region 23 with (fail)
       go_wp2_with (at_make; refine wpList_make_full wr rfl _ _ 81 rfl wr.heap.size 90 i1 _ 1 Tryz.underlying81 hi1 hz10 hz11 .i64 .i64 _ _ (ni + 1) rfl rfl (by push_cast; rfl) (by push_cast; rfl) (by rw [hz12]; omega) (by unfold maxLen; omega) (Nat.le_refl _) ?_)
       rintro w5 o5 g5
       have B5 : Below wr.heap.size wr w5 := (Below.refl _ _).grown g5 (Nat.le_refl _) (fun k hk => by cases hk)
       have O5 : Hid (w5.ownsRow wr.heap.size 90 1 (.slice (some ⟨wr.heap.size, 0, none⟩) (ni + 1) (ni + 1)) (ni + 1) (List.replicate (ni + 1) (.slice none 0 0))) := Lib.hid (by have := o5; rwa [toList_madeCells_one] at this)
       have BB5 := Lib.hid B5
       have hz5 := B5.size
       have hlt5 := (row_lt O5.out).2
       clear o5 g5 B5
       go_wp2_with (at_make; refine wpList_make_full w5 rfl _ _ 82 rfl wr.heap.size 4 i2 _ 1 Tryz.underlying82 hi2 hz20 hz21 .i64 .i64 _ _ (ni + 1) rfl rfl (by push_cast; rfl) (by push_cast; rfl) (by rw [hz22]; omega) (by unfold maxLen; omega) hz5 ?_)
       rintro w6 o6 g6
       have B6 : Below w5.heap.size w5 w6 := (Below.refl _ _).grown g6 (Nat.le_refl _) (fun k hk => by cases hk)
       have O6 : Hid (w6.ownsRow wr.heap.size 4 1 (.slice (some ⟨w5.heap.size, 0, none⟩) (ni + 1) (ni + 1)) (ni + 1) (List.replicate (ni + 1) (.bool false))) := Lib.hid (by have := o6; rwa [toList_madeCells_one] at this)
       have O5 := Lib.hid (World.ownsRow.belowZ O5.out B6)
       have hlb := row_lt O6.out
       have KS := KnR.start (n := ni) O5.out O6.out (by omega)
       have c0 : w6.cell? ⟨w5.heap.size, 0, none⟩ = some (.bool false) := row_cell O6.out (by simp)
       have f0 := own_frz1 O6.out 0
       have BS := (BB5.out.trans (B6.mono hz5)).setCell (p := ⟨w5.heap.size, 0, none⟩) hz5 (.bool true)
       have KS := Lib.hid KS; have BS := Lib.hid BS
       have h1ni : 0 < ni + 1 := by omega
       obtain ⟨lb, hlbe⟩ : ∃ lb, w5.heap.size = lb := ⟨_, rfl⟩
       rw [hlbe] at KS BS c0 f0 hlt5 hz5 ⊢
       clear o6 g6 O5 O6 B6 BB5 hlb hlbe
       go_upto_region 26 with (fail)
       generalize w6.setCell ⟨lb, 0, none⟩ (.bool true) = w7 at KS BS ⊢
       clear c0 f0
       obtain ⟨kb, hkb⟩ : ∃ kb, wr.heap.size = kb := ⟨_, rfl⟩
       have HB7 := Lib.hid (HBB.out.trans (BS.out.mono (Nat.le_trans hzr HB.out.size)))
       have HR7 : Hid (RowsA (fun g => g < kb) w7 Mx Bc T (.slice ca nc ck)) := Lib.hid ((HRW.out.kept (Q' := fun g => g < kb) (fun g _ hg => by have := HB.out.size; omega) (fun g _ hg => HB.out.block g hg) HB.out.size).kept (fun _ q _ => q) (fun g q hg => BS.out.block g hg) BS.out.size)
       rw [hkb] at KS hlt5 ⊢
       have hkb9 : W.heap.size + 1 ≤ kb := by rw [← hkb]; exact Nat.le_trans hzr HB.out.size
       have cb0 := (HB7.out.cell (p := ⟨W.heap.size, 0, none⟩) (Nat.lt_succ_self _)).trans CB0.out
       have hzb : W.heap.size < w7.heap.size := Nat.lt_of_lt_of_le HW0.out HB7.out.size
       clear BS HBB HB hz5 hkb HRW h1ni hi1 hz10 hz11 hz12 hi2 hz20 hz21 hz22
       go_wp2_with fail
       go_loopw [104] (fun iv wx => ∃ (i : Nat) (kn : Kn) (kl ll : List Value), iv = .int .i64 (i : Int) ∧ i ≤ ni ∧ Hid (KnR kb lb ni i kb kn kl ll wx) ∧ Hid (goS cs ps 0 kn0 = goS cs (ps.drop i) (i : Int) kn) ∧ Hid (Below kb w7 wx)) (fun iv _ => ni - (intOf iv).toNat)
       case atStart => exact ⟨0, kn0, _, _, rfl, Nat.zero_le _, KS, Lib.hid rfl, Lib.hid (Below.refl _ _)⟩
       case round =>
        clear KS
        obtain ⟨i, kn, kl, ll, rfl, hi, HK, HG, HB⟩ := hrel
        have HBB := Lib.hid (HB7.out.trans (HB.out.mono hkb9))
        have cb0 := (HBB.out.cell (p := ⟨W.heap.size, 0, none⟩) (Nat.lt_succ_self _)).trans CB0.out
        have hzb : W.heap.size < wr.heap.size := Nat.lt_of_lt_of_le hzb HB.out.size
        obtain ⟨al, ak⟩ := HK.out.at_ i (Nat.le_refl _) hi
        have cl := row_cell HK.out.lr al
        have hlx := (row_lt HK.out.lr).2
        have hkx := (row_lt HK.out.kr).2
        by_cases hil : i < ni
        ·obtain ⟨ok, hok⟩ : ∃ ok, kn (i : Int) = ok := ⟨_, rfl⟩
         obtain ⟨p, hp⟩ : ∃ p, ps[i]? = some p := ⟨_, List.getElem?_eq_getElem (by have := HNI.out; omega)⟩
         have HGS := Lib.hid (HG.out.trans (goS_step hp kn))
         rw [hok] at HGS cl ak
         rcases ok with _ | s
         ·have HR : Hid (mayC ps cs = 23) := Lib.hid (by rw [HGO.out, HGS.out])
          have BF := Lib.hid (BW0.out.trans (HBB.out.mono (Nat.le_succ _)))
          clear HGS HG HGO HK HNL HCO HFO ak al
          simp only [Option.isSome] at cl
          go_wp2
          go_ret
          exact ⟨by rw [HR.out]; rfl, BF.out⟩
         ·obtain ⟨hsl, v, hv, st⟩ := ak s rfl
          simp only [Option.isSome] at cl
          have ckn := row_cell HK.out.kr hv
          have ST := Lib.hid st
          obtain ⟨sa, sn, sk, rfl⟩ := st.form
          have hfm := HFO.out i p hp
          rw [HNI.out] at hfm
          obtain ⟨hop, -, hgd⟩ := formed_out hfm
          have HOP := Lib.hid hop
          have HSO := Lib.hid (fun (r : Exits) (h : stepI cs p (i : Int) s = some r) => step_out hfm (by omega : (i : Int) < (ni : Int)) h)
          obtain ⟨G, off, rfl, ri⟩ := HRI.out (by omega)
          obtain ⟨tv, ip⟩ := ri i p hp
          have IP := Lib.hid (ip.kept (HK0.out _ HBB.out))
          have htl : p.t.length ≤ 10000 := by have := longS_mem (List.mem_of_getElem? hp); have := HL.out; have := HLL.out; omega
          obtain ⟨nm, uu, gf, sf, gc, sc, hl, hcf, hstep⟩ := step_any (Q := fun g => g ≠ kb ∧ g ≠ lb) (Q' := fun g => g < kb) (b := b) (g := G) (o := off + i * 6) (Mx := Mx) (Bc := Bc) (bc := b) (T := T) (cv := .slice ca nc ck) (tv := tv) (cs := cs) hop hgd htl
          have HSTEP : Hid (Calls Tryz.prog sf (#[.pointer (some ⟨G, off + i * 6, none⟩), .int .i64 (i : Int), .slice sa sn sk] ++ sc) wr.drew (StepPost (fun g => g ≠ kb ∧ g ≠ lb) wr.drew (stepI cs p (i : Int) s))) := Lib.hid (hstep wr.drew _ s i (HR7.out.kept (fun _ q _ => q) (fun g q hg => HB.out.block g q) HB.out.size) (IP.out.below (Below.refl wr.heap.size wr).drew (Nat.le_trans hb (Nat.le_of_lt hzb))) (Nat.le_trans hb (Nat.le_of_lt hzb)) (HCC.out _ HBB.out.drew) ST.out (fun x hx => by have : wr.drew.heap.size = wr.heap.size := rfl; omega) (by omega) (by omega))
          have HCF := Lib.hid hcf
          have HRM : Hid (∀ W', (∀ g, g < wr.heap.size → W'.heap[g]? = wr.heap[g]?) → RowsM W' Mx Bc T) := Lib.hid fun W' hW' => by
           have hr := HR7.out.kept (Q' := fun g => g < kb) (W' := wr) (fun _ q _ => q) (fun g q hg => HB.out.block g q) HB.out.size
           obtain ⟨es, clock, hb9, q⟩ := hr.own
           exact ⟨es, clock, (hW' _ (World.ownsMap.lt hr.own)).trans hb9, q⟩
          have c0 := IP.out.c0
          have hGx : G < wr.heap.size := by have := IP.out.lt; omega
          clear hcf hstep ri ip hfm hop hgd hv st ak al hp
          rcases hst : stepI cs p (i : Int) s with _ | l
          ·have HST := Lib.hid hst
           have HR : Hid (mayC ps cs = 23) := Lib.hid (by rw [HGO.out, HGS.out]; simp only [hst])
           clear hst HGS HSO
           go_upto_region 32 with (fail)
           clear cl cb0
           refine wp_region_noPanic ?_
           refine wp_region_held_drew (S := fun w => ∀ g, g < wr.heap.size → w.heap[g]? = wr.heap[g]?) (by kernel_rfl) (fun _ _ => rfl) (fun hS1 => ?_)
           have BBd : Hid (Below kb w7 wr.drew) := Lib.hid HB.out.drew
           have HKd : Hid (KnR kb lb ni i kb kn kl ll wr.drew) := Lib.hid (HK.out.below (Below.refl _ _).drew)
           have HKD : Hid (kb ≤ wr.drew.heap.size) := Lib.hid (Nat.le_of_lt hkx)
           have hGd : G < wr.heap.size := hGx
           have hkd : kb < wr.heap.size := hkx
           generalize hwd : wr.drew = wd at BBd HKd HKD hS1 HSTEP ⊢
           have hwz : wd.heap.size = wr.heap.size := by rw [← hwd]; rfl
           clear hwd
           refine wpV 0 ⟨some 117, .move (.tmp 7), 77, "may.go:264", #[], none⟩ (.map (some Mx)) hS1 ?_
           try simp only [Act.put, List.setIfInBounds_toArray, List.set_cons_zero, List.set_cons_succ]
           refine wpV 1 ⟨some 118, .move (.tmp 13), 80, "may.go:264", #[], none⟩ (.pointer (some ⟨G, off + i * 6, none⟩)) hS1 ?_
           try simp only [Act.put, List.setIfInBounds_toArray, List.set_cons_zero, List.set_cons_succ]
           refine wpV 2 ⟨some 119, .nilCheck (.tmp 118), 0, "may.go:264", #[⟨1, .data⟩], none⟩ (.pointer (some ⟨G, off + i * 6, none⟩)) hS1 ?_
           try simp only [Act.put, List.setIfInBounds_toArray, List.set_cons_zero, List.set_cons_succ]
           refine wpV 3 ⟨some 120, .fieldAddr 47 (.tmp 119) 0, 0, "may.go:264", #[⟨2, .data⟩], none⟩ (.pointer (some ⟨G, off + i * 6, none⟩)) hS1 ?_
           try simp only [Act.put, List.setIfInBounds_toArray, List.set_cons_zero, List.set_cons_succ]
           refine wpT 4 ⟨some 121, .load 3 (.tmp 120), 3, "may.go:264", #[⟨3, .data⟩], none⟩ (.int .i64 p.op) (Or.inl ⟨by rfl, fun W hW => by have e := (World.cell?_of_block (a := ⟨G, off + i * 6, none⟩) (hW G hGd)).trans c0; go_simp; done⟩) hS1 ?_
           try simp only [Act.put, List.setIfInBounds_toArray, List.set_cons_zero, List.set_cons_succ]
           refine wpT 5 ⟨some 122, .lookup 77 (.tmp 117) (.tmp 121) false, 88, "may.go:264", #[⟨0, .data⟩, ⟨4, .data⟩], none⟩ (.agg #[.string nm, .int .i64 uu, .func (.func gf) #[] gc, .func (.func sf) #[] sc]) (Or.inl ⟨by rfl, fun W hW => by have e := hl W (HRM.out W hW); go_simp; done⟩) hS1 ?_
           try simp only [Act.put, List.setIfInBounds_toArray, List.set_cons_zero, List.set_cons_succ]
           refine wpT 6 ⟨some 123, .field 88 (.tmp 122) 3, 86, "may.go:264", #[⟨5, .data⟩], none⟩ (.func (.func sf) #[] sc) (Or.inl ⟨by rfl, fun W hW => by have e := field3C nm uu gf sf gc sc W; go_simp; done⟩) hS1 ?_
           try simp only [Act.put, List.setIfInBounds_toArray, List.set_cons_zero, List.set_cons_succ]
           refine wpV 7 ⟨some 124, .move (.tmp 13), 80, "may.go:264", #[], none⟩ (.pointer (some ⟨G, off + i * 6, none⟩)) hS1 ?_
           try simp only [Act.put, List.setIfInBounds_toArray, List.set_cons_zero, List.set_cons_succ]
           refine wpV 8 ⟨some 125, .move (.tmp 12), 3, "may.go:264", #[], none⟩ (.int .i64 (i : Int)) hS1 ?_
           try simp only [Act.put, List.setIfInBounds_toArray, List.set_cons_zero, List.set_cons_succ]
           refine wpV 9 ⟨some 126, .move (.tmp 10), 81, "may.go:264", #[], none⟩ (.slice (some ⟨kb, 0, none⟩) (ni + 1) (ni + 1)) hS1 ?_
           try simp only [Act.put, List.setIfInBounds_toArray, List.set_cons_zero, List.set_cons_succ]
           refine wpV 10 ⟨some 127, .move (.tmp 12), 3, "may.go:264", #[], none⟩ (.int .i64 (i : Int)) hS1 ?_
           try simp only [Act.put, List.setIfInBounds_toArray, List.set_cons_zero, List.set_cons_succ]
           refine wpT 11 ⟨some 128, .indexAddr 81 (.tmp 126) (.tmp 127), 0, "may.go:264", #[⟨9, .data⟩, ⟨10, .data⟩], none⟩ (.pointer (some ⟨kb, i, none⟩)) (Or.inl ⟨by rfl, fun W hW => by first | (go_simp; done) | (go_simp; intro h9; exfalso; omega)⟩) hS1 ?_
           try simp only [Act.put, List.setIfInBounds_toArray, List.set_cons_zero, List.set_cons_succ]
           refine wpT 12 ⟨some 129, .load 90 (.tmp 128), 90, "may.go:264", #[⟨11, .data⟩], none⟩ (.slice sa sn sk) (Or.inl ⟨by rfl, fun W hW => by have e := (World.cell?_of_block (a := ⟨kb, i, none⟩) (hW kb hkd)).trans ckn; go_simp; done⟩) hS1 ?_
           try simp only [Act.put, List.setIfInBounds_toArray, List.set_cons_zero, List.set_cons_succ]
           refine wpAnyH_ready (rs := [13]) (by kernel_rfl) (by simp) ?_
           refine AllReadyH.cons (o := ⟨some 130, .call { callee := .value (.tmp 123), args := #[.tmp 124, .tmp 125, .tmp 129], argTypes := #[80, 3, 90] }, 84, "may.go:264", #[⟨6, .data⟩, ⟨7, .data⟩, ⟨8, .data⟩, ⟨12, .data⟩], none⟩) rfl (fun K hK => ?_) ?_
           ·refine wantedC (by rfl) ?_
            go_simp
            have hcf := HCF.out
            try simp only [hcf]
            rw [Oper.upon_enter]
            refine (HSTEP.out).mono ?_
            rintro e w3 ⟨b3, hpost⟩
            rw [HST.out] at hpost
            simp only at hpost
            subst hpost
            have BB3 := Lib.hid (BBd.out.trans (b3.mono HKD.out))
            have HK3 := Lib.hid (HKd.out.below b3)
            have hS2 : ∀ g, g < wr.heap.size → w3.heap[g]? = wr.heap[g]? := fun g hg => (b3.block g (by omega)).trans (hS1 g hg)
            have hz3 := b3.size
            clear b3
            refine hK.out _ _ hS2 (fun hS1 => ?_)
            clear hK K hS2
            try simp only [Act.put, List.setIfInBounds_toArray, List.set_cons_zero, List.set_cons_succ]
            refine wpV 14 ⟨some 116, .move (.tmp 130), 84, "may.go:264", #[⟨13, .data⟩], none⟩ (.tuple #[.slice none 0 0, .bool false]) hS1 ?_
            try simp only [Act.put, List.setIfInBounds_toArray, List.set_cons_zero, List.set_cons_succ]
            refine wpV 15 ⟨some 131, .extract (.tmp 116) 0, 83, "may.go:264", #[⟨14, .data⟩], none⟩ (.slice none 0 0) hS1 ?_
            try simp only [Act.put, List.setIfInBounds_toArray, List.set_cons_zero, List.set_cons_succ]
            refine wpV 16 ⟨some 132, .extract (.tmp 116) 1, 4, "may.go:264", #[⟨14, .data⟩, { on := 17, ground := Go.Ground.gcOnly Go.Departure.lateStores }], none⟩ (.bool false) hS1 ?_
            try simp only [Act.put, List.setIfInBounds_toArray, List.set_cons_zero, List.set_cons_succ]
            refine wpV 17 ⟨some 14, .assign (.tmp 131), 83, "may.go:264", #[⟨15, .data⟩, ⟨13, .chain⟩, ⟨0, .phase⟩, ⟨1, .phase⟩, ⟨2, .phase⟩, ⟨3, .phase⟩, ⟨4, .phase⟩, ⟨5, .phase⟩, ⟨6, .phase⟩, ⟨7, .phase⟩, ⟨8, .phase⟩, ⟨9, .phase⟩, ⟨10, .phase⟩, ⟨11, .phase⟩, ⟨12, .phase⟩, ⟨13, .phase⟩, ⟨14, .phase⟩, ⟨15, .phase⟩, { on := 16, ground := Go.Ground.textOnly Go.Departure.lateStores }], none⟩ (.slice none 0 0) hS1 ?_
            try simp only [Act.put, List.setIfInBounds_toArray, List.set_cons_zero, List.set_cons_succ]
            refine wpV 18 ⟨some 15, .assign (.tmp 132), 4, "may.go:264", #[⟨16, .data⟩, ⟨17, .chain⟩, ⟨0, .phase⟩, ⟨1, .phase⟩, ⟨2, .phase⟩, ⟨3, .phase⟩, ⟨4, .phase⟩, ⟨5, .phase⟩, ⟨6, .phase⟩, ⟨7, .phase⟩, ⟨8, .phase⟩, ⟨9, .phase⟩, ⟨10, .phase⟩, ⟨11, .phase⟩, ⟨12, .phase⟩, ⟨13, .phase⟩, ⟨14, .phase⟩, ⟨15, .phase⟩, ⟨16, .phase⟩, ⟨17, .phase⟩], none⟩ (.bool false) hS1 ?_
            try simp only [Act.put, List.setIfInBounds_toArray, List.set_cons_zero, List.set_cons_succ]
            refine wpAnyH_done (by kernel_rfl) ?_ _
            refine NoPanic.normal ?_
            have BF := Lib.hid (BW0.out.trans ((HB7.out.trans (BB3.out.mono hkb9)).mono (Nat.le_succ _)))
            clear BB3 HK3 HGO HG HB HBB HK HSTEP
            go_wp2
            go_ret
            exact ⟨by rw [HR.out]; rfl, BF.out⟩
           exact AllReadyH.nil
          ·have HST := Lib.hid hst
           have HSO2 := Lib.hid (HSO.out l hst)
           have HGS2 : Hid (goS cs ps 0 kn0 = match leadS kn l with | none => none | some kn' => goS cs (ps.drop (i + 1)) ((i + 1 : Nat) : Int) kn') := Lib.hid (by rw [HGS.out]; simp only [hst]; rfl)
           have hcount := step_count HOP.out hst
           clear hst HGS HSO
           go_upto_region 32 with (fail)
           clear cl cb0
           refine wp_region_noPanic ?_
           refine wp_region_held_drew (S := fun w => ∀ g, g < wr.heap.size → w.heap[g]? = wr.heap[g]?) (by kernel_rfl) (fun _ _ => rfl) (fun hS1 => ?_)
           have BBd : Hid (Below kb w7 wr.drew) := Lib.hid HB.out.drew
           have HKd : Hid (KnR kb lb ni i kb kn kl ll wr.drew) := Lib.hid (HK.out.below (Below.refl _ _).drew)
           have HKD : Hid (kb ≤ wr.drew.heap.size) := Lib.hid (Nat.le_of_lt hkx)
           have hGd : G < wr.heap.size := hGx
           have hkd : kb < wr.heap.size := hkx
           generalize hwd : wr.drew = wd at BBd HKd HKD hS1 HSTEP ⊢
           have hwz : wd.heap.size = wr.heap.size := by rw [← hwd]; rfl
           clear hwd
           refine wpV 0 ⟨some 117, .move (.tmp 7), 77, "may.go:264", #[], none⟩ (.map (some Mx)) hS1 ?_
           try simp only [Act.put, List.setIfInBounds_toArray, List.set_cons_zero, List.set_cons_succ]
           refine wpV 1 ⟨some 118, .move (.tmp 13), 80, "may.go:264", #[], none⟩ (.pointer (some ⟨G, off + i * 6, none⟩)) hS1 ?_
           try simp only [Act.put, List.setIfInBounds_toArray, List.set_cons_zero, List.set_cons_succ]
           refine wpV 2 ⟨some 119, .nilCheck (.tmp 118), 0, "may.go:264", #[⟨1, .data⟩], none⟩ (.pointer (some ⟨G, off + i * 6, none⟩)) hS1 ?_
           try simp only [Act.put, List.setIfInBounds_toArray, List.set_cons_zero, List.set_cons_succ]
           refine wpV 3 ⟨some 120, .fieldAddr 47 (.tmp 119) 0, 0, "may.go:264", #[⟨2, .data⟩], none⟩ (.pointer (some ⟨G, off + i * 6, none⟩)) hS1 ?_
           try simp only [Act.put, List.setIfInBounds_toArray, List.set_cons_zero, List.set_cons_succ]
           refine wpT 4 ⟨some 121, .load 3 (.tmp 120), 3, "may.go:264", #[⟨3, .data⟩], none⟩ (.int .i64 p.op) (Or.inl ⟨by rfl, fun W hW => by have e := (World.cell?_of_block (a := ⟨G, off + i * 6, none⟩) (hW G hGd)).trans c0; go_simp; done⟩) hS1 ?_
           try simp only [Act.put, List.setIfInBounds_toArray, List.set_cons_zero, List.set_cons_succ]
           refine wpT 5 ⟨some 122, .lookup 77 (.tmp 117) (.tmp 121) false, 88, "may.go:264", #[⟨0, .data⟩, ⟨4, .data⟩], none⟩ (.agg #[.string nm, .int .i64 uu, .func (.func gf) #[] gc, .func (.func sf) #[] sc]) (Or.inl ⟨by rfl, fun W hW => by have e := hl W (HRM.out W hW); go_simp; done⟩) hS1 ?_
           try simp only [Act.put, List.setIfInBounds_toArray, List.set_cons_zero, List.set_cons_succ]
           refine wpT 6 ⟨some 123, .field 88 (.tmp 122) 3, 86, "may.go:264", #[⟨5, .data⟩], none⟩ (.func (.func sf) #[] sc) (Or.inl ⟨by rfl, fun W hW => by have e := field3C nm uu gf sf gc sc W; go_simp; done⟩) hS1 ?_
           try simp only [Act.put, List.setIfInBounds_toArray, List.set_cons_zero, List.set_cons_succ]
           refine wpV 7 ⟨some 124, .move (.tmp 13), 80, "may.go:264", #[], none⟩ (.pointer (some ⟨G, off + i * 6, none⟩)) hS1 ?_
           try simp only [Act.put, List.setIfInBounds_toArray, List.set_cons_zero, List.set_cons_succ]
           refine wpV 8 ⟨some 125, .move (.tmp 12), 3, "may.go:264", #[], none⟩ (.int .i64 (i : Int)) hS1 ?_
           try simp only [Act.put, List.setIfInBounds_toArray, List.set_cons_zero, List.set_cons_succ]
           refine wpV 9 ⟨some 126, .move (.tmp 10), 81, "may.go:264", #[], none⟩ (.slice (some ⟨kb, 0, none⟩) (ni + 1) (ni + 1)) hS1 ?_
           try simp only [Act.put, List.setIfInBounds_toArray, List.set_cons_zero, List.set_cons_succ]
           refine wpV 10 ⟨some 127, .move (.tmp 12), 3, "may.go:264", #[], none⟩ (.int .i64 (i : Int)) hS1 ?_
           try simp only [Act.put, List.setIfInBounds_toArray, List.set_cons_zero, List.set_cons_succ]
           refine wpT 11 ⟨some 128, .indexAddr 81 (.tmp 126) (.tmp 127), 0, "may.go:264", #[⟨9, .data⟩, ⟨10, .data⟩], none⟩ (.pointer (some ⟨kb, i, none⟩)) (Or.inl ⟨by rfl, fun W hW => by first | (go_simp; done) | (go_simp; intro h9; exfalso; omega)⟩) hS1 ?_
           try simp only [Act.put, List.setIfInBounds_toArray, List.set_cons_zero, List.set_cons_succ]
           refine wpT 12 ⟨some 129, .load 90 (.tmp 128), 90, "may.go:264", #[⟨11, .data⟩], none⟩ (.slice sa sn sk) (Or.inl ⟨by rfl, fun W hW => by have e := (World.cell?_of_block (a := ⟨kb, i, none⟩) (hW kb hkd)).trans ckn; go_simp; done⟩) hS1 ?_
           try simp only [Act.put, List.setIfInBounds_toArray, List.set_cons_zero, List.set_cons_succ]
           refine wpAnyH_ready (rs := [13]) (by kernel_rfl) (by simp) ?_
           refine AllReadyH.cons (o := ⟨some 130, .call { callee := .value (.tmp 123), args := #[.tmp 124, .tmp 125, .tmp 129], argTypes := #[80, 3, 90] }, 84, "may.go:264", #[⟨6, .data⟩, ⟨7, .data⟩, ⟨8, .data⟩, ⟨12, .data⟩], none⟩) rfl (fun K hK => ?_) ?_
           ·refine wantedC (by rfl) ?_
            go_simp
            have hcf := HCF.out
            try simp only [hcf]
            rw [Oper.upon_enter]
            refine (HSTEP.out).mono ?_
            rintro e w3 ⟨b3, hpost⟩
            rw [HST.out] at hpost
            simp only at hpost
            obtain ⟨lv, rfl, hex⟩ := hpost
            obtain ⟨la, lk, rfl, -⟩ := id hex
            obtain ⟨ln, hln⟩ : ∃ ln, l.length = ln := ⟨_, rfl⟩
            rw [hln] at hex hcount
            rw [hln]
            have HEX := Lib.hid hex
            have HLN := Lib.hid hln
            clear hln
            clear hex
            have BB3 := Lib.hid (BBd.out.trans (b3.mono HKD.out))
            have HK3 := Lib.hid (HKd.out.below b3)
            have hS2 : ∀ g, g < wr.heap.size → w3.heap[g]? = wr.heap[g]? := fun g hg => (b3.block g (by omega)).trans (hS1 g hg)
            have hz3 := b3.size
            clear b3
            refine hK.out _ _ hS2 (fun hS1 => ?_)
            clear hK K hS2
            try simp only [Act.put, List.setIfInBounds_toArray, List.set_cons_zero, List.set_cons_succ]
            refine wpV 14 ⟨some 116, .move (.tmp 130), 84, "may.go:264", #[⟨13, .data⟩], none⟩ (.tuple #[.slice la ln lk, .bool true]) hS1 ?_
            try simp only [Act.put, List.setIfInBounds_toArray, List.set_cons_zero, List.set_cons_succ]
            refine wpV 15 ⟨some 131, .extract (.tmp 116) 0, 83, "may.go:264", #[⟨14, .data⟩], none⟩ (.slice la ln lk) hS1 ?_
            try simp only [Act.put, List.setIfInBounds_toArray, List.set_cons_zero, List.set_cons_succ]
            refine wpV 16 ⟨some 132, .extract (.tmp 116) 1, 4, "may.go:264", #[⟨14, .data⟩, { on := 17, ground := Go.Ground.gcOnly Go.Departure.lateStores }], none⟩ (.bool true) hS1 ?_
            try simp only [Act.put, List.setIfInBounds_toArray, List.set_cons_zero, List.set_cons_succ]
            refine wpV 17 ⟨some 14, .assign (.tmp 131), 83, "may.go:264", #[⟨15, .data⟩, ⟨13, .chain⟩, ⟨0, .phase⟩, ⟨1, .phase⟩, ⟨2, .phase⟩, ⟨3, .phase⟩, ⟨4, .phase⟩, ⟨5, .phase⟩, ⟨6, .phase⟩, ⟨7, .phase⟩, ⟨8, .phase⟩, ⟨9, .phase⟩, ⟨10, .phase⟩, ⟨11, .phase⟩, ⟨12, .phase⟩, ⟨13, .phase⟩, ⟨14, .phase⟩, ⟨15, .phase⟩, { on := 16, ground := Go.Ground.textOnly Go.Departure.lateStores }], none⟩ (.slice la ln lk) hS1 ?_
            try simp only [Act.put, List.setIfInBounds_toArray, List.set_cons_zero, List.set_cons_succ]
            refine wpV 18 ⟨some 15, .assign (.tmp 132), 4, "may.go:264", #[⟨16, .data⟩, ⟨17, .chain⟩, ⟨0, .phase⟩, ⟨1, .phase⟩, ⟨2, .phase⟩, ⟨3, .phase⟩, ⟨4, .phase⟩, ⟨5, .phase⟩, ⟨6, .phase⟩, ⟨7, .phase⟩, ⟨8, .phase⟩, ⟨9, .phase⟩, ⟨10, .phase⟩, ⟨11, .phase⟩, ⟨12, .phase⟩, ⟨13, .phase⟩, ⟨14, .phase⟩, ⟨15, .phase⟩, ⟨16, .phase⟩, ⟨17, .phase⟩], none⟩ (.bool true) hS1 ?_
            try simp only [Act.put, List.setIfInBounds_toArray, List.set_cons_zero, List.set_cons_succ]
            refine wpAnyH_done (by kernel_rfl) ?_ _
            refine NoPanic.normal ?_
            skip
            have hlt6 := htl
            clear HB HBB HKd BBd HK HSTEP HRM HCF hcf hl hS1 hGd hkd hwz hz3 hlx hkx ckn c0 HKD
            go_wp2_with fail
            go_loopw [137, 15] (fun iv bv wx => ∃ (j : Nat) (kn' : Kn) (kl' ll' : List Value), iv = .int .i64 (j : Int) ∧ bv = .bool true ∧ j ≤ ln ∧ Hid (KnR kb lb ni i kb kn' kl' ll' wx) ∧ Hid (leadS kn l = leadS kn' (l.drop j)) ∧ Hid (Below kb w7 wx) ∧ Hid (ExL (fun g => g ≠ kb ∧ g ≠ lb) wx (.slice la ln lk) l)) (fun iv _ _ => ln - (intOf iv).toNat)
            case atStart => exact ⟨0, kn, kl, ll, rfl, rfl, Nat.zero_le _, HK3, Lib.hid rfl, BB3, HEX⟩
            case round =>
             clear HK3 BB3 HEX
             obtain ⟨j, kn', kl', ll', rfl, rfl, hj, HKj, HLj, HBj, HEj⟩ := hrel
             have hlx := (row_lt HKj.out.lr).2
             have hkx := (row_lt HKj.out.kr).2
             by_cases hjl : j < ln
             ·obtain ⟨⟨x, u⟩, hx⟩ : ∃ t, l[j]? = some t := ⟨_, List.getElem?_eq_getElem (by have := HLN.out; omega)⟩
              obtain ⟨⟨hx1, hx2⟩, hul⟩ := HSO2.out (x, u) (List.mem_of_getElem? hx)
              simp only at hx1 hx2 hul
              obtain ⟨xn, rfl⟩ : ∃ xn : Nat, x = (xn : Int) := ⟨x.toNat, by omega⟩
              obtain ⟨a', k', e1, rex⟩ := HEj.out
              simp only [Value.slice.injEq] at e1
              obtain ⟨rfl, -, rfl⟩ := e1
              obtain ⟨E, eo, rfl, hEq, hE, ce⟩ := rex (by have := HLN.out; omega)
              obtain ⟨c0, uv, c1, st⟩ := ce j (xn : Int) u hx
              obtain ⟨ua, uk, rfl, -⟩ := id st
              obtain ⟨un, hun⟩ : ∃ un, u.length = un := ⟨_, rfl⟩
              have HLS := Lib.hid (HLj.out.trans (leadS_step hx kn'))
              obtain ⟨al, ak⟩ := HKj.out.at_ xn (by omega) (by omega)
              have cl := row_cell HKj.out.lr al
              rw [hun] at st c1 hul
              have BA : Below wr.heap.size wr (wr.alloc (.cells #[.int .i64 (xn : Int), .slice ua un uk] 92)) := ext_alloc (Below.refl _ _) _
              have ST := Lib.hid (st.below BA)
              have HK9 := Lib.hid (HKj.out.below BA)
              have HB9 := Lib.hid (HBj.out.alloc (Nat.le_of_lt hkx) (.cells #[.int .i64 (xn : Int), .slice ua un uk] 92))
              have HE9 : Hid (ExL (fun g => g ≠ kb ∧ g ≠ lb) (wr.alloc (.cells #[.int .i64 (xn : Int), .slice ua un uk] 92)) (.slice (some ⟨E, eo, none⟩) ln lk) l) := Lib.hid (HEj.out.kept (fun _ q _ => q) (fun g _ hg => BA.block g hg) BA.size)
              have hz8 : (wr.alloc (.cells #[.int .i64 (xn : Int), .slice ua un uk] 92)).heap.size = wr.heap.size + 1 := by simp
              have cE : (wr.alloc (.cells #[.int .i64 (xn : Int), .slice ua un uk] 92)).heap[wr.heap.size]? = some (.cells #[.int .i64 (xn : Int), .slice ua un uk] 92 (0, 0)) := heap_alloc_new wr _
              have CE := Lib.hid cE
              have HUN := Lib.hid hun
              clear rex ce hx st hun cE
              obtain ⟨ok, hok⟩ : ∃ ok, kn' (xn : Int) = ok := ⟨_, rfl⟩
              rw [hok] at HLS cl ak
              rcases ok with _ | k
              ·simp only [Option.isSome] at cl
               simp only at HLS
               by_cases h9 : 1024 < un
               ·have HR : Hid (mayC ps cs = 23) := Lib.hid (by
                 rw [HGO.out, HGS2.out, HLS.out, if_pos (by rw [HUN.out]; exact h9)])
                clear HGS2 HLS ST CE
                go_wp2_with (refine load_exit c0 c1 rfl rfl rfl ?_)
                generalize wr.alloc (.cells #[.int .i64 (xn : Int), .slice ua un uk] 92) = w8 at HB9 HE9 HK9 hz8 ⊢
                have BF := Lib.hid (BW0.out.trans ((HB7.out.trans (HB9.out.mono hkb9)).mono (Nat.le_succ _)))
                clear HK9 HB9 HE9 HG HGO HBj HKj HEj HLj
                go_wp2
                go_ret
                exact ⟨by rw [HR.out]; rfl, BF.out⟩
               ·have HLN2 : Hid (leadS kn l = leadS (fun y => if y = (xn : Int) then some u else kn' y) (l.drop (j + 1))) := Lib.hid (by rw [HLS.out, if_neg (by rw [HUN.out]; exact h9)])
                have HU9 : Hid (u.length ≤ 1024) := Lib.hid (by rw [HUN.out]; omega)
                have HS9 := ST
                clear HLS
                go_upto_region 43 with (refine load_exit c0 c1 rfl rfl rfl ?_)
                generalize wr.alloc (.cells #[.int .i64 (xn : Int), .slice ua un uk] 92) = w8 at HB9 HE9 HK9 HS9 ST CE hz8 ⊢
                have cE : w8.cell? ⟨wr.heap.size, 0, none⟩ = some (.int .i64 (xn : Int)) := by simp only [World.cell?, CE.out]; rfl
                refine wp_region_noPanic ?_
                refine wp_region_held_drew (S := fun w => w.heap[wr.heap.size]? = w8.heap[wr.heap.size]?) (by kernel_rfl) rfl (fun hS1 => ?_)
                have HKd := Lib.hid (HK9.out.below (Below.refl _ w8).drew)
                have HBd : Hid (Below kb w7 w8.drew) := Lib.hid HB9.out.drew
                have HEd : Hid (ExL (fun g => g ≠ kb ∧ g ≠ lb) w8.drew (.slice (some ⟨E, eo, none⟩) ln lk) l) := Lib.hid (HE9.out.kept (fun _ q _ => q) (fun _ _ _ => rfl) (Nat.le_refl _))
                have HSd : Hid (St (fun g => g ≠ kb ∧ g ≠ lb) w8.drew (.slice ua un uk) u) := Lib.hid (HS9.out.below (Below.refl _ w8).drew)
                generalize hwd : w8.drew = wd at HKd HBd HEd HSd hS1 ⊢
                clear hwd
                have hne1 : wr.heap.size ≠ kb := by omega
                have hne2 : wr.heap.size ≠ lb := by omega
                obtain ⟨lv9, hlw⟩ : ∃ v, ll'[xn]? = some v := ⟨_, List.getElem?_eq_getElem (by rw [row_len HKd.out.lr]; omega)⟩
                obtain ⟨kv9, hkw⟩ : ∃ v, kl'[xn]? = some v := ⟨_, List.getElem?_eq_getElem (by rw [row_len HKd.out.kr]; omega)⟩
                have ckd := row_cell HKd.out.kr hkw
                have fkd := own_frz1 HKd.out.kr xn
                refine wpV 0 ⟨some 165, .move (.tmp 10), 81, "may.go:276", #[], none⟩ (.slice (some ⟨kb, 0, none⟩) (ni + 1) (ni + 1)) hS1 ?_
                try simp only [Act.put, List.setIfInBounds_toArray, List.set_cons_zero, List.set_cons_succ]
                refine wpV 1 ⟨some 166, .fieldAddr 92 (.tmp 17) 0, 0, "may.go:276", #[], none⟩ (.pointer (some ⟨wr.heap.size, 0, none⟩)) hS1 ?_
                try simp only [Act.put, List.setIfInBounds_toArray, List.set_cons_zero, List.set_cons_succ]
                refine wpT 2 ⟨some 167, .load 3 (.tmp 166), 3, "may.go:276", #[⟨1, .data⟩], none⟩ (.int .i64 (xn : Int)) (Or.inl ⟨by rfl, fun W hW => by have e := (World.cell?_of_block (a := ⟨wr.heap.size, 0, none⟩) hW).trans cE; go_simp; done⟩) hS1 ?_
                try simp only [Act.put, List.setIfInBounds_toArray, List.set_cons_zero, List.set_cons_succ]
                refine wpV 3 ⟨some 168, .move (.tmp 11), 82, "may.go:276", #[{ on := 8, ground := Go.Ground.gcOnly Go.Departure.lateStores }], none⟩ (.slice (some ⟨lb, 0, none⟩) (ni + 1) (ni + 1)) hS1 ?_
                try simp only [Act.put, List.setIfInBounds_toArray, List.set_cons_zero, List.set_cons_succ]
                refine wpV 4 ⟨some 169, .fieldAddr 92 (.tmp 17) 0, 0, "may.go:276", #[{ on := 8, ground := Go.Ground.gcOnly Go.Departure.lateStores }], none⟩ (.pointer (some ⟨wr.heap.size, 0, none⟩)) hS1 ?_
                try simp only [Act.put, List.setIfInBounds_toArray, List.set_cons_zero, List.set_cons_succ]
                refine wpT 5 ⟨some 170, .load 3 (.tmp 169), 3, "may.go:276", #[⟨4, .data⟩, { on := 8, ground := Go.Ground.gcOnly Go.Departure.lateStores }], none⟩ (.int .i64 (xn : Int)) (Or.inl ⟨by rfl, fun W hW => by have e := (World.cell?_of_block (a := ⟨wr.heap.size, 0, none⟩) hW).trans cE; go_simp; done⟩) hS1 ?_
                try simp only [Act.put, List.setIfInBounds_toArray, List.set_cons_zero, List.set_cons_succ]
                refine wpV 6 ⟨some 171, .move (.tmp 18), 90, "may.go:276", #[], none⟩ (.slice ua un uk) hS1 ?_
                try simp only [Act.put, List.setIfInBounds_toArray, List.set_cons_zero, List.set_cons_succ]
                refine wpT 7 ⟨some 172, .indexAddr 81 (.tmp 165) (.tmp 167), 0, "may.go:276", #[⟨0, .data⟩, ⟨2, .data⟩, ⟨0, .phase⟩, ⟨1, .phase⟩, ⟨2, .phase⟩, { on := 3, ground := Go.Ground.textOnly Go.Departure.lateStores }, { on := 4, ground := Go.Ground.textOnly Go.Departure.lateStores }, { on := 5, ground := Go.Ground.textOnly Go.Departure.lateStores }, ⟨6, .phase⟩], none⟩ (.pointer (some ⟨kb, xn, none⟩)) (Or.inl ⟨by rfl, fun W hW => by first | (go_simp; done) | (go_simp; intro h9; exfalso; omega)⟩) hS1 ?_
                try simp only [Act.put, List.setIfInBounds_toArray, List.set_cons_zero, List.set_cons_succ]
                refine wpAnyH_ready (rs := [8]) (by kernel_rfl) (by simp) ?_
                refine AllReadyH.cons (o := ⟨none, .store 90 (.tmp 172) (.tmp 171), 0, "may.go:276", #[⟨7, .data⟩, ⟨6, .data⟩, ⟨0, .phase⟩, ⟨1, .phase⟩, ⟨2, .phase⟩, { on := 3, ground := Go.Ground.textOnly Go.Departure.lateStores }, { on := 4, ground := Go.Ground.textOnly Go.Departure.lateStores }, { on := 5, ground := Go.Ground.textOnly Go.Departure.lateStores }, ⟨6, .phase⟩], none⟩) rfl (fun K hK => ?_) ?_
                ·refine wantedC (by rfl) ?_
                 go_simp
                 have h3 : (wd.setCell ⟨kb, xn, none⟩ (.slice ua un uk)).heap[wr.heap.size]? = w8.heap[wr.heap.size]? := (heap_setCell_otherC _ _ _ _ _ hne1).trans hS1
                 refine hK.out _ _ h3 (fun hS1 => ?_)
                 clear hK K h3
                 have clD := row_cell (row_other HKd.out.lr (by intro e; cases e; exact HKd.out.ne rfl) (.slice ua un uk) : (wd.setCell ⟨kb, xn, none⟩ (.slice ua un uk)).ownsRow _ _ _ _ _ _) hlw
                 have flD := own_frz1 (row_other HKd.out.lr (by intro e; cases e; exact HKd.out.ne rfl) (.slice ua un uk) : (wd.setCell ⟨kb, xn, none⟩ (.slice ua un uk)).ownsRow _ _ _ _ _ _) xn
                 try simp only [Act.put, List.setIfInBounds_toArray, List.set_cons_zero, List.set_cons_succ]
                 refine wpT 9 ⟨some 173, .indexAddr 82 (.tmp 168) (.tmp 170), 0, "may.go:276", #[⟨3, .data⟩, ⟨5, .data⟩, ⟨0, .phase⟩, ⟨1, .phase⟩, ⟨2, .phase⟩, ⟨3, .phase⟩, ⟨4, .phase⟩, ⟨5, .phase⟩, ⟨6, .phase⟩, ⟨7, .phase⟩, ⟨8, .phase⟩], none⟩ (.pointer (some ⟨lb, xn, none⟩)) (Or.inl ⟨by rfl, fun W hW => by first | (go_simp; done) | (go_simp; intro h9; exfalso; omega)⟩) hS1 ?_
                 try simp only [Act.put, List.setIfInBounds_toArray, List.set_cons_zero, List.set_cons_succ]
                 refine wpAnyH_ready (rs := [10]) (by kernel_rfl) (by simp) ?_
                 refine AllReadyH.cons (o := ⟨none, .store 4 (.tmp 173) (.const (Go.Value.bool true)), 0, "may.go:276", #[⟨9, .data⟩, ⟨8, .chain⟩, ⟨0, .phase⟩, ⟨1, .phase⟩, ⟨2, .phase⟩, ⟨3, .phase⟩, ⟨4, .phase⟩, ⟨5, .phase⟩, ⟨6, .phase⟩, ⟨7, .phase⟩, ⟨8, .phase⟩], none⟩) rfl (fun K hK => ?_) ?_
                 ·refine wantedC (by rfl) ?_
                  go_simp
                  have h3 : ((wd.setCell ⟨kb, xn, none⟩ (.slice ua un uk)).setCell ⟨lb, xn, none⟩ (.bool true)).heap[wr.heap.size]? = w8.heap[wr.heap.size]? := (heap_setCell_otherC _ _ _ _ _ hne2).trans hS1
                  refine hK.out _ _ h3 (fun hS1 => ?_)
                  clear hK K h3
                  try simp only [Act.put, List.setIfInBounds_toArray, List.set_cons_zero, List.set_cons_succ]
                  refine wpAnyH_done (by kernel_rfl) ?_ _
                  refine NoPanic.normal ?_
                  have KN := Lib.hid (HKd.out.set (x := xn) (by omega) (v := (.slice ua un uk)) (u := u) HU9.out HSd.out)
                  have BN := Lib.hid ((HBd.out.setCell (p := ⟨kb, xn, none⟩) (Nat.le_refl _) (.slice ua un uk)).setCell (p := ⟨lb, xn, none⟩) (Nat.le_of_lt hlt5) (.bool true))
                  have EN : Hid (ExL (fun g => g ≠ kb ∧ g ≠ lb) ((wd.setCell ⟨kb, xn, none⟩ (.slice ua un uk)).setCell ⟨lb, xn, none⟩ (.bool true)) (.slice (some ⟨E, eo, none⟩) ln lk) l) := Lib.hid (HEd.out.kept (fun _ q _ => q) (fun g q _ => (heap_setCell_otherC _ _ _ _ _ q.2).trans (heap_setCell_otherC _ _ _ _ _ q.1)) (by rw [setSizeC, setSizeC]; exact Nat.le_refl _))
                  clear HKd HBd HEd HSd hlw clD flD ckd fkd hS1
                  go_wp2
                  exact ⟨⟨j + 1, _, _, _, by go_num, rfl, by omega, KN, HLN2, BN, EN⟩, by simp [intOf]; omega⟩
                 exact AllReadyH.nil
                exact AllReadyH.nil
              ·simp only [Option.isSome] at cl
               simp only at HLS
               obtain ⟨hkl, kv, hkv, stk⟩ := ak k rfl
               have ckn := row_cell HKj.out.kr hkv
               have STK := Lib.hid (stk.below BA)
               obtain ⟨ka9, kn9, kk9, rfl⟩ := stk.form
               have HKL := Lib.hid hkl
               clear stk hkv hkl ak
               go_wp2_with (refine load_exit c0 c1 rfl rfl rfl ?_)
               generalize wr.alloc (.cells #[.int .i64 (xn : Int), .slice ua un uk] 92) = w8 at HB9 HE9 HK9 ST STK CE hz8 ⊢
               refine (meet_any (a := k) (b := u) w8 STK.out ST.out (by have := HKL.out; omega)).mono ?_
               rintro e w9 ⟨b9, hpost⟩
               have HB9 := Lib.hid (HB9.out.trans (b9.mono (by omega)))
               have HK9 := Lib.hid (HK9.out.below b9)
               have HE9 : Hid (ExL (fun g => g ≠ kb ∧ g ≠ lb) w9 (.slice (some ⟨E, eo, none⟩) ln lk) l) := Lib.hid (HE9.out.kept (fun _ q _ => q) (fun g _ hg => b9.block g hg) b9.size)
               have CE := Lib.hid ((b9.block wr.heap.size (by omega)).trans CE.out)
               have hz9 := b9.size
               rcases hm : meetS k u with _ | m
               ·rw [hm] at hpost
                simp only at hpost
                subst hpost
                have HR : Hid (mayC ps cs = 23) := Lib.hid (by
                 rw [HGO.out, HGS2.out, HLS.out, hm])
                clear HGS2 HLS ST CE STK hm b9
                have BF := Lib.hid (BW0.out.trans ((HB7.out.trans (HB9.out.mono hkb9)).mono (Nat.le_succ _)))
                clear HK9 HB9 HE9 HG HGO HBj HKj HEj HLj
                go_wp2
                go_ret
                exact ⟨by rw [HR.out]; rfl, BF.out⟩
               ·rw [hm] at hpost
                simp only at hpost
                obtain ⟨mv, rfl, stm⟩ := hpost
                have HM9 := Lib.hid hm
                have HS9 : Hid (St (fun g => g ≠ kb ∧ g ≠ lb) w9 mv m) := Lib.hid (stm.kept (fun g hg _ => by omega) (fun _ _ _ => rfl) (Nat.le_refl _))
                obtain ⟨ma, mk, rfl, -⟩ := id stm
                obtain ⟨mn, hmn⟩ : ∃ mn, m.length = mn := ⟨_, rfl⟩
                rw [hmn] at HS9 ⊢
                have HMN := Lib.hid hmn
                clear stm hm hmn b9 STK ST
                by_cases h9 : 1024 < mn
                ·have HR : Hid (mayC ps cs = 23) := Lib.hid (by
                  rw [HGO.out, HGS2.out, HLS.out, HM9.out]
                  simp only
                  rw [if_pos (by rw [HMN.out]; exact h9)])
                 clear HGS2 HLS CE
                 have BF := Lib.hid (BW0.out.trans ((HB7.out.trans (HB9.out.mono hkb9)).mono (Nat.le_succ _)))
                 clear HK9 HB9 HE9 HG HGO HBj HKj HEj HLj
                 go_wp2
                 go_ret
                 exact ⟨by rw [HR.out]; rfl, BF.out⟩
                ·have HLN2 : Hid (leadS kn l = leadS (fun y => if y = (xn : Int) then some m else kn' y) (l.drop (j + 1))) := Lib.hid (by
                  rw [HLS.out, HM9.out]
                  simp only
                  rw [if_neg (by rw [HMN.out]; exact h9)])
                 have HU9 : Hid (m.length ≤ 1024) := Lib.hid (by rw [HMN.out]; omega)
                 clear HLS
                 go_upto_region 43 with (fail)
                 have cE : w9.cell? ⟨wr.heap.size, 0, none⟩ = some (.int .i64 (xn : Int)) := by simp only [World.cell?, CE.out]; rfl
                 refine wp_region_noPanic ?_
                 refine wp_region_held_drew (S := fun w => w.heap[wr.heap.size]? = w9.heap[wr.heap.size]?) (by kernel_rfl) rfl (fun hS1 => ?_)
                 have HKd := Lib.hid (HK9.out.below (Below.refl _ w9).drew)
                 have HBd : Hid (Below kb w7 w9.drew) := Lib.hid HB9.out.drew
                 have HEd : Hid (ExL (fun g => g ≠ kb ∧ g ≠ lb) w9.drew (.slice (some ⟨E, eo, none⟩) ln lk) l) := Lib.hid (HE9.out.kept (fun _ q _ => q) (fun _ _ _ => rfl) (Nat.le_refl _))
                 have HSd : Hid (St (fun g => g ≠ kb ∧ g ≠ lb) w9.drew (.slice ma mn mk) m) := Lib.hid (HS9.out.below (Below.refl _ w9).drew)
                 generalize hwd : w9.drew = wd at HKd HBd HEd HSd hS1 ⊢
                 clear hwd
                 have hne1 : wr.heap.size ≠ kb := by omega
                 have hne2 : wr.heap.size ≠ lb := by omega
                 obtain ⟨lv9, hlw⟩ : ∃ v, ll'[xn]? = some v := ⟨_, List.getElem?_eq_getElem (by rw [row_len HKd.out.lr]; omega)⟩
                 obtain ⟨kv9, hkw⟩ : ∃ v, kl'[xn]? = some v := ⟨_, List.getElem?_eq_getElem (by rw [row_len HKd.out.kr]; omega)⟩
                 have ckd := row_cell HKd.out.kr hkw
                 have fkd := own_frz1 HKd.out.kr xn
                 refine wpV 0 ⟨some 165, .move (.tmp 10), 81, "may.go:276", #[], none⟩ (.slice (some ⟨kb, 0, none⟩) (ni + 1) (ni + 1)) hS1 ?_
                 try simp only [Act.put, List.setIfInBounds_toArray, List.set_cons_zero, List.set_cons_succ]
                 refine wpV 1 ⟨some 166, .fieldAddr 92 (.tmp 17) 0, 0, "may.go:276", #[], none⟩ (.pointer (some ⟨wr.heap.size, 0, none⟩)) hS1 ?_
                 try simp only [Act.put, List.setIfInBounds_toArray, List.set_cons_zero, List.set_cons_succ]
                 refine wpT 2 ⟨some 167, .load 3 (.tmp 166), 3, "may.go:276", #[⟨1, .data⟩], none⟩ (.int .i64 (xn : Int)) (Or.inl ⟨by rfl, fun W hW => by have e := (World.cell?_of_block (a := ⟨wr.heap.size, 0, none⟩) hW).trans cE; go_simp; done⟩) hS1 ?_
                 try simp only [Act.put, List.setIfInBounds_toArray, List.set_cons_zero, List.set_cons_succ]
                 refine wpV 3 ⟨some 168, .move (.tmp 11), 82, "may.go:276", #[{ on := 8, ground := Go.Ground.gcOnly Go.Departure.lateStores }], none⟩ (.slice (some ⟨lb, 0, none⟩) (ni + 1) (ni + 1)) hS1 ?_
                 try simp only [Act.put, List.setIfInBounds_toArray, List.set_cons_zero, List.set_cons_succ]
                 refine wpV 4 ⟨some 169, .fieldAddr 92 (.tmp 17) 0, 0, "may.go:276", #[{ on := 8, ground := Go.Ground.gcOnly Go.Departure.lateStores }], none⟩ (.pointer (some ⟨wr.heap.size, 0, none⟩)) hS1 ?_
                 try simp only [Act.put, List.setIfInBounds_toArray, List.set_cons_zero, List.set_cons_succ]
                 refine wpT 5 ⟨some 170, .load 3 (.tmp 169), 3, "may.go:276", #[⟨4, .data⟩, { on := 8, ground := Go.Ground.gcOnly Go.Departure.lateStores }], none⟩ (.int .i64 (xn : Int)) (Or.inl ⟨by rfl, fun W hW => by have e := (World.cell?_of_block (a := ⟨wr.heap.size, 0, none⟩) hW).trans cE; go_simp; done⟩) hS1 ?_
                 try simp only [Act.put, List.setIfInBounds_toArray, List.set_cons_zero, List.set_cons_succ]
                 refine wpV 6 ⟨some 171, .move (.tmp 18), 90, "may.go:276", #[], none⟩ (.slice ma mn mk) hS1 ?_
                 try simp only [Act.put, List.setIfInBounds_toArray, List.set_cons_zero, List.set_cons_succ]
                 refine wpT 7 ⟨some 172, .indexAddr 81 (.tmp 165) (.tmp 167), 0, "may.go:276", #[⟨0, .data⟩, ⟨2, .data⟩, ⟨0, .phase⟩, ⟨1, .phase⟩, ⟨2, .phase⟩, { on := 3, ground := Go.Ground.textOnly Go.Departure.lateStores }, { on := 4, ground := Go.Ground.textOnly Go.Departure.lateStores }, { on := 5, ground := Go.Ground.textOnly Go.Departure.lateStores }, ⟨6, .phase⟩], none⟩ (.pointer (some ⟨kb, xn, none⟩)) (Or.inl ⟨by rfl, fun W hW => by first | (go_simp; done) | (go_simp; intro h9; exfalso; omega)⟩) hS1 ?_
                 try simp only [Act.put, List.setIfInBounds_toArray, List.set_cons_zero, List.set_cons_succ]
                 refine wpAnyH_ready (rs := [8]) (by kernel_rfl) (by simp) ?_
                 refine AllReadyH.cons (o := ⟨none, .store 90 (.tmp 172) (.tmp 171), 0, "may.go:276", #[⟨7, .data⟩, ⟨6, .data⟩, ⟨0, .phase⟩, ⟨1, .phase⟩, ⟨2, .phase⟩, { on := 3, ground := Go.Ground.textOnly Go.Departure.lateStores }, { on := 4, ground := Go.Ground.textOnly Go.Departure.lateStores }, { on := 5, ground := Go.Ground.textOnly Go.Departure.lateStores }, ⟨6, .phase⟩], none⟩) rfl (fun K hK => ?_) ?_
                 ·refine wantedC (by rfl) ?_
                  go_simp
                  have h3 : (wd.setCell ⟨kb, xn, none⟩ (.slice ma mn mk)).heap[wr.heap.size]? = w9.heap[wr.heap.size]? := (heap_setCell_otherC _ _ _ _ _ hne1).trans hS1
                  refine hK.out _ _ h3 (fun hS1 => ?_)
                  clear hK K h3
                  have clD := row_cell (row_other HKd.out.lr (by intro e; cases e; exact HKd.out.ne rfl) (.slice ma mn mk) : (wd.setCell ⟨kb, xn, none⟩ (.slice ma mn mk)).ownsRow _ _ _ _ _ _) hlw
                  have flD := own_frz1 (row_other HKd.out.lr (by intro e; cases e; exact HKd.out.ne rfl) (.slice ma mn mk) : (wd.setCell ⟨kb, xn, none⟩ (.slice ma mn mk)).ownsRow _ _ _ _ _ _) xn
                  try simp only [Act.put, List.setIfInBounds_toArray, List.set_cons_zero, List.set_cons_succ]
                  refine wpT 9 ⟨some 173, .indexAddr 82 (.tmp 168) (.tmp 170), 0, "may.go:276", #[⟨3, .data⟩, ⟨5, .data⟩, ⟨0, .phase⟩, ⟨1, .phase⟩, ⟨2, .phase⟩, ⟨3, .phase⟩, ⟨4, .phase⟩, ⟨5, .phase⟩, ⟨6, .phase⟩, ⟨7, .phase⟩, ⟨8, .phase⟩], none⟩ (.pointer (some ⟨lb, xn, none⟩)) (Or.inl ⟨by rfl, fun W hW => by first | (go_simp; done) | (go_simp; intro h9; exfalso; omega)⟩) hS1 ?_
                  try simp only [Act.put, List.setIfInBounds_toArray, List.set_cons_zero, List.set_cons_succ]
                  refine wpAnyH_ready (rs := [10]) (by kernel_rfl) (by simp) ?_
                  refine AllReadyH.cons (o := ⟨none, .store 4 (.tmp 173) (.const (Go.Value.bool true)), 0, "may.go:276", #[⟨9, .data⟩, ⟨8, .chain⟩, ⟨0, .phase⟩, ⟨1, .phase⟩, ⟨2, .phase⟩, ⟨3, .phase⟩, ⟨4, .phase⟩, ⟨5, .phase⟩, ⟨6, .phase⟩, ⟨7, .phase⟩, ⟨8, .phase⟩], none⟩) rfl (fun K hK => ?_) ?_
                  ·refine wantedC (by rfl) ?_
                   go_simp
                   have h3 : ((wd.setCell ⟨kb, xn, none⟩ (.slice ma mn mk)).setCell ⟨lb, xn, none⟩ (.bool true)).heap[wr.heap.size]? = w9.heap[wr.heap.size]? := (heap_setCell_otherC _ _ _ _ _ hne2).trans hS1
                   refine hK.out _ _ h3 (fun hS1 => ?_)
                   clear hK K h3
                   try simp only [Act.put, List.setIfInBounds_toArray, List.set_cons_zero, List.set_cons_succ]
                   refine wpAnyH_done (by kernel_rfl) ?_ _
                   refine NoPanic.normal ?_
                   have KN := Lib.hid (HKd.out.set (x := xn) (by omega) (v := (.slice ma mn mk)) (u := m) HU9.out HSd.out)
                   have BN := Lib.hid ((HBd.out.setCell (p := ⟨kb, xn, none⟩) (Nat.le_refl _) (.slice ma mn mk)).setCell (p := ⟨lb, xn, none⟩) (Nat.le_of_lt hlt5) (.bool true))
                   have EN : Hid (ExL (fun g => g ≠ kb ∧ g ≠ lb) ((wd.setCell ⟨kb, xn, none⟩ (.slice ma mn mk)).setCell ⟨lb, xn, none⟩ (.bool true)) (.slice (some ⟨E, eo, none⟩) ln lk) l) := Lib.hid (HEd.out.kept (fun _ q _ => q) (fun g q _ => (heap_setCell_otherC _ _ _ _ _ q.2).trans (heap_setCell_otherC _ _ _ _ _ q.1)) (by rw [setSizeC, setSizeC]; exact Nat.le_refl _))
                   clear HKd HBd HEd HSd hlw clD flD ckd fkd hS1
                   go_wp2
                   exact ⟨⟨j + 1, _, _, _, by go_num, rfl, by omega, KN, HLN2, BN, EN⟩, by simp [intOf]; omega⟩
                  exact AllReadyH.nil
                 exact AllReadyH.nil
             ·have hjn : j = ln := by omega
              have HGN : Hid (goS cs ps 0 kn0 = goS cs (ps.drop (i + 1)) ((i + 1 : Nat) : Int) kn') := Lib.hid (by
               rw [HGS2.out, HLj.out, List.drop_eq_nil_of_le (by have := HLN.out; omega)]
               rfl)
              obtain ⟨kv9, hkw⟩ : ∃ v, kl'[i]? = some v := ⟨_, List.getElem?_eq_getElem (by rw [row_len HKj.out.kr]; omega)⟩
              have ckd := row_cell HKj.out.kr hkw
              have fkd := own_frz1 HKj.out.kr i
              have KN := Lib.hid HKj.out.next
              have BN := Lib.hid (HBj.out.setCell (p := ⟨kb, i, none⟩) (Nat.le_refl _) (.slice none 0 0))
              clear HGS2 HLj HEj HKj HBj hkw
              go_wp2
              exact ⟨⟨i + 1, _, _, _, by go_num, by omega, KN, HGN, BN⟩, by simp [intOf]; omega⟩
           exact AllReadyH.nil
        ·have hin : i = ni := by omega
         obtain ⟨ok, hok⟩ : ∃ ok, kn (i : Int) = ok := ⟨_, rfl⟩
         have HRES : Hid (mayC ps cs = if endOk ok = true then 0 else 23) := Lib.hid (by
          rw [HGO.out, HG.out, show i = ps.length by rw [HNI.out]; exact hin, goS_end]
          rw [← hok, hin, ← HNI.out])
         rw [hok] at cl ak
         have BF := BW0.out.trans (HBB.out.mono (Nat.le_succ _))
         have BF := Lib.hid BF
         have HK2 := Lib.hid (ak)
         rw [hin] at cl HK2 ⊢
         have hkr := Lib.hid HK.out.kr
         clear HG HGO al ak hok hin hil hi HB HBB HK HNI HFO HCO HNL HRI HRC
         rcases ok with _ | s
         ·have HR : Hid (mayC ps cs = 23) := Lib.hid (by rw [HRES.out]; rfl)
          clear HRES HK2
          simp only [Option.isSome] at cl
          go_wp2
          go_ret
          exact ⟨by rw [HR.out]; rfl, BF.out⟩
         ·obtain ⟨hsl, v, hv, st⟩ := HK2.out s rfl
          simp only [Option.isSome] at cl
          have ck := row_cell hkr.out hv
          obtain ⟨sa, sc, rfl, -, rs⟩ := st
          have RS := Lib.hid rs
          clear rs hv HK2 hkr
          by_cases h1 : s.length = 1
          ·obtain ⟨x, rfl⟩ : ∃ x, s = [x] := by
            match s, h1 with
            | [x], _ => exact ⟨x, rfl⟩
           obtain ⟨G, off, rfl, -, hG, cx⟩ := RS.out (by simp)
           have cx0 := cx 0 x rfl
           simp only [List.length_cons, List.length_nil, Nat.zero_add, Nat.add_zero] at ck cx0
           clear cx RS h1 hsl
           cases hf : fitsS x 86
           ·have HR : Hid (mayC ps cs = 23) := Lib.hid (by rw [HRES.out]; show (if fitsS x 86 = true then (0 : Int) else 23) = 23; rw [hf]; rfl)
            have HF := Lib.hid hf
            clear HRES hf
            go_wp2_with fail
            refine (codeFits_any x 86 _).mono ?_
            rintro e w9 ⟨rfl, rfl⟩
            rw [HF.out]
            go_wp2
            go_ret
            exact ⟨by rw [HR.out]; rfl, BF.out⟩
           ·have HR : Hid (mayC ps cs = 0) := Lib.hid (by rw [HRES.out]; show (if fitsS x 86 = true then (0 : Int) else 23) = 0; rw [hf]; rfl)
            have HF := Lib.hid hf
            clear HRES hf
            go_wp2_with fail
            refine (codeFits_any x 86 _).mono ?_
            rintro e w9 ⟨rfl, rfl⟩
            rw [HF.out]
            go_wp2
            go_ret
            exact ⟨by rw [HR.out]; rfl, BF.out⟩
          ·have HR : Hid (mayC ps cs = 23) := Lib.hid (by
            rw [HRES.out]
            match s, h1 with
            | [], _ => rfl
            | [x], h => exact absurd rfl h
            | x :: y :: r, _ => rfl)
           obtain ⟨sl, hsl2⟩ : ∃ sl, s.length = sl := ⟨_, rfl⟩
           rw [hsl2] at h1 ck hsl
           have h1b : ((sl : Int) == 1) = false := by simpa using (by omega : ¬ (sl : Int) = 1)
           have h1d : decide ((sl : Int) = 1) = false := decide_eq_false (by omega)
           have h1n : ((sl : Int) != 1) = true := by simpa using (by omega : ¬ (sl : Int) = 1)
           clear HRES RS hsl2 h1
           go_wp2
           go_ret
           exact ⟨by rw [HR.out]; rfl, BF.out⟩
end Go.Proofs.YtlmpiobdgkmmgaaGreatDoor
