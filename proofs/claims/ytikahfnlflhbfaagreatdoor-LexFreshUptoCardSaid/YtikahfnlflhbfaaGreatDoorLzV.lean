/- LexFresh: a text's three lists; the whole. -/
import Derived.Test.YtikahfnlflhbfaaGreatDoorLzU
namespace Go.Proofs.YtikahfnlflhbfaaGreatDoor
open Go.RowKit Go.Lib

theorem eq8_same (l : List WordL) (w : World) (a a' : Option Addr) (kc kc' : Nat) (A : WdAt w w.heap.size l a) (A' : WdAt w w.heap.size l a') :
    Calls Tryz.prog 9 #[.slice a l.length kc, .slice a' l.length kc'] w fun e w' => e = .returned (.bool true) ∧ Below w.heap.size w w' := by
  refine (lawEq8_any l l w w.heap.size w.heap.size a a' kc kc' A A' (Nat.le_refl _) (Nat.le_refl _)).mono ?_
  rintro e w' ⟨rfl, hb⟩
  exact ⟨ret_bool8 (by simp), hb⟩
set_option maxRecDepth 1000000 in
set_option maxHeartbeats 16000000 in
theorem fx_l2 {Q : Exit → Act → World → Prop} {w0 W : World} {N k bt off tn tc kc2 : Nat} {a2 : Option Addr} {cl : Nat → Nat} {vL vQ vW vN : Value} {cL cQ cW : List Value} {ns : List Nat} {ws : List WordL} {pl er : Int} {t : ByteArray} {u1 u2 u3 u10 u11 u13 u14 u15 u16 u17 u18 u19 u20 u21 u22 u23 u24 u25 u26 u27 u28 u29 u30 u31 u32 u33 u34 u35 u36 u37 u38 u39 u40 u41 u42 u43 u44 u45 u46 u47 u48 u49 u50 u51 u52 u53 u54 u55 u56 u57 u58 u59 u60 u61 u62 u63 u64 u65 u66 u67 u68 u69 u70 u71 u72 u73 u74 u75 u76 u77 u78 u79 u80 u81 u82 u83 u84 u85 u86 u87 u88 u89 u90 u91 u92 u93 u94 u95 u96 u97 u98 u99 u100 u101 u102 u103 u104 u105 u106 u107 u108 u109 u110 u111 u112 u113 u114 u115 u116 u117 u118 u119 u120 u121 u122 u123 u124 u125 u126 u127 u128 u129 u130 u131 u132 u133 u134 u135 u136 u137 u138 u139 u140 u141 u142 u143 u144 u145 u146 u147 u148 u149 u150 u151 u152 u153 u154 u155 u156 u157 u158 u159 u160 u161 u162 u163 u164 u165 u166 u167 u168 u169 u170 u171 u172 u173 u174 u175 u176 u177 u178 u179 u180 u181 u182 u183 u184 u185 u186 u187 u188 u189 : Value}
    (HLX : Hid (LaidX w0)) (KT : Hid (∀ W, Below w0.heap.size w0 W → W.cell? ⟨bt, off + k, none⟩ = some (.string t))) (htz : t.size ≤ 9223372036854775807) (HA : Hid (cutL t.data.toList = ⟨ws, pl, er⟩)) (hk : k < 300) (hkt : k < tn) (FS : Hid (FxS w0 w0.heap.size N cl (fun j => j < cL.length) (fun _ => 0) vL vQ vW vN cL cQ cW ns W)) (HK : Hid (Wl w0.heap.size N cl 5 W ws (.slice a2 ws.length kc2))) (hns : ns.length = cL.length) (hcw : cW.length = cQ.length) (hcl : cL.length ≤ k) (hcq : cQ.length ≤ 2 * k)
    (hexit : Hid (∀ (v2 v12 v13 v14 v15 v16 v55 v56 v57 v58 v59 v60 v61 v62 v63 v64 v65 v66 v67 v68 v69 v70 v71 v72 v73 v74 v75 v76 v77 v78 v79 v80 v81 v82 v83 v84 v85 v86 v87 v88 v89 v90 v91 v92 v93 v94 v95 v96 v97 v98 v99 v100 v101 v102 v103 : Value) (vL' vQ' vW' vN' : Value) (N' : Nat) (cl' : Nat → Nat) (cL' cQ' cW' : List Value) (ns' : List Nat) (w' : World), Hid (FxS w0 w0.heap.size N' cl' (fun j => j < cL'.length) (fun _ => 0) vL' vQ' vW' vN' cL' cQ' cW' ns' w') → ns'.length = cL'.length → cW'.length = cQ'.length → cL'.length ≤ k + 1 → cQ'.length ≤ 2 * k + 2 → Q (.exit 2) ⟨List.toArray ((.slice (some ⟨bt, off, none⟩) tn tc) :: u1 :: v2 :: u3 :: vL' :: vQ' :: vW' :: vN' :: (.int .i64 ((k : Nat) : Int)) :: (.slice a2 ws.length kc2) :: u10 :: u11 :: v12 :: v13 :: v14 :: v15 :: v16 :: u17 :: u18 :: u19 :: u20 :: u21 :: u22 :: u23 :: u24 :: u25 :: u26 :: u27 :: u28 :: u29 :: u30 :: u31 :: u32 :: u33 :: u34 :: u35 :: u36 :: u37 :: u38 :: u39 :: u40 :: u41 :: u42 :: u43 :: u44 :: u45 :: u46 :: u47 :: u48 :: u49 :: u50 :: u51 :: u52 :: u53 :: u54 :: v55 :: v56 :: v57 :: v58 :: v59 :: v60 :: v61 :: v62 :: v63 :: v64 :: v65 :: v66 :: v67 :: v68 :: v69 :: v70 :: v71 :: v72 :: v73 :: v74 :: v75 :: v76 :: v77 :: v78 :: v79 :: v80 :: v81 :: v82 :: v83 :: v84 :: v85 :: v86 :: v87 :: v88 :: v89 :: v90 :: v91 :: v92 :: v93 :: v94 :: v95 :: v96 :: v97 :: v98 :: v99 :: v100 :: v101 :: v102 :: v103 :: u104 :: u105 :: u106 :: u107 :: u108 :: u109 :: u110 :: u111 :: u112 :: u113 :: u114 :: u115 :: u116 :: u117 :: u118 :: u119 :: u120 :: u121 :: u122 :: u123 :: u124 :: u125 :: u126 :: u127 :: u128 :: u129 :: u130 :: u131 :: u132 :: u133 :: u134 :: u135 :: u136 :: u137 :: u138 :: u139 :: u140 :: u141 :: u142 :: u143 :: u144 :: u145 :: u146 :: u147 :: u148 :: u149 :: u150 :: u151 :: u152 :: u153 :: u154 :: u155 :: u156 :: u157 :: u158 :: u159 :: u160 :: u161 :: u162 :: u163 :: u164 :: u165 :: u166 :: u167 :: u168 :: u169 :: u170 :: u171 :: u172 :: u173 :: u174 :: u175 :: u176 :: u177 :: u178 :: u179 :: u180 :: u181 :: u182 :: u183 :: u184 :: u185 :: u186 :: u187 :: u188 :: u189 :: []), []⟩ w')) :
    Code.wp Tryz.prog (Code.loop (fxB 1)) Q ⟨List.toArray ((.slice (some ⟨bt, off, none⟩) tn tc) :: u1 :: u2 :: u3 :: vL :: vQ :: vW :: vN :: (.int .i64 ((k : Nat) : Int)) :: (.slice a2 ws.length kc2) :: u10 :: u11 :: (.int .i64 0) :: u13 :: u14 :: u15 :: u16 :: u17 :: u18 :: u19 :: u20 :: u21 :: u22 :: u23 :: u24 :: u25 :: u26 :: u27 :: u28 :: u29 :: u30 :: u31 :: u32 :: u33 :: u34 :: u35 :: u36 :: u37 :: u38 :: u39 :: u40 :: u41 :: u42 :: u43 :: u44 :: u45 :: u46 :: u47 :: u48 :: u49 :: u50 :: u51 :: u52 :: u53 :: u54 :: u55 :: u56 :: u57 :: u58 :: u59 :: u60 :: u61 :: u62 :: u63 :: u64 :: u65 :: u66 :: u67 :: u68 :: u69 :: u70 :: u71 :: u72 :: u73 :: u74 :: u75 :: u76 :: u77 :: u78 :: u79 :: u80 :: u81 :: u82 :: u83 :: u84 :: u85 :: u86 :: u87 :: u88 :: u89 :: u90 :: u91 :: u92 :: u93 :: u94 :: u95 :: u96 :: u97 :: u98 :: u99 :: u100 :: u101 :: u102 :: u103 :: u104 :: u105 :: u106 :: u107 :: u108 :: u109 :: u110 :: u111 :: u112 :: u113 :: u114 :: u115 :: u116 :: u117 :: u118 :: u119 :: u120 :: u121 :: u122 :: u123 :: u124 :: u125 :: u126 :: u127 :: u128 :: u129 :: u130 :: u131 :: u132 :: u133 :: u134 :: u135 :: u136 :: u137 :: u138 :: u139 :: u140 :: u141 :: u142 :: u143 :: u144 :: u145 :: u146 :: u147 :: u148 :: u149 :: u150 :: u151 :: u152 :: u153 :: u154 :: u155 :: u156 :: u157 :: u158 :: u159 :: u160 :: u161 :: u162 :: u163 :: u164 :: u165 :: u166 :: u167 :: u168 :: u169 :: u170 :: u171 :: u172 :: u173 :: u174 :: u175 :: u176 :: u177 :: u178 :: u179 :: u180 :: u181 :: u182 :: u183 :: u184 :: u185 :: u186 :: u187 :: u188 :: u189 :: []), []⟩ W := by
  conv => arg 2; arg 1; whnf
  obtain ⟨iS, hs, hs0, hs1_, hs2_⟩ := info_parts infoSl8
  obtain ⟨iI, hi, hi0, hi1, hi2⟩ := info_parts infoInt8
  have hwl : ws.length ≤ 65535 := by have := cutL_len t.data.toList; rw [HA.out] at this; exact this
  go_loopw [4, 5, 6, 7, 12] (fun vL vQ vW vN jv wr => FxR2 w0 k ws (.slice a2 ws.length kc2) vL vQ vW vN jv wr) (fun _ _ _ _ jv _ => 3 - (intOf jv).toNat)
  case atStart => exact ⟨0, N, cl, cL, cQ, cW, ns, rfl, by omega, FS, HK, hns, hcw, fun _ => ⟨hcl, hcq⟩, fun q => by omega⟩
  case round =>
    obtain ⟨j, N', cl', cL', cQ', cW', ns', rfl, hj, FS', HK', hn, hw, h0, h1⟩ := hrel
    have HN := Lib.hid hn; have HQW := Lib.hid hw
    clear hn hw
    by_cases hlt : j < 3
    · by_cases hj0 : j = 0
      · subst hj0
        obtain ⟨hc1, hc2⟩ := h0 rfl
        have hnb : ns'.length ≤ 301 := by have := HN.out; omega
        clear h0 h1
        obtain ⟨w, rfl⟩ : ∃ w, w = wr := ⟨_, rfl⟩
        have kt := KT.out w FS'.out.bel
        have C1 := Lib.hid (cut_const HA.out htz w (HLX.out.kept FS'.out.bel))
        have hbw : w0.heap.size ≤ w.heap.size := Nat.le_trans FS'.out.hb FS'.out.hN
        have hNw : N' ≤ w.heap.size := FS'.out.hN
        go_wp2_with fail
        refine (C1.out).mono ?_
        rintro e w1 ⟨v1, rfl, b1, r1⟩
        obtain ⟨a1, kc1, rfl, A1, -⟩ := r1.at_
        have b1N := b1.mono hNw
        have hs1 : w.heap.size ≤ w1.heap.size := b1.size
        have FS1 := Lib.hid (FS'.out.kept (10 + cL'.length) b1N)
        have HV1 : Hid (Wl w0.heap.size w1.heap.size (upc cl' N' (10 + cL'.length)) (10 + cL'.length) w1 ws (.slice a1 ws.length kc1)) := Lib.hid ⟨r1.base hbw, Cls.later fun x hx => ⟨Nat.le_trans hNw (r1.lt x hx).1, (r1.lt x hx).2⟩⟩
        have HK1 := Lib.hid (HK'.out.step (c0 := (10 + cL'.length)) (fun x hx _ => b1N.block x hx) (Nat.le_trans hNw hs1))
        have C2 := Lib.hid (eq8_same ws w1 a1 a2 kc1 kc2 A1 HK1.out.at8.2)
        clear kt b1 r1 A1 b1N C1 FS' HK'
        go_wp2_with fail
        refine (C2.out).mono ?_
        rintro e w2 ⟨rfl, b2⟩
        have hs2 : w1.heap.size ≤ w2.heap.size := b2.size
        have FS2 := Lib.hid (FS1.out.kept 99 b2)
        have HV2 := Lib.hid (HV1.out.step (c0 := 99) (fun x hx _ => b2.block x hx) hs2)
        have HK2 := Lib.hid (HK1.out.step (c0 := 99) (fun x hx _ => b2.block x hx) hs2)
        clear b2 C2 FS1 HV1 HK1
        have ROW := Lib.hid FS2.out.rL.own
        go_wp2_with (at_builtin; refine wpList_append_lies _ rfl _ _ 26 rfl w0.heap.size 28 iS _ 1 24 Tryz.underlying26 hs hs0 hs1_ hs2_ rfl (by decide) _ _ cL' rfl (World.ownsRow.alloc ROW.out _) ⟨w2.heap.size, 0, none⟩ 1 1 [(.slice a1 ws.length kc1)] rfl rfl (World.news_of_block (heap_alloc_new w2 _)) (by simp [Value.oneCell']) (by decide) (by unfold maxLen; omega) (by omega) (by simp; omega) _ rfl ?_)
        intro gL capL w3 hown hgrow hat _
        obtain ⟨r1, r2, r3⟩ := FS2.out.appL hown hgrow (hat.imp_right fun q => by rw [q]; simp)
        have FS3 := Lib.hid r1
        have HV3 := Lib.hid (HV2.out.step (c0 := 0) (fun x hx e => r2 x hx (by omega)) r3)
        have HK3 := Lib.hid (HK2.out.step (c0 := 0) (fun x hx e => r2 x hx (by omega)) r3)
        have hbw3 : w0.heap.size ≤ w3.heap.size := Nat.le_trans FS3.out.hb FS3.out.hN
        clear hown hgrow hat r1 r2 r3 FS2 HV2 HK2 ROW
        have ROW : Hid (w3.ownsRow w0.heap.size 3 1 _ ns'.length (ns'.map fun (m : Nat) => Value.int .i64 (m : Int))) := Lib.hid (by have := FS3.out.rN.own; rwa [List.length_map] at this)
        go_wp2_with (at_builtin; refine wpList_append_lies _ rfl _ _ 27 rfl w0.heap.size 3 iI _ 1 8 Tryz.underlying27 hi hi0 hi1 hi2 rfl (by decide) _ _ (ns'.map fun (m : Nat) => Value.int .i64 (m : Int)) rfl (World.ownsRow.alloc ROW.out _) ⟨w3.heap.size, 0, none⟩ 1 1 [(.int .i64 ((ws.length : Nat) : Int))] rfl rfl (World.news_of_block (heap_alloc_new w3 _)) (by simp [Value.oneCell']) (by decide) (by unfold maxLen; omega) (by omega) (by simp; omega) _ rfl ?_)
        intro gN capN w4 hown hgrow hat _
        obtain ⟨r1, r2, r3⟩ := FS3.out.appN hown hgrow (hat.imp_right fun q => by rw [q]; simp)
        have FS4 := Lib.hid r1
        have HV4 := Lib.hid (HV3.out.step (c0 := 3) (fun x hx e => r2 x hx (by omega)) r3)
        have HK4 := Lib.hid (HK3.out.step (c0 := 3) (fun x hx e => r2 x hx (by omega)) r3)
        clear hown hgrow hat r1 r2 r3 FS3 HV3 HK3 ROW
        go_wp2_with fail
        refine fx_l3 FS4 HV4 HK4 hwl (by omega) (Lib.hid ?_)
        intros
        rename_i N5 cl5 w5 FS5 HV5 HK5
        have FS6 := Lib.hid (FS5.out.settle (fun j => j < (cL' ++ [Value.slice a1 ws.length kc1]).length) (fun _ => 0) fun i x hi hx => by
          rw [List.length_append] at hi
          by_cases q : i < cL'.length
          · exact .inl ⟨q, Nat.le_refl _⟩
          · obtain rfl : i = cL'.length := by simp at hi; omega
            right
            simp only [List.getElem?_append_right (Nat.le_refl _), Nat.sub_self, List.getElem?_cons_zero, Option.some.injEq] at hx
            subst hx
            exact ⟨ws.length, 0, by rw [← HN.out]; simp, hwl, Nat.le_refl _, HV5.out⟩)
        clear FS5 HV5
        go_wp2_with fail
        exact ⟨⟨1, _, _, cL' ++ [Value.slice a1 ws.length kc1], cQ', cW', ns' ++ [ws.length], by go_num, by omega, FS6, HK5, by simp [HN.out], HQW.out, fun q => by omega, fun _ => ⟨by simp; omega, by omega⟩⟩, by simp [intOf]⟩
      · obtain ⟨hc1, hc2⟩ := h1 (by omega)
        have u2 : (0 : Int) < (j : Int) := by omega
        have hwb : cW'.length ≤ 1000 := by have := HQW.out; omega
        clear h0 h1
        obtain ⟨w, rfl⟩ : ∃ w, w = wr := ⟨_, rfl⟩
        have kt := KT.out w FS'.out.bel
        have C1 := Lib.hid (cut_const HA.out htz w (HLX.out.kept FS'.out.bel))
        have hbw : w0.heap.size ≤ w.heap.size := Nat.le_trans FS'.out.hb FS'.out.hN
        have hNw : N' ≤ w.heap.size := FS'.out.hN
        have u1 : (j : Int) < 3 := by omega
        go_wp2_with fail
        refine (C1.out).mono ?_
        rintro e w1 ⟨v1, rfl, b1, r1⟩
        obtain ⟨a1, kc1, rfl, A1, -⟩ := r1.at_
        have b1N := b1.mono hNw
        have hs1 : w.heap.size ≤ w1.heap.size := b1.size
        have FS1 := Lib.hid (FS'.out.kept 5 b1N)
        have HV1 : Hid (Wl w0.heap.size w1.heap.size (upc cl' N' 5) 5 w1 ws (.slice a1 ws.length kc1)) := Lib.hid ⟨r1.base hbw, Cls.later fun x hx => ⟨Nat.le_trans hNw (r1.lt x hx).1, (r1.lt x hx).2⟩⟩
        have HK1 := Lib.hid (HK'.out.step (c0 := 5) (fun x hx _ => b1N.block x hx) (Nat.le_trans hNw hs1))
        have C2 := Lib.hid (eq8_same ws w1 a1 a2 kc1 kc2 A1 HK1.out.at8.2)
        clear kt b1 r1 A1 b1N C1 FS' HK'
        go_wp2_with fail
        refine (C2.out).mono ?_
        rintro e w2 ⟨rfl, b2⟩
        have hs2 : w1.heap.size ≤ w2.heap.size := b2.size
        have FS2 := Lib.hid (FS1.out.kept 99 b2)
        have HV2 := Lib.hid (HV1.out.step (c0 := 99) (fun x hx _ => b2.block x hx) hs2)
        have HK2 := Lib.hid (HK1.out.step (c0 := 99) (fun x hx _ => b2.block x hx) hs2)
        clear b2 C2 FS1 HV1 HK1
        have ROW := Lib.hid FS2.out.rQ.own
        go_wp2_with (at_builtin; refine wpList_append_lies _ rfl _ _ 26 rfl w0.heap.size 28 iS _ 1 24 Tryz.underlying26 hs hs0 hs1_ hs2_ rfl (by decide) _ _ cQ' rfl (World.ownsRow.alloc ROW.out _) ⟨w2.heap.size, 0, none⟩ 1 1 [(.slice a1 ws.length kc1)] rfl rfl (World.news_of_block (heap_alloc_new w2 _)) (by simp [Value.oneCell']) (by decide) (by unfold maxLen; omega) (by omega) (by simp; omega) _ rfl ?_)
        intro gQ capQ w3 hown hgrow hat _
        obtain ⟨r1, r2, r3⟩ := FS2.out.appQ hown hgrow (hat.imp_right fun q => by rw [q]; simp) HQW.out
        have FS3 := Lib.hid r1
        have HV3 := Lib.hid (HV2.out.step (c0 := 1) (fun x hx e => r2 x hx (by omega)) r3)
        have HK3 := Lib.hid (HK2.out.step (c0 := 1) (fun x hx e => r2 x hx (by omega)) r3)
        have hbw3 : w0.heap.size ≤ w3.heap.size := Nat.le_trans FS3.out.hb FS3.out.hN
        clear hown hgrow hat r1 r2 r3 FS2 HV2 HK2 ROW
        have ROW := Lib.hid FS3.out.rW.own
        go_wp2_with (at_builtin; refine wpList_append_lies _ rfl _ _ 26 rfl w0.heap.size 28 iS _ 1 24 Tryz.underlying26 hs hs0 hs1_ hs2_ rfl (by decide) _ _ cW' rfl (World.ownsRow.alloc ROW.out _) ⟨w3.heap.size, 0, none⟩ 1 1 [(.slice a2 ws.length kc2)] rfl rfl (World.news_of_block (heap_alloc_new w3 _)) (by simp [Value.oneCell']) (by decide) (by unfold maxLen; omega) (by omega) (by simp; omega) _ rfl ?_)
        intro gW capW w4 hown hgrow hat _
        obtain ⟨r1, r2, r3⟩ := FS3.out.appW hown hgrow (hat.imp_right fun q => by rw [q]; simp) (by rw [HQW.out]; simp) HV3.out HK3.out
        have FS4 := Lib.hid r1
        have HK4 := Lib.hid (HK3.out.step (c0 := 2) (fun x hx e => r2 x hx (by omega)) r3)
        clear hown hgrow hat r1 r2 r3 FS3 HV3 HK3 ROW
        go_wp2_with fail
        exact ⟨⟨j + 1, _, _, cL', cQ' ++ [Value.slice a1 ws.length kc1], cW' ++ [Value.slice a2 ws.length kc2], ns', by go_num, by omega, FS4, HK4, HN.out, by simp [HQW.out], fun q => by omega, fun _ => ⟨by omega, by simp; omega⟩⟩, by simp [intOf]; omega⟩
    · obtain rfl : j = 3 := by omega
      obtain ⟨hc1, hc2⟩ := h1 (by omega)
      go_wp2_with fail
      exact hexit.out _ _ _ _ _ _ _ _ _ _ _ _ _ _ _ _ _ _ _ _ _ _ _ _ _ _ _ _ _ _ _ _ _ _ _ _ _ _ _ _ _ _ _ _ _ _ _ _ _ _ _ _ _ _ _ _ _ _ _ _ _ _ _ _ _ _ FS' HN.out HQW.out hc1 hc2
end Go.Proofs.YtikahfnlflhbfaaGreatDoor
