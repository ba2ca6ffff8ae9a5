/- CompParts: pieces of its walk: a kid's operations are where they are told to be; what stands between. -/
import Derived.Test.YtlmpiobdgkmmgaaGreatDoorKeB
import Derived.Test.YtlmpiobdgkmmgaaGreatDoorCrB
namespace Go.Proofs.YtlmpiobdgkmmgaaGreatDoor
open Go.RowKit Go.Lib

theorem blk_below9 {w w' : World} {X : Nat} {o : Obj} (b : Below w.heap.size w w') (h : w.heap[X]? = some o) : w'.heap[X]? = some o := (b.block X (lt_of_block h)).trans h
theorem CodeA.insRow {W : World} {b n k : Nat} {a : Option Addr} {vC : Value} {ps : List PI} {cs : List PV} (A : CodeA W b (.slice a n k) vC ps cs) (h0 : 0 < ps.length) : ∃ g off, a = some ⟨g, off, none⟩ ∧ ∀ (i : Nat) (p : PI), ps[i]? = some p → ∃ tv, InP W b g (off + i * 6) p tv := by
  obtain ⟨a', cap, e, r⟩ := A.iI
  injection e with e1 e2 e3
  subst e1
  exact r h0
theorem seg_lt {ps : List PI} : ∀ {r : Trees} {i s : Nat}, Seg ps r i s → s + 1 ≤ ps.length
  | .nil, _, _, h => Nat.le_of_eq h
  | .cons _ _ _, _, _, ⟨_, _, h, _⟩ => by omega
noncomputable def ptR (n : Nat) : Code := (regionB n ((Tryz.f5.body.map regionsB).getD [])).getD .skip
noncomputable def ptL (i : Nat) : Code := (((Tryz.f5.body.map loopsB).getD [])[i]?).getD .skip
set_option maxRecDepth 1000000 in
set_option maxHeartbeats 4000000 in
theorem pt_l1 {Q : Exit → Act → World → Prop} {W : World} {X Z ni L s g1 o1 k1 k3 b b' : Nat} {a3 : Option Addr} {vC vD : Value} {ps qs : List PI} {cs ds : List PV} {u0 u1 u2 u4 u5 u6 u7 u9 u11 u13 u14 u15 u16 u17 u18 u19 u20 u21 u22 u23 u24 u25 u26 u27 u28 u29 u30 u31 u32 u33 u34 u35 u36 u37 u38 u39 u40 u41 u42 u43 u44 u45 u46 u47 u48 u49 u50 u51 u52 u53 u54 u55 u56 u57 u58 u59 u60 u61 u62 u63 u64 u65 u66 u67 u68 u69 u70 u71 u72 u73 u74 u75 u76 u77 u78 u79 u80 u81 u82 u83 u84 u85 u86 u87 u88 u89 u90 u91 u92 u93 u94 u95 u96 u97 u98 u99 u100 u101 u102 u103 u104 u105 u106 u107 u108 u109 u110 u111 u112 u113 u114 u115 u116 u117 u118 u119 u120 u121 u122 u123 u124 u125 u126 u127 u128 u129 u130 u131 u132 u133 u134 u135 u136 u137 u138 u139 u140 u141 u142 u143 u144 u145 u146 u147 u148 u149 u150 u151 u152 u153 u154 u155 u156 u157 u158 u159 u160 u161 u162 u163 u164 u165 u166 u167 u168 u169 u170 u171 u172 u173 u174 u175 u176 u177 u178 u179 u180 u181 u182 u183 u184 u185 u186 u187 u188 u189 u190 u191 u192 u193 u194 u195 u196 u197 u198 u199 u200 u201 u202 u203 u204 u205 u206 u207 u208 u209 u210 u211 u212 u213 u214 u215 u216 u217 u218 u219 u220 u221 u222 u223 u224 u225 u226 u227 u228 u229 u230 u231 u232 u233 u234 : Value}
    (kX0 : W.cell? ⟨X, 0, none⟩ = some (.slice (some ⟨g1, o1, none⟩) ni k1)) (kZ0 : W.cell? ⟨Z, 0, none⟩ = some (.slice a3 L k3)) (lX : X < W.heap.size) (lZ : Z < W.heap.size)
    (A : Hid (CodeA W b (.slice (some ⟨g1, o1, none⟩) ni k1) vC ps cs)) (A' : Hid (CodeA W b' (.slice a3 L k3) vD qs ds)) (hb : b ≤ W.heap.size) (hb' : b' ≤ W.heap.size) (HNI : Hid (ps.length = ni)) (HL : Hid (qs.length = L)) (OA : Hid (OpsAt ps s qs)) (hsl : s + L < ni) (hnb : ni ≤ 1000000000)
    (hexit : Hid (∀ (v2 v76 v77 v78 v79 v80 v81 v82 v83 v84 v85 v86 v87 v88 v89 v90 v91 v92 v93 v94 v95 v96 v97 v98 v99 v100 v101 v102 v103 v104 v105 v106 v107 v108 : Value) (w' : World), Below W.heap.size W w' → Q (.exit 2) ⟨List.toArray (u0 :: u1 :: v2 :: (.pointer (some ⟨X, 0, none⟩)) :: u4 :: u5 :: u6 :: u7 :: (.int .i64 ((s : Int) + 1)) :: u9 :: (.pointer (some ⟨Z, 0, none⟩)) :: u11 :: (.int .i64 (L : Int)) :: u13 :: u14 :: u15 :: u16 :: u17 :: u18 :: u19 :: u20 :: u21 :: u22 :: u23 :: u24 :: u25 :: u26 :: u27 :: u28 :: u29 :: u30 :: u31 :: u32 :: u33 :: u34 :: u35 :: u36 :: u37 :: u38 :: u39 :: u40 :: u41 :: u42 :: u43 :: u44 :: u45 :: u46 :: u47 :: u48 :: u49 :: u50 :: u51 :: u52 :: u53 :: u54 :: u55 :: u56 :: u57 :: u58 :: u59 :: u60 :: u61 :: u62 :: u63 :: u64 :: u65 :: u66 :: u67 :: u68 :: u69 :: u70 :: u71 :: u72 :: u73 :: u74 :: u75 :: v76 :: v77 :: v78 :: v79 :: v80 :: v81 :: v82 :: v83 :: v84 :: v85 :: v86 :: v87 :: v88 :: v89 :: v90 :: v91 :: v92 :: v93 :: v94 :: v95 :: v96 :: v97 :: v98 :: v99 :: v100 :: v101 :: v102 :: v103 :: v104 :: v105 :: v106 :: v107 :: v108 :: u109 :: u110 :: u111 :: u112 :: u113 :: u114 :: u115 :: u116 :: u117 :: u118 :: u119 :: u120 :: u121 :: u122 :: u123 :: u124 :: u125 :: u126 :: u127 :: u128 :: u129 :: u130 :: u131 :: u132 :: u133 :: u134 :: u135 :: u136 :: u137 :: u138 :: u139 :: u140 :: u141 :: u142 :: u143 :: u144 :: u145 :: u146 :: u147 :: u148 :: u149 :: u150 :: u151 :: u152 :: u153 :: u154 :: u155 :: u156 :: u157 :: u158 :: u159 :: u160 :: u161 :: u162 :: u163 :: u164 :: u165 :: u166 :: u167 :: u168 :: u169 :: u170 :: u171 :: u172 :: u173 :: u174 :: u175 :: u176 :: u177 :: u178 :: u179 :: u180 :: u181 :: u182 :: u183 :: u184 :: u185 :: u186 :: u187 :: u188 :: u189 :: u190 :: u191 :: u192 :: u193 :: u194 :: u195 :: u196 :: u197 :: u198 :: u199 :: u200 :: u201 :: u202 :: u203 :: u204 :: u205 :: u206 :: u207 :: u208 :: u209 :: u210 :: u211 :: u212 :: u213 :: u214 :: u215 :: u216 :: u217 :: u218 :: u219 :: u220 :: u221 :: u222 :: u223 :: u224 :: u225 :: u226 :: u227 :: u228 :: u229 :: u230 :: u231 :: u232 :: u233 :: u234 :: []), []⟩ w')) :
    Code.wp Tryz.prog (Code.loop (ptL 1)) Q ⟨List.toArray (u0 :: u1 :: u2 :: (.pointer (some ⟨X, 0, none⟩)) :: u4 :: u5 :: u6 :: u7 :: (.int .i64 ((s : Int) + 1)) :: u9 :: (.pointer (some ⟨Z, 0, none⟩)) :: u11 :: (.int .i64 ((0 : Nat) : Int)) :: u13 :: u14 :: u15 :: u16 :: u17 :: u18 :: u19 :: u20 :: u21 :: u22 :: u23 :: u24 :: u25 :: u26 :: u27 :: u28 :: u29 :: u30 :: u31 :: u32 :: u33 :: u34 :: u35 :: u36 :: u37 :: u38 :: u39 :: u40 :: u41 :: u42 :: u43 :: u44 :: u45 :: u46 :: u47 :: u48 :: u49 :: u50 :: u51 :: u52 :: u53 :: u54 :: u55 :: u56 :: u57 :: u58 :: u59 :: u60 :: u61 :: u62 :: u63 :: u64 :: u65 :: u66 :: u67 :: u68 :: u69 :: u70 :: u71 :: u72 :: u73 :: u74 :: u75 :: u76 :: u77 :: u78 :: u79 :: u80 :: u81 :: u82 :: u83 :: u84 :: u85 :: u86 :: u87 :: u88 :: u89 :: u90 :: u91 :: u92 :: u93 :: u94 :: u95 :: u96 :: u97 :: u98 :: u99 :: u100 :: u101 :: u102 :: u103 :: u104 :: u105 :: u106 :: u107 :: u108 :: u109 :: u110 :: u111 :: u112 :: u113 :: u114 :: u115 :: u116 :: u117 :: u118 :: u119 :: u120 :: u121 :: u122 :: u123 :: u124 :: u125 :: u126 :: u127 :: u128 :: u129 :: u130 :: u131 :: u132 :: u133 :: u134 :: u135 :: u136 :: u137 :: u138 :: u139 :: u140 :: u141 :: u142 :: u143 :: u144 :: u145 :: u146 :: u147 :: u148 :: u149 :: u150 :: u151 :: u152 :: u153 :: u154 :: u155 :: u156 :: u157 :: u158 :: u159 :: u160 :: u161 :: u162 :: u163 :: u164 :: u165 :: u166 :: u167 :: u168 :: u169 :: u170 :: u171 :: u172 :: u173 :: u174 :: u175 :: u176 :: u177 :: u178 :: u179 :: u180 :: u181 :: u182 :: u183 :: u184 :: u185 :: u186 :: u187 :: u188 :: u189 :: u190 :: u191 :: u192 :: u193 :: u194 :: u195 :: u196 :: u197 :: u198 :: u199 :: u200 :: u201 :: u202 :: u203 :: u204 :: u205 :: u206 :: u207 :: u208 :: u209 :: u210 :: u211 :: u212 :: u213 :: u214 :: u215 :: u216 :: u217 :: u218 :: u219 :: u220 :: u221 :: u222 :: u223 :: u224 :: u225 :: u226 :: u227 :: u228 :: u229 :: u230 :: u231 :: u232 :: u233 :: u234 :: []), []⟩ W := by
  conv => arg 2; arg 1; whnf
  go_loopw [12] (fun kv wr => ∃ k : Nat, kv = .int .i64 (k : Int) ∧ k ≤ L ∧ Hid (Below W.heap.size W wr)) (fun kv _ => L - (RowKit.intOf kv).toNat)
  case atStart => exact ⟨0, rfl, Nat.zero_le _, Lib.hid (Below.refl _ _)⟩
  case round =>
    obtain ⟨k, rfl, hk, HC⟩ := hrel
    have x0 := HC.out.cell (p := ⟨X, 0, none⟩) (by show X < _; omega)
    have z0 := HC.out.cell (p := ⟨Z, 0, none⟩) (by show Z < _; omega)
    rw [kX0] at x0
    rw [kZ0] at z0
    have hxe : X < wr.heap.size := by have := HC.out.size; omega
    have hze : Z < wr.heap.size := by have := HC.out.size; omega
    have Ae := Lib.hid (A.out.kept (HC.out.mono hb))
    have Qe := Lib.hid (A'.out.kept (HC.out.mono hb'))
    have hsz := HC.out.size
    clear kX0 kZ0
    obtain ⟨g, o, e1, r1⟩ := Ae.out.insRow (by rw [HNI.out]; omega)
    injection e1 with e1
    injection e1 with e1 e2
    subst e1 e2
    by_cases hkl : k < L
    · obtain ⟨x, hx⟩ : ∃ x, qs[k]? = some x := ⟨_, List.getElem?_eq_getElem (by have := HL.out; omega)⟩
      obtain ⟨y, hy, hop⟩ := OA.out k x hx
      obtain ⟨g2, o2, rfl, r2⟩ := Qe.out.insRow (by have := HL.out; omega)
      obtain ⟨t1, P1⟩ := r1 (s + k) y hy
      obtain ⟨t2, P2⟩ := r2 k x hx
      have p0 := P1.c0; have q0 := P2.c0
      have hg1 : g1 < wr.heap.size := by have := P1.lt; omega
      have hg2 : g2 < wr.heap.size := by have := P2.lt; omega
      rw [hop] at p0
      obtain ⟨op, hop2⟩ : ∃ op, x.op = op := ⟨_, rfl⟩
      rw [hop2] at p0 q0
      clear r1 r2 hx hy hop P1 P2 hop2 Qe Ae
      have s1 : (s : Int) + 1 - 1 = (s : Int) := by omega
      have s2 : (s : Int) + (k : Int) < (ni : Int) := by omega
      have s3 : decide ((ni : Int) ≤ (s : Int) + (k : Int)) = false := by simp; omega
      go_wp2_with fail
      go_upto_region 22 with (fail)
      go_quiet (fail)
      go_wp2
      exact ⟨⟨k + 1, by go_num, by omega, Lib.hid (below_drewN HC.out)⟩, by simp [RowKit.intOf]; omega⟩
    · have hkL : k = L := by omega
      subst hkL
      clear r1 Ae Qe
      go_wp2
      exact hexit.out _ _ _ _ _ _ _ _ _ _ _ _ _ _ _ _ _ _ _ _ _ _ _ _ _ _ _ _ _ _ _ _ _ _ _ HC.out
set_option maxRecDepth 1000000 in
set_option maxHeartbeats 4000000 in
theorem pt_r26 {Q : Exit → Act → World → Prop} {W : World} {X ni q j g1 o1 k1 : Nat} {u0 u1 u2 u4 u5 u6 u7 u10 u11 u12 u13 u14 u15 u16 u17 u18 u19 u20 u21 u22 u23 u24 u25 u26 u27 u28 u29 u30 u31 u32 u33 u34 u35 u36 u37 u38 u39 u40 u41 u42 u43 u44 u45 u46 u47 u48 u49 u50 u51 u52 u53 u54 u55 u56 u57 u58 u59 u60 u61 u62 u63 u64 u65 u66 u67 u68 u69 u70 u71 u72 u73 u74 u75 u76 u77 u78 u79 u80 u81 u82 u83 u84 u85 u86 u87 u88 u89 u90 u91 u92 u93 u94 u95 u96 u97 u98 u99 u100 u101 u102 u103 u104 u105 u106 u107 u108 u109 u110 u111 u112 u113 u114 u115 u116 u117 u118 u119 u120 u121 u122 u123 u124 u125 u126 u127 u128 u129 u130 u131 u132 u133 u134 u135 u136 u137 u138 u139 u140 u141 u142 u143 u144 u145 u146 u147 u148 u149 u150 u151 u152 u153 u154 u155 u156 u157 u158 u159 u160 u161 u162 u163 u164 u165 u166 u167 u168 u169 u170 u171 u172 u173 u174 u175 u176 u177 u178 u179 u180 u181 u182 u183 u184 u185 u186 u187 u188 u189 u190 u191 u192 u193 u194 u195 u196 u197 u198 u199 u200 u201 u202 u203 u204 u205 u206 u207 u208 u209 u210 u211 u212 u213 u214 u215 u216 u217 u218 u219 u220 u221 u222 u223 u224 u225 u226 u227 u228 u229 u230 u231 u232 u233 u234 : Value}
    (kX0 : W.cell? ⟨X, 0, none⟩ = some (.slice (some ⟨g1, o1, none⟩) ni k1)) (_lX : X < W.heap.size) (_lg : g1 < W.heap.size) (p0 : W.cell? ⟨g1, o1 + q * 6, none⟩ = some (.int .i64 7)) (p1 : W.cell? ⟨g1, o1 + q * 6 + 1, none⟩ = some (.int .i64 (ni : Int))) (p2 : W.cell? ⟨g1, o1 + q * 6 + 2, none⟩ = some (.int .i64 (j : Int)))
    (hq : q < ni) (hnb : ni ≤ 1000000000)
    (hexit : Hid (∀ (v120 v121 v122 v123 v124 v125 v126 v127 v128 v129 v130 v131 v132 v133 v134 v135 v136 v137 v138 v139 v140 v141 v142 v143 v144 v145 v146 v147 v148 v149 v150 v151 v152 v153 v154 v155 v156 v157 v158 : Value) (n : Nat), Q .normal ⟨List.toArray (u0 :: u1 :: u2 :: (.pointer (some ⟨X, 0, none⟩)) :: u4 :: u5 :: u6 :: u7 :: (.int .i64 ((q : Int) + 1)) :: (.int .i64 (j : Int)) :: u10 :: u11 :: u12 :: u13 :: u14 :: u15 :: u16 :: u17 :: u18 :: u19 :: u20 :: u21 :: u22 :: u23 :: u24 :: u25 :: u26 :: u27 :: u28 :: u29 :: u30 :: u31 :: u32 :: u33 :: u34 :: u35 :: u36 :: u37 :: u38 :: u39 :: u40 :: u41 :: u42 :: u43 :: u44 :: u45 :: u46 :: u47 :: u48 :: u49 :: u50 :: u51 :: u52 :: u53 :: u54 :: u55 :: u56 :: u57 :: u58 :: u59 :: u60 :: u61 :: u62 :: u63 :: u64 :: u65 :: u66 :: u67 :: u68 :: u69 :: u70 :: u71 :: u72 :: u73 :: u74 :: u75 :: u76 :: u77 :: u78 :: u79 :: u80 :: u81 :: u82 :: u83 :: u84 :: u85 :: u86 :: u87 :: u88 :: u89 :: u90 :: u91 :: u92 :: u93 :: u94 :: u95 :: u96 :: u97 :: u98 :: u99 :: u100 :: u101 :: u102 :: u103 :: u104 :: u105 :: u106 :: u107 :: u108 :: u109 :: u110 :: u111 :: u112 :: u113 :: u114 :: u115 :: u116 :: u117 :: u118 :: u119 :: v120 :: v121 :: v122 :: v123 :: v124 :: v125 :: v126 :: v127 :: v128 :: v129 :: v130 :: v131 :: v132 :: v133 :: v134 :: v135 :: v136 :: v137 :: v138 :: v139 :: v140 :: v141 :: v142 :: v143 :: v144 :: v145 :: v146 :: v147 :: v148 :: v149 :: v150 :: v151 :: v152 :: v153 :: v154 :: v155 :: v156 :: v157 :: v158 :: (.bool false) :: u160 :: u161 :: u162 :: u163 :: u164 :: u165 :: u166 :: u167 :: u168 :: u169 :: u170 :: u171 :: u172 :: u173 :: u174 :: u175 :: u176 :: u177 :: u178 :: u179 :: u180 :: u181 :: u182 :: u183 :: u184 :: u185 :: u186 :: u187 :: u188 :: u189 :: u190 :: u191 :: u192 :: u193 :: u194 :: u195 :: u196 :: u197 :: u198 :: u199 :: u200 :: u201 :: u202 :: u203 :: u204 :: u205 :: u206 :: u207 :: u208 :: u209 :: u210 :: u211 :: u212 :: u213 :: u214 :: u215 :: u216 :: u217 :: u218 :: u219 :: u220 :: u221 :: u222 :: u223 :: u224 :: u225 :: u226 :: u227 :: u228 :: u229 :: u230 :: u231 :: u232 :: u233 :: u234 :: []), []⟩ (W.drewN n))) :
    Code.wp Tryz.prog (ptR 26) Q ⟨List.toArray (u0 :: u1 :: u2 :: (.pointer (some ⟨X, 0, none⟩)) :: u4 :: u5 :: u6 :: u7 :: (.int .i64 ((q : Int) + 1)) :: (.int .i64 (j : Int)) :: u10 :: u11 :: u12 :: u13 :: u14 :: u15 :: u16 :: u17 :: u18 :: u19 :: u20 :: u21 :: u22 :: u23 :: u24 :: u25 :: u26 :: u27 :: u28 :: u29 :: u30 :: u31 :: u32 :: u33 :: u34 :: u35 :: u36 :: u37 :: u38 :: u39 :: u40 :: u41 :: u42 :: u43 :: u44 :: u45 :: u46 :: u47 :: u48 :: u49 :: u50 :: u51 :: u52 :: u53 :: u54 :: u55 :: u56 :: u57 :: u58 :: u59 :: u60 :: u61 :: u62 :: u63 :: u64 :: u65 :: u66 :: u67 :: u68 :: u69 :: u70 :: u71 :: u72 :: u73 :: u74 :: u75 :: u76 :: u77 :: u78 :: u79 :: u80 :: u81 :: u82 :: u83 :: u84 :: u85 :: u86 :: u87 :: u88 :: u89 :: u90 :: u91 :: u92 :: u93 :: u94 :: u95 :: u96 :: u97 :: u98 :: u99 :: u100 :: u101 :: u102 :: u103 :: u104 :: u105 :: u106 :: u107 :: u108 :: u109 :: u110 :: u111 :: u112 :: u113 :: u114 :: u115 :: u116 :: u117 :: u118 :: u119 :: u120 :: u121 :: u122 :: u123 :: u124 :: u125 :: u126 :: u127 :: u128 :: u129 :: u130 :: u131 :: u132 :: u133 :: u134 :: u135 :: u136 :: u137 :: u138 :: u139 :: u140 :: u141 :: u142 :: u143 :: u144 :: u145 :: u146 :: u147 :: u148 :: u149 :: u150 :: u151 :: u152 :: u153 :: u154 :: u155 :: u156 :: u157 :: u158 :: u159 :: u160 :: u161 :: u162 :: u163 :: u164 :: u165 :: u166 :: u167 :: u168 :: u169 :: u170 :: u171 :: u172 :: u173 :: u174 :: u175 :: u176 :: u177 :: u178 :: u179 :: u180 :: u181 :: u182 :: u183 :: u184 :: u185 :: u186 :: u187 :: u188 :: u189 :: u190 :: u191 :: u192 :: u193 :: u194 :: u195 :: u196 :: u197 :: u198 :: u199 :: u200 :: u201 :: u202 :: u203 :: u204 :: u205 :: u206 :: u207 :: u208 :: u209 :: u210 :: u211 :: u212 :: u213 :: u214 :: u215 :: u216 :: u217 :: u218 :: u219 :: u220 :: u221 :: u222 :: u223 :: u224 :: u225 :: u226 :: u227 :: u228 :: u229 :: u230 :: u231 :: u232 :: u233 :: u234 :: []), []⟩ W := by
  conv => arg 2; whnf
  have s2 : (q : Int) < (ni : Int) := by omega
  have s3 : decide (ni ≤ q) = false := by simp; omega
  have s8 : ¬ ni ≤ q := by omega
  have s4 : (q : Int) + 1 - 1 = (q : Int) := by omega
  have s7 : IntKind.i64.wrap (q : Int) = (q : Int) := IntWalk.i64_in _ (by omega)
  go_quiet (fail)
  go_wp2
  exact hexit.out _ _ _ _ _ _ _ _ _ _ _ _ _ _ _ _ _ _ _ _ _ _ _ _ _ _ _ _ _ _ _ _ _ _ _ _ _ _ _ _
end Go.Proofs.YtlmpiobdgkmmgaaGreatDoor
