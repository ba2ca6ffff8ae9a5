/- LexPlaces: pieces of a round as theorems of their own (over letters for the frame). -/
import Derived.Test.YtikahfnlflhbfaaDoorLxPl
import Derived.IntWalk
import Derived.Deep.CutRange
namespace Go.Proofs.YtikahfnlflhbfaaDoor
open Go.RowKit Go.Lib

def condsIn (n : Nat) : Code → List Code
  | .cond (.tmp k) a b => (if k == n then [.cond (.tmp k) a b] else []) ++ condsIn n a ++ condsIn n b
  | .cond _ a b => condsIn n a ++ condsIn n b
  | .loop c => condsIn n c
  | .seq a b => condsIn n a ++ condsIn n b
  | .block _ c => condsIn n c
  | .scope c => condsIn n c
  | _ => []
def regionsIn8 (n : Nat) : Code → List Code
  | .region i o b => if i == n then [.region i o b] else []
  | .cond _ a b => regionsIn8 n a ++ regionsIn8 n b
  | .loop c => regionsIn8 n c
  | .seq a b => regionsIn8 n a ++ regionsIn8 n b
  | .block _ c => regionsIn8 n c
  | .scope c => regionsIn8 n c
  | _ => []
noncomputable def lpC : Code := ((Tryd.f4.body.map (condsIn 225)).getD []).headD .skip
noncomputable def lpR : Code := ((Tryd.f4.body.map (regionsIn8 31)).getD []).headD .skip
set_option maxRecDepth 1000000 in
set_option maxHeartbeats 16000000 in
theorem lp_c1 {Q : Exit → Act → World → Prop} {W : World} {s T : ByteArray} {ws rest' : List WordL} {k a n b off kc2 B : Nat} {u1 u2 u4 u5 u6 u7 u8 u9 u12 u13 u14 u15 u16 u17 u18 u19 u20 u21 u22 u23 u24 u25 u26 u27 u28 u29 u30 u31 u32 u33 u34 u35 u36 u37 u38 u39 u40 u41 u42 u43 u44 u45 u46 u47 u48 u49 u50 u51 u52 u53 u54 u55 u56 u57 u58 u59 u60 u61 u62 u63 u64 u65 u66 u67 u68 u69 u70 u71 u72 u73 u74 u75 u76 u77 u78 u79 u80 u81 u82 u83 u84 u85 u86 u87 u88 u89 u90 u91 u92 u93 u94 u95 u96 u97 u98 u99 u100 u101 u102 u103 u104 u105 u106 u107 u108 u109 u110 u111 u112 u113 u114 u115 u116 u117 u118 u119 u120 u121 u122 u123 u124 u125 u126 u127 u128 u129 u130 u131 u132 u133 u134 u135 u136 u137 u138 u139 u140 u141 u142 u143 u144 u145 u146 u147 u148 u149 u150 u151 u152 u153 u154 u155 u156 u157 u158 u159 u160 u161 u162 u163 u164 u165 u166 u167 u168 u169 u170 u171 u172 u173 u174 u175 u176 u177 u178 u179 u180 u181 u182 u183 u184 u185 u186 u187 u188 u189 u190 u191 u192 u193 u194 u195 u196 u197 u198 u199 u200 u201 u202 u203 u204 u205 u206 u207 u208 u209 u210 u211 u212 u213 u214 u215 u216 u217 u218 u219 u220 u221 u222 u223 u224 u226 u227 u228 u229 u230 u231 u232 u233 u234 u235 u236 u237 u238 u239 u240 u241 u242 u243 u244 u245 u246 u247 u248 u249 u250 u251 u252 u253 u254 u255 u256 u257 u258 u259 u260 u261 u262 u263 u264 u265 u266 u267 u268 u269 u270 u271 u272 u273 : Value}
    (HLN : Hid (s.data.toList.length = s.size)) (hmax : s.size ≤ 9223372036854775807) (hws : ws.length ≤ 9223372036854775807) (hlt : k < ws.length) (HR2 : Hid (ws.drop (k + 1) = rest')) (HC2 : Hid (Chain s.data.toList (a + n) rest')) (h5 : a + n ≤ s.size) (h6 : 1 ≤ n) (HL5 : Hid (∀ hj : a + n - 1 < s.size, blankB s[a + n - 1] = false))
    (bx : Hid (∀ o, W.cell? ⟨B, o, none⟩ = (#[.int .i64 1, .string T, .int .i64 (a : Int)] : Array Value)[o]?)) (HW : Hid (∀ y, ws[k + 1]? = some y → W.cell? ⟨b, off + (k + 1) * 3 + 2, none⟩ = some (.int .i64 y.at_)))
    (hexit : Hid (∀ (v14 v226 v227 v228 v229 v230 v231 v232 v233 v234 v235 v236 v237 v238 v239 v240 v241 v242 v243 v244 v245 v246 v247 v248 v249 v250 v251 v252 v253 v254 v255 v256 v257 v258 v259 v260 v261 v262 v263 v264 v265 v266 v267 v268 v269 v270 v271 v272 v273 : Value), Q .normal ⟨List.toArray ((.string s) :: u1 :: u2 :: (.slice (some ⟨b, off, none⟩) ws.length kc2) :: u4 :: u5 :: u6 :: u7 :: u8 :: (.int .i64 ((a + n : Nat) : Int)) :: (.int .i64 (k : Int)) :: (.pointer (some ⟨B, 0, none⟩)) :: u12 :: u13 :: v14 :: u15 :: u16 :: u17 :: u18 :: u19 :: u20 :: u21 :: u22 :: u23 :: u24 :: u25 :: u26 :: u27 :: u28 :: u29 :: u30 :: u31 :: u32 :: u33 :: u34 :: u35 :: u36 :: u37 :: u38 :: u39 :: u40 :: u41 :: u42 :: u43 :: u44 :: u45 :: u46 :: u47 :: u48 :: u49 :: u50 :: u51 :: u52 :: u53 :: u54 :: u55 :: u56 :: u57 :: u58 :: u59 :: u60 :: u61 :: u62 :: u63 :: u64 :: u65 :: u66 :: u67 :: u68 :: u69 :: u70 :: u71 :: u72 :: u73 :: u74 :: u75 :: u76 :: u77 :: u78 :: u79 :: u80 :: u81 :: u82 :: u83 :: u84 :: u85 :: u86 :: u87 :: u88 :: u89 :: u90 :: u91 :: u92 :: u93 :: u94 :: u95 :: u96 :: u97 :: u98 :: u99 :: u100 :: u101 :: u102 :: u103 :: u104 :: u105 :: u106 :: u107 :: u108 :: u109 :: u110 :: u111 :: u112 :: u113 :: u114 :: u115 :: u116 :: u117 :: u118 :: u119 :: u120 :: u121 :: u122 :: u123 :: u124 :: u125 :: u126 :: u127 :: u128 :: u129 :: u130 :: u131 :: u132 :: u133 :: u134 :: u135 :: u136 :: u137 :: u138 :: u139 :: u140 :: u141 :: u142 :: u143 :: u144 :: u145 :: u146 :: u147 :: u148 :: u149 :: u150 :: u151 :: u152 :: u153 :: u154 :: u155 :: u156 :: u157 :: u158 :: u159 :: u160 :: u161 :: u162 :: u163 :: u164 :: u165 :: u166 :: u167 :: u168 :: u169 :: u170 :: u171 :: u172 :: u173 :: u174 :: u175 :: u176 :: u177 :: u178 :: u179 :: u180 :: u181 :: u182 :: u183 :: u184 :: u185 :: u186 :: u187 :: u188 :: u189 :: u190 :: u191 :: u192 :: u193 :: u194 :: u195 :: u196 :: u197 :: u198 :: u199 :: u200 :: u201 :: u202 :: u203 :: u204 :: u205 :: u206 :: u207 :: u208 :: u209 :: u210 :: u211 :: u212 :: u213 :: u214 :: u215 :: u216 :: u217 :: u218 :: u219 :: u220 :: u221 :: u222 :: u223 :: u224 :: (.bool true) :: v226 :: v227 :: v228 :: v229 :: v230 :: v231 :: v232 :: v233 :: v234 :: v235 :: v236 :: v237 :: v238 :: v239 :: v240 :: v241 :: v242 :: v243 :: v244 :: v245 :: v246 :: v247 :: v248 :: v249 :: v250 :: v251 :: v252 :: v253 :: v254 :: v255 :: v256 :: v257 :: v258 :: v259 :: v260 :: v261 :: v262 :: v263 :: v264 :: v265 :: v266 :: v267 :: v268 :: v269 :: v270 :: v271 :: v272 :: v273 :: []), []⟩ W)) :
    Code.wp Tryd.prog lpC Q ⟨List.toArray ((.string s) :: u1 :: u2 :: (.slice (some ⟨b, off, none⟩) ws.length kc2) :: u4 :: u5 :: u6 :: u7 :: u8 :: u9 :: (.int .i64 (k : Int)) :: (.pointer (some ⟨B, 0, none⟩)) :: u12 :: u13 :: u14 :: u15 :: u16 :: u17 :: u18 :: u19 :: u20 :: u21 :: u22 :: u23 :: u24 :: u25 :: u26 :: u27 :: u28 :: u29 :: u30 :: u31 :: u32 :: u33 :: u34 :: u35 :: u36 :: u37 :: u38 :: u39 :: u40 :: u41 :: u42 :: u43 :: u44 :: u45 :: u46 :: u47 :: u48 :: u49 :: u50 :: u51 :: u52 :: u53 :: u54 :: u55 :: u56 :: u57 :: u58 :: u59 :: u60 :: u61 :: u62 :: u63 :: u64 :: u65 :: u66 :: u67 :: u68 :: u69 :: u70 :: u71 :: u72 :: u73 :: u74 :: u75 :: u76 :: u77 :: u78 :: u79 :: u80 :: u81 :: u82 :: u83 :: u84 :: u85 :: u86 :: u87 :: u88 :: u89 :: u90 :: u91 :: u92 :: u93 :: u94 :: u95 :: u96 :: u97 :: u98 :: u99 :: u100 :: u101 :: u102 :: u103 :: u104 :: u105 :: u106 :: u107 :: u108 :: u109 :: u110 :: u111 :: u112 :: u113 :: u114 :: u115 :: u116 :: u117 :: u118 :: u119 :: u120 :: u121 :: u122 :: u123 :: u124 :: u125 :: u126 :: u127 :: u128 :: u129 :: u130 :: u131 :: u132 :: u133 :: u134 :: u135 :: u136 :: u137 :: u138 :: u139 :: u140 :: u141 :: u142 :: u143 :: u144 :: u145 :: u146 :: u147 :: u148 :: u149 :: u150 :: u151 :: u152 :: u153 :: u154 :: u155 :: u156 :: u157 :: u158 :: u159 :: u160 :: u161 :: u162 :: u163 :: u164 :: u165 :: u166 :: u167 :: u168 :: u169 :: u170 :: u171 :: u172 :: u173 :: u174 :: u175 :: u176 :: u177 :: u178 :: u179 :: u180 :: u181 :: u182 :: u183 :: u184 :: u185 :: u186 :: u187 :: u188 :: u189 :: u190 :: u191 :: u192 :: u193 :: u194 :: u195 :: u196 :: u197 :: u198 :: u199 :: u200 :: u201 :: u202 :: u203 :: u204 :: u205 :: u206 :: u207 :: u208 :: u209 :: u210 :: u211 :: u212 :: u213 :: u214 :: u215 :: u216 :: u217 :: u218 :: u219 :: u220 :: u221 :: u222 :: u223 :: u224 :: (.bool true) :: u226 :: u227 :: u228 :: u229 :: u230 :: u231 :: u232 :: u233 :: u234 :: u235 :: u236 :: u237 :: u238 :: u239 :: u240 :: u241 :: u242 :: u243 :: u244 :: u245 :: u246 :: u247 :: u248 :: u249 :: u250 :: u251 :: u252 :: u253 :: u254 :: u255 :: u256 :: u257 :: u258 :: u259 :: u260 :: u261 :: u262 :: u263 :: u264 :: u265 :: u266 :: u267 :: u268 :: u269 :: u270 :: u271 :: u272 :: u273 :: []), []⟩ W := by
  conv => arg 2; whnf
  have d0 := bx.out 0
  have d2' := bx.out 2
  simp only [List.getElem?_toArray, List.getElem?_cons_zero, List.getElem?_cons_succ] at d0 d2'
  obtain ⟨p1, p2, p3⟩ := chain_gap HC2.out
  rw [HLN.out] at p2
  obtain ⟨nx, hnx⟩ : ∃ nx, nx = gapEnd s.data.toList rest' := ⟨_, rfl⟩
  rw [← hnx] at p1 p2 p3
  have H5 : Hid (∀ (j : Nat) (hj : j < s.size), a + n ≤ j → j < nx → blankB s[j] = true) := Lib.hid fun j hj g1 g2 => p3 j _ g1 g2 (get8 hj)
  have HNX := Lib.hid hnx
  clear hnx p3
  go_upto_if 232 with (fail)
  go_cut [14] from 226 (fun v W' => v = .int .i64 (nx : Int) ∧ W' = W)
  case first =>
    cases hrc : rest' with
    | nil =>
      have e1 : (s.size : Int) = (nx : Int) := by rw [HNX.out, hrc]; show (s.size : Int) = ((s.data.toList.length : Nat) : Int); rw [HLN.out]
      have hwl : ws.length = k + 1 := by
        have := congrArg List.length HR2.out
        rw [hrc, List.length_drop, List.length_nil] at this
        omega
      have w1 : decide ((k : Int) + 1 < (ws.length : Int)) = false := by simp; omega
      have w2 : ¬ ((k : Int) + 1 < (ws.length : Int)) := by omega
      have HE1 := Lib.hid e1
      clear hwl e1
      go_wp2_with fail
      go_meet
      case rel => exact ⟨by rw [HE1.out], rfl⟩
    | cons y r =>
      have hHR2 := HR2.out
      rw [hrc] at hHR2
      obtain ⟨hyk, -⟩ := drop_step hHR2
      have hk1 : k + 1 < ws.length := (List.getElem?_eq_some_iff.1 hyk).1
      have hya : y.at_ = (nx : Int) := by
        have hc := HC2.out
        rw [hrc] at hc
        obtain ⟨a', n', g1, -⟩ := hc
        rw [HNX.out, hrc]
        show y.at_ = ((y.at_.toNat : Nat) : Int)
        rw [g1]; rfl
      have d2 := HW.out y hyk
      rw [hya] at d2
      have w1 : decide ((k : Int) + 1 < (ws.length : Int)) = true := by simp; omega
      have w2 : (k : Int) + 1 < (ws.length : Int) := by omega
      have w4 : ((k : Int) + 1).toNat = k + 1 := by omega
      clear hHR2 hyk hya
      go_wp2_with fail
      go_meet
      case rel => exact ⟨by go_num, rfl⟩
  case rest =>
    obtain ⟨rfl, hwc⟩ := hcut
    obtain rfl := hwc.symm
    clear hwc
    have hz0 : nx < 9223372036854775808 := by omega
    go_wp2_with fail
    go_loop [9] (fun ev => ∃ j : Nat, ev = .int .i64 j ∧ a + n ≤ j ∧ j ≤ nx) (fun ev => (intOf ev).toNat)
    case atStart => exact ⟨nx, rfl, p1, Nat.le_refl _⟩
    case round =>
      obtain ⟨j, rfl, hj1, hj2⟩ := hrel
      have u1 : IntKind.i64.wrap ((j : Int) - 1) = (j : Int) - 1 := IntWalk.i64_in _ (by omega)
      have u2 : (0 : Int) ≤ (j : Int) - 1 := by omega
      have u3 : ((j : Int) - 1).toNat = j - 1 := by omega
      have u4 : decide (a < j) = true := by simp; omega
      have u5 : (a : Int) < (j : Int) := by omega
      have u6 : j - 1 < s.size := by omega
      by_cases hja : a + n < j
      · have HB := Lib.hid (H5.out (j - 1) u6 (by omega) (by omega))
        go_wp2_with (go_at_call 9; refine (lawBlank8_any _ _ HB _).mono ?_; rintro e w' ⟨rfl, rfl⟩)
        go_round
        case rel => exact ⟨j - 1, by go_num, by omega, by omega⟩
        case measure => simp [intOf]; omega
      · obtain rfl : j = a + n := by omega
        have HB := Lib.hid (HL5.out u6)
        go_wp2_with (go_at_call 9; refine (lawBlank8_any _ _ HB _).mono ?_; rintro e w' ⟨rfl, rfl⟩)
        exact hexit.out _ _ _ _ _ _ _ _ _ _ _ _ _ _ _ _ _ _ _ _ _ _ _ _ _ _ _ _ _ _ _ _ _ _ _ _ _ _ _ _ _ _ _ _ _ _ _ _ _ 
set_option maxRecDepth 1000000 in
set_option maxHeartbeats 16000000 in
theorem lp_c2 {Q : Exit → Act → World → Prop} {W : World} {s T : ByteArray} {ws rest' : List WordL} {k a n b off kc2 B : Nat} {u1 u2 u4 u5 u6 u7 u8 u9 u12 u13 u14 u15 u16 u17 u18 u19 u20 u21 u22 u23 u24 u25 u26 u27 u28 u29 u30 u31 u32 u33 u34 u35 u36 u37 u38 u39 u40 u41 u42 u43 u44 u45 u46 u47 u48 u49 u50 u51 u52 u53 u54 u55 u56 u57 u58 u59 u60 u61 u62 u63 u64 u65 u66 u67 u68 u69 u70 u71 u72 u73 u74 u75 u76 u77 u78 u79 u80 u81 u82 u83 u84 u85 u86 u87 u88 u89 u90 u91 u92 u93 u94 u95 u96 u97 u98 u99 u100 u101 u102 u103 u104 u105 u106 u107 u108 u109 u110 u111 u112 u113 u114 u115 u116 u117 u118 u119 u120 u121 u122 u123 u124 u125 u126 u127 u128 u129 u130 u131 u132 u133 u134 u135 u136 u137 u138 u139 u140 u141 u142 u143 u144 u145 u146 u147 u148 u149 u150 u151 u152 u153 u154 u155 u156 u157 u158 u159 u160 u161 u162 u163 u164 u165 u166 u167 u168 u169 u170 u171 u172 u173 u174 u175 u176 u177 u178 u179 u180 u181 u182 u183 u184 u185 u186 u187 u188 u189 u190 u191 u192 u193 u194 u195 u196 u197 u198 u199 u200 u201 u202 u203 u204 u205 u206 u207 u208 u209 u210 u211 u212 u213 u214 u215 u216 u217 u218 u219 u220 u221 u222 u223 u224 u226 u227 u228 u229 u230 u231 u232 u233 u234 u235 u236 u237 u238 u239 u240 u241 u242 u243 u244 u245 u246 u247 u248 u249 u250 u251 u252 u253 u254 u255 u256 u257 u258 u259 u260 u261 u262 u263 u264 u265 u266 u267 u268 u269 u270 u271 u272 u273 : Value}
    (HLN : Hid (s.data.toList.length = s.size)) (hmax : s.size ≤ 9223372036854775807) (hws : ws.length ≤ 9223372036854775807) (hlt : k < ws.length) (HR2 : Hid (ws.drop (k + 1) = rest')) (HC2 : Hid (Chain s.data.toList (a + n) rest')) (h5 : a + n ≤ s.size) (h6 : 1 ≤ n) (HL5 : Hid (∀ hj : a + n - 1 < s.size, s[a + n - 1] = 34))
    (bx : Hid (∀ o, W.cell? ⟨B, o, none⟩ = (#[.int .i64 2, .string T, .int .i64 (a : Int)] : Array Value)[o]?)) (HW : Hid (∀ y, ws[k + 1]? = some y → W.cell? ⟨b, off + (k + 1) * 3 + 2, none⟩ = some (.int .i64 y.at_)))
    (hexit : Hid (∀ (v14 v226 v227 v228 v229 v230 v231 v232 v233 v234 v235 v236 v237 v238 v239 v240 v241 v242 v243 v244 v245 v246 v247 v248 v249 v250 v251 v252 v253 v254 v255 v256 v257 v258 v259 v260 v261 v262 v263 v264 v265 v266 v267 v268 v269 v270 v271 v272 v273 : Value), Q .normal ⟨List.toArray ((.string s) :: u1 :: u2 :: (.slice (some ⟨b, off, none⟩) ws.length kc2) :: u4 :: u5 :: u6 :: u7 :: u8 :: (.int .i64 ((a + n : Nat) : Int)) :: (.int .i64 (k : Int)) :: (.pointer (some ⟨B, 0, none⟩)) :: u12 :: u13 :: v14 :: u15 :: u16 :: u17 :: u18 :: u19 :: u20 :: u21 :: u22 :: u23 :: u24 :: u25 :: u26 :: u27 :: u28 :: u29 :: u30 :: u31 :: u32 :: u33 :: u34 :: u35 :: u36 :: u37 :: u38 :: u39 :: u40 :: u41 :: u42 :: u43 :: u44 :: u45 :: u46 :: u47 :: u48 :: u49 :: u50 :: u51 :: u52 :: u53 :: u54 :: u55 :: u56 :: u57 :: u58 :: u59 :: u60 :: u61 :: u62 :: u63 :: u64 :: u65 :: u66 :: u67 :: u68 :: u69 :: u70 :: u71 :: u72 :: u73 :: u74 :: u75 :: u76 :: u77 :: u78 :: u79 :: u80 :: u81 :: u82 :: u83 :: u84 :: u85 :: u86 :: u87 :: u88 :: u89 :: u90 :: u91 :: u92 :: u93 :: u94 :: u95 :: u96 :: u97 :: u98 :: u99 :: u100 :: u101 :: u102 :: u103 :: u104 :: u105 :: u106 :: u107 :: u108 :: u109 :: u110 :: u111 :: u112 :: u113 :: u114 :: u115 :: u116 :: u117 :: u118 :: u119 :: u120 :: u121 :: u122 :: u123 :: u124 :: u125 :: u126 :: u127 :: u128 :: u129 :: u130 :: u131 :: u132 :: u133 :: u134 :: u135 :: u136 :: u137 :: u138 :: u139 :: u140 :: u141 :: u142 :: u143 :: u144 :: u145 :: u146 :: u147 :: u148 :: u149 :: u150 :: u151 :: u152 :: u153 :: u154 :: u155 :: u156 :: u157 :: u158 :: u159 :: u160 :: u161 :: u162 :: u163 :: u164 :: u165 :: u166 :: u167 :: u168 :: u169 :: u170 :: u171 :: u172 :: u173 :: u174 :: u175 :: u176 :: u177 :: u178 :: u179 :: u180 :: u181 :: u182 :: u183 :: u184 :: u185 :: u186 :: u187 :: u188 :: u189 :: u190 :: u191 :: u192 :: u193 :: u194 :: u195 :: u196 :: u197 :: u198 :: u199 :: u200 :: u201 :: u202 :: u203 :: u204 :: u205 :: u206 :: u207 :: u208 :: u209 :: u210 :: u211 :: u212 :: u213 :: u214 :: u215 :: u216 :: u217 :: u218 :: u219 :: u220 :: u221 :: u222 :: u223 :: u224 :: (.bool true) :: v226 :: v227 :: v228 :: v229 :: v230 :: v231 :: v232 :: v233 :: v234 :: v235 :: v236 :: v237 :: v238 :: v239 :: v240 :: v241 :: v242 :: v243 :: v244 :: v245 :: v246 :: v247 :: v248 :: v249 :: v250 :: v251 :: v252 :: v253 :: v254 :: v255 :: v256 :: v257 :: v258 :: v259 :: v260 :: v261 :: v262 :: v263 :: v264 :: v265 :: v266 :: v267 :: v268 :: v269 :: v270 :: v271 :: v272 :: v273 :: []), []⟩ W)) :
    Code.wp Tryd.prog lpC Q ⟨List.toArray ((.string s) :: u1 :: u2 :: (.slice (some ⟨b, off, none⟩) ws.length kc2) :: u4 :: u5 :: u6 :: u7 :: u8 :: u9 :: (.int .i64 (k : Int)) :: (.pointer (some ⟨B, 0, none⟩)) :: u12 :: u13 :: u14 :: u15 :: u16 :: u17 :: u18 :: u19 :: u20 :: u21 :: u22 :: u23 :: u24 :: u25 :: u26 :: u27 :: u28 :: u29 :: u30 :: u31 :: u32 :: u33 :: u34 :: u35 :: u36 :: u37 :: u38 :: u39 :: u40 :: u41 :: u42 :: u43 :: u44 :: u45 :: u46 :: u47 :: u48 :: u49 :: u50 :: u51 :: u52 :: u53 :: u54 :: u55 :: u56 :: u57 :: u58 :: u59 :: u60 :: u61 :: u62 :: u63 :: u64 :: u65 :: u66 :: u67 :: u68 :: u69 :: u70 :: u71 :: u72 :: u73 :: u74 :: u75 :: u76 :: u77 :: u78 :: u79 :: u80 :: u81 :: u82 :: u83 :: u84 :: u85 :: u86 :: u87 :: u88 :: u89 :: u90 :: u91 :: u92 :: u93 :: u94 :: u95 :: u96 :: u97 :: u98 :: u99 :: u100 :: u101 :: u102 :: u103 :: u104 :: u105 :: u106 :: u107 :: u108 :: u109 :: u110 :: u111 :: u112 :: u113 :: u114 :: u115 :: u116 :: u117 :: u118 :: u119 :: u120 :: u121 :: u122 :: u123 :: u124 :: u125 :: u126 :: u127 :: u128 :: u129 :: u130 :: u131 :: u132 :: u133 :: u134 :: u135 :: u136 :: u137 :: u138 :: u139 :: u140 :: u141 :: u142 :: u143 :: u144 :: u145 :: u146 :: u147 :: u148 :: u149 :: u150 :: u151 :: u152 :: u153 :: u154 :: u155 :: u156 :: u157 :: u158 :: u159 :: u160 :: u161 :: u162 :: u163 :: u164 :: u165 :: u166 :: u167 :: u168 :: u169 :: u170 :: u171 :: u172 :: u173 :: u174 :: u175 :: u176 :: u177 :: u178 :: u179 :: u180 :: u181 :: u182 :: u183 :: u184 :: u185 :: u186 :: u187 :: u188 :: u189 :: u190 :: u191 :: u192 :: u193 :: u194 :: u195 :: u196 :: u197 :: u198 :: u199 :: u200 :: u201 :: u202 :: u203 :: u204 :: u205 :: u206 :: u207 :: u208 :: u209 :: u210 :: u211 :: u212 :: u213 :: u214 :: u215 :: u216 :: u217 :: u218 :: u219 :: u220 :: u221 :: u222 :: u223 :: u224 :: (.bool true) :: u226 :: u227 :: u228 :: u229 :: u230 :: u231 :: u232 :: u233 :: u234 :: u235 :: u236 :: u237 :: u238 :: u239 :: u240 :: u241 :: u242 :: u243 :: u244 :: u245 :: u246 :: u247 :: u248 :: u249 :: u250 :: u251 :: u252 :: u253 :: u254 :: u255 :: u256 :: u257 :: u258 :: u259 :: u260 :: u261 :: u262 :: u263 :: u264 :: u265 :: u266 :: u267 :: u268 :: u269 :: u270 :: u271 :: u272 :: u273 :: []), []⟩ W := by
  conv => arg 2; whnf
  have d0 := bx.out 0
  have d2' := bx.out 2
  simp only [List.getElem?_toArray, List.getElem?_cons_zero, List.getElem?_cons_succ] at d0 d2'
  obtain ⟨p1, p2, p3⟩ := chain_gap HC2.out
  rw [HLN.out] at p2
  obtain ⟨nx, hnx⟩ : ∃ nx, nx = gapEnd s.data.toList rest' := ⟨_, rfl⟩
  rw [← hnx] at p1 p2 p3
  have H5 : Hid (∀ (j : Nat) (hj : j < s.size), a + n ≤ j → j < nx → blankB s[j] = true) := Lib.hid fun j hj g1 g2 => p3 j _ g1 g2 (get8 hj)
  have HNX := Lib.hid hnx
  clear hnx p3
  go_upto_if 232 with (fail)
  go_cut [14] from 226 (fun v W' => v = .int .i64 (nx : Int) ∧ W' = W)
  case first =>
    cases hrc : rest' with
    | nil =>
      have e1 : (s.size : Int) = (nx : Int) := by rw [HNX.out, hrc]; show (s.size : Int) = ((s.data.toList.length : Nat) : Int); rw [HLN.out]
      have hwl : ws.length = k + 1 := by
        have := congrArg List.length HR2.out
        rw [hrc, List.length_drop, List.length_nil] at this
        omega
      have w1 : decide ((k : Int) + 1 < (ws.length : Int)) = false := by simp; omega
      have w2 : ¬ ((k : Int) + 1 < (ws.length : Int)) := by omega
      have HE1 := Lib.hid e1
      clear hwl e1
      go_wp2_with fail
      go_meet
      case rel => exact ⟨by rw [HE1.out], rfl⟩
    | cons y r =>
      have hHR2 := HR2.out
      rw [hrc] at hHR2
      obtain ⟨hyk, -⟩ := drop_step hHR2
      have hk1 : k + 1 < ws.length := (List.getElem?_eq_some_iff.1 hyk).1
      have hya : y.at_ = (nx : Int) := by
        have hc := HC2.out
        rw [hrc] at hc
        obtain ⟨a', n', g1, -⟩ := hc
        rw [HNX.out, hrc]
        show y.at_ = ((y.at_.toNat : Nat) : Int)
        rw [g1]; rfl
      have d2 := HW.out y hyk
      rw [hya] at d2
      have w1 : decide ((k : Int) + 1 < (ws.length : Int)) = true := by simp; omega
      have w2 : (k : Int) + 1 < (ws.length : Int) := by omega
      have w4 : ((k : Int) + 1).toNat = k + 1 := by omega
      clear hHR2 hyk hya
      go_wp2_with fail
      go_meet
      case rel => exact ⟨by go_num, rfl⟩
  case rest =>
    obtain ⟨rfl, hwc⟩ := hcut
    obtain rfl := hwc.symm
    clear hwc
    have hz0 : nx < 9223372036854775808 := by omega
    go_wp2_with fail
    go_loop [9] (fun ev => ev = .int .i64 nx) (fun ev => (intOf ev).toNat)
    case atStart => exact rfl
    case round =>
      obtain rfl := hrel
      go_upto_region 38 with (fail)
      go_cut [255] from 240 to 257 (fun v W' => v = .bool false ∧ W' = W)
      case first =>
        have u1 : IntKind.i64.wrap ((nx : Int) - 1) = (nx : Int) - 1 := IntWalk.i64_in _ (by omega)
        have u2 : (0 : Int) ≤ (nx : Int) - 1 := by omega
        have u3 : ((nx : Int) - 1).toNat = nx - 1 := by omega
        have u4 : decide (a < nx) = true := by simp; omega
        have u5 : (a : Int) < (nx : Int) := by omega
        have u6 : nx - 1 < s.size := by omega
        obtain ⟨bb, hbb⟩ : ∃ bb, blankB s[nx - 1] = bb := ⟨_, rfl⟩
        have HB := Lib.hid hbb
        clear hbb
        cases bb
        all_goals
          go_wp2_with (go_at_call 9; refine (lawBlank8_any _ _ HB _).mono ?_; rintro e w' ⟨rfl, rfl⟩)
          go_meet
          case rel => exact ⟨rfl, rfl⟩
      case rest =>
        obtain ⟨rfl, hwc⟩ := hcut
        obtain rfl := hwc.symm
        clear hwc
        go_wp2_with fail
        go_loop [9] (fun ev => ∃ j : Nat, ev = .int .i64 j ∧ a + n ≤ j ∧ j ≤ nx) (fun ev => (intOf ev).toNat)
        case atStart => exact ⟨nx, rfl, p1, Nat.le_refl _⟩
        case round =>
          obtain ⟨j, rfl, hj1, hj2⟩ := hrel
          have u1 : IntKind.i64.wrap ((j : Int) - 1) = (j : Int) - 1 := IntWalk.i64_in _ (by omega)
          have u2 : (0 : Int) ≤ (j : Int) - 1 := by omega
          have u3 : ((j : Int) - 1).toNat = j - 1 := by omega
          have u4 : decide (a < j) = true := by simp; omega
          have u5 : (a : Int) < (j : Int) := by omega
          have u6 : j - 1 < s.size := by omega
          by_cases hja : a + n < j
          · have hbl := H5.out (j - 1) u6 (by omega) (by omega)
            have v1 : ((s[j - 1].toNat : Int) != 34) = true := (byte_ne (fun e => by rw [e] at hbl; exact absurd hbl (by decide))).1
            clear hbl
            go_wp2
            go_round
            case rel => exact ⟨j - 1, by go_num, by omega, by omega⟩
            case measure => simp [intOf]; omega
          · obtain rfl : j = a + n := by omega
            have v1 : ((s[a + n - 1].toNat : Int) != 34) = false := (byte_eq (HL5.out u6)).1
            go_wp2_with fail
            exact hexit.out _ _ _ _ _ _ _ _ _ _ _ _ _ _ _ _ _ _ _ _ _ _ _ _ _ _ _ _ _ _ _ _ _ _ _ _ _ _ _ _ _ _ _ _ _ _ _ _ _ 
set_option maxRecDepth 1000000 in
set_option maxHeartbeats 16000000 in
theorem lp_r31 {Q : Exit → Act → World → Prop} {W : World} {s T : ByteArray} {ws : List WordL} {k a b off kc2 B : Nat} {u1 u2 u4 u5 u6 u7 u8 u12 u13 u14 u15 u16 u17 u18 u19 u20 u21 u22 u23 u24 u25 u26 u27 u28 u29 u30 u31 u32 u33 u34 u35 u36 u37 u38 u39 u40 u41 u42 u43 u44 u45 u46 u47 u48 u49 u50 u51 u52 u53 u54 u55 u56 u57 u58 u59 u60 u61 u62 u63 u64 u65 u66 u67 u68 u69 u70 u71 u72 u73 u74 u75 u76 u77 u78 u79 u80 u81 u82 u83 u84 u85 u86 u87 u88 u89 u90 u91 u92 u93 u94 u95 u96 u97 u98 u99 u100 u101 u102 u103 u104 u105 u106 u107 u108 u109 u110 u111 u112 u113 u114 u115 u116 u117 u118 u119 u120 u121 u122 u123 u124 u125 u126 u127 u128 u129 u130 u131 u132 u133 u134 u135 u136 u137 u138 u139 u140 u141 u142 u143 u144 u145 u146 u147 u148 u149 u150 u151 u152 u153 u154 u155 u156 u157 u158 u159 u160 u161 u162 u163 u164 u165 u166 u167 u168 u169 u170 u171 u172 u173 u174 u175 u176 u177 u178 u179 u180 u181 u182 u183 u184 u185 u186 u187 u188 u189 u190 u191 u192 u193 u194 u195 u196 u197 u198 u199 u200 u201 u202 u203 u204 u205 u206 u207 u208 u209 u210 u211 u212 u213 u214 u215 u216 u217 u218 u219 u220 u221 u222 u223 u224 u225 u226 u227 u228 u229 u230 u231 u232 u233 u234 u235 u236 u237 u238 u239 u240 u241 u242 u243 u244 u245 u246 u247 u248 u249 u250 u251 u252 u253 u254 u255 u256 u257 u258 u259 u260 u261 u262 u263 u264 u265 u266 u267 u268 u269 u270 u271 u272 u273 : Value}
    (hmax : s.size ≤ 9223372036854775807) (hws : ws.length ≤ 9223372036854775807) (hk1 : k + 1 < ws.length) (hsz40 : a + T.size < s.size) (w1 : ((s[a + T.size].toNat : Int) != 40) = false)
    (bx : Hid (∀ o, W.cell? ⟨B, o, none⟩ = (#[.int .i64 4, .string T, .int .i64 (a : Int)] : Array Value)[o]?)) (d2 : W.cell? ⟨b, off + (k + 1) * 3 + 2, none⟩ = some (.int .i64 ((a + T.size : Nat) : Int)))
    (hexit : Hid (∀ (v186 v187 v188 v189 v190 v191 v192 v193 v194 v195 v196 v197 v198 v199 v200 v201 v202 v203 v204 v205 v206 v207 v208 v209 v210 v211 v212 v213 v214 v215 v216 : Value), Q .normal ⟨List.toArray ((.string s) :: u1 :: u2 :: (.slice (some ⟨b, off, none⟩) ws.length kc2) :: u4 :: u5 :: u6 :: u7 :: u8 :: (.int .i64 ((a : Int) + (T.size : Int))) :: (.int .i64 (k : Int)) :: (.pointer (some ⟨B, 0, none⟩)) :: u12 :: u13 :: u14 :: u15 :: u16 :: u17 :: u18 :: u19 :: u20 :: u21 :: u22 :: u23 :: u24 :: u25 :: u26 :: u27 :: u28 :: u29 :: u30 :: u31 :: u32 :: u33 :: u34 :: u35 :: u36 :: u37 :: u38 :: u39 :: u40 :: u41 :: u42 :: u43 :: u44 :: u45 :: u46 :: u47 :: u48 :: u49 :: u50 :: u51 :: u52 :: u53 :: u54 :: u55 :: u56 :: u57 :: u58 :: u59 :: u60 :: u61 :: u62 :: u63 :: u64 :: u65 :: u66 :: u67 :: u68 :: u69 :: u70 :: u71 :: u72 :: u73 :: u74 :: u75 :: u76 :: u77 :: u78 :: u79 :: u80 :: u81 :: u82 :: u83 :: u84 :: u85 :: u86 :: u87 :: u88 :: u89 :: u90 :: u91 :: u92 :: u93 :: u94 :: u95 :: u96 :: u97 :: u98 :: u99 :: u100 :: u101 :: u102 :: u103 :: u104 :: u105 :: u106 :: u107 :: u108 :: u109 :: u110 :: u111 :: u112 :: u113 :: u114 :: u115 :: u116 :: u117 :: u118 :: u119 :: u120 :: u121 :: u122 :: u123 :: u124 :: u125 :: u126 :: u127 :: u128 :: u129 :: u130 :: u131 :: u132 :: u133 :: u134 :: u135 :: u136 :: u137 :: u138 :: u139 :: u140 :: u141 :: u142 :: u143 :: u144 :: u145 :: u146 :: u147 :: u148 :: u149 :: u150 :: u151 :: u152 :: u153 :: u154 :: u155 :: u156 :: u157 :: u158 :: u159 :: u160 :: u161 :: u162 :: u163 :: u164 :: u165 :: u166 :: u167 :: u168 :: u169 :: u170 :: u171 :: u172 :: u173 :: u174 :: u175 :: u176 :: u177 :: u178 :: u179 :: u180 :: u181 :: u182 :: u183 :: u184 :: u185 :: v186 :: v187 :: v188 :: v189 :: v190 :: v191 :: v192 :: v193 :: v194 :: v195 :: v196 :: v197 :: v198 :: v199 :: v200 :: v201 :: v202 :: v203 :: v204 :: v205 :: v206 :: v207 :: v208 :: v209 :: v210 :: v211 :: v212 :: v213 :: v214 :: v215 :: v216 :: (.bool false) :: u218 :: u219 :: u220 :: u221 :: u222 :: u223 :: u224 :: u225 :: u226 :: u227 :: u228 :: u229 :: u230 :: u231 :: u232 :: u233 :: u234 :: u235 :: u236 :: u237 :: u238 :: u239 :: u240 :: u241 :: u242 :: u243 :: u244 :: u245 :: u246 :: u247 :: u248 :: u249 :: u250 :: u251 :: u252 :: u253 :: u254 :: u255 :: u256 :: u257 :: u258 :: u259 :: u260 :: u261 :: u262 :: u263 :: u264 :: u265 :: u266 :: u267 :: u268 :: u269 :: u270 :: u271 :: u272 :: u273 :: []), []⟩ W)) :
    Code.wp Tryd.prog lpR Q ⟨List.toArray ((.string s) :: u1 :: u2 :: (.slice (some ⟨b, off, none⟩) ws.length kc2) :: u4 :: u5 :: u6 :: u7 :: u8 :: (.int .i64 ((a : Int) + (T.size : Int))) :: (.int .i64 (k : Int)) :: (.pointer (some ⟨B, 0, none⟩)) :: u12 :: u13 :: u14 :: u15 :: u16 :: u17 :: u18 :: u19 :: u20 :: u21 :: u22 :: u23 :: u24 :: u25 :: u26 :: u27 :: u28 :: u29 :: u30 :: u31 :: u32 :: u33 :: u34 :: u35 :: u36 :: u37 :: u38 :: u39 :: u40 :: u41 :: u42 :: u43 :: u44 :: u45 :: u46 :: u47 :: u48 :: u49 :: u50 :: u51 :: u52 :: u53 :: u54 :: u55 :: u56 :: u57 :: u58 :: u59 :: u60 :: u61 :: u62 :: u63 :: u64 :: u65 :: u66 :: u67 :: u68 :: u69 :: u70 :: u71 :: u72 :: u73 :: u74 :: u75 :: u76 :: u77 :: u78 :: u79 :: u80 :: u81 :: u82 :: u83 :: u84 :: u85 :: u86 :: u87 :: u88 :: u89 :: u90 :: u91 :: u92 :: u93 :: u94 :: u95 :: u96 :: u97 :: u98 :: u99 :: u100 :: u101 :: u102 :: u103 :: u104 :: u105 :: u106 :: u107 :: u108 :: u109 :: u110 :: u111 :: u112 :: u113 :: u114 :: u115 :: u116 :: u117 :: u118 :: u119 :: u120 :: u121 :: u122 :: u123 :: u124 :: u125 :: u126 :: u127 :: u128 :: u129 :: u130 :: u131 :: u132 :: u133 :: u134 :: u135 :: u136 :: u137 :: u138 :: u139 :: u140 :: u141 :: u142 :: u143 :: u144 :: u145 :: u146 :: u147 :: u148 :: u149 :: u150 :: u151 :: u152 :: u153 :: u154 :: u155 :: u156 :: u157 :: u158 :: u159 :: u160 :: u161 :: u162 :: u163 :: u164 :: u165 :: u166 :: u167 :: u168 :: u169 :: u170 :: u171 :: u172 :: u173 :: u174 :: u175 :: u176 :: u177 :: u178 :: u179 :: u180 :: u181 :: u182 :: u183 :: u184 :: u185 :: u186 :: u187 :: u188 :: u189 :: u190 :: u191 :: u192 :: u193 :: u194 :: u195 :: u196 :: u197 :: u198 :: u199 :: u200 :: u201 :: u202 :: u203 :: u204 :: u205 :: u206 :: u207 :: u208 :: u209 :: u210 :: u211 :: u212 :: u213 :: u214 :: u215 :: u216 :: u217 :: u218 :: u219 :: u220 :: u221 :: u222 :: u223 :: u224 :: u225 :: u226 :: u227 :: u228 :: u229 :: u230 :: u231 :: u232 :: u233 :: u234 :: u235 :: u236 :: u237 :: u238 :: u239 :: u240 :: u241 :: u242 :: u243 :: u244 :: u245 :: u246 :: u247 :: u248 :: u249 :: u250 :: u251 :: u252 :: u253 :: u254 :: u255 :: u256 :: u257 :: u258 :: u259 :: u260 :: u261 :: u262 :: u263 :: u264 :: u265 :: u266 :: u267 :: u268 :: u269 :: u270 :: u271 :: u272 :: u273 :: []), []⟩ W := by
  conv => arg 2; whnf
  have d0 := bx.out 0
  simp only [List.getElem?_toArray, List.getElem?_cons_zero] at d0
  have q1 : IntKind.i64.wrap ((a : Int) + (T.size : Int)) = (a : Int) + (T.size : Int) := IntWalk.i64_in _ (by omega)
  have q2 : 0 ≤ (a : Int) + (T.size : Int) := by omega
  have q3 : ((a : Int) + (T.size : Int)).toNat = a + T.size := by omega
  have w0 : decide ((s.size : Int) ≤ (a : Int) + (T.size : Int)) = false := by simp; omega
  have w2 : ((k : Int) + 1 == (ws.length : Int)) = false := by rw [beq_eq_false_iff_ne]; omega
  have w3 : decide ((k : Int) + 1 = (ws.length : Int)) = false := by simp; omega
  have w4 : ((k : Int) + 1).toNat = k + 1 := by omega
  have w5 : ((a : Int) + (T.size : Int) != ((a + T.size : Nat) : Int)) = false := by simp
  have w6 : ((((a + T.size : Nat) : Int)) != (a : Int) + (T.size : Int)) = false := by simp
  go_wp2_with fail
  exact hexit.out _ _ _ _ _ _ _ _ _ _ _ _ _ _ _ _ _ _ _ _ _ _ _ _ _ _ _ _ _ _ _ 
end Go.Proofs.YtikahfnlflhbfaaDoor
