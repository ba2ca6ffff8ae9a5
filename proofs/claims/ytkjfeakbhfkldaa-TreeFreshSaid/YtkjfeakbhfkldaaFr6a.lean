/- TreeFresh: the loops behind the first one, as theorems of their own. -/
import Derived.Test.YtkjfeakbhfkldaaFr4
import Derived.Test.YtkjfeakbhfkldaaFr5
import Derived.Test.YtkjfeakbhfkldaaTreeX
import Derived.Test.YtkjfeakbhfkldaaTreeZ
import Derived.Test.YtkjfeakbhfkldaaTreeBg
import Derived.Deep.DrawnRows
import Derived.Deep.Cut
import Derived.Deep.CutRange
import Derived.Deep.RegionHeld3
namespace Go.Proofs.Ytkjfeakbhfkldaa
open Go.RowKit

theorem box_rng {w : World} {N : Nat} {cs : Array Value} {T : TypeId} (h : w.heap[N]? = some (.cells cs T (0, 0))) : w.rangeAt N 0 cs.toList := fun j v hv => by rw [cells_of_block h, ← hv]; simp
theorem OwnV.tv {w : World} {h : Hd} {ks : Trees} {a : Option Addr} {l c : Nat} {F : List Nat} (o : OwnV w ks (.slice a l c) F) (hF : ∀ b ∈ F, b < w.heap.size) (ok : h.ok) : TreeV w w.heap.size h ks a l := by
  obtain ⟨ka', kc', e', t'⟩ := o.tree (Nat.le_refl _) hF ok
  simp only [Value.slice.injEq] at e'
  obtain ⟨rfl, rfl, rfl⟩ := e'
  exact t'
theorem wanted_wp {P : Program} {ops : Array Oper} {o : Oper} {a : Act} {w : World} {K : Act → World → Prop} {Q : Exit → Act → World → Prop} (hw : Region.wanted o (yielded ops a.tmps) = true) (h : Oper.wp P o a w K Q) : if Region.wanted o (yielded ops a.tmps) = true then Oper.wp P o a w K Q else K (a.put o.dst undef) w := by rw [if_pos hw]; exact h
theorem infoArS : (Try.prog.info? 47).map (·.size) = some 4 := by kernel_rfl
theorem own_of_block {W : World} {b g n cap : Nat} {cur : Array Value} {T : TypeId} {s : Nat} (h : W.heap[g]? = some (.cells cur T (0, 0))) (hb : b ≤ g) (h1 : n ≤ cap) (h2 : cap ≤ maxLen) (h3 : cur.size = cap * s) : W.ownsRow b T s (.slice (some ⟨g, 0, none⟩) n cap) n (cur.toList.take (n * s)) :=
  ⟨by rw [List.length_take, Array.length_toList, h3]; exact Nat.min_eq_left (Nat.mul_le_mul_right s h1), .inr ⟨g, cap, cur, rfl, hb, h, h1, h2, h3, rfl⟩⟩
def Tw2 (lo n : Nat) (v : Value) (w12 wl : World) (i : Value) : Prop := ∃ (q : Nat) (cs : List Value), i = .int .i64 q ∧ q ≤ n ∧ Hid (wl.ownsRow lo 47 4 v n cs) ∧ Hid (Spd (ownList v) w12 wl)
def Tw3 (lo n : Nat) (v : Value) (w13 wl : World) (l : Value) : Prop := ∃ (la : Option Addr) (m lc : Nat) (cs : List Value), l = .slice la m lc ∧ n ≤ m ∧ m ≤ n + 5000 ∧ Hid (wl.ownsRow lo 47 4 (.slice la m lc) m cs) ∧ Hid (∀ b, (Value.slice la m lc).ownBlock = some b → b ∈ ownList v ∨ w13.heap.size ≤ b) ∧ Hid (Spd (ownList v) w13 wl)
theorem own_slice {W : World} {b s m : Nat} {T : TypeId} {v : Value} {cs : List Value} (o : W.ownsRow b T s v m cs) : ∃ a c, v = .slice a m c := by
  rcases o.2 with ⟨rfl, rfl⟩ | ⟨g, cap, cur, rfl, -⟩
  · exact ⟨none, 0, rfl⟩
  · exact ⟨_, cap, rfl⟩
def Sml (t : Trees) : Prop := AllT (fun _ k => k.nodes ≤ 100000) t
theorem Sml.snoc {h : Hd} {k : Trees} (hk : k.nodes ≤ 100000) : ∀ {t : Trees}, Sml t → Sml (t.app (.cons h k .nil))
  | .nil, _ => ⟨hk, trivial⟩
  | .cons _ _ r, s => ⟨s.1, Sml.snoc (t := r) hk s.2⟩
theorem ArRow.lower {b b' : Nat} {W : World} {l : List Ar} {v : Value} (h : ArRow b W l v) (hb : b' ≤ b) : ArRow b' W l v :=
  ⟨h.1, h.2.imp id fun ⟨g, cap, cur, e, hg, r⟩ => ⟨g, cap, cur, e, Nat.le_trans hb hg, r⟩⟩
/-- A row of the call's own has grown by what lies in a new block. -/
theorem grow_facts {W W' : World} {O : Obj} {b N : Nat} {v v' : Value} (hg : (W.alloc O).grownBy W' v.ownBlock) (hb : b ≤ W.heap.size) (hN : N ≤ W.heap.size) (hv : ∀ x, v.ownBlock = some x → b ≤ x) (hloc : v'.ownBlock = v.ownBlock ∨ v'.ownBlock = some (W.heap.size + 1)) :
    Below b W W' ∧ (∀ x, x < N → v.ownBlock ≠ some x → W'.heap[x]? = W.heap[x]?) ∧ (v'.ownBlock = v.ownBlock ∨ ∀ x, v'.ownBlock = some x → N ≤ x) :=
  ⟨((Below.refl b W).alloc hb O).grown hg (by simp; omega) hv, fun x hx hne => (hg.block x (by simp; omega) fun e => hne e.symm).trans (Below.heap_alloc _ _ _ (by omega)), hloc.imp id fun e x hx => by rw [e] at hx; injection hx with hx; omega⟩
theorem row_range {W : World} {b q n c : Nat} {a : Option Addr} {cs pre cs' : List Value} {h : Hd} {v : Value} (o : W.ownsRow b 29 14 (.slice a n c) n cs) (hcs : cs = pre ++ (h.vals v ++ cs')) (hp : pre.length = q * 14) : ∃ g, a = some ⟨g, 0, none⟩ ∧ b ≤ g ∧ g < W.heap.size ∧ W.rangeAt g (q * 14) (h.vals v) := by
  rcases o.2 with ⟨e, z⟩ | ⟨g, cap, cur, e, hb, hg, h1, h2, h3, h4⟩
  · have := o.1; rw [hcs] at this; simp [Hd.vals_len, z] at this
  · simp only [Value.slice.injEq] at e
    exact ⟨g, e.1, hb, lt_of_block hg, kid_range hg (h4.trans hcs) hp⟩
theorem row_cell {W : World} {b q n c : Nat} {T : TypeId} {a : Option Addr} {cs pre cs' : List Value} {v : Value} (o : W.ownsRow b T 1 (.slice a n c) n cs) (hcs : cs = pre ++ (v :: cs')) (hp : pre.length = q) : ∃ g, a = some ⟨g, 0, none⟩ ∧ b ≤ g ∧ g < W.heap.size ∧ W.cell? ⟨g, q, none⟩ = some v := by
  rcases o.2 with ⟨e, z⟩ | ⟨g, cap, cur, e, hb, hg, h1, h2, h3, h4⟩
  · have := o.1; rw [hcs] at this; simp [z] at this
  · simp only [Value.slice.injEq] at e
    refine ⟨g, e.1, hb, lt_of_block hg, ?_⟩
    have hl : cur.toList = (pre ++ (v :: cs')) ++ cur.toList.drop (n * 1) := by rw [← hcs, ← h4, List.take_append_drop]
    rw [cells_of_block hg, ← Array.getElem?_toList, hl, List.append_assoc, List.getElem?_append_right (by omega), hp, Nat.sub_self]
    rfl
theorem OwnCells.head {W : World} {h : Hd} {k r : Trees} {cs : List Value} {F : List Nat} (o : OwnCells W (.cons h k r) cs F) : ∃ ka kc cs' F1 F2, cs = h.vals (.slice ka k.len kc) ++ cs' ∧ h.ok ∧ OwnV W k (.slice ka k.len kc) F1 ∧ OwnCells W r cs' F2 ∧ F = F1 ++ F2 := by
  obtain ⟨v, cs', cs1, G, F1, F2, e, ok, s, o1, o2, eF⟩ := o
  obtain ⟨ka, kc, rfl⟩ := s.slice
  exact ⟨ka, kc, cs', G ++ F1, F2, e, ok, ⟨cs1, G, F1, s, o1, rfl⟩, o2, eF⟩
def Tf4 (b : Nat) (W0 : World) (n : Nat) (rK rW : List Value) (FK : List Nat) (W : World) (i : Value) : Prop :=
  ∃ (q : Nat) (T2 : Trees) (pK cK pW cW : List Value) (F2 : List Nat), i = .int .i64 q ∧ Hid (q + T2.len = n) ∧ Hid (rK = pK ++ cK ∧ pK.length = q * 14) ∧ Hid (rW = pW ++ cW ∧ pW.length = q * 14) ∧ Hid (OwnCells W T2 cK F2 ∧ (∀ x ∈ F2, x ∈ FK) ∧ F2.Nodup) ∧ Hid (TsIn W b T2 cW) ∧ Hid (Sml T2) ∧ Hid (Spd FK W0 W)
def Tf5 (b : Nat) (W0 : World) (n : Nat) (rL rS : List Value) (GL GS : List Nat) (W : World) (i : Value) : Prop :=
  ∃ (q : Nat) (L2 : List (List Ar)) (pL cL pS cS : List Value) (G2 H2 : List Nat), i = .int .i64 q ∧ Hid (q + L2.length = n) ∧ Hid (rL = pL ++ cL ∧ pL.length = q) ∧ Hid (rS = pS ++ cS ∧ pS.length = q) ∧ Hid (ArsIn W b L2 cL G2 ∧ (∀ x ∈ G2, x ∈ GL) ∧ G2.Nodup) ∧ Hid (ArsIn W b L2 cS H2 ∧ ∀ x ∈ H2, x ∈ GS) ∧ Hid (Spd GL W0 W)
theorem infoTA : (Try.prog.info? 41).map (fun i => (i.zero, i.size, i.bytes)) = some (some (.slice none 0 0), 1, 24) := by kernel_rfl
def TfRel (a : Option Addr) (len : Nat) (w1 wr : World) (vK vW vL vS i : Value) : Prop :=
  ∃ (j : Nat) (rest : Trees) (N : Nat) (cl : Nat → Nat) (TK : Trees) (LL : List (List Ar)) (csK csW csL csS : List Value) (FK GL GS : List Nat), i = .int .i64 j ∧ Hid (j + rest.len = len) ∧ Hid (RowIn wr w1.heap.size rest a j) ∧
    Hid (FrSt w1.heap.size N cl TK TK LL LL vK vW vL vS TK.len LL.length LL.length csK csK csW csL csL csS csS FK GL GS wr) ∧ TK.len ≤ 2 * j ∧ LL.length ≤ j ∧ j ≤ 200 ∧ Hid (Sml TK) ∧ Hid (Below w1.heap.size w1 wr)

def loopsIn : Code → List Code
  | .loop c => c :: loopsIn c
  | .seq a b => loopsIn a ++ loopsIn b
  | .block _ c => loopsIn c
  | .scope c => loopsIn c
  | .cond _ a b => loopsIn a ++ loopsIn b
  | _ => []
noncomputable def tfBody6 : Code := (((Try.f5.body.map loopsIn).getD [])[3]?.getD .skip)
noncomputable def tfBody8 : Code := (((Try.f5.body.map loopsIn).getD [])[4]?.getD .skip)
set_option maxRecDepth 100000 in
set_option maxHeartbeats 4000000 in
theorem tf_loop4 {Q : Exit → Act → World → Prop} {w1 wq : World} {N : Nat} {cl : Nat → Nat} {TK : Trees} {LL : List (List Ar)} {aK aW aL aS : Option Addr} {kK kW kL kS : Nat} {csK csW csL csS : List Value} {FK GL GS : List Nat} {u0 u1 u2 u5 u6 u7 u8 u9 u10 u11 u12 u13 u14 u15 u16 u17 u18 u19 u20 u21 u22 u23 u24 u25 u26 u28 u29 u30 u31 u32 u33 u34 u35 u36 u37 u38 u39 u40 u41 u42 u43 u44 u45 u46 u47 u48 u49 u50 u51 u52 u53 u54 u55 u56 u57 u58 u59 u60 u61 u62 u63 u64 u65 u66 u67 u68 u69 u70 u71 u72 u73 u74 u75 u76 u77 u78 u79 u80 u81 u82 u83 u84 u85 u86 u87 u88 u89 u90 u91 u92 u93 u94 u95 u96 u97 u98 u99 u100 u101 u102 u103 u104 u105 u106 u107 u108 u109 u110 u111 u112 u113 u114 u115 u116 u117 u118 u119 u120 u121 u122 u123 u124 u125 u126 u127 u128 u129 u130 u131 u132 u133 u134 u135 u136 u137 u138 u139 u140 u141 u142 u143 u144 u145 u146 u147 u148 u149 u150 u151 u152 u153 u154 u155 u156 u157 u158 u159 u160 u161 u162 u163 u164 u165 u166 u167 u168 u169 u170 u171 u172 u173 u174 u175 u176 u177 u178 u179 u180 u181 u182 u183 u184 u185 u186 u187 u188 u189 u190 u191 u192 u193 u194 u195 u196 u197 u198 u199 u200 u201 u202 u203 u204 u205 u206 u207 u208 u209 u210 u211 u212 u213 u214 u215 u216 u217 u218 u219 u220 u221 u222 u223 u224 u225 u226 u227 u228 u229 u230 u231 u232 u233 u234 u235 u236 u237 u238 u239 u240 u241 u242 u243 u244 u245 u246 u247 u248 u249 u250 : Value} (FS : Hid (FrSt w1.heap.size N cl TK TK LL LL (.slice aK TK.len kK) (.slice aW TK.len kW) (.slice aL LL.length kL) (.slice aS LL.length kS) TK.len LL.length LL.length csK csK csW csL csL csS csS FK GL GS wq)) (HSM : Hid (Sml TK)) (hTK : TK.len ≤ 400)
    (hexit : ∀ (v2 v27 v198 v199 v200 v201 v202 v203 v204 v205 v206 v207 v208 v209 v210 v211 v212 v213 v214 v215 v216 v217 v218 : Value) (w' : World), Spd FK wq w' → Q (.exit 6) ⟨List.toArray (u0 :: u1 :: v2 :: (.slice aK TK.len kK) :: (.slice aW TK.len kW) :: u5 :: u6 :: u7 :: u8 :: u9 :: u10 :: u11 :: u12 :: u13 :: u14 :: u15 :: u16 :: u17 :: u18 :: u19 :: u20 :: u21 :: u22 :: u23 :: u24 :: u25 :: u26 :: v27 :: u28 :: u29 :: u30 :: u31 :: u32 :: u33 :: u34 :: u35 :: u36 :: u37 :: u38 :: u39 :: u40 :: u41 :: u42 :: u43 :: u44 :: u45 :: u46 :: u47 :: u48 :: u49 :: u50 :: u51 :: u52 :: u53 :: u54 :: u55 :: u56 :: u57 :: u58 :: u59 :: u60 :: u61 :: u62 :: u63 :: u64 :: u65 :: u66 :: u67 :: u68 :: u69 :: u70 :: u71 :: u72 :: u73 :: u74 :: u75 :: u76 :: u77 :: u78 :: u79 :: u80 :: u81 :: u82 :: u83 :: u84 :: u85 :: u86 :: u87 :: u88 :: u89 :: u90 :: u91 :: u92 :: u93 :: u94 :: u95 :: u96 :: u97 :: u98 :: u99 :: u100 :: u101 :: u102 :: u103 :: u104 :: u105 :: u106 :: u107 :: u108 :: u109 :: u110 :: u111 :: u112 :: u113 :: u114 :: u115 :: u116 :: u117 :: u118 :: u119 :: u120 :: u121 :: u122 :: u123 :: u124 :: u125 :: u126 :: u127 :: u128 :: u129 :: u130 :: u131 :: u132 :: u133 :: u134 :: u135 :: u136 :: u137 :: u138 :: u139 :: u140 :: u141 :: u142 :: u143 :: u144 :: u145 :: u146 :: u147 :: u148 :: u149 :: u150 :: u151 :: u152 :: u153 :: u154 :: u155 :: u156 :: u157 :: u158 :: u159 :: u160 :: u161 :: u162 :: u163 :: u164 :: u165 :: u166 :: u167 :: u168 :: u169 :: u170 :: u171 :: u172 :: u173 :: u174 :: u175 :: u176 :: u177 :: u178 :: u179 :: u180 :: u181 :: u182 :: u183 :: u184 :: u185 :: u186 :: u187 :: u188 :: u189 :: u190 :: u191 :: u192 :: u193 :: u194 :: u195 :: u196 :: u197 :: v198 :: v199 :: v200 :: v201 :: v202 :: v203 :: v204 :: v205 :: v206 :: v207 :: v208 :: v209 :: v210 :: v211 :: v212 :: v213 :: v214 :: v215 :: v216 :: v217 :: v218 :: u219 :: u220 :: u221 :: u222 :: u223 :: u224 :: u225 :: u226 :: u227 :: u228 :: u229 :: u230 :: u231 :: u232 :: u233 :: u234 :: u235 :: u236 :: u237 :: u238 :: u239 :: u240 :: u241 :: u242 :: u243 :: u244 :: u245 :: u246 :: u247 :: u248 :: u249 :: u250 :: []), []⟩ w') :
    Code.wp Try.prog (Code.loop tfBody6) Q ⟨List.toArray (u0 :: u1 :: u2 :: (.slice aK TK.len kK) :: (.slice aW TK.len kW) :: u5 :: u6 :: u7 :: u8 :: u9 :: u10 :: u11 :: u12 :: u13 :: u14 :: u15 :: u16 :: u17 :: u18 :: u19 :: u20 :: u21 :: u22 :: u23 :: u24 :: u25 :: u26 :: (.int .i64 0) :: u28 :: u29 :: u30 :: u31 :: u32 :: u33 :: u34 :: u35 :: u36 :: u37 :: u38 :: u39 :: u40 :: u41 :: u42 :: u43 :: u44 :: u45 :: u46 :: u47 :: u48 :: u49 :: u50 :: u51 :: u52 :: u53 :: u54 :: u55 :: u56 :: u57 :: u58 :: u59 :: u60 :: u61 :: u62 :: u63 :: u64 :: u65 :: u66 :: u67 :: u68 :: u69 :: u70 :: u71 :: u72 :: u73 :: u74 :: u75 :: u76 :: u77 :: u78 :: u79 :: u80 :: u81 :: u82 :: u83 :: u84 :: u85 :: u86 :: u87 :: u88 :: u89 :: u90 :: u91 :: u92 :: u93 :: u94 :: u95 :: u96 :: u97 :: u98 :: u99 :: u100 :: u101 :: u102 :: u103 :: u104 :: u105 :: u106 :: u107 :: u108 :: u109 :: u110 :: u111 :: u112 :: u113 :: u114 :: u115 :: u116 :: u117 :: u118 :: u119 :: u120 :: u121 :: u122 :: u123 :: u124 :: u125 :: u126 :: u127 :: u128 :: u129 :: u130 :: u131 :: u132 :: u133 :: u134 :: u135 :: u136 :: u137 :: u138 :: u139 :: u140 :: u141 :: u142 :: u143 :: u144 :: u145 :: u146 :: u147 :: u148 :: u149 :: u150 :: u151 :: u152 :: u153 :: u154 :: u155 :: u156 :: u157 :: u158 :: u159 :: u160 :: u161 :: u162 :: u163 :: u164 :: u165 :: u166 :: u167 :: u168 :: u169 :: u170 :: u171 :: u172 :: u173 :: u174 :: u175 :: u176 :: u177 :: u178 :: u179 :: u180 :: u181 :: u182 :: u183 :: u184 :: u185 :: u186 :: u187 :: u188 :: u189 :: u190 :: u191 :: u192 :: u193 :: u194 :: u195 :: u196 :: u197 :: u198 :: u199 :: u200 :: u201 :: u202 :: u203 :: u204 :: u205 :: u206 :: u207 :: u208 :: u209 :: u210 :: u211 :: u212 :: u213 :: u214 :: u215 :: u216 :: u217 :: u218 :: u219 :: u220 :: u221 :: u222 :: u223 :: u224 :: u225 :: u226 :: u227 :: u228 :: u229 :: u230 :: u231 :: u232 :: u233 :: u234 :: u235 :: u236 :: u237 :: u238 :: u239 :: u240 :: u241 :: u242 :: u243 :: u244 :: u245 :: u246 :: u247 :: u248 :: u249 :: u250 :: []), []⟩ wq := by
  have hNq : N ≤ wq.heap.size := FS.out.hN
  have hbN : w1.heap.size ≤ N := FS.out.hb
  have HE := Lib.hid hexit
  clear hexit
  conv => arg 2; arg 1; whnf
  go_loopw [27] (fun i wr => Tf4 w1.heap.size wq TK.len csK csW FK wr i) (fun i _ => TK.len - (intOf i).toNat)
  case atStart => exact ⟨0, TK, [], csK, [], csW, FK, rfl, Lib.hid (Nat.zero_add _), Lib.hid ⟨rfl, rfl⟩, Lib.hid ⟨rfl, rfl⟩, Lib.hid ⟨FS.out.k2, fun _ h => h, FS.out.nF⟩, Lib.hid FS.out.w2, HSM, Lib.hid (Spd.refl _ _)⟩
  case round =>
    obtain ⟨q, T2, pK, cK, pW, cW, F2, rfl, HQ, HPK, HPW, HO, HT, HS2, HSP⟩ := hrel
    obtain ⟨wx, rfl⟩ : ∃ x, x = wr := ⟨_, rfl⟩
    have hsx : wq.heap.size ≤ wx.heap.size := HSP.out.size
    have HRK := Lib.hid (own_row FS.out.k1 (W' := wx) fun x hx => HSP.out.same x (FS.out.k1.lt x hx).2 (fun hm => by have e1 := (FS.out.cK x hx).1; have e2 := (FS.out.cF x hm).1; omega))
    have HRW := Lib.hid (own_row FS.out.w1 (W' := wx) fun x hx => HSP.out.same x (FS.out.w1.lt x hx).2 (fun hm => by have e1 := (FS.out.cW x hx).1; have e2 := (FS.out.cF x hm).1; omega))
    by_cases hq : q < TK.len
    · have hql := HQ.out
      obtain ⟨h', k', r', rfl⟩ := trees_cons (rest := T2) (by omega)
      have hO := HO.out; have hT := HT.out; have hPK := HPK.out; have hPW := HPW.out
      obtain ⟨xa, xc, cK2, F3, F4, rfl, hok, ov, orest, rfl⟩ := hO.1.head
      obtain ⟨wa, wl, wc, cW2, rfl, tw, twr⟩ := hT
      obtain ⟨gK, eK, -, ltK, RK_⟩ := row_range HRK.out hPK.1 hPK.2
      obtain ⟨gW, eW, -, ltW, RW_⟩ := row_range HRW.out hPW.1 hPW.2
      subst eK eW
      have HF3 := Lib.hid (show ∀ x ∈ F3, x ∈ FK ∧ w1.heap.size ≤ x ∧ x < wx.heap.size from fun x hx => by have m := hO.2.1 x (by simp [hx]); have := (FS.out.cF x m).2; exact ⟨m, by omega, by omega⟩)
      have HF4 := Lib.hid (show ∀ x ∈ F4, x < wx.heap.size ∧ x ∉ F3 from fun x hx => by have m := hO.2.1 x (by simp [hx]); have := (FS.out.cF x m).2; exact ⟨by omega, fun hm => (List.nodup_append.1 hO.2.2).2.2 x hm x hx rfl⟩)
      have N3 := Lib.hid (List.nodup_append.1 hO.2.2).1
      have N4 := Lib.hid (List.nodup_append.1 hO.2.2).2.1
      have OV := Lib.hid ov; have OR := Lib.hid orest; have TWR := Lib.hid twr
      have TVK := Lib.hid (ov.tv (h := h') (fun x hx => (HF3.out x hx).2.2) hok)
      have TVW := Lib.hid tw
      have RK := Lib.hid RK_; have RW := Lib.hid RW_
      have hno : k'.nodes ≤ 100000 := HS2.out.1
      have hqi : (q : Int) < (TK.len : Int) := by omega
      have hq0 : (0 : Int) ≤ (q : Int) := by omega
      have hb1x : w1.heap.size ≤ wx.heap.size := by omega
      clear hql hO hPK hPW ov orest tw twr RK_ RW_ hok
      go_wp2_with fail
      refine wp_region_noPanic ?_
      refine wp_region_held_drew (S := fun W => Below wx.heap.size wx W) (by kernel_rfl) (Below.refl _ _).drew (fun hS1 => ?_)
      refine wpAnyH_take (i := 0) (oi := { dst := some 204, op := Go.Op.move (Go.Operand.tmp 3), type := 27, pos := "memory.go:103", after := #[], guard := none }) (v := (.slice (some ⟨gK, 0, none⟩) TK.len kK)) rfl (by kernel_rfl) (by kernel_rfl) (by kernel_rfl) (fun _ _ _ h => h) (Or.inl ⟨by rfl, fun W hW => by first | (go_simp; done) | (go_simp; with_reducible rfl)⟩) hS1 ?_
      try simp only [Act.put, List.setIfInBounds_toArray, List.set_cons_zero, List.set_cons_succ]
      refine wpAnyH_take (i := 1) (oi := { dst := some 205, op := Go.Op.move (Go.Operand.tmp 27), type := 3, pos := "memory.go:103", after := #[], guard := none }) (v := (.int .i64 q)) rfl (by kernel_rfl) (by kernel_rfl) (by kernel_rfl) (fun _ _ _ h => h) (Or.inl ⟨by rfl, fun W hW => by first | (go_simp; done) | (go_simp; with_reducible rfl)⟩) hS1 ?_
      try simp only [Act.put, List.setIfInBounds_toArray, List.set_cons_zero, List.set_cons_succ]
      refine wpAnyH_take (i := 2) (oi := { dst := some 206, op := Go.Op.indexAddr 27 (Go.Operand.tmp 204) (Go.Operand.tmp 205), type := 0, pos := "memory.go:103", after := #[{ on := 0, ground := Go.Ground.data }, { on := 1, ground := Go.Ground.data }], guard := none }) (v := (.pointer (some ⟨gK, q * 14, none⟩))) rfl (by kernel_rfl) (by kernel_rfl) (by kernel_rfl) (fun _ _ _ h => h) (Or.inl ⟨by rfl, fun W hW => by first | (go_simp; done) | (go_simp; with_reducible rfl)⟩) hS1 ?_
      try simp only [Act.put, List.setIfInBounds_toArray, List.set_cons_zero, List.set_cons_succ]
      refine wpAnyH_take (i := 3) (oi := { dst := some 207, op := Go.Op.load 29 (Go.Operand.tmp 206), type := 29, pos := "memory.go:103", after := #[{ on := 2, ground := Go.Ground.data }], guard := none }) (v := (.agg #[.int .i64 h'.kind, .int .i64 h'.op, .int .i64 h'.num, .string ⟨h'.text.toArray⟩, .int .i64 h'.ref.row, .int .i64 h'.ref.col, .bool h'.ref.pr, .bool h'.ref.pc, .int .i64 h'.to.row, .int .i64 h'.to.col, .bool h'.to.pr, .bool h'.to.pc, .int .i64 h'.fn, .slice xa k'.len xc])) rfl (by kernel_rfl) (by kernel_rfl) (by kernel_rfl) (fun _ _ _ h => h) (yieldsIf_load_mid (by rfl) 29 _ rfl gK (q * 14) rfl [.int .i64 h'.kind, .int .i64 h'.op, .int .i64 h'.num, .string ⟨h'.text.toArray⟩, .int .i64 h'.ref.row, .int .i64 h'.ref.col, .bool h'.ref.pr, .bool h'.ref.pc, .int .i64 h'.to.row, .int .i64 h'.to.col, .bool h'.to.pr, .bool h'.to.pc, .int .i64 h'.fn, .slice xa k'.len xc] _ (fun W hW => fun i x hx => (World.cell?_of_block (a := ⟨gK, q * 14 + i, none⟩) (hW.block gK (by omega))).trans (RK.out i x hx)) Try.underlying29 rfl infoExprS) hS1 ?_
      try simp only [Act.put, List.setIfInBounds_toArray, List.set_cons_zero, List.set_cons_succ]
      refine wpAnyH_take (i := 4) (oi := { dst := some 208, op := Go.Op.move (Go.Operand.tmp 4), type := 27, pos := "memory.go:103", after := #[], guard := none }) (v := (.slice (some ⟨gW, 0, none⟩) TK.len kW)) rfl (by kernel_rfl) (by kernel_rfl) (by kernel_rfl) (fun _ _ _ h => h) (Or.inl ⟨by rfl, fun W hW => by first | (go_simp; done) | (go_simp; with_reducible rfl)⟩) hS1 ?_
      try simp only [Act.put, List.setIfInBounds_toArray, List.set_cons_zero, List.set_cons_succ]
      refine wpAnyH_take (i := 5) (oi := { dst := some 209, op := Go.Op.move (Go.Operand.tmp 27), type := 3, pos := "memory.go:103", after := #[], guard := none }) (v := (.int .i64 q)) rfl (by kernel_rfl) (by kernel_rfl) (by kernel_rfl) (fun _ _ _ h => h) (Or.inl ⟨by rfl, fun W hW => by first | (go_simp; done) | (go_simp; with_reducible rfl)⟩) hS1 ?_
      try simp only [Act.put, List.setIfInBounds_toArray, List.set_cons_zero, List.set_cons_succ]
      refine wpAnyH_take (i := 6) (oi := { dst := some 210, op := Go.Op.indexAddr 27 (Go.Operand.tmp 208) (Go.Operand.tmp 209), type := 0, pos := "memory.go:103", after := #[{ on := 4, ground := Go.Ground.data }, { on := 5, ground := Go.Ground.data }], guard := none }) (v := (.pointer (some ⟨gW, q * 14, none⟩))) rfl (by kernel_rfl) (by kernel_rfl) (by kernel_rfl) (fun _ _ _ h => h) (Or.inl ⟨by rfl, fun W hW => by first | (go_simp; done) | (go_simp; with_reducible rfl)⟩) hS1 ?_
      try simp only [Act.put, List.setIfInBounds_toArray, List.set_cons_zero, List.set_cons_succ]
      refine wpAnyH_take (i := 7) (oi := { dst := some 211, op := Go.Op.load 29 (Go.Operand.tmp 210), type := 29, pos := "memory.go:103", after := #[{ on := 6, ground := Go.Ground.data }], guard := none }) (v := (.agg #[.int .i64 h'.kind, .int .i64 h'.op, .int .i64 h'.num, .string ⟨h'.text.toArray⟩, .int .i64 h'.ref.row, .int .i64 h'.ref.col, .bool h'.ref.pr, .bool h'.ref.pc, .int .i64 h'.to.row, .int .i64 h'.to.col, .bool h'.to.pr, .bool h'.to.pc, .int .i64 h'.fn, .slice wa wl wc])) rfl (by kernel_rfl) (by kernel_rfl) (by kernel_rfl) (fun _ _ _ h => h) (yieldsIf_load_mid (by rfl) 29 _ rfl gW (q * 14) rfl [.int .i64 h'.kind, .int .i64 h'.op, .int .i64 h'.num, .string ⟨h'.text.toArray⟩, .int .i64 h'.ref.row, .int .i64 h'.ref.col, .bool h'.ref.pr, .bool h'.ref.pc, .int .i64 h'.to.row, .int .i64 h'.to.col, .bool h'.to.pr, .bool h'.to.pc, .int .i64 h'.fn, .slice wa wl wc] _ (fun W hW => fun i x hx => (World.cell?_of_block (a := ⟨gW, q * 14 + i, none⟩) (hW.block gW (by omega))).trans (RW.out i x hx)) Try.underlying29 rfl infoExprS) hS1 ?_
      try simp only [Act.put, List.setIfInBounds_toArray, List.set_cons_zero, List.set_cons_succ]
      refine wpAnyH_ready (rs := [8]) (by kernel_rfl) (by simp) ?_
      refine AllReadyH.cons (o := { dst := some 212, op := Go.Op.call { callee := Go.Callee.value (Go.Operand.func 21), args := #[Go.Operand.tmp 207, Go.Operand.tmp 211], argTypes := #[29, 29] }, type := 4, pos := "memory.go:103", after := #[{ on := 3, ground := Go.Ground.data }, { on := 7, ground := Go.Ground.data }], guard := none }) rfl (fun K hK => ?_) AllReadyH.nil
      refine wanted_wp (by rfl) ?_
      go_simp
      go_at_call 21
      have cc := refEq_any h' k' h' k' _ wx.heap.size w1.heap.size xa wa k'.len xc wl wc hS1.size (by have := hS1.size; omega) (TVK.out.kept hS1 (Nat.le_refl _)) (TVW.out.kept (hS1.mono hb1x) (Nat.le_refl _))
      with_reducible refine cc.mono ?_
      clear cc
      rintro e wy ⟨he, bq⟩
      obtain rfl := he.trans (show _ = Ending.returned (.bool true) by simp [sameB])
      refine hK.out _ _ (hS1.trans (bq.mono hS1.size)) (fun hS1 => ?_)
      clear hK K bq
      try simp only [Act.put, List.setIfInBounds_toArray, List.set_cons_zero, List.set_cons_succ]
      refine wpAnyH_take (i := 9) (oi := { dst := some 213, op := Go.Op.unOp Go.UnOp.not 4 (Go.Operand.tmp 212), type := 4, pos := "memory.go:103", after := #[{ on := 8, ground := Go.Ground.data }], guard := none }) (v := (.bool false)) rfl (by kernel_rfl) (by kernel_rfl) (by kernel_rfl) (fun _ _ _ h => h) (Or.inl ⟨by rfl, fun W hW => by first | (go_simp; done) | (go_simp; with_reducible rfl)⟩) hS1 ?_
      try simp only [Act.put, List.setIfInBounds_toArray, List.set_cons_zero, List.set_cons_succ]
      refine wpAnyH_done (by kernel_rfl) ?_ _
      refine NoPanic.normal ?_
      have bel := Lib.hid hS1
      have hsy : wx.heap.size ≤ wy.heap.size := hS1.size
      have RK := Lib.hid (show wy.rangeAt gK (q * 14) [.int .i64 h'.kind, .int .i64 h'.op, .int .i64 h'.num, .string ⟨h'.text.toArray⟩, .int .i64 h'.ref.row, .int .i64 h'.ref.col, .bool h'.ref.pr, .bool h'.ref.pc, .int .i64 h'.to.row, .int .i64 h'.to.col, .bool h'.to.pr, .bool h'.to.pc, .int .i64 h'.fn, .slice xa k'.len xc] from fun i x hx => (World.cell?_of_block (a := ⟨gK, q * 14 + i, none⟩) (hS1.block gK (by omega))).trans (RK.out i x hx))
      clear hS1 TVK TVW
      go_wp2_with (refine wpList_load_rng (N := gK) (off := q * 14) (vs := [.int .i64 h'.kind, .int .i64 h'.op, .int .i64 h'.num, .string ⟨h'.text.toArray⟩, .int .i64 h'.ref.row, .int .i64 h'.ref.col, .bool h'.ref.pr, .bool h'.ref.pc, .int .i64 h'.to.row, .int .i64 h'.to.col, .bool h'.to.pr, .bool h'.to.pc, .int .i64 h'.fn, .slice xa k'.len xc]) rfl rfl rfl RK.out rfl ?_)
      have cc := spoil_any h' k' wy F3 xa k'.len xc (OV.out.ext (fun x hx => (HF3.out x hx).2.2) bel.out) N3.out (fun x hx => by have := HF3.out x hx; omega) hno
      refine cc.mono ?_
      clear cc
      rintro e wz ⟨rfl, sp⟩
      have SP := Lib.hid sp
      clear sp RK
      go_wp2
      have bz : Below w1.heap.size wx wz := (bel.out.mono hb1x).trans (SP.out.below (by omega) (fun x hx => (HF3.out x hx).2.1))
      exact ⟨⟨q + 1, r', pK ++ h'.vals (.slice xa k'.len xc), cK2, pW ++ h'.vals (.slice wa wl wc), cW2, F4, by go_num, Lib.hid (by have := HQ.out; simp only [Trees.len] at this; omega), Lib.hid ⟨by rw [HPK.out.1, List.append_assoc], by rw [List.length_append, HPK.out.2, Hd.vals_len]; omega⟩, Lib.hid ⟨by rw [HPW.out.1, List.append_assoc], by rw [List.length_append, HPW.out.2, Hd.vals_len]; omega⟩,
        Lib.hid ⟨OR.out.kept fun x hx => (SP.out.same x (by have := (HF4.out x hx).1; omega) (HF4.out x hx).2).trans (bel.out.block x (HF4.out x hx).1), fun x hx => HO.out.2.1 x (by simp [hx]), N4.out⟩, Lib.hid (TWR.out.kept bz), Lib.hid HS2.out.2, Lib.hid ((HSP.out.ext bel.out).trans SP.out fun x hx => .inl (HF3.out x hx).1)⟩, by simp [intOf]; omega⟩
    · have SP := Lib.hid HSP.out
      clear HSP HRK HRW HO HT HS2 HPK HPW HQ
      go_wp2_with fail
      exact HE.out _ _ _ _ _ _ _ _ _ _ _ _ _ _ _ _ _ _ _ _ _ _ _ _ SP.out

set_option maxRecDepth 100000 in
set_option maxHeartbeats 4000000 in
theorem tf_loop5 {Q : Exit → Act → World → Prop} {w1 wq : World} {N : Nat} {cl : Nat → Nat} {TK : Trees} {LL : List (List Ar)} {aK aW aL aS : Option Addr} {kK kW kL kS : Nat} {csK csW csL csS : List Value} {FK GL GS : List Nat} {u0 u1 u2 u3 u4 u7 u8 u9 u10 u11 u12 u13 u14 u15 u16 u17 u18 u19 u20 u21 u22 u23 u24 u25 u26 u27 u29 u30 u31 u32 u33 u34 u35 u36 u37 u38 u39 u40 u41 u42 u43 u44 u45 u46 u47 u48 u49 u50 u51 u52 u53 u54 u55 u56 u57 u58 u59 u60 u61 u62 u63 u64 u65 u66 u67 u68 u69 u70 u71 u72 u73 u74 u75 u76 u77 u78 u79 u80 u81 u82 u83 u84 u85 u86 u87 u88 u89 u90 u91 u92 u93 u94 u95 u96 u97 u98 u99 u100 u101 u102 u103 u104 u105 u106 u107 u108 u109 u110 u111 u112 u113 u114 u115 u116 u117 u118 u119 u120 u121 u122 u123 u124 u125 u126 u127 u128 u129 u130 u131 u132 u133 u134 u135 u136 u137 u138 u139 u140 u141 u142 u143 u144 u145 u146 u147 u148 u149 u150 u151 u152 u153 u154 u155 u156 u157 u158 u159 u160 u161 u162 u163 u164 u165 u166 u167 u168 u169 u170 u171 u172 u173 u174 u175 u176 u177 u178 u179 u180 u181 u182 u183 u184 u185 u186 u187 u188 u189 u190 u191 u192 u193 u194 u195 u196 u197 u198 u199 u200 u201 u202 u203 u204 u205 u206 u207 u208 u209 u210 u211 u212 u213 u214 u215 u216 u217 u218 u219 u220 u221 u222 u223 u224 u225 u226 u227 u228 u229 u230 u231 u232 u233 u234 u235 u236 u237 u238 u239 u240 u241 u242 u243 u244 u245 u246 u247 u248 u249 u250 : Value} {w5 : World} (FS : Hid (FrSt w1.heap.size N cl TK TK LL LL (.slice aK TK.len kK) (.slice aW TK.len kW) (.slice aL LL.length kL) (.slice aS LL.length kS) TK.len LL.length LL.length csK csK csW csL csL csS csS FK GL GS wq)) (HSP : Hid (Spd FK wq w5)) (hLL : LL.length ≤ 200)
    (hexit : ∀ (v2 v28 v29 v219 v220 v221 v222 v223 v224 v225 v226 v227 v228 v229 v230 v231 v232 v233 v234 v235 v236 v237 v238 v239 v240 v241 v242 v243 v244 v245 v246 v247 v248 v249 v250 : Value) (w' : World), Spd GL w5 w' → Q (.exit 8) ⟨List.toArray (u0 :: u1 :: v2 :: u3 :: u4 :: (.slice aL LL.length kL) :: (.slice aS LL.length kS) :: u7 :: u8 :: u9 :: u10 :: u11 :: u12 :: u13 :: u14 :: u15 :: u16 :: u17 :: u18 :: u19 :: u20 :: u21 :: u22 :: u23 :: u24 :: u25 :: u26 :: u27 :: v28 :: v29 :: u30 :: u31 :: u32 :: u33 :: u34 :: u35 :: u36 :: u37 :: u38 :: u39 :: u40 :: u41 :: u42 :: u43 :: u44 :: u45 :: u46 :: u47 :: u48 :: u49 :: u50 :: u51 :: u52 :: u53 :: u54 :: u55 :: u56 :: u57 :: u58 :: u59 :: u60 :: u61 :: u62 :: u63 :: u64 :: u65 :: u66 :: u67 :: u68 :: u69 :: u70 :: u71 :: u72 :: u73 :: u74 :: u75 :: u76 :: u77 :: u78 :: u79 :: u80 :: u81 :: u82 :: u83 :: u84 :: u85 :: u86 :: u87 :: u88 :: u89 :: u90 :: u91 :: u92 :: u93 :: u94 :: u95 :: u96 :: u97 :: u98 :: u99 :: u100 :: u101 :: u102 :: u103 :: u104 :: u105 :: u106 :: u107 :: u108 :: u109 :: u110 :: u111 :: u112 :: u113 :: u114 :: u115 :: u116 :: u117 :: u118 :: u119 :: u120 :: u121 :: u122 :: u123 :: u124 :: u125 :: u126 :: u127 :: u128 :: u129 :: u130 :: u131 :: u132 :: u133 :: u134 :: u135 :: u136 :: u137 :: u138 :: u139 :: u140 :: u141 :: u142 :: u143 :: u144 :: u145 :: u146 :: u147 :: u148 :: u149 :: u150 :: u151 :: u152 :: u153 :: u154 :: u155 :: u156 :: u157 :: u158 :: u159 :: u160 :: u161 :: u162 :: u163 :: u164 :: u165 :: u166 :: u167 :: u168 :: u169 :: u170 :: u171 :: u172 :: u173 :: u174 :: u175 :: u176 :: u177 :: u178 :: u179 :: u180 :: u181 :: u182 :: u183 :: u184 :: u185 :: u186 :: u187 :: u188 :: u189 :: u190 :: u191 :: u192 :: u193 :: u194 :: u195 :: u196 :: u197 :: u198 :: u199 :: u200 :: u201 :: u202 :: u203 :: u204 :: u205 :: u206 :: u207 :: u208 :: u209 :: u210 :: u211 :: u212 :: u213 :: u214 :: u215 :: u216 :: u217 :: u218 :: v219 :: v220 :: v221 :: v222 :: v223 :: v224 :: v225 :: v226 :: v227 :: v228 :: v229 :: v230 :: v231 :: v232 :: v233 :: v234 :: v235 :: v236 :: v237 :: v238 :: v239 :: v240 :: v241 :: v242 :: v243 :: v244 :: v245 :: v246 :: v247 :: v248 :: v249 :: v250 :: []), []⟩ w') :
    Code.wp Try.prog (Code.loop tfBody8) Q ⟨List.toArray (u0 :: u1 :: u2 :: u3 :: u4 :: (.slice aL LL.length kL) :: (.slice aS LL.length kS) :: u7 :: u8 :: u9 :: u10 :: u11 :: u12 :: u13 :: u14 :: u15 :: u16 :: u17 :: u18 :: u19 :: u20 :: u21 :: u22 :: u23 :: u24 :: u25 :: u26 :: u27 :: (.int .i64 0) :: u29 :: u30 :: u31 :: u32 :: u33 :: u34 :: u35 :: u36 :: u37 :: u38 :: u39 :: u40 :: u41 :: u42 :: u43 :: u44 :: u45 :: u46 :: u47 :: u48 :: u49 :: u50 :: u51 :: u52 :: u53 :: u54 :: u55 :: u56 :: u57 :: u58 :: u59 :: u60 :: u61 :: u62 :: u63 :: u64 :: u65 :: u66 :: u67 :: u68 :: u69 :: u70 :: u71 :: u72 :: u73 :: u74 :: u75 :: u76 :: u77 :: u78 :: u79 :: u80 :: u81 :: u82 :: u83 :: u84 :: u85 :: u86 :: u87 :: u88 :: u89 :: u90 :: u91 :: u92 :: u93 :: u94 :: u95 :: u96 :: u97 :: u98 :: u99 :: u100 :: u101 :: u102 :: u103 :: u104 :: u105 :: u106 :: u107 :: u108 :: u109 :: u110 :: u111 :: u112 :: u113 :: u114 :: u115 :: u116 :: u117 :: u118 :: u119 :: u120 :: u121 :: u122 :: u123 :: u124 :: u125 :: u126 :: u127 :: u128 :: u129 :: u130 :: u131 :: u132 :: u133 :: u134 :: u135 :: u136 :: u137 :: u138 :: u139 :: u140 :: u141 :: u142 :: u143 :: u144 :: u145 :: u146 :: u147 :: u148 :: u149 :: u150 :: u151 :: u152 :: u153 :: u154 :: u155 :: u156 :: u157 :: u158 :: u159 :: u160 :: u161 :: u162 :: u163 :: u164 :: u165 :: u166 :: u167 :: u168 :: u169 :: u170 :: u171 :: u172 :: u173 :: u174 :: u175 :: u176 :: u177 :: u178 :: u179 :: u180 :: u181 :: u182 :: u183 :: u184 :: u185 :: u186 :: u187 :: u188 :: u189 :: u190 :: u191 :: u192 :: u193 :: u194 :: u195 :: u196 :: u197 :: u198 :: u199 :: u200 :: u201 :: u202 :: u203 :: u204 :: u205 :: u206 :: u207 :: u208 :: u209 :: u210 :: u211 :: u212 :: u213 :: u214 :: u215 :: u216 :: u217 :: u218 :: u219 :: u220 :: u221 :: u222 :: u223 :: u224 :: u225 :: u226 :: u227 :: u228 :: u229 :: u230 :: u231 :: u232 :: u233 :: u234 :: u235 :: u236 :: u237 :: u238 :: u239 :: u240 :: u241 :: u242 :: u243 :: u244 :: u245 :: u246 :: u247 :: u248 :: u249 :: u250 :: []), []⟩ w5 := by
  have hNq : N ≤ wq.heap.size := FS.out.hN
  have hbN : w1.heap.size ≤ N := FS.out.hb
  have hq5 : wq.heap.size ≤ w5.heap.size := HSP.out.size
  have RL5 := Lib.hid (own_row FS.out.l1 (W' := w5) fun x hx => HSP.out.same x (FS.out.l1.lt x hx).2 (fun hm => by have e1 := (FS.out.cL x hx).1; have e2 := (FS.out.cF x hm).1; omega))
  have RS5 := Lib.hid (own_row FS.out.s1 (W' := w5) fun x hx => HSP.out.same x (FS.out.s1.lt x hx).2 (fun hm => by have e1 := (FS.out.cS x hx).1; have e2 := (FS.out.cF x hm).1; omega))
  have AL5 := Lib.hid (FS.out.l2.kept (W' := w5) fun x hx => HSP.out.same x (by have := (FS.out.cG x hx).2; omega) (fun hm => by have e1 := (FS.out.cG x hx).1; have e2 := (FS.out.cF x hm).1; omega))
  have AS5 := Lib.hid (FS.out.s2.kept (W' := w5) fun x hx => HSP.out.same x (by have := (FS.out.cH x hx).2; omega) (fun hm => by have e1 := (FS.out.cH x hx).1; have e2 := (FS.out.cF x hm).1; omega))
  have HE := Lib.hid hexit
  clear hexit
  conv => arg 2; arg 1; whnf
  go_loopw [28] (fun i wr => Tf5 w1.heap.size w5 LL.length csL csS GL GS wr i) (fun i _ => LL.length - (intOf i).toNat)
  case atStart => exact ⟨0, LL, [], csL, [], csS, GL, GS, rfl, Lib.hid (Nat.zero_add _), Lib.hid ⟨rfl, rfl⟩, Lib.hid ⟨rfl, rfl⟩, Lib.hid ⟨AL5.out, fun _ h => h, FS.out.nG⟩, Lib.hid ⟨AS5.out, fun _ h => h⟩, Lib.hid (Spd.refl _ _)⟩
  case round =>
    obtain ⟨q, L2, pL, cL, pS, cS, G2, H2, rfl, HQ, HPL, HPS, HA, HB, HSP5⟩ := hrel
    obtain ⟨wx, rfl⟩ : ∃ x, x = wr := ⟨_, rfl⟩
    have hs5 : w5.heap.size ≤ wx.heap.size := HSP5.out.size
    by_cases hq : q < LL.length
    · have hql := HQ.out
      obtain ⟨l, L', rfl⟩ : ∃ l L', L2 = l :: L' := by
        cases L2 with
        | nil => simp at hql; omega
        | cons l L' => exact ⟨l, L', rfl⟩
      have hA := HA.out; have hB := HB.out
      obtain ⟨⟨v, cL2, G3, rfl, av, ar, rfl⟩, hA1, hA2⟩ := hA
      obtain ⟨⟨u, cS2, H3, rfl, au, aur, rfl⟩, hB1⟩ := hB
      obtain ⟨va, vc, rfl, atv, -⟩ := av.at_
      have hl9 : l.length ≤ 9223372036854775807 := atv.1
      obtain ⟨ua, uc, rfl, atu, -⟩ := au.at_
      obtain ⟨gL, eL, -, ltL, CL_⟩ := row_cell (own_row RL5.out (W' := wx) fun x hx => HSP5.out.same x (RL5.out.lt x hx).2 (fun hm => by have e1 := (FS.out.cL x hx).1; have e2 := (FS.out.cG x hm).1; omega)) HPL.out.1 HPL.out.2
      obtain ⟨gS, eS, -, ltS, CS_⟩ := row_cell (own_row RS5.out (W' := wx) fun x hx => HSP5.out.same x (RS5.out.lt x hx).2 (fun hm => by have e1 := (FS.out.cS x hx).1; have e2 := (FS.out.cG x hm).1; omega)) HPS.out.1 HPS.out.2
      subst eL eS
      have HV := Lib.hid (show ∀ x, (Value.slice va l.length vc).ownBlock = some x → x ∈ GL ∧ w1.heap.size ≤ x ∧ x < wx.heap.size from fun x hx => by have m := hA1 x (by simp [mem_ownList.2 hx]); have := (FS.out.cG x m).2; exact ⟨m, by omega, by omega⟩)
      have HG3 := Lib.hid (show ∀ x ∈ G3, x < wx.heap.size ∧ x ∉ ownList (.slice va l.length vc) from fun x hx => by have m := hA1 x (by simp [hx]); have := (FS.out.cG x m).2; exact ⟨by omega, fun hm => (List.nodup_append.1 hA2).2.2 x hm x hx rfl⟩)
      have HH3 := Lib.hid (show ∀ x ∈ H3, x < wx.heap.size ∧ x ∉ ownList (.slice va l.length vc) from fun x hx => by have m := hB1 x (by simp [hx]); have c := FS.out.cH x m; exact ⟨by omega, fun hm => by have c2 := (FS.out.cG x (hA1 x (by simp [hm]))).1; omega⟩)
      have HLV := Lib.hid (show gL ∉ ownList (.slice va l.length vc) from fun hm => by have c := (FS.out.cL gL rfl).1; have c2 := (FS.out.cG gL (hA1 gL (by simp [hm]))).1; omega)
      have N3 := Lib.hid (List.nodup_append.1 hA2).2.1
      have AV := Lib.hid av; have AR_ := Lib.hid ar; have AUR := Lib.hid aur; have ATV := Lib.hid atv; have ATU := Lib.hid atu
      have CL := Lib.hid CL_; have CS := Lib.hid CS_
      have hqi : (q : Int) < (LL.length : Int) := by omega
      have hq0 : (0 : Int) ≤ (q : Int) := by omega
      clear hql hA1 hA2 hB1 av ar au aur atv atu CL_ CS_
      go_wp2_with fail
      refine wp_region_noPanic ?_
      refine wp_region_held_drew (S := fun W => Below wx.heap.size wx W) (by kernel_rfl) (Below.refl _ _).drew (fun hS1 => ?_)
      refine wpAnyH_take (i := 0) (oi := { dst := some 225, op := Go.Op.move (Go.Operand.tmp 5), type := 34, pos := "memory.go:109", after := #[], guard := none }) (v := (.slice (some ⟨gL, 0, none⟩) LL.length kL)) rfl (by kernel_rfl) (by kernel_rfl) (by kernel_rfl) (fun _ _ _ h => h) (Or.inl ⟨by rfl, fun W hW => by first | (go_simp; done) | (go_simp; with_reducible rfl)⟩) hS1 ?_
      try simp only [Act.put, List.setIfInBounds_toArray, List.set_cons_zero, List.set_cons_succ]
      refine wpAnyH_take (i := 1) (oi := { dst := some 226, op := Go.Op.move (Go.Operand.tmp 28), type := 3, pos := "memory.go:109", after := #[], guard := none }) (v := (.int .i64 q)) rfl (by kernel_rfl) (by kernel_rfl) (by kernel_rfl) (fun _ _ _ h => h) (Or.inl ⟨by rfl, fun W hW => by first | (go_simp; done) | (go_simp; with_reducible rfl)⟩) hS1 ?_
      try simp only [Act.put, List.setIfInBounds_toArray, List.set_cons_zero, List.set_cons_succ]
      refine wpAnyH_take (i := 2) (oi := { dst := some 227, op := Go.Op.indexAddr 34 (Go.Operand.tmp 225) (Go.Operand.tmp 226), type := 0, pos := "memory.go:109", after := #[{ on := 0, ground := Go.Ground.data }, { on := 1, ground := Go.Ground.data }], guard := none }) (v := (.pointer (some ⟨gL, q, none⟩))) rfl (by kernel_rfl) (by kernel_rfl) (by kernel_rfl) (fun _ _ _ h => h) (Or.inl ⟨by rfl, fun W hW => by first | (go_simp; done) | (go_simp; with_reducible rfl)⟩) hS1 ?_
      try simp only [Act.put, List.setIfInBounds_toArray, List.set_cons_zero, List.set_cons_succ]
      refine wpAnyH_take (i := 3) (oi := { dst := some 228, op := Go.Op.load 41 (Go.Operand.tmp 227), type := 41, pos := "memory.go:109", after := #[{ on := 2, ground := Go.Ground.data }], guard := none }) (v := (.slice va l.length vc)) rfl (by kernel_rfl) (by kernel_rfl) (by kernel_rfl) (fun _ _ _ h => h) (Or.inl ⟨by rfl, fun W hW => by have cc := (World.cell?_of_block (a := ⟨gL, q, none⟩) (hW.block gL (by omega))).trans CL.out; first | (go_simp; done) | (go_simp; with_reducible rfl)⟩) hS1 ?_
      try simp only [Act.put, List.setIfInBounds_toArray, List.set_cons_zero, List.set_cons_succ]
      refine wpAnyH_take (i := 4) (oi := { dst := some 229, op := Go.Op.move (Go.Operand.tmp 6), type := 34, pos := "memory.go:109", after := #[], guard := none }) (v := (.slice (some ⟨gS, 0, none⟩) LL.length kS)) rfl (by kernel_rfl) (by kernel_rfl) (by kernel_rfl) (fun _ _ _ h => h) (Or.inl ⟨by rfl, fun W hW => by first | (go_simp; done) | (go_simp; with_reducible rfl)⟩) hS1 ?_
      try simp only [Act.put, List.setIfInBounds_toArray, List.set_cons_zero, List.set_cons_succ]
      refine wpAnyH_take (i := 5) (oi := { dst := some 230, op := Go.Op.move (Go.Operand.tmp 28), type := 3, pos := "memory.go:109", after := #[], guard := none }) (v := (.int .i64 q)) rfl (by kernel_rfl) (by kernel_rfl) (by kernel_rfl) (fun _ _ _ h => h) (Or.inl ⟨by rfl, fun W hW => by first | (go_simp; done) | (go_simp; with_reducible rfl)⟩) hS1 ?_
      try simp only [Act.put, List.setIfInBounds_toArray, List.set_cons_zero, List.set_cons_succ]
      refine wpAnyH_take (i := 6) (oi := { dst := some 231, op := Go.Op.indexAddr 34 (Go.Operand.tmp 229) (Go.Operand.tmp 230), type := 0, pos := "memory.go:109", after := #[{ on := 4, ground := Go.Ground.data }, { on := 5, ground := Go.Ground.data }], guard := none }) (v := (.pointer (some ⟨gS, q, none⟩))) rfl (by kernel_rfl) (by kernel_rfl) (by kernel_rfl) (fun _ _ _ h => h) (Or.inl ⟨by rfl, fun W hW => by first | (go_simp; done) | (go_simp; with_reducible rfl)⟩) hS1 ?_
      try simp only [Act.put, List.setIfInBounds_toArray, List.set_cons_zero, List.set_cons_succ]
      refine wpAnyH_take (i := 7) (oi := { dst := some 232, op := Go.Op.load 41 (Go.Operand.tmp 231), type := 41, pos := "memory.go:109", after := #[{ on := 6, ground := Go.Ground.data }], guard := none }) (v := (.slice ua l.length uc)) rfl (by kernel_rfl) (by kernel_rfl) (by kernel_rfl) (fun _ _ _ h => h) (Or.inl ⟨by rfl, fun W hW => by have cc := (World.cell?_of_block (a := ⟨gS, q, none⟩) (hW.block gS (by omega))).trans CS.out; first | (go_simp; done) | (go_simp; with_reducible rfl)⟩) hS1 ?_
      try simp only [Act.put, List.setIfInBounds_toArray, List.set_cons_zero, List.set_cons_succ]
      refine wpAnyH_ready (rs := [8]) (by kernel_rfl) (by simp) ?_
      refine AllReadyH.cons (o := { dst := some 233, op := Go.Op.call { callee := Go.Callee.value (Go.Operand.func 28), args := #[Go.Operand.tmp 228, Go.Operand.tmp 232], argTypes := #[41, 41] }, type := 4, pos := "memory.go:109", after := #[{ on := 3, ground := Go.Ground.data }, { on := 7, ground := Go.Ground.data }], guard := none }) rfl (fun K hK => ?_) AllReadyH.nil
      refine wanted_wp (by rfl) ?_
      go_simp
      go_at_call 28
      have cc := areas_any l l _ wx.heap.size wx.heap.size va ua vc uc (ATV.out.kept hS1 (Nat.le_refl _)) (ATU.out.kept hS1 (Nat.le_refl _)) hS1.size hS1.size
      with_reducible refine cc.mono ?_
      clear cc
      rintro e wy ⟨he, bq⟩
      obtain rfl := he.trans (show _ = Ending.returned (.bool true) by simp)
      refine hK.out _ _ (hS1.trans (bq.mono hS1.size)) (fun hS1 => ?_)
      clear hK K bq
      try simp only [Act.put, List.setIfInBounds_toArray, List.set_cons_zero, List.set_cons_succ]
      refine wpAnyH_take (i := 9) (oi := { dst := some 234, op := Go.Op.unOp Go.UnOp.not 4 (Go.Operand.tmp 233), type := 4, pos := "memory.go:109", after := #[{ on := 8, ground := Go.Ground.data }], guard := none }) (v := (.bool false)) rfl (by kernel_rfl) (by kernel_rfl) (by kernel_rfl) (fun _ _ _ h => h) (Or.inl ⟨by rfl, fun W hW => by first | (go_simp; done) | (go_simp; with_reducible rfl)⟩) hS1 ?_
      try simp only [Act.put, List.setIfInBounds_toArray, List.set_cons_zero, List.set_cons_succ]
      refine wpAnyH_done (by kernel_rfl) ?_ _
      refine NoPanic.normal ?_
      have bel := Lib.hid hS1
      have hsy : wx.heap.size ≤ wy.heap.size := hS1.size
      have CL := Lib.hid ((World.cell?_of_block (a := ⟨gL, q, none⟩) (hS1.block gL (by omega))).trans CL.out)
      have AV := Lib.hid (AV.out.kept (w' := wy) fun x hx => hS1.block x (by have := HV.out x hx; omega))
      clear hS1 ATV ATU CS
      go_wp2_with fail
      go_loopw [29] (fun i wl => Tw2 w1.heap.size l.length (Value.slice va l.length vc) wy wl i) (fun i _ => l.length - (intOf i).toNat)
      case atStart => exact ⟨0, arCells l, rfl, Nat.zero_le _, AV, Lib.hid (Spd.refl _ _)⟩
      case round =>
        obtain ⟨p, cs, rfl, hp, HOW, HSP6⟩ := hrel
        have c0 : wr.cell? ⟨gL, q, none⟩ = some (Value.slice va l.length vc) := (World.cell?_of_block (a := ⟨gL, q, none⟩) (HSP6.out.same gL (by omega) HLV.out)).trans CL.out
        by_cases hpl : p < l.length
        · obtain ⟨g, cur, hva, hg0, hcur, h1, h2_, h3⟩ : ∃ g cur, va = some ⟨g, 0, none⟩ ∧ w1.heap.size ≤ g ∧ wr.heap[g]? = some (.cells cur 47 (0, 0)) ∧ l.length ≤ vc ∧ vc ≤ maxLen ∧ cur.size = vc * 4 := by
            rcases HOW.out.2 with ⟨-, e⟩ | ⟨g, cp, cur, e, hb, hc, h1, h2, h3, -⟩
            · omega
            · simp only [Value.slice.injEq] at e
              obtain ⟨rfl, -, rfl⟩ := e
              exact ⟨g, cur, rfl, hb, hc, h1, h2, h3⟩
          obtain rfl := hva
          have HG := Lib.hid hcur
          have hroom : p * 4 + 4 ≤ cur.size := by rw [h3]; omega
          have H3 := Lib.hid (And.intro h1 (And.intro h2_ h3))
          have hpi : (p : Int) < (l.length : Int) := by omega
          have hp0 : (0 : Int) ≤ (p : Int) := by omega
          clear hcur h1 h2_ h3
          go_wp2_with (refine wpList_store_mem (N := g) (off := p * 4) (vs := [.int .i64 (-3), .int .i64 0, .int .i64 0, .int .i64 0]) infoArS rfl rfl rfl rfl HG.out hroom rfl (by simp [Value.oneCell']) ?_; intro wn hwn; have EW := Lib.hid hwn; clear hwn)
          obtain ⟨cur2, c1, c2⟩ := setCells_sized (vs := [.int .i64 (-3), .int .i64 0, .int .i64 0, .int .i64 0]) HG.out hroom
          rw [← EW.out] at c1
          refine ⟨⟨p + 1, _, by go_num, by omega, Lib.hid (own_of_block c1 hg0 H3.out.1 H3.out.2.1 (by rw [c2]; exact H3.out.2.2)), Lib.hid ?_⟩, by simp [intOf]; omega⟩
          rw [EW.out]
          exact HSP6.out.cells (.inl (by simp [ownList, Value.ownBlock])) _ _
        · obtain ⟨wz, rfl⟩ : ∃ x, x = wr := ⟨_, rfl⟩
          have SP := Lib.hid HSP6.out
          go_wp2
          exact ⟨⟨q + 1, L', pL ++ [(Value.slice va l.length vc)], cL2, pS ++ [.slice ua l.length uc], cS2, G3, H3, by go_num, Lib.hid (by have := HQ.out; simp only [List.length_cons] at this; omega), Lib.hid ⟨by rw [HPL.out.1, List.append_assoc]; rfl, by rw [List.length_append, HPL.out.2]; rfl⟩, Lib.hid ⟨by rw [HPS.out.1, List.append_assoc]; rfl, by rw [List.length_append, HPS.out.2]; rfl⟩,
            Lib.hid ⟨AR_.out.kept fun x hx => (SP.out.same x (by have := (HG3.out x hx).1; omega) (HG3.out x hx).2).trans (bel.out.block x (HG3.out x hx).1), fun x hx => HA.out.2.1 x (by simp [hx]), N3.out⟩,
            Lib.hid ⟨AUR.out.kept fun x hx => (SP.out.same x (by have := (HH3.out x hx).1; omega) (HH3.out x hx).2).trans (bel.out.block x (HH3.out x hx).1), fun x hx => HB.out.2 x (by simp [hx])⟩, Lib.hid ((HSP5.out.ext bel.out).trans SP.out fun x hx => .inl (HV.out x (mem_ownList.1 hx)).1)⟩, by simp [intOf]; omega⟩
    · have SP := Lib.hid HSP5.out
      clear HSP5 HQ HPL HPS HA HB
      go_wp2_with fail
      exact HE.out _ _ _ _ _ _ _ _ _ _ _ _ _ _ _ _ _ _ _ _ _ _ _ _ _ _ _ _ _ _ _ _ _ _ _ _ SP.out

end Go.Proofs.Ytkjfeakbhfkldaa
