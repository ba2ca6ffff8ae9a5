/- LexFresh: its inner loops as theorems of their own (over letters for the frame). -/
import Derived.Test.YtikahfnlflhbfaaGreatDoorLzS
import Derived.IntWalk
import Derived.Deep.CutRange
namespace Go.Proofs.YtikahfnlflhbfaaGreatDoor
open Go.RowKit Go.Lib

def loopsIn8 : Code → List Code
  | .loop c => c :: loopsIn8 c
  | .seq a b => loopsIn8 a ++ loopsIn8 b
  | .block _ c => loopsIn8 c
  | .scope c => loopsIn8 c
  | .cond _ a b => loopsIn8 a ++ loopsIn8 b
  | _ => []
noncomputable def fxB (i : Nat) : Code := (((Tryz.f4.body.map loopsIn8).getD [])[i]?.getD .skip)
theorem infoSl8 : (Tryz.prog.info? 28).map (fun i => (i.zero, i.size, i.bytes)) = some (some (.slice none 0 0), 1, 24) := by kernel_rfl
theorem infoInt8 : (Tryz.prog.info? 3).map (fun i => (i.zero, i.size, i.bytes)) = some (some (.int .i64 0), 1, 8) := by kernel_rfl
def roomN (n all : Nat) : Nat := if n + 70000 < all then n + 70000 else all
theorem roomN_le (n all : Nat) : roomN n all ≤ n + 70000 := by unfold roomN; split <;> omega
theorem room8_any (n all : Nat) (w : World) (hn : n ≤ 65535) : Calls Tryz.prog 10 #[.int .i64 (n : Int), .int .i64 (all : Int)] w fun e w' => e = .returned (.int .i64 (roomN n all : Int)) ∧ w' = w := by
  go_enter Tryz.func10, Tryz.ntmps10
  rcases Nat.lt_or_ge (n + 70000) all with h | h
  · have h1 : (n : Int) + 70000 < (all : Int) := by omega
    have h2 : ((roomN n all : Nat) : Int) = (n : Int) + 70000 := by unfold roomN; rw [if_pos h]; omega
    have H2 := Lib.hid h2
    clear h2
    go_wp2
    go_ret
    exact ⟨by rw [H2.out]; rfl, rfl⟩
  · have h1 : ¬ ((n : Int) + 70000 < (all : Int)) := by omega
    have h2 : ((roomN n all : Nat) : Int) = (all : Int) := by unfold roomN; rw [if_neg (by omega)]
    have H2 := Lib.hid h2
    clear h2
    go_wp2
    go_ret
    exact ⟨by rw [H2.out]; rfl, rfl⟩
theorem WdAt.drew {w : World} {B : Nat} {l : List WordL} {a : Option Addr} (h : WdAt w B l a) (hB : B ≤ w.heap.size) (n : Nat) : WdAt (w.drewN n) B l a := h.kept ((below_draws8 w n).mono hB) (Nat.le_refl _)
set_option maxRecDepth 100000 in
set_option maxHeartbeats 1000000 in
theorem eq8_drew (l : List WordL) (w : World) (B B' : Nat) (a a' : Option Addr) (kc kc' : Nat) (A : WdAt w B l a) (A' : WdAt w B' l a') (hB : B ≤ w.heap.size) (hB' : B' ≤ w.heap.size) :
    Calls Tryz.prog 9 #[.slice a l.length kc, .slice a' l.length kc'] w fun e w' => e = .returned (.bool true) ∧ ∃ n, w' = w.drewN n := by
  have hl := A.1
  have HA := Lib.hid A; have HA' := Lib.hid A'; clear A A'
  go_enter Tryz.func9, Tryz.ntmps9
  go_wp2_with fail
  go_loopw [5] (fun i wr => ∃ j q : Nat, i = .int .i64 j ∧ j ≤ l.length ∧ wr = w.drewN q) (fun i _ => l.length - (intOf i).toNat)
  case atStart => exact ⟨0, 0, rfl, Nat.zero_le _, rfl⟩
  case round =>
    obtain ⟨j, q, rfl, hj, rfl⟩ := hrel
    by_cases hlt : j < l.length
    · obtain ⟨x, hx⟩ : ∃ x, l[j]? = some x := ⟨l[j], List.getElem?_eq_getElem hlt⟩
      obtain ⟨b, off, rfl, -, lt, c0, c1, c2⟩ := (HA.out.drew hB q).2 j x hx
      obtain ⟨b', off', rfl, -, lt', d0, d1, d2⟩ := (HA'.out.drew hB' q).2 j x hx
      obtain ⟨wq, hwq⟩ : ∃ wq, wq = w.drewN q := ⟨_, rfl⟩
      rw [← hwq] at c0 c1 c2 d0 d1 d2 ⊢
      have HWQ := Lib.hid hwq
      clear hx lt lt' hwq
      go_wp2_with fail
      go_quiet (fail)
      go_wp2
      exact ⟨⟨j + 1, _, by go_num, by omega, by rw [HWQ.out, World.drewN_drewN]⟩, by simp [intOf]; omega⟩
    · go_wp2
      go_ret
      exact ⟨rfl, q, rfl⟩
def FxR3 (w0 : World) (n : Nat) (vL vQ vW vN : Value) (cL cQ cW : List Value) (ns : List Nat) (l wl : List WordL) (v vw i : Value) (wr : World) : Prop :=
  ∃ (j N : Nat) (cl : Nat → Nat), i = .int .i64 (j : Int) ∧ j ≤ l.length ∧ Hid (FxS w0 w0.heap.size N cl (fun j => j < n) (fun _ => 0) vL vQ vW vN cL cQ cW ns wr) ∧ Hid (Wl w0.heap.size N cl (10 + n) wr (mixd n j l) v) ∧ Hid (Wl w0.heap.size N cl 5 wr wl vw)
def lenAt8 (w : World) (g i : Nat) : Nat := match w.cell? ⟨g, i, none⟩ with
  | some (.slice _ n _) => n
  | _ => 0
def FxR5 (w0 : World) (n i m : Nat) (vL vQ vW vN : Value) (cQ cW : List Value) (ns : List Nat) (wr : World) : Prop :=
  ∃ (e N kc : Nat) (a : Option Addr) (cl : Nat → Nat) (cL : List Value), e ≤ 70000 ∧ cL.length = n ∧ cL[i]? = some (.slice a (m + e) kc) ∧ Hid (FxS w0 w0.heap.size N cl (fun j => j < n ∧ j ≠ i) (fun j => if j < i then 70000 else 0) vL vQ vW vN cL cQ cW ns wr) ∧ Hid (Wl w0.heap.size N cl (10 + i) wr (lwd i m e) (.slice a (m + e) kc))
set_option maxRecDepth 1000000 in
set_option maxHeartbeats 16000000 in
theorem fx_l3 {Q : Exit → Act → World → Prop} {w0 W : World} {N n gL kL kc : Nat} {cl : Nat → Nat} {vQ vW vN vw : Value} {cs cQ cW : List Value} {ns : List Nat} {a : Option Addr} {l wl : List WordL} {u0 u1 u2 u3 u5 u6 u7 u8 u9 u10 u11 u12 u14 u15 u17 u18 u19 u20 u21 u22 u23 u24 u25 u26 u27 u28 u29 u30 u31 u32 u33 u34 u35 u36 u37 u38 u39 u40 u41 u42 u43 u44 u45 u46 u47 u48 u49 u50 u51 u52 u53 u54 u55 u56 u57 u58 u59 u60 u61 u62 u63 u64 u65 u66 u67 u68 u69 u70 u71 u72 u73 u74 u75 u76 u77 u78 u79 u80 u81 u82 u83 u84 u85 u86 u87 u88 u89 u90 u91 u92 u93 u94 u95 u96 u97 u98 u99 u100 u101 u102 u103 u104 u105 u106 u107 u108 u109 u110 u111 u112 u113 u114 u115 u116 u117 u118 u119 u120 u121 u122 u123 u124 u125 u126 u127 u128 u129 u130 u131 u132 u133 u134 u135 u136 u137 u138 u139 u140 u141 u142 u143 u144 u145 u146 u147 u148 u149 u150 u151 u152 u153 u154 u155 u156 u157 u158 u159 u160 u161 u162 u163 u164 u165 u166 u167 u168 u169 u170 u171 u172 u173 u174 u175 u176 u177 u178 u179 u180 u181 u182 u183 u184 u185 u186 u187 u188 u189 : Value}
    (FS : Hid (FxS w0 w0.heap.size N cl (fun j => j < n) (fun _ => 0) (.slice (some ⟨gL, 0, none⟩) (n + 1) kL) vQ vW vN (cs ++ [(.slice a l.length kc)]) cQ cW ns W)) (HL : Hid (Wl w0.heap.size N cl (10 + n) W l (.slice a l.length kc))) (HK : Hid (Wl w0.heap.size N cl 5 W wl vw)) (hl : l.length ≤ 65535) (hn : n ≤ 300)
    (hexit : Hid (∀ (v91 v92 v93 v94 v95 v96 v97 v98 v99 v100 v101 v102 v103 : Value) (N' : Nat) (cl' : Nat → Nat) (w' : World), Hid (FxS w0 w0.heap.size N' cl' (fun j => j < n) (fun _ => 0) (.slice (some ⟨gL, 0, none⟩) (n + 1) kL) vQ vW vN (cs ++ [(.slice a l.length kc)]) cQ cW ns w') → Hid (Wl w0.heap.size N' cl' (10 + n) w' (lwd n l.length 0) (.slice a l.length kc)) → Hid (Wl w0.heap.size N' cl' 5 w' wl vw) → Q (.exit 4) ⟨List.toArray (u0 :: u1 :: u2 :: u3 :: (.slice (some ⟨gL, 0, none⟩) (n + 1) kL) :: u5 :: u6 :: u7 :: u8 :: u9 :: u10 :: u11 :: u12 :: (.slice a l.length kc) :: u14 :: u15 :: (.int .i64 ((l.length : Nat) : Int)) :: u17 :: u18 :: u19 :: u20 :: u21 :: u22 :: u23 :: u24 :: u25 :: u26 :: u27 :: u28 :: u29 :: u30 :: u31 :: u32 :: u33 :: u34 :: u35 :: u36 :: u37 :: u38 :: u39 :: u40 :: u41 :: u42 :: u43 :: u44 :: u45 :: u46 :: u47 :: u48 :: u49 :: u50 :: u51 :: u52 :: u53 :: u54 :: u55 :: u56 :: u57 :: u58 :: u59 :: u60 :: u61 :: u62 :: u63 :: u64 :: u65 :: u66 :: u67 :: u68 :: u69 :: u70 :: u71 :: u72 :: u73 :: u74 :: u75 :: u76 :: u77 :: u78 :: u79 :: u80 :: u81 :: u82 :: u83 :: u84 :: u85 :: u86 :: u87 :: u88 :: u89 :: u90 :: v91 :: v92 :: v93 :: v94 :: v95 :: v96 :: v97 :: v98 :: v99 :: v100 :: v101 :: v102 :: v103 :: u104 :: u105 :: u106 :: u107 :: u108 :: u109 :: u110 :: u111 :: u112 :: u113 :: u114 :: u115 :: u116 :: u117 :: u118 :: u119 :: u120 :: u121 :: u122 :: u123 :: u124 :: u125 :: u126 :: u127 :: u128 :: u129 :: u130 :: u131 :: u132 :: u133 :: u134 :: u135 :: u136 :: u137 :: u138 :: u139 :: u140 :: u141 :: u142 :: u143 :: u144 :: u145 :: u146 :: u147 :: u148 :: u149 :: u150 :: u151 :: u152 :: u153 :: u154 :: u155 :: u156 :: u157 :: u158 :: u159 :: u160 :: u161 :: u162 :: u163 :: u164 :: u165 :: u166 :: u167 :: u168 :: u169 :: u170 :: u171 :: u172 :: u173 :: u174 :: u175 :: u176 :: u177 :: u178 :: u179 :: u180 :: u181 :: u182 :: u183 :: u184 :: u185 :: u186 :: u187 :: u188 :: u189 :: []), []⟩ w')) :
    Code.wp Tryz.prog (Code.loop (fxB 2)) Q ⟨List.toArray (u0 :: u1 :: u2 :: u3 :: (.slice (some ⟨gL, 0, none⟩) (n + 1) kL) :: u5 :: u6 :: u7 :: u8 :: u9 :: u10 :: u11 :: u12 :: (.slice a l.length kc) :: u14 :: u15 :: (.int .i64 0) :: u17 :: u18 :: u19 :: u20 :: u21 :: u22 :: u23 :: u24 :: u25 :: u26 :: u27 :: u28 :: u29 :: u30 :: u31 :: u32 :: u33 :: u34 :: u35 :: u36 :: u37 :: u38 :: u39 :: u40 :: u41 :: u42 :: u43 :: u44 :: u45 :: u46 :: u47 :: u48 :: u49 :: u50 :: u51 :: u52 :: u53 :: u54 :: u55 :: u56 :: u57 :: u58 :: u59 :: u60 :: u61 :: u62 :: u63 :: u64 :: u65 :: u66 :: u67 :: u68 :: u69 :: u70 :: u71 :: u72 :: u73 :: u74 :: u75 :: u76 :: u77 :: u78 :: u79 :: u80 :: u81 :: u82 :: u83 :: u84 :: u85 :: u86 :: u87 :: u88 :: u89 :: u90 :: u91 :: u92 :: u93 :: u94 :: u95 :: u96 :: u97 :: u98 :: u99 :: u100 :: u101 :: u102 :: u103 :: u104 :: u105 :: u106 :: u107 :: u108 :: u109 :: u110 :: u111 :: u112 :: u113 :: u114 :: u115 :: u116 :: u117 :: u118 :: u119 :: u120 :: u121 :: u122 :: u123 :: u124 :: u125 :: u126 :: u127 :: u128 :: u129 :: u130 :: u131 :: u132 :: u133 :: u134 :: u135 :: u136 :: u137 :: u138 :: u139 :: u140 :: u141 :: u142 :: u143 :: u144 :: u145 :: u146 :: u147 :: u148 :: u149 :: u150 :: u151 :: u152 :: u153 :: u154 :: u155 :: u156 :: u157 :: u158 :: u159 :: u160 :: u161 :: u162 :: u163 :: u164 :: u165 :: u166 :: u167 :: u168 :: u169 :: u170 :: u171 :: u172 :: u173 :: u174 :: u175 :: u176 :: u177 :: u178 :: u179 :: u180 :: u181 :: u182 :: u183 :: u184 :: u185 :: u186 :: u187 :: u188 :: u189 :: []), []⟩ W := by
  conv => arg 2; arg 1; whnf
  go_loopw [16] (fun i wr => FxR3 w0 n (.slice (some ⟨gL, 0, none⟩) (n + 1) kL) vQ vW vN (cs ++ [(.slice a l.length kc)]) cQ cW ns l wl (.slice a l.length kc) vw i wr) (fun i _ => l.length - (intOf i).toNat)
  case atStart => exact ⟨0, N, cl, rfl, Nat.zero_le _, FS, Lib.hid (by rw [mixd_zero]; exact HL.out), HK⟩
  case round =>
    obtain ⟨j, N', cl', rfl, hj, FS', HL', HK'⟩ := hrel
    by_cases hlt : j < l.length
    · obtain ⟨g, cap, e, hg0, hg1⟩ := World.ownsRow.form HL'.out.row (by rw [mixd_len hj]; omega)
      simp only [Value.slice.injEq] at e
      obtain ⟨rfl, -, rfl⟩ := e
      obtain ⟨c0, c1, c2⟩ := WdRow.get3 HL'.out.row (mixd_get hlt)
      have f0 := ownsRow_frz HL'.out.row (j * 3)
      have f1 := ownsRow_frz HL'.out.row (j * 3 + 1)
      have f2 := ownsRow_frz HL'.out.row (j * 3 + 2)
      have u1 : (j : Int) < (l.length : Int) := by omega
      clear hg0 hg1
      go_wp2_with fail
      refine ⟨?_, by simp [intOf]; omega⟩
      obtain ⟨r1, r2, r3⟩ := FS'.out.mix (k := -((n : Int) + 1)) (by omega) HL'.out HK'.out hlt (by omega)
      exact ⟨j + 1, _, _, by go_num, by omega, Lib.hid r1, Lib.hid r2, Lib.hid r3⟩
    · have hjl : j = l.length := by omega
      subst hjl
      have HL2 := Lib.hid (by have := HL'.out; rw [mixd_end] at this; exact this)
      go_wp2_with fail
      exact hexit.out _ _ _ _ _ _ _ _ _ _ _ _ _ _ _ _ FS' HL2 HK'
set_option maxRecDepth 1000000 in
set_option maxHeartbeats 16000000 in
theorem fx_l5 {Q : Exit → Act → World → Prop} {w0 W : World} {N n i m R gL kL kc : Nat} {cl : Nat → Nat} {vQ vW vN : Value} {cL cQ cW : List Value} {ns : List Nat} {a : Option Addr} {u0 u1 u2 u3 u5 u6 u7 u8 u9 u10 u11 u12 u13 u14 u15 u16 u19 u20 u21 u22 u23 u24 u25 u26 u27 u28 u29 u30 u31 u32 u33 u34 u35 u36 u37 u38 u39 u40 u41 u42 u43 u44 u45 u46 u47 u48 u49 u50 u51 u52 u53 u54 u55 u56 u57 u58 u59 u60 u61 u62 u63 u64 u65 u66 u67 u68 u69 u70 u71 u72 u73 u74 u75 u76 u77 u78 u79 u80 u81 u82 u83 u84 u85 u86 u87 u88 u89 u90 u91 u92 u93 u94 u95 u96 u97 u98 u99 u100 u101 u102 u103 u104 u105 u106 u107 u108 u109 u110 u111 u112 u113 u114 u115 u116 u117 u118 u119 u120 u121 u122 u123 u124 u125 u126 u127 u128 u129 u130 u131 u132 u133 u134 u135 u136 u137 u138 u139 u140 u141 u142 u143 u144 u145 u146 u147 u148 u149 u150 u151 u152 u153 u154 u155 u156 u157 u158 u159 u160 u161 u162 u163 u164 u165 u166 u167 u168 u169 u170 u171 u172 u173 u174 u175 u176 u177 u178 u179 u180 u181 u182 u183 u184 u185 u186 u187 u188 u189 : Value}
    (FS : Hid (FxS w0 w0.heap.size N cl (fun j => j < n ∧ j ≠ i) (fun j => if j < i then 70000 else 0) (.slice (some ⟨gL, 0, none⟩) n kL) vQ vW vN cL cQ cW ns W)) (HL : Hid (Wl w0.heap.size N cl (10 + i) W (lwd i m 0) (.slice a m kc))) (hcL : cL.length = n) (hci : cL[i]? = some (.slice a m kc)) (hm : m ≤ 65535) (hR : R ≤ m + 70000) (hi : i < n) (hn : n ≤ 300)
    (hexit : Hid (∀ (v121 v122 v123 v124 v125 v126 v127 v128 v129 v130 v131 v132 v133 v134 v135 v136 v137 v138 v139 : Value) (e N' kc' : Nat) (a' : Option Addr) (cl' : Nat → Nat) (cL' : List Value) (w' : World), e ≤ 70000 → cL'.length = n → cL'[i]? = some (.slice a' (m + e) kc') → Hid (FxS w0 w0.heap.size N' cl' (fun j => j < n ∧ j ≠ i) (fun j => if j < i then 70000 else 0) (.slice (some ⟨gL, 0, none⟩) n kL) vQ vW vN cL' cQ cW ns w') → Hid (Wl w0.heap.size N' cl' (10 + i) w' (lwd i m e) (.slice a' (m + e) kc')) → Q (.exit 8) ⟨List.toArray (u0 :: u1 :: u2 :: u3 :: (.slice (some ⟨gL, 0, none⟩) n kL) :: u5 :: u6 :: u7 :: u8 :: u9 :: u10 :: u11 :: u12 :: u13 :: u14 :: u15 :: u16 :: (.int .i64 ((i : Nat) : Int)) :: (.int .i64 ((R : Nat) : Int)) :: u19 :: u20 :: u21 :: u22 :: u23 :: u24 :: u25 :: u26 :: u27 :: u28 :: u29 :: u30 :: u31 :: u32 :: u33 :: u34 :: u35 :: u36 :: u37 :: u38 :: u39 :: u40 :: u41 :: u42 :: u43 :: u44 :: u45 :: u46 :: u47 :: u48 :: u49 :: u50 :: u51 :: u52 :: u53 :: u54 :: u55 :: u56 :: u57 :: u58 :: u59 :: u60 :: u61 :: u62 :: u63 :: u64 :: u65 :: u66 :: u67 :: u68 :: u69 :: u70 :: u71 :: u72 :: u73 :: u74 :: u75 :: u76 :: u77 :: u78 :: u79 :: u80 :: u81 :: u82 :: u83 :: u84 :: u85 :: u86 :: u87 :: u88 :: u89 :: u90 :: u91 :: u92 :: u93 :: u94 :: u95 :: u96 :: u97 :: u98 :: u99 :: u100 :: u101 :: u102 :: u103 :: u104 :: u105 :: u106 :: u107 :: u108 :: u109 :: u110 :: u111 :: u112 :: u113 :: u114 :: u115 :: u116 :: u117 :: u118 :: u119 :: u120 :: v121 :: v122 :: v123 :: v124 :: v125 :: v126 :: v127 :: v128 :: v129 :: v130 :: v131 :: v132 :: v133 :: v134 :: v135 :: v136 :: v137 :: v138 :: v139 :: u140 :: u141 :: u142 :: u143 :: u144 :: u145 :: u146 :: u147 :: u148 :: u149 :: u150 :: u151 :: u152 :: u153 :: u154 :: u155 :: u156 :: u157 :: u158 :: u159 :: u160 :: u161 :: u162 :: u163 :: u164 :: u165 :: u166 :: u167 :: u168 :: u169 :: u170 :: u171 :: u172 :: u173 :: u174 :: u175 :: u176 :: u177 :: u178 :: u179 :: u180 :: u181 :: u182 :: u183 :: u184 :: u185 :: u186 :: u187 :: u188 :: u189 :: []), []⟩ w')) :
    Code.wp Tryz.prog (Code.loop (fxB 4)) Q ⟨List.toArray (u0 :: u1 :: u2 :: u3 :: (.slice (some ⟨gL, 0, none⟩) n kL) :: u5 :: u6 :: u7 :: u8 :: u9 :: u10 :: u11 :: u12 :: u13 :: u14 :: u15 :: u16 :: (.int .i64 ((i : Nat) : Int)) :: (.int .i64 ((R : Nat) : Int)) :: u19 :: u20 :: u21 :: u22 :: u23 :: u24 :: u25 :: u26 :: u27 :: u28 :: u29 :: u30 :: u31 :: u32 :: u33 :: u34 :: u35 :: u36 :: u37 :: u38 :: u39 :: u40 :: u41 :: u42 :: u43 :: u44 :: u45 :: u46 :: u47 :: u48 :: u49 :: u50 :: u51 :: u52 :: u53 :: u54 :: u55 :: u56 :: u57 :: u58 :: u59 :: u60 :: u61 :: u62 :: u63 :: u64 :: u65 :: u66 :: u67 :: u68 :: u69 :: u70 :: u71 :: u72 :: u73 :: u74 :: u75 :: u76 :: u77 :: u78 :: u79 :: u80 :: u81 :: u82 :: u83 :: u84 :: u85 :: u86 :: u87 :: u88 :: u89 :: u90 :: u91 :: u92 :: u93 :: u94 :: u95 :: u96 :: u97 :: u98 :: u99 :: u100 :: u101 :: u102 :: u103 :: u104 :: u105 :: u106 :: u107 :: u108 :: u109 :: u110 :: u111 :: u112 :: u113 :: u114 :: u115 :: u116 :: u117 :: u118 :: u119 :: u120 :: u121 :: u122 :: u123 :: u124 :: u125 :: u126 :: u127 :: u128 :: u129 :: u130 :: u131 :: u132 :: u133 :: u134 :: u135 :: u136 :: u137 :: u138 :: u139 :: u140 :: u141 :: u142 :: u143 :: u144 :: u145 :: u146 :: u147 :: u148 :: u149 :: u150 :: u151 :: u152 :: u153 :: u154 :: u155 :: u156 :: u157 :: u158 :: u159 :: u160 :: u161 :: u162 :: u163 :: u164 :: u165 :: u166 :: u167 :: u168 :: u169 :: u170 :: u171 :: u172 :: u173 :: u174 :: u175 :: u176 :: u177 :: u178 :: u179 :: u180 :: u181 :: u182 :: u183 :: u184 :: u185 :: u186 :: u187 :: u188 :: u189 :: []), []⟩ W := by
  conv => arg 2; arg 1; whnf
  obtain ⟨i0, hi0, hz0, hz1, hz2⟩ := info_parts infoWd
  go_loopw [121] (fun _ wr => FxR5 w0 n i m (.slice (some ⟨gL, 0, none⟩) n kL) vQ vW vN cQ cW ns wr) (fun _ wr => R - lenAt8 wr gL i)
  case atStart => exact ⟨0, N, kc, a, cl, cL, Nat.zero_le _, hcL, hci, FS, HL⟩
  case round =>
    obtain ⟨e, N', kc', a', cl', cL', he, hlen, hc, FS', HL'⟩ := hrel
    have own := FS'.out.rL.own
    rw [hlen] at own
    have c0 := (own.cellOf i (by omega)).trans hc
    have OWN := Lib.hid own
    clear own
    by_cases hlt : m + e < R
    · have hw := HL'.out.row
      unfold WdRow at hw
      rw [lwd_len] at hw
      have HW := Lib.hid hw
      have u1 : ((m + e : Nat) : Int) < (R : Int) := by omega
      have hbw : w0.heap.size ≤ wr.heap.size := Nat.le_trans FS'.out.hb FS'.out.hN
      have C0 := Lib.hid c0
      clear hw
      go_wp2_with (at_builtin; refine wpList_append_lies _ rfl _ _ 28 rfl w0.heap.size 34 i0 _ 3 32 Tryz.underlying28 hi0 hz0 hz1 hz2 rfl (by decide) (.slice a' (m + e) kc') (m + e) (wdCells (lwd i m e)) rfl (World.ownsRow.alloc HW.out _) ⟨wr.heap.size, 0, none⟩ 1 1 (WordL.vals ⟨-1 - (i : Int), [], 1⟩) rfl rfl (World.news_of_block (heap_alloc_new wr _)) (by simp [Value.oneCell', WordL.vals]) (by decide) (by unfold maxLen; omega) (by omega) (by simp; omega) _ rfl ?_)
      intro g cap w1 hown hgrow hat hlt1
      have hgL := FS'.out.rL.cls gL rfl
      have hb := grow_same8 hgrow gL (Nat.lt_of_lt_of_le hgL.2 FS'.out.hN) (fun q => by have := (HL'.out.cls gL q).1; omega)
      have k1 := (World.cell?_of_block (a := ⟨gL, i, none⟩) hb).trans C0.out
      have f1 := (World.frozen?_of_block (a := ⟨gL, i, none⟩) hb).trans (ownsRow_frz OWN.out i)
      obtain ⟨N2, cl2, r1, r2⟩ := FS'.out.room (by omega) HL'.out hown hgrow (hat.imp_right fun q => by rw [q]; simp)
      have R1 := Lib.hid r1; have R2 := Lib.hid r2
      clear c0 r1 r2 hown hgrow hat hlt1 hgL hb
      go_wp2_with fail
      refine ⟨⟨e + 1, N2, cap, some ⟨g, 0, none⟩, cl2, _, by omega, ?_, ?_, R1, R2⟩, ?_⟩
      · rw [List.length_set]; exact hlen
      · exact List.getElem?_set_self (by omega)
      · have own2 := R1.out.rL.own
        rw [List.length_set, hlen] at own2
        have q2 := (own2.cellOf i (by rw [List.length_set]; omega)).trans (List.getElem?_set_self (by omega))
        unfold lenAt8
        rw [q2, C0.out]
        show R - (m + e + 1) < R - (m + e)
        omega
    · have u1 : ¬ ((m + e : Nat) : Int) < (R : Int) := by omega
      go_wp2_with fail
      exact hexit.out _ _ _ _ _ _ _ _ _ _ _ _ _ _ _ _ _ _ _ _ _ _ _ _ _ _ he hlen hc FS' HL'
set_option maxRecDepth 1000000 in
set_option maxHeartbeats 16000000 in
theorem fx_l8 {Q : Exit → Act → World → Prop} {w0 W : World} {N n i m len gL kL gN kN kc : Nat} {cl : Nat → Nat} {vQ vW : Value} {cL cQ cW : List Value} {ns : List Nat} {a : Option Addr} {u0 u1 u2 u3 u5 u6 u8 u9 u10 u11 u12 u13 u14 u15 u16 u17 u18 u19 u22 u23 u24 u25 u26 u27 u28 u29 u30 u31 u32 u33 u34 u35 u36 u37 u38 u39 u40 u41 u42 u43 u44 u45 u46 u47 u48 u49 u50 u51 u52 u53 u54 u55 u56 u57 u58 u59 u60 u61 u62 u63 u64 u65 u66 u67 u68 u69 u70 u71 u72 u73 u74 u75 u76 u77 u78 u79 u80 u81 u82 u83 u84 u85 u86 u87 u88 u89 u90 u91 u92 u93 u94 u95 u96 u97 u98 u99 u100 u101 u102 u103 u104 u105 u106 u107 u108 u109 u110 u111 u112 u113 u114 u115 u116 u117 u118 u119 u120 u121 u122 u123 u124 u125 u126 u127 u128 u129 u130 u131 u132 u133 u134 u135 u136 u137 u138 u139 u140 u141 u142 u143 u144 u145 u146 u147 u148 u149 u150 u151 u152 u153 u154 u155 u156 u157 u158 u159 u160 u161 u162 u163 u164 u165 u166 u167 u168 u169 u170 u171 u172 u173 u174 u175 u176 u177 u178 u179 u180 u181 u182 u183 u184 u185 u186 u187 u188 u189 : Value}
    (FS : Hid (FxS w0 w0.heap.size N cl (fun j => j < n) (fun _ => 70000) (.slice (some ⟨gL, 0, none⟩) n kL) vQ vW (.slice (some ⟨gN, 0, none⟩) n kN) cL cQ cW ns W)) (hcL : cL.length = n) (hns : ns.length = n) (hci : cL[i]? = some (.slice a len kc)) (hmi : ns[i]? = some m) (hi : i < n) (hn : n ≤ 300)
    (hexit : Hid (∀ (v2 v21 v22 v162 v163 v164 v165 v166 v167 v168 v169 v170 v171 v172 v173 v174 v175 v176 v177 v178 v179 v180 v181 v182 v183 v184 v185 v186 v187 v188 v189 : Value) (N' : Nat) (cl' : Nat → Nat) (w' : World), Hid (FxS w0 w0.heap.size N' cl' (fun j => j < n) (fun _ => 70000) (.slice (some ⟨gL, 0, none⟩) n kL) vQ vW (.slice (some ⟨gN, 0, none⟩) n kN) cL cQ cW ns w') → Q (.exit 14) ⟨List.toArray (u0 :: u1 :: v2 :: u3 :: (.slice (some ⟨gL, 0, none⟩) n kL) :: u5 :: u6 :: (.slice (some ⟨gN, 0, none⟩) n kN) :: u8 :: u9 :: u10 :: u11 :: u12 :: u13 :: u14 :: u15 :: u16 :: u17 :: u18 :: u19 :: (.int .i64 ((i : Nat) : Int)) :: v21 :: v22 :: u23 :: u24 :: u25 :: u26 :: u27 :: u28 :: u29 :: u30 :: u31 :: u32 :: u33 :: u34 :: u35 :: u36 :: u37 :: u38 :: u39 :: u40 :: u41 :: u42 :: u43 :: u44 :: u45 :: u46 :: u47 :: u48 :: u49 :: u50 :: u51 :: u52 :: u53 :: u54 :: u55 :: u56 :: u57 :: u58 :: u59 :: u60 :: u61 :: u62 :: u63 :: u64 :: u65 :: u66 :: u67 :: u68 :: u69 :: u70 :: u71 :: u72 :: u73 :: u74 :: u75 :: u76 :: u77 :: u78 :: u79 :: u80 :: u81 :: u82 :: u83 :: u84 :: u85 :: u86 :: u87 :: u88 :: u89 :: u90 :: u91 :: u92 :: u93 :: u94 :: u95 :: u96 :: u97 :: u98 :: u99 :: u100 :: u101 :: u102 :: u103 :: u104 :: u105 :: u106 :: u107 :: u108 :: u109 :: u110 :: u111 :: u112 :: u113 :: u114 :: u115 :: u116 :: u117 :: u118 :: u119 :: u120 :: u121 :: u122 :: u123 :: u124 :: u125 :: u126 :: u127 :: u128 :: u129 :: u130 :: u131 :: u132 :: u133 :: u134 :: u135 :: u136 :: u137 :: u138 :: u139 :: u140 :: u141 :: u142 :: u143 :: u144 :: u145 :: u146 :: u147 :: u148 :: u149 :: u150 :: u151 :: u152 :: u153 :: u154 :: u155 :: u156 :: u157 :: u158 :: u159 :: u160 :: u161 :: v162 :: v163 :: v164 :: v165 :: v166 :: v167 :: v168 :: v169 :: v170 :: v171 :: v172 :: v173 :: v174 :: v175 :: v176 :: v177 :: v178 :: v179 :: v180 :: v181 :: v182 :: v183 :: v184 :: v185 :: v186 :: v187 :: v188 :: v189 :: []), []⟩ w')) :
    Code.wp Tryz.prog (Code.loop (fxB 7)) Q ⟨List.toArray (u0 :: u1 :: u2 :: u3 :: (.slice (some ⟨gL, 0, none⟩) n kL) :: u5 :: u6 :: (.slice (some ⟨gN, 0, none⟩) n kN) :: u8 :: u9 :: u10 :: u11 :: u12 :: u13 :: u14 :: u15 :: u16 :: u17 :: u18 :: u19 :: (.int .i64 ((i : Nat) : Int)) :: (.int .i64 0) :: u22 :: u23 :: u24 :: u25 :: u26 :: u27 :: u28 :: u29 :: u30 :: u31 :: u32 :: u33 :: u34 :: u35 :: u36 :: u37 :: u38 :: u39 :: u40 :: u41 :: u42 :: u43 :: u44 :: u45 :: u46 :: u47 :: u48 :: u49 :: u50 :: u51 :: u52 :: u53 :: u54 :: u55 :: u56 :: u57 :: u58 :: u59 :: u60 :: u61 :: u62 :: u63 :: u64 :: u65 :: u66 :: u67 :: u68 :: u69 :: u70 :: u71 :: u72 :: u73 :: u74 :: u75 :: u76 :: u77 :: u78 :: u79 :: u80 :: u81 :: u82 :: u83 :: u84 :: u85 :: u86 :: u87 :: u88 :: u89 :: u90 :: u91 :: u92 :: u93 :: u94 :: u95 :: u96 :: u97 :: u98 :: u99 :: u100 :: u101 :: u102 :: u103 :: u104 :: u105 :: u106 :: u107 :: u108 :: u109 :: u110 :: u111 :: u112 :: u113 :: u114 :: u115 :: u116 :: u117 :: u118 :: u119 :: u120 :: u121 :: u122 :: u123 :: u124 :: u125 :: u126 :: u127 :: u128 :: u129 :: u130 :: u131 :: u132 :: u133 :: u134 :: u135 :: u136 :: u137 :: u138 :: u139 :: u140 :: u141 :: u142 :: u143 :: u144 :: u145 :: u146 :: u147 :: u148 :: u149 :: u150 :: u151 :: u152 :: u153 :: u154 :: u155 :: u156 :: u157 :: u158 :: u159 :: u160 :: u161 :: u162 :: u163 :: u164 :: u165 :: u166 :: u167 :: u168 :: u169 :: u170 :: u171 :: u172 :: u173 :: u174 :: u175 :: u176 :: u177 :: u178 :: u179 :: u180 :: u181 :: u182 :: u183 :: u184 :: u185 :: u186 :: u187 :: u188 :: u189 :: []), []⟩ W := by
  conv => arg 2; arg 1; whnf
  go_loopw [21] (fun kv wr => ∃ (k N : Nat) (cl : Nat → Nat), kv = .int .i64 (k : Int) ∧ k ≤ len ∧ Hid (FxS w0 w0.heap.size N cl (fun j => j < n) (fun _ => 70000) (.slice (some ⟨gL, 0, none⟩) n kL) vQ vW (.slice (some ⟨gN, 0, none⟩) n kN) cL cQ cW ns wr)) (fun kv _ => len - (intOf kv).toNat)
  case atStart => exact ⟨0, N, cl, rfl, Nat.zero_le _, FS⟩
  case round =>
    obtain ⟨k, N', cl', rfl, hk, FS'⟩ := hrel
    have own := FS'.out.rL.own
    rw [hcL] at own
    have c0 := (own.cellOf i (by omega)).trans hci
    have ownN := FS'.out.rN.own
    rw [List.length_map, hns] at ownN
    have n0 := ownN.cellOf i (by rw [List.length_map]; omega)
    rw [List.getElem?_map, hmi] at n0
    obtain ⟨m', e, h1, h2, h3, h4⟩ := FS'.out.ll i _ hi hci
    obtain rfl : m' = m := by rw [hmi] at h1; exact (Option.some.inj h1).symm
    have hlen : len = m' + e := by
      obtain ⟨a2, kc2, q⟩ := World.ownsRow.slice h4.row
      simp only [Value.slice.injEq, lwd_len] at q
      exact q.2.1
    have HW := Lib.hid h4
    have N0 := Lib.hid n0; have C0 := Lib.hid c0
    have OWN := Lib.hid own; have OWNN := Lib.hid ownN
    clear own ownN h1 h4
    by_cases hlt : k < len
    · obtain ⟨g, cap, q, hg0, hg1⟩ := World.ownsRow.form HW.out.row (by rw [lwd_len]; omega)
      simp only [Value.slice.injEq] at q
      obtain ⟨rfl, -, rfl⟩ := q
      obtain ⟨x, hx⟩ : ∃ x, (lwd i m' e)[k]? = some x := ⟨_, List.getElem?_eq_getElem (by rw [lwd_len]; omega)⟩
      obtain ⟨d0, d1, d2⟩ := WdRow.get3 HW.out.row hx
      rw [lwd_get hx] at d0 d1 d2
      simp only at d0 d1 d2
      have u1 : (k : Int) < (len : Int) := by omega
      have HB := Lib.hid (show N' ≤ wr.heap.size from FS'.out.hN)
      clear hg0 hx n0
      simp only [Option.map_some] at N0
      have n1 := N0.out
      have hgL := (OWN.out.lt gL rfl).2
      have hgN := (OWNN.out.lt gN rfl).2
      go_upto_region 45 with (fail)
      obtain ⟨wa, hwa⟩ : ∃ x, x = wr.alloc (.cells #[.int .i64 (-1 - (i : Int)), .string ⟨#[]⟩, .int .i64 0] 34) := ⟨_, rfl⟩
      rw [← hwa]
      have ba : Below wr.heap.size wr wa := by rw [hwa]; exact (Below.refl _ _).alloc (Nat.le_refl _) _
      have hBa : wa.heap[wr.heap.size]? = some (.cells #[.int .i64 (-1 - (i : Int)), .string ⟨#[]⟩, .int .i64 0] 34 (0, 0)) := by rw [hwa]; exact heap_alloc_new wr _
      have BA := Lib.hid ba
      have HBA := Lib.hid hBa
      have hza : wr.heap.size < wa.heap.size := by rw [hwa]; simp
      have HZ := Lib.hid hza
      replace c0 := (ba.cell (p := ⟨gL, i, none⟩) hgL).trans c0
      replace n1 := (ba.cell (p := ⟨gN, i, none⟩) hgN).trans n1
      replace d0 := (ba.cell (p := ⟨g, k * 3, none⟩) hg1).trans d0
      replace d1 := (ba.cell (p := ⟨g, k * 3 + 1, none⟩) hg1).trans d1
      replace d2 := (ba.cell (p := ⟨g, k * 3 + 2, none⟩) hg1).trans d2
      have e0 := blk_at8 hBa 0
      have e1 : wa.cell? ⟨wr.heap.size, 1, none⟩ = some (.string (strB [])) := blk_at8 hBa 1
      have e2 := blk_at8 hBa 2
      have f2 : wa.frozen? ⟨wr.heap.size, 2, none⟩ = false := by simp [World.frozen?, hBa]
      simp only [List.getElem?_toArray, List.getElem?_cons_zero, List.getElem?_cons_succ] at e0 e2
      clear hwa ba hBa hza
      by_cases hmk : m' ≤ k
      · rw [if_pos hmk] at d2
        have u2 : (m' : Int) ≤ (k : Int) := by omega
        go_upto_region 47 with (fail)
        obtain ⟨wb, hwb⟩ : ∃ x, x = wa.setCell ⟨wr.heap.size, 2, none⟩ (.int .i64 1) := ⟨_, rfl⟩
        rw [← hwb]
        have hother : ∀ x, x ≠ wr.heap.size → wb.heap[x]? = wa.heap[x]? := fun x hx => by rw [hwb]; exact heap_setCell_other _ _ _ _ (by simpa using hx)
        have hBb : wb.heap[wr.heap.size]? = some (.cells #[.int .i64 (-1 - (i : Int)), .string ⟨#[]⟩, .int .i64 1] 34 (0, 0)) := by rw [hwb]; exact heap_setCell_same _ _ 2 _ _ _ HBA.out
        have BB := Lib.hid (show Below wr.heap.size wr wb by rw [hwb]; exact BA.out.setCell (p := ⟨wr.heap.size, 2, none⟩) (Nat.le_refl _) _)
        replace c0 := (World.cell?_of_block (a := ⟨gL, i, none⟩) (hother gL (by omega))).trans c0
        replace d0 := (World.cell?_of_block (a := ⟨g, k * 3, none⟩) (hother g (by omega))).trans d0
        replace d1 := (World.cell?_of_block (a := ⟨g, k * 3 + 1, none⟩) (hother g (by omega))).trans d1
        replace d2 := (World.cell?_of_block (a := ⟨g, k * 3 + 2, none⟩) (hother g (by omega))).trans d2
        replace e0 := blk_at8 hBb 0
        replace e1 : wb.cell? ⟨wr.heap.size, 1, none⟩ = some (.string (strB [])) := blk_at8 hBb 1
        replace e2 := blk_at8 hBb 2
        simp only [List.getElem?_toArray, List.getElem?_cons_zero, List.getElem?_cons_succ] at e0 e2
        clear hwb hother hBb f2 n1 BA HBA HZ
        go_quiet (fail)
        generalize hD : World.drewN wb _ = wd
        have HD := Lib.hid (show Below wr.heap.size wr wd by rw [← hD]; exact BB.out.trans ((below_draws8 wb _).mono BB.out.size))
        clear hD
        go_wp2_with fail
        refine ⟨⟨k + 1, _, _, by go_num, by omega, Lib.hid (FS'.out.kept 5 (HD.out.mono HB.out))⟩, by simp [intOf]; omega⟩
      · rw [if_neg hmk] at d2
        have u2 : ¬ (m' : Int) ≤ (k : Int) := by omega
        go_upto_region 47 with (fail)
        clear n1 HBA HZ f2
        go_quiet (fail)
        generalize hD : World.drewN wa _ = wd
        have HD := Lib.hid (show Below wr.heap.size wr wd by rw [← hD]; exact BA.out.trans ((below_draws8 wa _).mono BA.out.size))
        clear hD
        go_wp2_with fail
        refine ⟨⟨k + 1, _, _, by go_num, by omega, Lib.hid (FS'.out.kept 5 (HD.out.mono HB.out))⟩, by simp [intOf]; omega⟩
    · have u1 : ¬ (k : Int) < (len : Int) := by omega
      obtain rfl : k = len := by omega
      go_wp2_with fail
      exact hexit.out _ _ _ _ _ _ _ _ _ _ _ _ _ _ _ _ _ _ _ _ _ _ _ _ _ _ _ _ _ _ _ _ _ _ FS'
end Go.Proofs.YtikahfnlflhbfaaGreatDoor
