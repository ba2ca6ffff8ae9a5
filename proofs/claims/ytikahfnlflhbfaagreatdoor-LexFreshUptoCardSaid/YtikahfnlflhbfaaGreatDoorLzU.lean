/- LexFresh: its other loops as theorems of their own (over letters for the frame). -/
import Derived.Test.YtikahfnlflhbfaaGreatDoorLzT
namespace Go.Proofs.YtikahfnlflhbfaaGreatDoor
open Go.RowKit Go.Lib

def FxR4 (w0 : World) (n : Nat) (vL vQ vW vN : Value) (cQ cW : List Value) (ns : List Nat) (iv : Value) (wr : World) : Prop :=
  ∃ (i N : Nat) (cl : Nat → Nat) (cL : List Value), iv = .int .i64 (i : Int) ∧ i ≤ n ∧ cL.length = n ∧ Hid (FxS w0 w0.heap.size N cl (fun j => j < n) (fun j => if j < i then 70000 else 0) vL vQ vW vN cL cQ cW ns wr)
def FxR6 (w0 : World) (n q : Nat) (vL vQ vW vN : Value) (cL cQ cW : List Value) (ns : List Nat) (iv : Value) (wr : World) : Prop :=
  ∃ (i N : Nat) (cl : Nat → Nat), iv = .int .i64 (i : Int) ∧ i ≤ q ∧ Hid (FxS w0 w0.heap.size N cl (fun j => j < n) (fun _ => 70000) vL vQ vW vN cL cQ cW ns wr)
def FxR2 (w0 : World) (k : Nat) (ws : List WordL) (vw vL vQ vW vN jv : Value) (wr : World) : Prop :=
  ∃ (j N : Nat) (cl : Nat → Nat) (cL cQ cW : List Value) (ns : List Nat), jv = .int .i64 (j : Int) ∧ j ≤ 3 ∧ Hid (FxS w0 w0.heap.size N cl (fun j => j < cL.length) (fun _ => 0) vL vQ vW vN cL cQ cW ns wr) ∧ Hid (Wl w0.heap.size N cl 5 wr ws vw) ∧
    ns.length = cL.length ∧ cW.length = cQ.length ∧ (j = 0 → cL.length ≤ k ∧ cQ.length ≤ 2 * k) ∧ (1 ≤ j → cL.length ≤ k + 1 ∧ cQ.length ≤ 2 * k + (j - 1))
theorem Wl.at8 {b N c : Nat} {cl : Nat → Nat} {W : World} {l : List WordL} {a : Option Addr} {n kc : Nat} (h : Wl b N cl c W l (.slice a n kc)) : n = l.length ∧ WdAt W W.heap.size l a := by
  obtain ⟨a', kc', e, A, -⟩ := h.row.at_
  simp only [Value.slice.injEq] at e
  obtain ⟨rfl, rfl, rfl⟩ := e
  exact ⟨rfl, A⟩
set_option maxRecDepth 1000000 in
set_option maxHeartbeats 16000000 in
theorem fx_l4 {Q : Exit → Act → World → Prop} {w0 W : World} {N n kL : Nat} {aL : Option Addr} {cl : Nat → Nat} {vQ vW vN : Value} {cL cQ cW : List Value} {ns : List Nat} {u0 u1 u2 u3 u5 u6 u7 u8 u9 u10 u11 u12 u13 u14 u15 u16 u18 u19 u20 u21 u22 u23 u24 u25 u26 u27 u28 u29 u30 u31 u32 u33 u34 u35 u36 u37 u38 u39 u40 u41 u42 u43 u44 u45 u46 u47 u48 u49 u50 u51 u52 u53 u54 u55 u56 u57 u58 u59 u60 u61 u62 u63 u64 u65 u66 u67 u68 u69 u70 u71 u72 u73 u74 u75 u76 u77 u78 u79 u80 u81 u82 u83 u84 u85 u86 u87 u88 u89 u90 u91 u92 u93 u94 u95 u96 u97 u98 u99 u100 u101 u102 u103 u104 u105 u106 u107 u108 u109 u110 u111 u112 u113 u114 u115 u116 u117 u118 u119 u120 u121 u122 u123 u124 u125 u126 u127 u128 u129 u130 u131 u132 u133 u134 u135 u136 u137 u138 u139 u140 u141 u142 u143 u144 u145 u146 u147 u148 u149 u150 u151 u152 u153 u154 u155 u156 u157 u158 u159 u160 u161 u162 u163 u164 u165 u166 u167 u168 u169 u170 u171 u172 u173 u174 u175 u176 u177 u178 u179 u180 u181 u182 u183 u184 u185 u186 u187 u188 u189 : Value}
    (FS : Hid (FxS w0 w0.heap.size N cl (fun j => j < n) (fun _ => 0) (.slice aL n kL) vQ vW vN cL cQ cW ns W)) (hcL : cL.length = n) (hn : n ≤ 300)
    (hexit : Hid (∀ (v17 v18 v104 v105 v106 v107 v108 v109 v110 v111 v112 v113 v114 v115 v116 v117 v118 v119 v120 v121 v122 v123 v124 v125 v126 v127 v128 v129 v130 v131 v132 v133 v134 v135 v136 v137 v138 v139 : Value) (N' : Nat) (cl' : Nat → Nat) (cL' : List Value) (w' : World), cL'.length = n → Hid (FxS w0 w0.heap.size N' cl' (fun j => j < n) (fun _ => 70000) (.slice aL n kL) vQ vW vN cL' cQ cW ns w') → Q (.exit 6) ⟨List.toArray (u0 :: u1 :: u2 :: u3 :: (.slice aL n kL) :: u5 :: u6 :: u7 :: u8 :: u9 :: u10 :: u11 :: u12 :: u13 :: u14 :: u15 :: u16 :: v17 :: v18 :: u19 :: u20 :: u21 :: u22 :: u23 :: u24 :: u25 :: u26 :: u27 :: u28 :: u29 :: u30 :: u31 :: u32 :: u33 :: u34 :: u35 :: u36 :: u37 :: u38 :: u39 :: u40 :: u41 :: u42 :: u43 :: u44 :: u45 :: u46 :: u47 :: u48 :: u49 :: u50 :: u51 :: u52 :: u53 :: u54 :: u55 :: u56 :: u57 :: u58 :: u59 :: u60 :: u61 :: u62 :: u63 :: u64 :: u65 :: u66 :: u67 :: u68 :: u69 :: u70 :: u71 :: u72 :: u73 :: u74 :: u75 :: u76 :: u77 :: u78 :: u79 :: u80 :: u81 :: u82 :: u83 :: u84 :: u85 :: u86 :: u87 :: u88 :: u89 :: u90 :: u91 :: u92 :: u93 :: u94 :: u95 :: u96 :: u97 :: u98 :: u99 :: u100 :: u101 :: u102 :: u103 :: v104 :: v105 :: v106 :: v107 :: v108 :: v109 :: v110 :: v111 :: v112 :: v113 :: v114 :: v115 :: v116 :: v117 :: v118 :: v119 :: v120 :: v121 :: v122 :: v123 :: v124 :: v125 :: v126 :: v127 :: v128 :: v129 :: v130 :: v131 :: v132 :: v133 :: v134 :: v135 :: v136 :: v137 :: v138 :: v139 :: u140 :: u141 :: u142 :: u143 :: u144 :: u145 :: u146 :: u147 :: u148 :: u149 :: u150 :: u151 :: u152 :: u153 :: u154 :: u155 :: u156 :: u157 :: u158 :: u159 :: u160 :: u161 :: u162 :: u163 :: u164 :: u165 :: u166 :: u167 :: u168 :: u169 :: u170 :: u171 :: u172 :: u173 :: u174 :: u175 :: u176 :: u177 :: u178 :: u179 :: u180 :: u181 :: u182 :: u183 :: u184 :: u185 :: u186 :: u187 :: u188 :: u189 :: []), []⟩ w')) :
    Code.wp Tryz.prog (Code.loop (fxB 3)) Q ⟨List.toArray (u0 :: u1 :: u2 :: u3 :: (.slice aL n kL) :: u5 :: u6 :: u7 :: u8 :: u9 :: u10 :: u11 :: u12 :: u13 :: u14 :: u15 :: u16 :: (.int .i64 0) :: u18 :: u19 :: u20 :: u21 :: u22 :: u23 :: u24 :: u25 :: u26 :: u27 :: u28 :: u29 :: u30 :: u31 :: u32 :: u33 :: u34 :: u35 :: u36 :: u37 :: u38 :: u39 :: u40 :: u41 :: u42 :: u43 :: u44 :: u45 :: u46 :: u47 :: u48 :: u49 :: u50 :: u51 :: u52 :: u53 :: u54 :: u55 :: u56 :: u57 :: u58 :: u59 :: u60 :: u61 :: u62 :: u63 :: u64 :: u65 :: u66 :: u67 :: u68 :: u69 :: u70 :: u71 :: u72 :: u73 :: u74 :: u75 :: u76 :: u77 :: u78 :: u79 :: u80 :: u81 :: u82 :: u83 :: u84 :: u85 :: u86 :: u87 :: u88 :: u89 :: u90 :: u91 :: u92 :: u93 :: u94 :: u95 :: u96 :: u97 :: u98 :: u99 :: u100 :: u101 :: u102 :: u103 :: u104 :: u105 :: u106 :: u107 :: u108 :: u109 :: u110 :: u111 :: u112 :: u113 :: u114 :: u115 :: u116 :: u117 :: u118 :: u119 :: u120 :: u121 :: u122 :: u123 :: u124 :: u125 :: u126 :: u127 :: u128 :: u129 :: u130 :: u131 :: u132 :: u133 :: u134 :: u135 :: u136 :: u137 :: u138 :: u139 :: u140 :: u141 :: u142 :: u143 :: u144 :: u145 :: u146 :: u147 :: u148 :: u149 :: u150 :: u151 :: u152 :: u153 :: u154 :: u155 :: u156 :: u157 :: u158 :: u159 :: u160 :: u161 :: u162 :: u163 :: u164 :: u165 :: u166 :: u167 :: u168 :: u169 :: u170 :: u171 :: u172 :: u173 :: u174 :: u175 :: u176 :: u177 :: u178 :: u179 :: u180 :: u181 :: u182 :: u183 :: u184 :: u185 :: u186 :: u187 :: u188 :: u189 :: []), []⟩ W := by
  conv => arg 2; arg 1; whnf
  go_loopw [17] (fun iv wr => FxR4 w0 n (.slice aL n kL) vQ vW vN cQ cW ns iv wr) (fun iv _ => n - (intOf iv).toNat)
  case atStart => exact ⟨0, N, cl, cL, rfl, Nat.zero_le _, hcL, Lib.hid (FS.out.settle (fun j => j < n) (fun j => if j < 0 then 70000 else 0) fun j v hj _ => .inl ⟨hj, Nat.zero_le _⟩)⟩
  case round =>
    obtain ⟨i, N', cl', cL', rfl, hi, hlen, FS'⟩ := hrel
    by_cases hlt : i < n
    · obtain ⟨gL, cap, e, -, -⟩ := World.ownsRow.form FS'.out.rL.own (by omega)
      simp only [Value.slice.injEq] at e
      obtain ⟨rfl, -, rfl⟩ := e
      obtain ⟨v, hv⟩ : ∃ v, cL'[i]? = some v := ⟨cL'[i]'(by omega), List.getElem?_eq_getElem _⟩
      obtain ⟨m, e, hmi, hm, he, HWl⟩ := FS'.out.ll i v hlt hv
      rw [if_neg (Nat.lt_irrefl i)] at he
      obtain rfl : e = 0 := by omega
      obtain ⟨a, kc, rfl⟩ := World.ownsRow.slice HWl.row
      rw [lwd_len, Nat.add_zero] at hv HWl
      have own := FS'.out.rL.own
      rw [hlen] at own
      have c0 := (own.cellOf i (by omega)).trans hv
      have HWL := Lib.hid HWl
      have FS5 := Lib.hid (FS'.out.settle (fun j => j < n ∧ j ≠ i) (fun j => if j < i then 70000 else 0) fun j v hj _ => .inl ⟨hj.1, Nat.le_refl _⟩)
      have hNs : N' ≤ wr.heap.size := FS'.out.hN
      have u1 : (i : Int) < (n : Int) := by omega
      clear HWl own
      go_wp2_with fail
      go_quiet (first | (go_at_call 10; with_reducible refine Calls.quiet_of_same (room8_any m kc _ hm)))
      generalize hD : World.drewN wr _ = wd
      have bd := (below_draws8 wr nq).mono hNs
      rw [hD] at bd
      have FS6 := Lib.hid (FS5.out.kept 5 bd)
      have HW6 := Lib.hid (HWL.out.step (c0 := 5) (fun x hx _ => bd.block x hx) (Nat.le_trans hNs bd.size))
      have hR := roomN_le m kc
      clear hD bd c0 FS5 HWL FS' hNs
      go_wp2_with fail
      refine fx_l5 FS6 HW6 hlen hv hm hR hlt hn (Lib.hid ?_)
      intros
      rename_i e N' kc' a' cl' cL'' w' he' hlen' hc' FS7 HW7
      have FS8 := Lib.hid (FS7.out.settle (fun j => j < n) (fun j => if j < i + 1 then 70000 else 0) fun j v hj hv' => by
        by_cases q : j = i
        · subst q
          right
          rw [hc'] at hv'
          obtain rfl := Option.some.inj hv'
          exact ⟨m, e, hmi, hm, by rw [if_pos (Nat.lt_succ_self _)]; exact he', HW7.out⟩
        · left
          refine ⟨⟨hj, q⟩, ?_⟩
          show (if j < i then 70000 else 0) ≤ (if j < i + 1 then 70000 else 0)
          split <;> split <;> omega)
      go_wp2_with fail
      refine ⟨⟨i + 1, _, _, _, by go_num, by omega, hlen', FS8⟩, by simp [intOf]; omega⟩
    · obtain rfl : i = n := by omega
      go_wp2_with fail
      exact hexit.out _ _ _ _ _ _ _ _ _ _ _ _ _ _ _ _ _ _ _ _ _ _ _ _ _ _ _ _ _ _ _ _ _ _ _ _ _ _ _ _ _ _ hlen (Lib.hid (FS'.out.settle (fun j => j < i) (fun _ => 70000) fun j v hj _ => .inl ⟨hj, by show (if j < i then 70000 else 0) ≤ 70000; split <;> omega⟩))
set_option maxRecDepth 1000000 in
set_option maxHeartbeats 16000000 in
theorem fx_l6 {Q : Exit → Act → World → Prop} {w0 W : World} {N n q kQ kW : Nat} {aQ aW : Option Addr} {cl : Nat → Nat} {vL vN : Value} {cL cQ cW : List Value} {ns : List Nat} {u0 u1 u2 u3 u4 u7 u8 u9 u10 u11 u12 u13 u14 u15 u16 u17 u18 u20 u21 u22 u23 u24 u25 u26 u27 u28 u29 u30 u31 u32 u33 u34 u35 u36 u37 u38 u39 u40 u41 u42 u43 u44 u45 u46 u47 u48 u49 u50 u51 u52 u53 u54 u55 u56 u57 u58 u59 u60 u61 u62 u63 u64 u65 u66 u67 u68 u69 u70 u71 u72 u73 u74 u75 u76 u77 u78 u79 u80 u81 u82 u83 u84 u85 u86 u87 u88 u89 u90 u91 u92 u93 u94 u95 u96 u97 u98 u99 u100 u101 u102 u103 u104 u105 u106 u107 u108 u109 u110 u111 u112 u113 u114 u115 u116 u117 u118 u119 u120 u121 u122 u123 u124 u125 u126 u127 u128 u129 u130 u131 u132 u133 u134 u135 u136 u137 u138 u139 u140 u141 u142 u143 u144 u145 u146 u147 u148 u149 u150 u151 u152 u153 u154 u155 u156 u157 u158 u159 u160 u161 u162 u163 u164 u165 u166 u167 u168 u169 u170 u171 u172 u173 u174 u175 u176 u177 u178 u179 u180 u181 u182 u183 u184 u185 u186 u187 u188 u189 : Value}
    (FS : Hid (FxS w0 w0.heap.size N cl (fun j => j < n) (fun _ => 70000) vL (.slice aQ q kQ) (.slice aW q kW) vN cL cQ cW ns W)) (hcQ : cQ.length = q) (hcW : cW.length = q) (hq : q ≤ 1000)
    (hexit : Hid (∀ (v2 v19 v140 v141 v142 v143 v144 v145 v146 v147 v148 v149 v150 v151 v152 v153 v154 v155 : Value) (N' : Nat) (cl' : Nat → Nat) (w' : World), Hid (FxS w0 w0.heap.size N' cl' (fun j => j < n) (fun _ => 70000) vL (.slice aQ q kQ) (.slice aW q kW) vN cL cQ cW ns w') → Q (.exit 10) ⟨List.toArray (u0 :: u1 :: v2 :: u3 :: u4 :: (.slice aQ q kQ) :: (.slice aW q kW) :: u7 :: u8 :: u9 :: u10 :: u11 :: u12 :: u13 :: u14 :: u15 :: u16 :: u17 :: u18 :: v19 :: u20 :: u21 :: u22 :: u23 :: u24 :: u25 :: u26 :: u27 :: u28 :: u29 :: u30 :: u31 :: u32 :: u33 :: u34 :: u35 :: u36 :: u37 :: u38 :: u39 :: u40 :: u41 :: u42 :: u43 :: u44 :: u45 :: u46 :: u47 :: u48 :: u49 :: u50 :: u51 :: u52 :: u53 :: u54 :: u55 :: u56 :: u57 :: u58 :: u59 :: u60 :: u61 :: u62 :: u63 :: u64 :: u65 :: u66 :: u67 :: u68 :: u69 :: u70 :: u71 :: u72 :: u73 :: u74 :: u75 :: u76 :: u77 :: u78 :: u79 :: u80 :: u81 :: u82 :: u83 :: u84 :: u85 :: u86 :: u87 :: u88 :: u89 :: u90 :: u91 :: u92 :: u93 :: u94 :: u95 :: u96 :: u97 :: u98 :: u99 :: u100 :: u101 :: u102 :: u103 :: u104 :: u105 :: u106 :: u107 :: u108 :: u109 :: u110 :: u111 :: u112 :: u113 :: u114 :: u115 :: u116 :: u117 :: u118 :: u119 :: u120 :: u121 :: u122 :: u123 :: u124 :: u125 :: u126 :: u127 :: u128 :: u129 :: u130 :: u131 :: u132 :: u133 :: u134 :: u135 :: u136 :: u137 :: u138 :: u139 :: v140 :: v141 :: v142 :: v143 :: v144 :: v145 :: v146 :: v147 :: v148 :: v149 :: v150 :: v151 :: v152 :: v153 :: v154 :: v155 :: u156 :: u157 :: u158 :: u159 :: u160 :: u161 :: u162 :: u163 :: u164 :: u165 :: u166 :: u167 :: u168 :: u169 :: u170 :: u171 :: u172 :: u173 :: u174 :: u175 :: u176 :: u177 :: u178 :: u179 :: u180 :: u181 :: u182 :: u183 :: u184 :: u185 :: u186 :: u187 :: u188 :: u189 :: []), []⟩ w')) :
    Code.wp Tryz.prog (Code.loop (fxB 5)) Q ⟨List.toArray (u0 :: u1 :: u2 :: u3 :: u4 :: (.slice aQ q kQ) :: (.slice aW q kW) :: u7 :: u8 :: u9 :: u10 :: u11 :: u12 :: u13 :: u14 :: u15 :: u16 :: u17 :: u18 :: (.int .i64 0) :: u20 :: u21 :: u22 :: u23 :: u24 :: u25 :: u26 :: u27 :: u28 :: u29 :: u30 :: u31 :: u32 :: u33 :: u34 :: u35 :: u36 :: u37 :: u38 :: u39 :: u40 :: u41 :: u42 :: u43 :: u44 :: u45 :: u46 :: u47 :: u48 :: u49 :: u50 :: u51 :: u52 :: u53 :: u54 :: u55 :: u56 :: u57 :: u58 :: u59 :: u60 :: u61 :: u62 :: u63 :: u64 :: u65 :: u66 :: u67 :: u68 :: u69 :: u70 :: u71 :: u72 :: u73 :: u74 :: u75 :: u76 :: u77 :: u78 :: u79 :: u80 :: u81 :: u82 :: u83 :: u84 :: u85 :: u86 :: u87 :: u88 :: u89 :: u90 :: u91 :: u92 :: u93 :: u94 :: u95 :: u96 :: u97 :: u98 :: u99 :: u100 :: u101 :: u102 :: u103 :: u104 :: u105 :: u106 :: u107 :: u108 :: u109 :: u110 :: u111 :: u112 :: u113 :: u114 :: u115 :: u116 :: u117 :: u118 :: u119 :: u120 :: u121 :: u122 :: u123 :: u124 :: u125 :: u126 :: u127 :: u128 :: u129 :: u130 :: u131 :: u132 :: u133 :: u134 :: u135 :: u136 :: u137 :: u138 :: u139 :: u140 :: u141 :: u142 :: u143 :: u144 :: u145 :: u146 :: u147 :: u148 :: u149 :: u150 :: u151 :: u152 :: u153 :: u154 :: u155 :: u156 :: u157 :: u158 :: u159 :: u160 :: u161 :: u162 :: u163 :: u164 :: u165 :: u166 :: u167 :: u168 :: u169 :: u170 :: u171 :: u172 :: u173 :: u174 :: u175 :: u176 :: u177 :: u178 :: u179 :: u180 :: u181 :: u182 :: u183 :: u184 :: u185 :: u186 :: u187 :: u188 :: u189 :: []), []⟩ W := by
  conv => arg 2; arg 1; whnf
  go_loopw [19] (fun iv wr => FxR6 w0 n q vL (.slice aQ q kQ) (.slice aW q kW) vN cL cQ cW ns iv wr) (fun iv _ => q - (intOf iv).toNat)
  case atStart => exact ⟨0, N, cl, rfl, Nat.zero_le _, FS⟩
  case round =>
    obtain ⟨i, N', cl', rfl, hi, FS'⟩ := hrel
    by_cases hlt : i < q
    · obtain ⟨gQ, cap, e, -, -⟩ := World.ownsRow.form FS'.out.rQ.own (by omega)
      simp only [Value.slice.injEq] at e
      obtain ⟨rfl, -, rfl⟩ := e
      obtain ⟨gW, cap, e, -, -⟩ := World.ownsRow.form FS'.out.rW.own (by omega)
      simp only [Value.slice.injEq] at e
      obtain ⟨rfl, -, rfl⟩ := e
      obtain ⟨v, hv⟩ : ∃ v, cQ[i]? = some v := ⟨cQ[i]'(by omega), List.getElem?_eq_getElem _⟩
      obtain ⟨v', hv'⟩ : ∃ v, cW[i]? = some v := ⟨cW[i]'(by omega), List.getElem?_eq_getElem _⟩
      obtain ⟨l, H1, H2⟩ := FS'.out.qq i v v' hv hv'
      obtain ⟨a, kc, rfl⟩ := World.ownsRow.slice H1.row
      obtain ⟨a', kc', rfl⟩ := World.ownsRow.slice H2.row
      have ownQ := FS'.out.rQ.own
      rw [hcQ] at ownQ
      have ownW := FS'.out.rW.own
      rw [hcW] at ownW
      have c0 := (ownQ.cellOf i (by omega)).trans hv
      have c1 := (ownW.cellOf i (by omega)).trans hv'
      have A1 := Lib.hid H1.at8.2; have A2 := Lib.hid H2.at8.2
      have CE : Hid (∀ m, Calls Tryz.prog 9 #[.slice a l.length kc, .slice a' l.length kc'] (wr.drewN m) fun e w' => e = .returned (.bool true) ∧ ∃ k, w' = (wr.drewN m).drewN k) := Lib.hid fun m => eq8_drew l (wr.drewN m) _ _ a a' kc kc' (A1.out.drew (Nat.le_refl _) m) (A2.out.drew (Nat.le_refl _) m) (below_draws8 wr m).size (below_draws8 wr m).size
      have hNs : N' ≤ wr.heap.size := FS'.out.hN
      have u1 : (i : Int) < (q : Int) := by omega
      clear ownQ ownW H1 H2 hv hv'
      go_wp2_with fail
      go_quiet (first | (go_at_call 9; with_reducible refine Calls.quiet_of (CE.out _)))
      generalize hD : World.drewN wr _ = wd
      have bd := (below_draws8 wr nq).mono hNs
      rw [hD] at bd
      have FS6 := Lib.hid (FS'.out.kept 5 bd)
      clear hD bd c0 c1 CE FS'
      go_wp2_with fail
      refine ⟨⟨i + 1, _, _, by go_num, by omega, FS6⟩, by simp [intOf]; omega⟩
    · obtain rfl : i = q := by omega
      go_wp2_with fail
      exact hexit.out _ _ _ _ _ _ _ _ _ _ _ _ _ _ _ _ _ _ _ _ _ FS'
set_option maxRecDepth 1000000 in
set_option maxHeartbeats 16000000 in
theorem fx_l7 {Q : Exit → Act → World → Prop} {w0 W : World} {N n kL kN : Nat} {aL aN : Option Addr} {cl : Nat → Nat} {vQ vW : Value} {cL cQ cW : List Value} {ns : List Nat} {u0 u1 u2 u3 u5 u6 u8 u9 u10 u11 u12 u13 u14 u15 u16 u17 u18 u19 u21 u22 u23 u24 u25 u26 u27 u28 u29 u30 u31 u32 u33 u34 u35 u36 u37 u38 u39 u40 u41 u42 u43 u44 u45 u46 u47 u48 u49 u50 u51 u52 u53 u54 u55 u56 u57 u58 u59 u60 u61 u62 u63 u64 u65 u66 u67 u68 u69 u70 u71 u72 u73 u74 u75 u76 u77 u78 u79 u80 u81 u82 u83 u84 u85 u86 u87 u88 u89 u90 u91 u92 u93 u94 u95 u96 u97 u98 u99 u100 u101 u102 u103 u104 u105 u106 u107 u108 u109 u110 u111 u112 u113 u114 u115 u116 u117 u118 u119 u120 u121 u122 u123 u124 u125 u126 u127 u128 u129 u130 u131 u132 u133 u134 u135 u136 u137 u138 u139 u140 u141 u142 u143 u144 u145 u146 u147 u148 u149 u150 u151 u152 u153 u154 u155 u156 u157 u158 u159 u160 u161 u162 u163 u164 u165 u166 u167 u168 u169 u170 u171 u172 u173 u174 u175 u176 u177 u178 u179 u180 u181 u182 u183 u184 u185 u186 u187 u188 u189 : Value}
    (FS : Hid (FxS w0 w0.heap.size N cl (fun j => j < n) (fun _ => 70000) (.slice aL n kL) vQ vW (.slice aN n kN) cL cQ cW ns W)) (hcL : cL.length = n) (hns : ns.length = n) (hn : n ≤ 300)
    (hexit : Hid (∀ (v2 v20 v21 v22 v156 v157 v158 v159 v160 v161 v162 v163 v164 v165 v166 v167 v168 v169 v170 v171 v172 v173 v174 v175 v176 v177 v178 v179 v180 v181 v182 v183 v184 v185 v186 v187 v188 v189 : Value) (N' : Nat) (cl' : Nat → Nat) (w' : World), Hid (FxS w0 w0.heap.size N' cl' (fun j => j < n) (fun _ => 70000) (.slice aL n kL) vQ vW (.slice aN n kN) cL cQ cW ns w') → Q (.exit 12) ⟨List.toArray (u0 :: u1 :: v2 :: u3 :: (.slice aL n kL) :: u5 :: u6 :: (.slice aN n kN) :: u8 :: u9 :: u10 :: u11 :: u12 :: u13 :: u14 :: u15 :: u16 :: u17 :: u18 :: u19 :: v20 :: v21 :: v22 :: u23 :: u24 :: u25 :: u26 :: u27 :: u28 :: u29 :: u30 :: u31 :: u32 :: u33 :: u34 :: u35 :: u36 :: u37 :: u38 :: u39 :: u40 :: u41 :: u42 :: u43 :: u44 :: u45 :: u46 :: u47 :: u48 :: u49 :: u50 :: u51 :: u52 :: u53 :: u54 :: u55 :: u56 :: u57 :: u58 :: u59 :: u60 :: u61 :: u62 :: u63 :: u64 :: u65 :: u66 :: u67 :: u68 :: u69 :: u70 :: u71 :: u72 :: u73 :: u74 :: u75 :: u76 :: u77 :: u78 :: u79 :: u80 :: u81 :: u82 :: u83 :: u84 :: u85 :: u86 :: u87 :: u88 :: u89 :: u90 :: u91 :: u92 :: u93 :: u94 :: u95 :: u96 :: u97 :: u98 :: u99 :: u100 :: u101 :: u102 :: u103 :: u104 :: u105 :: u106 :: u107 :: u108 :: u109 :: u110 :: u111 :: u112 :: u113 :: u114 :: u115 :: u116 :: u117 :: u118 :: u119 :: u120 :: u121 :: u122 :: u123 :: u124 :: u125 :: u126 :: u127 :: u128 :: u129 :: u130 :: u131 :: u132 :: u133 :: u134 :: u135 :: u136 :: u137 :: u138 :: u139 :: u140 :: u141 :: u142 :: u143 :: u144 :: u145 :: u146 :: u147 :: u148 :: u149 :: u150 :: u151 :: u152 :: u153 :: u154 :: u155 :: v156 :: v157 :: v158 :: v159 :: v160 :: v161 :: v162 :: v163 :: v164 :: v165 :: v166 :: v167 :: v168 :: v169 :: v170 :: v171 :: v172 :: v173 :: v174 :: v175 :: v176 :: v177 :: v178 :: v179 :: v180 :: v181 :: v182 :: v183 :: v184 :: v185 :: v186 :: v187 :: v188 :: v189 :: []), []⟩ w')) :
    Code.wp Tryz.prog (Code.loop (fxB 6)) Q ⟨List.toArray (u0 :: u1 :: u2 :: u3 :: (.slice aL n kL) :: u5 :: u6 :: (.slice aN n kN) :: u8 :: u9 :: u10 :: u11 :: u12 :: u13 :: u14 :: u15 :: u16 :: u17 :: u18 :: u19 :: (.int .i64 0) :: u21 :: u22 :: u23 :: u24 :: u25 :: u26 :: u27 :: u28 :: u29 :: u30 :: u31 :: u32 :: u33 :: u34 :: u35 :: u36 :: u37 :: u38 :: u39 :: u40 :: u41 :: u42 :: u43 :: u44 :: u45 :: u46 :: u47 :: u48 :: u49 :: u50 :: u51 :: u52 :: u53 :: u54 :: u55 :: u56 :: u57 :: u58 :: u59 :: u60 :: u61 :: u62 :: u63 :: u64 :: u65 :: u66 :: u67 :: u68 :: u69 :: u70 :: u71 :: u72 :: u73 :: u74 :: u75 :: u76 :: u77 :: u78 :: u79 :: u80 :: u81 :: u82 :: u83 :: u84 :: u85 :: u86 :: u87 :: u88 :: u89 :: u90 :: u91 :: u92 :: u93 :: u94 :: u95 :: u96 :: u97 :: u98 :: u99 :: u100 :: u101 :: u102 :: u103 :: u104 :: u105 :: u106 :: u107 :: u108 :: u109 :: u110 :: u111 :: u112 :: u113 :: u114 :: u115 :: u116 :: u117 :: u118 :: u119 :: u120 :: u121 :: u122 :: u123 :: u124 :: u125 :: u126 :: u127 :: u128 :: u129 :: u130 :: u131 :: u132 :: u133 :: u134 :: u135 :: u136 :: u137 :: u138 :: u139 :: u140 :: u141 :: u142 :: u143 :: u144 :: u145 :: u146 :: u147 :: u148 :: u149 :: u150 :: u151 :: u152 :: u153 :: u154 :: u155 :: u156 :: u157 :: u158 :: u159 :: u160 :: u161 :: u162 :: u163 :: u164 :: u165 :: u166 :: u167 :: u168 :: u169 :: u170 :: u171 :: u172 :: u173 :: u174 :: u175 :: u176 :: u177 :: u178 :: u179 :: u180 :: u181 :: u182 :: u183 :: u184 :: u185 :: u186 :: u187 :: u188 :: u189 :: []), []⟩ W := by
  conv => arg 2; arg 1; whnf
  go_loopw [20] (fun iv wr => FxR6 w0 n n (.slice aL n kL) vQ vW (.slice aN n kN) cL cQ cW ns iv wr) (fun iv _ => n - (intOf iv).toNat)
  case atStart => exact ⟨0, N, cl, rfl, Nat.zero_le _, FS⟩
  case round =>
    obtain ⟨i, N', cl', rfl, hi, FS'⟩ := hrel
    by_cases hlt : i < n
    · obtain ⟨gL, cap, e, -, -⟩ := World.ownsRow.form FS'.out.rL.own (by omega)
      simp only [Value.slice.injEq] at e
      obtain ⟨rfl, -, rfl⟩ := e
      obtain ⟨gN, cap, e, -, -⟩ := World.ownsRow.form FS'.out.rN.own (by rw [List.length_map]; omega)
      simp only [Value.slice.injEq] at e
      obtain ⟨rfl, -, rfl⟩ := e
      obtain ⟨v, hv⟩ : ∃ v, cL[i]? = some v := ⟨cL[i]'(by omega), List.getElem?_eq_getElem _⟩
      obtain ⟨m, e, hmi, hm, he, HWl⟩ := FS'.out.ll i v hlt hv
      obtain ⟨a, kc, rfl⟩ := World.ownsRow.slice HWl.row
      have u1 : (i : Int) < (n : Int) := by omega
      clear HWl
      go_wp2_with fail
      refine fx_l8 FS' hcL hns hv hmi hlt hn (Lib.hid ?_)
      intros
      rename_i N' cl' w' FS7
      go_wp2_with fail
      refine ⟨⟨i + 1, _, _, by go_num, by omega, FS7⟩, by simp [intOf]; omega⟩
    · obtain rfl : i = n := by omega
      go_wp2_with fail
      exact hexit.out _ _ _ _ _ _ _ _ _ _ _ _ _ _ _ _ _ _ _ _ _ _ _ _ _ _ _ _ _ _ _ _ _ _ _ _ _ _ _ _ _ FS'
end Go.Proofs.YtikahfnlflhbfaaGreatDoor
