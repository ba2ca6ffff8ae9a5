/- Code: every step; where steps lead. -/
import Derived.Test.YtlmpiobdgkmmgaaGreatDoorKdF
import Derived.Test.YtlmpiobdgkmmgaaGreatDoorKdG
import Derived.Test.YtlmpiobdgkmmgaaGreatDoorKdH
import Derived.Test.YtlmpiobdgkmmgaaGreatDoorKdE
import Derived.Test.YtlmpiobdgkmmgaaGreatDoorKdA
set_option maxRecDepth 1000000
set_option maxHeartbeats 16000000
namespace Go.Proofs.YtlmpiobdgkmmgaaGreatDoor
open Go.RowKit Go.Lib
theorem noneG_any {W : World} {v : Value} {cs : List PV} {p : PI} (h : goodI cs p = true) : Calls Tryz.prog 85 #[v] W (GdP W (goodI cs p)) :=
 (none_any v W).mono fun e w' h' => by obtain ⟨rfl, rfl⟩ := h'; exact ⟨by rw [h], Below.refl _ _⟩
theorem callFn8 {f : FuncId} (h : (∀ (xs : Array Value) (w : World), (callFunc f xs).run Tryz.prog w = .ok (.enter f xs) w)) (xs : Array Value) (w : World) : (callFunc f xs).run Tryz.prog w = .ok (.enter f xs) w := h xs w
theorem formed_any {Q : Nat → Prop} {b g o Mx Bc bc : Nat} {T : Nat → Nat × Nat} {cv tv : Value} {cs : List PV} {p : PI} (n e : Int) (W : World) (hR : RowsA Q W Mx Bc T cv) (hp : InP W b g o p tv) (hb : b ≤ W.heap.size) (hc : CoL W bc cv cs) (hcs : cs.length ≤ 1000000) (ht : p.t.length ≤ 10000) (hwf : (Lit.int .i64 p.op).wf = true) :
 Calls Tryz.prog 47 #[.map (some Mx), .pointer (some ⟨g, o, none⟩), .int .i64 n, .int .i64 e] W fun e' w' => e' = .returned (.bool (formedI cs p n e)) ∧ Below W.heap.size W w' := by
 by_cases hop : 1 ≤ p.op ∧ p.op ≤ 20
 ·obtain ⟨k, hk⟩ : ∃ k : Nat, p.op = (k : Int) := ⟨p.op.toNat, by omega⟩
  have hl := look_row hR.own true k (by omega) (by omega)
  have hu : usesI p.op = usesI (k : Int) := by rw [hk]
  have hG : ∀ (W' : World), Below W.heap.size W W' → InP W' b g o p tv ∧ b ≤ W'.heap.size := fun W' bw => ⟨hp.below bw hb, Nat.le_trans hb bw.size⟩
  obtain rfl | rfl | rfl | rfl | rfl | rfl | rfl | rfl | rfl | rfl | rfl | rfl | rfl | rfl | rfl | rfl | rfl | rfl | rfl | rfl : k = 1 ∨ k = 2 ∨ k = 3 ∨ k = 4 ∨ k = 5 ∨ k = 6 ∨ k = 7 ∨ k = 8 ∨ k = 9 ∨ k = 10 ∨ k = 11 ∨ k = 12 ∨ k = 13 ∨ k = 14 ∨ k = 15 ∨ k = 16 ∨ k = 17 ∨ k = 18 ∨ k = 19 ∨ k = 20 := by omega
  ·have hg : goodI cs p = inB p.a 0 ((cs.length : Int) - 1) := by simp [goodI, hk]
   obtain ⟨ca, ck, hcv, -⟩ := id hc
   have hbox := hR.box
   rw [hcv] at hbox
   rw [← hk] at hl
   refine formed1c_any (gd := goodI cs p) n e W hp hb ht hl hop (hu.trans rfl) (fun W' bw => ?_) (fun xs w => rfl)
   rw [hg]
   exact good1_any W' (hG W' bw).1 (hG W' bw).2 ((bw.cell (p := ⟨Bc, 0, none⟩) (cell_lt8 hbox)).trans hbox) hcs
  ·have hg : goodI cs p = plcB p.a p.b := by simp [goodI, hk]
   rw [← hk] at hl
   refine formed2_any (gd := goodI cs p) n e W hp hb ht hl hop (hu.trans rfl) (fun W' bw => ?_) (fun xs w => rfl)
   rw [hg]
   exact good3_any W' (hG W' bw).1 (hG W' bw).2
  ·have hg : goodI cs p = smallB p.a p.b p.c p.d := by simp [goodI, hk]
   rw [← hk] at hl
   refine formed4_any (gd := goodI cs p) n e W hp hb ht hl hop (hu.trans rfl) (fun W' bw => ?_) (fun xs w => rfl)
   rw [hg]
   exact good4_any W' (hG W' bw).1 (hG W' bw).2
  ·have hg : goodI cs p = inB p.a 1 3 := by simp [goodI, hk]
   rw [← hk] at hl
   refine formed1_any (gd := goodI cs p) n e W hp hb ht hl hop (hu.trans rfl) (fun W' bw => ?_) (fun xs w => rfl)
   rw [hg]
   exact good5_any W' (hG W' bw).1 (hG W' bw).2
  ·have hg : goodI cs p = inB p.a 1 12 := by simp [goodI, hk]
   rw [← hk] at hl
   refine formed1_any (gd := goodI cs p) n e W hp hb ht hl hop (hu.trans rfl) (fun W' bw => ?_) (fun xs w => rfl)
   rw [hg]
   exact good6_any W' (hG W' bw).1 (hG W' bw).2
  ·have hg : goodI cs p = fnOk [1, 2] p := by simp [goodI, hk]
   rw [← hk] at hl
   refine formed2_any (gd := goodI cs p) n e W hp hb ht hl hop (hu.trans rfl) (fun W' bw => ?_) (fun xs w => rfl)
   rw [hg]
   exact good7_any W' (hG W' bw).1 (hG W' bw).2
  ·have hg : goodI cs p = decide (0 ≤ p.b) := by simp [goodI, hk]
   rw [← hk] at hl
   refine formed2_any (gd := goodI cs p) n e W hp hb ht hl hop (hu.trans rfl) (fun W' bw => ?_) (fun xs w => rfl)
   rw [hg]
   exact goodErr_any W' (hG W' bw).1 (hG W' bw).2
  ·have hg : goodI cs p = true := by simp [goodI, hk]
   rw [← hk] at hl
   refine formed2_any (gd := goodI cs p) n e W hp hb ht hl hop (hu.trans rfl) (fun W' bw => ?_) (fun xs w => rfl)
   exact noneG_any hg
  ·have hg : goodI cs p = (decide (p.b = 0) || decide (p.b = 6)) := by simp [goodI, hk]
   rw [← hk] at hl
   refine formed2_any (gd := goodI cs p) n e W hp hb ht hl hop (hu.trans rfl) (fun W' bw => ?_) (fun xs w => rfl)
   rw [hg]
   exact goodOk_any W' (hG W' bw).1 (hG W' bw).2
  ·have hg : goodI cs p = true := by simp [goodI, hk]
   rw [← hk] at hl
   refine formed1_any (gd := goodI cs p) n e W hp hb ht hl hop (hu.trans rfl) (fun W' bw => ?_) (fun xs w => rfl)
   exact noneG_any hg
  ·have hg : goodI cs p = true := by simp [goodI, hk]
   rw [← hk] at hl
   refine formed1_any (gd := goodI cs p) n e W hp hb ht hl hop (hu.trans rfl) (fun W' bw => ?_) (fun xs w => rfl)
   exact noneG_any hg
  ·have hg : goodI cs p = true := by simp [goodI, hk]
   rw [← hk] at hl
   refine formed0_any (gd := goodI cs p) n e W hp hb ht hl hop (hu.trans rfl) (fun W' bw => ?_) (fun xs w => rfl)
   exact noneG_any hg
  ·have hg : goodI cs p = true := by simp [goodI, hk]
   rw [← hk] at hl
   refine formed1_any (gd := goodI cs p) n e W hp hb ht hl hop (hu.trans rfl) (fun W' bw => ?_) (fun xs w => rfl)
   exact noneG_any hg
  ·have hg : goodI cs p = (decide (p.a = 47) || decide (p.a = 48)) := by simp [goodI, hk]
   rw [← hk] at hl
   refine formed1_any (gd := goodI cs p) n e W hp hb ht hl hop (hu.trans rfl) (fun W' bw => ?_) (fun xs w => rfl)
   rw [hg]
   exact good8_any W' (hG W' bw).1 (hG W' bw).2
  ·have hg : goodI cs p = decide ((infoRow p.a).cls = 4) := by simp [goodI, hk]
   rw [← hk] at hl
   refine formed1_any (gd := goodI cs p) n e W hp hb ht hl hop (hu.trans rfl) (fun W' bw => ?_) (fun xs w => rfl)
   rw [hg]
   exact good9_any W' (hG W' bw).1 (hG W' bw).2
  ·have hg : goodI cs p = true := by simp [goodI, hk]
   rw [← hk] at hl
   refine formed0_any (gd := goodI cs p) n e W hp hb ht hl hop (hu.trans rfl) (fun W' bw => ?_) (fun xs w => rfl)
   exact noneG_any hg
  ·have hg : goodI cs p = true := by simp [goodI, hk]
   rw [← hk] at hl
   refine formed0_any (gd := goodI cs p) n e W hp hb ht hl hop (hu.trans rfl) (fun W' bw => ?_) (fun xs w => rfl)
   exact noneG_any hg
  ·have hg : goodI cs p = inB p.a 2 4 := by simp [goodI, hk]
   rw [← hk] at hl
   refine formed1_any (gd := goodI cs p) n e W hp hb ht hl hop (hu.trans rfl) (fun W' bw => ?_) (fun xs w => rfl)
   rw [hg]
   exact good10_any W' (hG W' bw).1 (hG W' bw).2
  ·have hg : goodI cs p = inB p.a 1 2 := by simp [goodI, hk]
   rw [← hk] at hl
   refine formed1_any (gd := goodI cs p) n e W hp hb ht hl hop (hu.trans rfl) (fun W' bw => ?_) (fun xs w => rfl)
   rw [hg]
   exact good11_any W' (hG W' bw).1 (hG W' bw).2
  ·have hg : goodI cs p = fnOk [6] p := by simp [goodI, hk]
   rw [← hk] at hl
   refine formed2_any (gd := goodI cs p) n e W hp hb ht hl hop (hu.trans rfl) (fun W' bw => ?_) (fun xs w => rfl)
   rw [hg]
   exact good12_any W' (hG W' bw).1 (hG W' bw).2
 ·have hF : formedI cs p n e = false := by
   unfold formedI rowOk
   by_cases h1 : 1 ≤ p.op
   ·rw [decide_eq_false (fun h2 => hop ⟨h1, h2⟩)]; simp
   ·rw [decide_eq_false h1]; simp
  have hl := look_no hR.own p.op hwf hop
  have c0 := hp.c0
  have HF := Lib.hid hF
  have hgl := hp.lt
  have hg1 : g < W.heap.size := by omega
  clear hp hF hR hc hop
  unfold rowZ at hl
  go_enter Tryz.func47, Tryz.ntmps47
  go_upto_region 2 with (fail)
  go_quiet (fail)
  generalize hwd : World.drewN _ _ = wd
  have BD : Below (W.alloc (.cells #[.string ⟨#[]⟩, .int .i64 0, .nilFunc, .nilFunc] 88)).heap.size (W.alloc (.cells #[.string ⟨#[]⟩, .int .i64 0, .nilFunc, .nilFunc] 88)) wd := by rw [← hwd]; exact below_dN _ _ _
  have B2 := Lib.hid (ext_trans (ext_alloc (Below.refl W.heap.size W) (.cells #[.string ⟨#[]⟩, .int .i64 0, .nilFunc, .nilFunc] 88)) BD)
  clear hwd BD
  go_wp2
  go_ret
  exact ⟨retb HF.out.symm, B2.out⟩
end Go.Proofs.YtlmpiobdgkmmgaaGreatDoor
namespace Go.Proofs.YtlmpiobdgkmmgaaGreatDoor
open Go.RowKit Go.Lib
theorem fnOk_small {l : List Int} {p : PI} (h : fnOk l p = true) (hl : ∀ c ∈ l, c = 1 ∨ c = 2) : 0 ≤ p.b ∧ p.b ≤ 1000 := by
 unfold fnOk at h
 simp only [Bool.and_eq_true, decide_eq_true_eq, Bool.or_eq_true] at h
 obtain ⟨⟨⟨h1, h2⟩, h3⟩, h4⟩ := h
 have hin : 1 ≤ p.a ∧ p.a ≤ 76 := by
  unfold infoErr at h1
  split at h1
  ·assumption
  ·cases h1
 have key : ∀ k : Fin 76, (rowAt k.val).min ≥ 0 ∧ ((rowAt k.val).cls = 1 ∨ (rowAt k.val).cls = 2 → 0 ≤ (rowAt k.val).max ∧ (rowAt k.val).max ≤ 1000) := by decide +kernel
 have hr : infoRow p.a = rowAt (p.a.toNat - 1) := by unfold infoRow; rw [if_pos hin]
 have := key ⟨p.a.toNat - 1, by omega⟩
 rw [hr] at h2 h3 h4
 have h5 := this.2 (hl _ h4)
 simp only at this h5
 omega
theorem fnOk_min {l : List Int} {p : PI} (h : fnOk l p = true) : 0 ≤ p.b := by
 unfold fnOk at h
 simp only [Bool.and_eq_true, decide_eq_true_eq, Bool.or_eq_true] at h
 obtain ⟨⟨⟨h1, h2⟩, h3⟩, h4⟩ := h
 have hin : 1 ≤ p.a ∧ p.a ≤ 76 := by
  unfold infoErr at h1
  split at h1
  ·assumption
  ·cases h1
 have key : ∀ k : Fin 76, (rowAt k.val).min ≥ 0 := by decide +kernel
 have hr : infoRow p.a = rowAt (p.a.toNat - 1) := by unfold infoRow; rw [if_pos hin]
 have := key ⟨p.a.toNat - 1, by omega⟩
 rw [hr] at h2
 simp only at this
 omega
theorem step_any {Q Q' : Nat → Prop} {b g o Mx Bc bc : Nat} {T : Nat → Nat × Nat} {cv tv : Value} {cs : List PV} {p : PI} (hop : 1 ≤ p.op ∧ p.op ≤ 20) (hg : goodI cs p = true) (ht : p.t.length ≤ 10000) :
 ∃ (nm : ByteArray) (u : Int) (gf sf : Nat) (gc sc : Array Value), (∀ W, RowsM W Mx Bc T → (Instr.lookup 77 (.map (some Mx)) (.int .i64 p.op) false).run Tryz.prog W = .ok (.agg #[.string nm, .int .i64 u, .func (.func gf) #[] gc, .func (.func sf) #[] sc]) W) ∧
  (∀ (xs : Array Value) (w : World), (callFunc sf xs).run Tryz.prog w = .ok (.enter sf xs) w) ∧
  ∀ (W : World) (v : Value) (s : List Int) (n : Int), RowsA Q' W Mx Bc T cv → InP W b g o p tv → b ≤ W.heap.size → CoL W bc cv cs → St Q W v s → (∀ x, W.heap.size ≤ x → Q x) → s.length ≤ 2000 → 0 ≤ n ∧ n ≤ 100000 →
   Calls Tryz.prog sf (#[.pointer (some ⟨g, o, none⟩), .int .i64 n, v] ++ sc) W (StepPost Q W (stepI cs p n s)) := by
 obtain ⟨k, hk⟩ : ∃ k : Nat, p.op = (k : Int) := ⟨p.op.toNat, by omega⟩
 have hl : ∀ W, RowsM W Mx Bc T → (Instr.lookup 77 (.map (some Mx)) (.int .i64 p.op) false).run Tryz.prog W = .ok (rowV Bc T k) W := fun W hR => by rw [hk]; exact look_row hR false k (by omega) (by omega)
 obtain rfl | rfl | rfl | rfl | rfl | rfl | rfl | rfl | rfl | rfl | rfl | rfl | rfl | rfl | rfl | rfl | rfl | rfl | rfl | rfl : k = 1 ∨ k = 2 ∨ k = 3 ∨ k = 4 ∨ k = 5 ∨ k = 6 ∨ k = 7 ∨ k = 8 ∨ k = 9 ∨ k = 10 ∨ k = 11 ∨ k = 12 ∨ k = 13 ∨ k = 14 ∨ k = 15 ∨ k = 16 ∨ k = 17 ∨ k = 18 ∨ k = 19 ∨ k = 20 := by omega
 ·refine ⟨_, _, _, _, _, _, hl, fun xs w => rfl, fun W v s n hr hp hb hc hst hQ hsl hn => ?_⟩
  have hs : stepI cs p n s = some [(n + 1, withS s 0 [if kindC cs p.a = 4 then 69 else 86])] := by simp [stepI, hk]
  have h2 : goodI cs p = inB p.a 0 ((cs.length : Int) - 1) := by simp [goodI, hk]
  rw [hg] at h2
  have h3 : 0 ≤ p.a ∧ p.a ≤ (cs.length : Int) - 1 := by have := h2.symm; simpa [inB] using this
  rw [hs]
  exact const_any n W hp hb hst hQ hsl hn hc hr.box h3.1 h3.2
 ·refine ⟨_, _, _, _, _, _, hl, fun xs w => rfl, fun W v s n hr hp hb hc hst hQ hsl hn => ?_⟩
  have hs : stepI cs p n s = takesS [] [86] n s := by simp [stepI, hk]
  have tk := hr.tk (2, ⟨#[]⟩, [86]) (by simp [takesL])
  obtain ⟨u, hu, hst2⟩ := tk.l
  rw [hs]
  exact takes_any n W hp hb hst hQ hsl hn (lb := ⟨#[]⟩) rfl rfl (by decide) tk.s hu hst2 (by simp)
 ·refine ⟨_, _, _, _, _, _, hl, fun xs w => rfl, fun W v s n hr hp hb hc hst hQ hsl hn => ?_⟩
  have hs : stepI cs p n s = takesS [] [65] n s := by simp [stepI, hk]
  have tk := hr.tk (3, ⟨#[]⟩, [65]) (by simp [takesL])
  obtain ⟨u, hu, hst2⟩ := tk.l
  rw [hs]
  exact takes_any n W hp hb hst hQ hsl hn (lb := ⟨#[]⟩) rfl rfl (by decide) tk.s hu hst2 (by simp)
 ·refine ⟨_, _, _, _, _, _, hl, fun xs w => rfl, fun W v s n hr hp hb hc hst hQ hsl hn => ?_⟩
  have hs : stepI cs p n s = takesS [86] [86] n s := by simp [stepI, hk]
  have tk := hr.tk (4, ⟨#[86]⟩, [86]) (by simp [takesL])
  obtain ⟨u, hu, hst2⟩ := tk.l
  rw [hs]
  exact takes_any n W hp hb hst hQ hsl hn (lb := ⟨#[86]⟩) rfl rfl (by decide) tk.s hu hst2 (by simp)
 ·refine ⟨_, _, _, _, _, _, hl, fun xs w => rfl, fun W v s n hr hp hb hc hst hQ hsl hn => ?_⟩
  have hs : stepI cs p n s = takesS [86, 86] [86] n s := by simp [stepI, hk]
  have tk := hr.tk (5, ⟨#[86, 86]⟩, [86]) (by simp [takesL])
  obtain ⟨u, hu, hst2⟩ := tk.l
  rw [hs]
  exact takes_any n W hp hb hst hQ hsl hn (lb := ⟨#[86, 86]⟩) rfl rfl (by decide) tk.s hu hst2 (by simp)
 ·refine ⟨_, _, _, _, _, _, hl, fun xs w => rfl, fun W v s n hr hp hb hc hst hQ hsl hn => ?_⟩
  have hs : stepI cs p n s = takesS (manyS p.b) [86] n s := by simp [stepI, hk]
  have h2 : goodI cs p = fnOk [1, 2] p := by simp [goodI, hk]
  rw [hg] at h2
  have h3 := fnOk_small h2.symm (by simp)
  rw [hs]
  exact called_any n W hp hb hst hQ hsl hn h3.1 h3.2
 ·refine ⟨_, _, _, _, _, _, hl, fun xs w => rfl, fun W v s n hr hp hb hc hst hQ hsl hn => ?_⟩
  have hs : stepI cs p n s = errS p n s := by simp [stepI, hk]
  have h2 : goodI cs p = decide (0 ≤ p.b) := by simp [goodI, hk]
  rw [hg] at h2
  have h3 : 0 ≤ p.b := by have := h2.symm; simpa using this
  rw [hs]
  exact err_any n W hp hb hst hQ hsl hn h3
 ·refine ⟨_, _, _, _, _, _, hl, fun xs w => rfl, fun W v s n hr hp hb hc hst hQ hsl hn => ?_⟩
  have hs : stepI cs p n s = ifS p n s := by simp [stepI, hk]
  rw [hs]
  exact if_any n W hp hb hst hQ hsl hn
 ·refine ⟨_, _, _, _, _, _, hl, fun xs w => rfl, fun W v s n hr hp hb hc hst hQ hsl hn => ?_⟩
  have hs : stepI cs p n s = okS p n s := by simp [stepI, hk]
  rw [hs]
  exact ok_any n W hp hb hst hQ hsl hn
 ·refine ⟨_, _, _, _, _, _, hl, fun xs w => rfl, fun W v s n hr hp hb hc hst hQ hsl hn => ?_⟩
  have hs : stepI cs p n s = chooseS p s := by simp [stepI, hk]
  rw [hs]
  exact choose_any n W hp hb hst hQ hsl hn ht
 ·refine ⟨_, _, _, _, _, _, hl, fun xs w => rfl, fun W v s n hr hp hb hc hst hQ hsl hn => ?_⟩
  have hs : stepI cs p n s = matchS p n s := by simp [stepI, hk]
  rw [hs]
  exact match_any n W hp hb hst hQ hsl hn
 ·refine ⟨_, _, _, _, _, _, hl, fun xs w => rfl, fun W v s n hr hp hb hc hst hQ hsl hn => ?_⟩
  have hs : stepI cs p n s = takesS [86] [] n s := by simp [stepI, hk]
  have tk := hr.tk (12, ⟨#[86]⟩, []) (by simp [takesL])
  obtain ⟨u, hu, hst2⟩ := tk.l
  rw [hs]
  exact takes_any n W hp hb hst hQ hsl hn (lb := ⟨#[86]⟩) rfl rfl (by decide) tk.s hu hst2 (by simp)
 ·refine ⟨_, _, _, _, _, _, hl, fun xs w => rfl, fun W v s n hr hp hb hc hst hQ hsl hn => ?_⟩
  have hs : stepI cs p n s = some [(p.a, s)] := by simp [stepI, hk]
  rw [hs]
  exact jump_any n W hp hb hst hQ hsl hn
 ·refine ⟨_, _, _, _, _, _, hl, fun xs w => rfl, fun W v s n hr hp hb hc hst hQ hsl hn => ?_⟩
  have hs : stepI cs p n s = takesS [] [86] n s := by simp [stepI, hk]
  have tk := hr.tk (14, ⟨#[]⟩, [86]) (by simp [takesL])
  obtain ⟨u, hu, hst2⟩ := tk.l
  rw [hs]
  exact takes_any n W hp hb hst hQ hsl hn (lb := ⟨#[]⟩) rfl rfl (by decide) tk.s hu hst2 (by simp)
 ·refine ⟨_, _, _, _, _, _, hl, fun xs w => rfl, fun W v s n hr hp hb hc hst hQ hsl hn => ?_⟩
  have hs : stepI cs p n s = takesS [65] [86] n s := by simp [stepI, hk]
  have tk := hr.tk (15, ⟨#[65]⟩, [86]) (by simp [takesL])
  obtain ⟨u, hu, hst2⟩ := tk.l
  rw [hs]
  exact takes_any n W hp hb hst hQ hsl hn (lb := ⟨#[65]⟩) rfl rfl (by decide) tk.s hu hst2 (by simp)
 ·refine ⟨_, _, _, _, _, _, hl, fun xs w => rfl, fun W v s n hr hp hb hc hst hQ hsl hn => ?_⟩
  have hs : stepI cs p n s = takesS [65] [86] n s := by simp [stepI, hk]
  have tk := hr.tk (16, ⟨#[65]⟩, [86]) (by simp [takesL])
  obtain ⟨u, hu, hst2⟩ := tk.l
  rw [hs]
  exact takes_any n W hp hb hst hQ hsl hn (lb := ⟨#[65]⟩) rfl rfl (by decide) tk.s hu hst2 (by simp)
 ·refine ⟨_, _, _, _, _, _, hl, fun xs w => rfl, fun W v s n hr hp hb hc hst hQ hsl hn => ?_⟩
  have hs : stepI cs p n s = takesS [86] [65] n s := by simp [stepI, hk]
  have tk := hr.tk (17, ⟨#[86]⟩, [65]) (by simp [takesL])
  obtain ⟨u, hu, hst2⟩ := tk.l
  rw [hs]
  exact takes_any n W hp hb hst hQ hsl hn (lb := ⟨#[86]⟩) rfl rfl (by decide) tk.s hu hst2 (by simp)
 ·refine ⟨_, _, _, _, _, _, hl, fun xs w => rfl, fun W v s n hr hp hb hc hst hQ hsl hn => ?_⟩
  have hs : stepI cs p n s = takesS (65 :: manyS p.a) [65] n s := by simp [stepI, hk]
  have h2 : goodI cs p = inB p.a 2 4 := by simp [goodI, hk]
  rw [hg] at h2
  have h3 : 2 ≤ p.a ∧ p.a ≤ 4 := by have := h2.symm; simpa [inB] using this
  rw [hs]
  exact moved_any n W hp hb hst hQ hsl hn (by omega) (by omega)
 ·refine ⟨_, _, _, _, _, _, hl, fun xs w => rfl, fun W v s n hr hp hb hc hst hQ hsl hn => ?_⟩
  have hs : stepI cs p n s = takesS (65 :: manyS p.a) [65] n s := by simp [stepI, hk]
  have h2 : goodI cs p = inB p.a 1 2 := by simp [goodI, hk]
  rw [hg] at h2
  have h3 : 1 ≤ p.a ∧ p.a ≤ 2 := by have := h2.symm; simpa [inB] using this
  rw [hs]
  exact moved_any n W hp hb hst hQ hsl hn (by omega) (by omega)
 ·refine ⟨_, _, _, _, _, _, hl, fun xs w => rfl, fun W v s n hr hp hb hc hst hQ hsl hn => ?_⟩
  have hs : stepI cs p n s = walkS p n s := by simp [stepI, hk]
  have h2 : goodI cs p = fnOk [6] p := by simp [goodI, hk]
  rw [hg] at h2
  have h3 := fnOk_min h2.symm
  rw [hs]
  exact walked_any n W hp hb hst hQ hsl hn h3
end Go.Proofs.YtlmpiobdgkmmgaaGreatDoor
namespace Go.Proofs.YtlmpiobdgkmmgaaGreatDoor
theorem withS_len (s : List Int) (k : Nat) (m : List Int) : (withS s k m).length ≤ s.length + m.length := by
 unfold withS
 rw [List.length_append, List.length_take]
 omega
theorem takes_out {l m : List Int} {n : Int} {s : List Int} {r : Exits} (h : takesS l m n s = some r) : ∀ t ∈ r, t.1 = n + 1 ∧ t.2.length ≤ s.length + m.length := by
 unfold takesS at h
 split at h
 ·simp only [Option.some.injEq] at h
  subst h
  intro t ht
  simp only [List.mem_cons, List.not_mem_nil, or_false] at ht
  subst ht
  exact ⟨rfl, withS_len _ _ _⟩
 ·cases h
theorem formed_out {cs : List PV} {p : PI} {n e : Int} (h : formedI cs p n e = true) : (1 ≤ p.op ∧ p.op ≤ 20) ∧ (∀ x ∈ jumpsI p, n < x ∧ x ≤ e) ∧ goodI cs p = true := by
 unfold formedI at h
 simp only [Bool.and_eq_true, List.all_eq_true, decide_eq_true_eq] at h
 obtain ⟨⟨h1, h2⟩, h3⟩ := h
 unfold rowOk at h1
 simp only [Bool.and_eq_true, decide_eq_true_eq] at h1
 exact ⟨⟨h1.1.1.1.1.1.1, h1.1.1.1.1.1.2⟩, h2, h3⟩
theorem step_out {cs : List PV} {p : PI} {n e : Int} {s : List Int} {r : Exits} (hf : formedI cs p n e = true) (hn : n < e) (h : stepI cs p n s = some r) : ∀ t ∈ r, (n < t.1 ∧ t.1 ≤ e) ∧ t.2.length ≤ s.length + 1 := by
 obtain ⟨hop, hj, -⟩ := formed_out hf
 have tk : ∀ {l m : List Int}, takesS l m n s = some r → m.length ≤ 1 → ∀ t ∈ r, (n < t.1 ∧ t.1 ≤ e) ∧ t.2.length ≤ s.length + 1 := fun h hm t ht => by
  obtain ⟨h1, h2⟩ := takes_out h t ht
  exact ⟨by rw [h1]; omega, by omega⟩
 obtain ⟨k, hk⟩ : ∃ k : Nat, p.op = (k : Int) := ⟨p.op.toNat, by omega⟩
 have w1 := fun (k : Nat) (x : Int) => withS_len s k [x]
 have w0 := fun (k : Nat) => withS_len s k []
 simp only [List.length_cons, List.length_nil, Nat.zero_add, Nat.add_zero] at w1 w0
 obtain rfl | rfl | rfl | rfl | rfl | rfl | rfl | rfl | rfl | rfl | rfl | rfl | rfl | rfl | rfl | rfl | rfl | rfl | rfl | rfl : k = 1 ∨ k = 2 ∨ k = 3 ∨ k = 4 ∨ k = 5 ∨ k = 6 ∨ k = 7 ∨ k = 8 ∨ k = 9 ∨ k = 10 ∨ k = 11 ∨ k = 12 ∨ k = 13 ∨ k = 14 ∨ k = 15 ∨ k = 16 ∨ k = 17 ∨ k = 18 ∨ k = 19 ∨ k = 20 := by omega
 all_goals simp only [stepI, hk] at h
 ·simp at h
  subst h
  intro t ht
  simp at ht
  subst ht
  exact ⟨by simp; omega, w1 _ _⟩
 ·exact tk h (by simp)
 ·exact tk h (by simp)
 ·exact tk h (by simp)
 ·exact tk h (by simp)
 ·exact tk h (by simp)
 ·have h2 : errS p n s = some r := h
  have ja : n < p.a ∧ p.a ≤ e := hj p.a (by simp [jumpsI, hk])
  unfold errS at h2
  split at h2
  ·simp only [Option.some.injEq] at h2
   subst h2
   intro t ht
   simp only [List.mem_cons, List.not_mem_nil, or_false] at ht
   rcases ht with rfl | rfl
   ·exact ⟨by simp; omega, by simp⟩
   ·exact ⟨ja, w1 _ _⟩
  ·cases h2
 ·have h2 : ifS p n s = some r := h
  have ja : n < p.a ∧ p.a ≤ e := hj p.a (by simp [jumpsI, hk])
  have jb : n < p.b ∧ p.b ≤ e := hj p.b (by simp [jumpsI, hk])
  unfold ifS at h2
  split at h2
  ·simp only [Option.some.injEq] at h2
   subst h2
   intro t ht
   simp only [List.mem_cons, List.not_mem_nil, or_false] at ht
   rcases ht with rfl | rfl | rfl
   ·exact ⟨by simp; omega, Nat.le_succ_of_le (w0 _)⟩
   ·exact ⟨ja, Nat.le_succ_of_le (w0 _)⟩
   ·exact ⟨jb, w1 _ _⟩
  ·cases h2
 ·have h2 : okS p n s = some r := h
  have ja : n < p.a ∧ p.a ≤ e := hj p.a (by simp [jumpsI, hk])
  unfold okS at h2
  split at h2
  ·simp only [Option.some.injEq] at h2
   subst h2
   intro t ht
   simp only [List.mem_cons, List.not_mem_nil, or_false] at ht
   rcases ht with rfl | rfl
   ·exact ⟨by simp; omega, Nat.le_succ_of_le (w0 _)⟩
   ·exact ⟨ja, w1 _ _⟩
  ·cases h2
 ·have h2 : chooseS p s = some r := h
  have ja : n < p.a ∧ p.a ≤ e := hj p.a (by simp [jumpsI, hk])
  have jt : ∀ x ∈ p.t, n < x ∧ x ≤ e := fun x hx => hj x (by simp [jumpsI, hk, hx])
  unfold chooseS at h2
  split at h2
  ·simp only [Option.some.injEq] at h2
   subst h2
   intro t ht
   rcases List.mem_cons.1 ht with rfl | ht
   ·exact ⟨ja, w1 _ _⟩
   ·obtain ⟨x, hx, rfl⟩ := List.mem_map.1 ht
    exact ⟨jt x hx, Nat.le_succ_of_le (w0 _)⟩
  ·cases h2
 ·have h2 : matchS p n s = some r := h
  have ja : n < p.a ∧ p.a ≤ e := hj p.a (by simp [jumpsI, hk])
  unfold matchS at h2
  split at h2
  ·simp only [Option.some.injEq] at h2
   subst h2
   intro t ht
   simp only [List.mem_cons, List.not_mem_nil, or_false] at ht
   rcases ht with rfl | rfl
   ·exact ⟨by simp; omega, Nat.le_succ_of_le (w0 _)⟩
   ·exact ⟨ja, Nat.le_succ_of_le (w0 _)⟩
  ·cases h2
 ·exact tk h (by simp)
 ·have h2 : (some [(p.a, s)] : Option Exits) = some r := h
  have ja : n < p.a ∧ p.a ≤ e := hj p.a (by simp [jumpsI, hk])
  simp only [Option.some.injEq] at h2
  subst h2
  intro t ht
  simp only [List.mem_cons, List.not_mem_nil, or_false] at ht
  subst ht
  exact ⟨ja, by simp⟩
 ·exact tk h (by simp)
 ·exact tk h (by simp)
 ·exact tk h (by simp)
 ·exact tk h (by simp)
 ·exact tk h (by simp)
 ·exact tk h (by simp)
 ·have h2 : walkS p n s = some r := h
  unfold walkS at h2
  split at h2
  ·simp only [Option.some.injEq] at h2
   subst h2
   intro t ht
   simp only [List.mem_cons, List.not_mem_nil, or_false] at ht
   subst ht
   exact ⟨by simp; omega, w1 _ _⟩
  ·cases h2
theorem step_count {cs : List PV} {p : PI} {n : Int} {s : List Int} {r : Exits} (hop : 1 ≤ p.op ∧ p.op ≤ 20) (h : stepI cs p n s = some r) : r.length ≤ p.t.length + 3 := by
 have tk : ∀ {l m : List Int}, takesS l m n s = some r → r.length ≤ p.t.length + 3 := fun h => by
  unfold takesS at h
  split at h
  ·cases h
   simp only [List.length_cons, List.length_nil]
   omega
  ·cases h
 have one : ∀ {t : Int × List Int}, some [t] = some r → r.length ≤ p.t.length + 3 := fun h => by
  cases h
  simp only [List.length_cons, List.length_nil]
  omega
 obtain ⟨k, hk⟩ : ∃ k : Nat, p.op = (k : Int) := ⟨p.op.toNat, by omega⟩
 obtain rfl | rfl | rfl | rfl | rfl | rfl | rfl | rfl | rfl | rfl | rfl | rfl | rfl | rfl | rfl | rfl | rfl | rfl | rfl | rfl : k = 1 ∨ k = 2 ∨ k = 3 ∨ k = 4 ∨ k = 5 ∨ k = 6 ∨ k = 7 ∨ k = 8 ∨ k = 9 ∨ k = 10 ∨ k = 11 ∨ k = 12 ∨ k = 13 ∨ k = 14 ∨ k = 15 ∨ k = 16 ∨ k = 17 ∨ k = 18 ∨ k = 19 ∨ k = 20 := by omega
 all_goals simp only [stepI, hk] at h
 all_goals first
  | exact tk h
  | exact one h
  | (have h2 : errS p n s = some r := h
     unfold errS at h2
     split at h2
     ·cases h2
      simp only [List.length_cons, List.length_nil]
      omega
     ·cases h2)
  | (have h2 : ifS p n s = some r := h
     unfold ifS at h2
     split at h2
     ·cases h2
      simp only [List.length_cons, List.length_nil]
      omega
     ·cases h2)
  | (have h2 : okS p n s = some r := h
     unfold okS at h2
     split at h2
     ·cases h2
      simp only [List.length_cons, List.length_nil]
      omega
     ·cases h2)
  | (have h2 : chooseS p s = some r := h
     unfold chooseS at h2
     split at h2
     ·cases h2
      simp only [List.length_cons, List.length_map]
      omega
     ·cases h2)
  | (have h2 : matchS p n s = some r := h
     unfold matchS at h2
     split at h2
     ·cases h2
      simp only [List.length_cons, List.length_nil]
      omega
     ·cases h2)
  | (have h2 : walkS p n s = some r := h
     unfold walkS at h2
     split at h2
     ·cases h2
      simp only [List.length_cons, List.length_nil]
      omega
     ·cases h2)
def LongC (ps : List PI) (cs : List PV) : Prop := ps.length = 0 ∨ 8192 < ps.length ∨ 1024 < cs.length ∨ 8192 < longS ps
theorem mayC_long {ps : List PI} {cs : List PV} (h : LongC ps cs) : mayC ps cs = 2 := if_pos h
theorem mayC_con {ps : List PI} {cs : List PV} (h : ¬ LongC ps cs) {i : Nat} {c : PV} (hi : cs[i]? = some c) (hc : okV c = false ∨ c.kind = 0) : mayC ps cs = 23 := by
 unfold mayC
 rw [if_neg (show ¬ (ps.length = 0 ∨ 8192 < ps.length ∨ 1024 < cs.length ∨ 8192 < longS ps) from h), if_pos]
 rw [List.all_eq_false]
 refine ⟨c, List.mem_of_getElem? hi, ?_⟩
 rcases hc with q | q
 ·rw [q]; simp
 ·simp [q]
def ConOk (cs : List PV) : Prop := ∀ (i : Nat) (c : PV), cs[i]? = some c → okV c = true ∧ c.kind ≠ 0
theorem conOk_all {cs : List PV} (h : ConOk cs) : (cs.all fun v => okV v && decide (v.kind ≠ 0)) = true := by
 rw [List.all_eq_true]
 intro c hc
 obtain ⟨i, hi, e⟩ := List.getElem_of_mem hc
 have := h i c (by rw [List.getElem?_eq_getElem hi, e])
 simp [this.1, this.2]
theorem allOk_false {cs : List PV} {e : Int} : ∀ (ps : List PI) (n : Int) (i : Nat) (p : PI), ps[i]? = some p → formedI cs p (n + i) e = false → allOk cs e ps n = false
 | [], _, _, _, h, _ => by simp at h
 | q :: r, n, 0, p, h, hf => by
  simp only [List.getElem?_cons_zero, Option.some.injEq] at h
  subst h
  unfold allOk
  rw [show n + ((0 : Nat) : Int) = n by omega] at hf
  rw [hf]
  rfl
 | q :: r, n, i + 1, p, h, hf => by
  unfold allOk
  rw [allOk_false r (n + 1) i p (by simpa using h) (by rw [← hf]; congr 1; push_cast; omega)]
  simp
theorem allOk_true {cs : List PV} {e : Int} : ∀ (ps : List PI) (n : Int), (∀ (i : Nat) (p : PI), ps[i]? = some p → formedI cs p (n + i) e = true) → allOk cs e ps n = true
 | [], _, _ => rfl
 | q :: r, n, h => by
  unfold allOk
  rw [allOk_true r (n + 1) (fun i p hp => by rw [← h (i + 1) p (by simpa using hp)]; congr 1; push_cast; omega), Bool.and_true]
  have := h 0 q rfl
  rwa [show n + ((0 : Nat) : Int) = n by omega] at this
theorem mayC_form {ps : List PI} {cs : List PV} (h : ¬ LongC ps cs) (hc : ConOk cs) {i : Nat} {p : PI} (hi : ps[i]? = some p) (hf : formedI cs p i ps.length = false) : mayC ps cs = 23 := by
 unfold mayC
 rw [if_neg (show ¬ (ps.length = 0 ∨ 8192 < ps.length ∨ 1024 < cs.length ∨ 8192 < longS ps) from h), if_neg (by rw [conOk_all hc]; decide), if_pos]
 exact allOk_false ps 0 i p hi (by rw [Int.zero_add]; exact hf)
def FormOk (ps : List PI) (cs : List PV) : Prop := ∀ (i : Nat) (p : PI), ps[i]? = some p → formedI cs p i ps.length = true
theorem mayC_go {ps : List PI} {cs : List PV} (h : ¬ LongC ps cs) (hc : ConOk cs) (hf : FormOk ps cs) : mayC ps cs = match goS cs ps 0 kn0 with
 | none => 23
 | some kn => if endOk (kn ps.length) = true then 0 else 23 := by
 unfold mayC
 rw [if_neg (show ¬ (ps.length = 0 ∨ 8192 < ps.length ∨ 1024 < cs.length ∨ 8192 < longS ps) from h), if_neg (by rw [conOk_all hc]; decide), if_neg (by rw [allOk_true ps 0 (fun i p hp => by rw [Int.zero_add]; exact hf i p hp)]; decide)]
 rfl
theorem goS_step {ps : List PI} {cs : List PV} {i : Nat} {p : PI} (hi : ps[i]? = some p) (kn : Kn) : goS cs (ps.drop i) i kn = match kn i with
 | none => none
 | some s => match stepI cs p i s with
  | none => none
  | some l => match leadS kn l with
   | none => none
   | some kn' => goS cs (ps.drop (i + 1)) ((i + 1 : Nat) : Int) kn' := by
 obtain ⟨h1, rfl⟩ := List.getElem?_eq_some_iff.1 hi
 rw [List.drop_eq_getElem_cons h1]
 have e : ((i + 1 : Nat) : Int) = (i : Int) + 1 := by push_cast; rfl
 rw [e]
 conv => lhs; unfold goS
 rfl
theorem goS_end (ps : List PI) (cs : List PV) (n : Int) (kn : Kn) : goS cs (ps.drop ps.length) n kn = some kn := by
 rw [List.drop_eq_nil_of_le (Nat.le_refl _)]
 rfl
theorem leadS_step {l : Exits} {j : Nat} {x : Int} {s : List Int} (h : l[j]? = some (x, s)) (kn : Kn) : leadS kn (l.drop j) = match (match kn x with | some k => meetS k s | none => some s) with
 | none => none
 | some u => if 1024 < u.length then none else leadS (fun y => if y = x then some u else kn y) (l.drop (j + 1)) := by
 obtain ⟨h1, e⟩ := List.getElem?_eq_some_iff.1 h
 rw [List.drop_eq_getElem_cons h1, e]
 rfl
end Go.Proofs.YtlmpiobdgkmmgaaGreatDoor
