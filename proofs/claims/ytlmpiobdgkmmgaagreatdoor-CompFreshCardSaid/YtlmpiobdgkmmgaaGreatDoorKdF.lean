/- Code: steps, first. -/
import Derived.Test.YtlmpiobdgkmmgaaGreatDoorKdE
import Derived.Laws.EntriesVeiled
set_option maxRecDepth 1000000
set_option maxHeartbeats 16000000
namespace Go.Proofs.YtlmpiobdgkmmgaaGreatDoor
open Go.RowKit Go.Lib
theorem formed4_any {b g o Mx gf sf : Nat} {p : PI} {tv : Value} {nm : ByteArray} {sc : Array Value} {gd : Bool} (n e : Int) (W : World) (hp : InP W b g o p tv) (hb : b ≤ W.heap.size) (ht : p.t.length ≤ 10000)
 (hl : (Instr.lookup 77 (.map (some Mx)) (.int .i64 p.op) true).run Tryz.prog W = .ok (.tuple #[.agg #[.string nm, .int .i64 4, .func (.func gf) #[] #[], .func (.func sf) #[] sc], .bool true]) W)
 (hop : 1 ≤ p.op ∧ p.op ≤ 20) (hu : usesI p.op = 4) (HG : ∀ W', Below W.heap.size W W' → Calls Tryz.prog gf #[.pointer (some ⟨g, o, none⟩)] W' (GdP W' gd)) (hcf : ∀ (xs : Array Value) (w : World), (callFunc gf xs).run Tryz.prog w = .ok (.enter gf xs) w) :
 Calls Tryz.prog 47 #[.map (some Mx), .pointer (some ⟨g, o, none⟩), .int .i64 n, .int .i64 e] W fun e' w' => e' = .returned (.bool (rowOk p && ((jumpsI p).all fun x => decide (n < x) && decide (x ≤ e)) && gd)) ∧ Below W.heap.size W w' := by
 have c0 := hp.c0; have c1 := hp.c1; have c2 := hp.c2; have c3 := hp.c3; have c4 := hp.c4; have c5 := hp.c5
 have HP := Lib.hid hp
 have hgl := hp.lt
 have hg1 : g < W.heap.size := by omega
 have hg2 : ¬ g = W.heap.size := by omega
 obtain ⟨ta, tk, rfl, -⟩ := id hp.t
 have HGG := Lib.hid HG
 have HCF := Lib.hid hcf
 clear hcf
 obtain ⟨xa, hxa⟩ : ∃ xa, p.a = xa := ⟨_, rfl⟩
 rw [hxa] at c1
 obtain ⟨xb, hxb⟩ : ∃ xb, p.b = xb := ⟨_, rfl⟩
 rw [hxb] at c2
 obtain ⟨xc, hxc⟩ : ∃ xc, p.c = xc := ⟨_, rfl⟩
 rw [hxc] at c3
 obtain ⟨xd, hxd⟩ : ∃ xd, p.d = xd := ⟨_, rfl⟩
 rw [hxd] at c4
 obtain ⟨op, ho⟩ : ∃ op, p.op = op := ⟨_, rfl⟩
 rw [ho] at c0 hl hop hu
 obtain ⟨nt, hnt⟩ : ∃ nt, p.t.length = nt := ⟨_, rfl⟩
 have HROW : Hid (rowOk p = (decide (1 ≤ op) && decide (op ≤ 20) && (decide (1 ≤ usesI op) || decide (xa = 0)) && (decide (2 ≤ usesI op) || decide (xb = 0)) && (decide (3 ≤ usesI op) || decide (xc = 0)) && (decide (4 ≤ usesI op) || decide (xd = 0)) && (decide (0 < nt) == decide (op = 10)))) := Lib.hid (by unfold rowOk; rw [ho, hxa, hxb, hxc, hxd, hnt])
 rw [hu, decide_eq_true hop.1, decide_eq_true hop.2] at HROW
 rw [hnt] at c5 ht
 have HNT := Lib.hid hnt
 have HJ := Lib.hid (jumps_any W hp hb (by rw [hnt]; omega))
 obtain ⟨l, hl9⟩ : ∃ l, jumpsI p = l := ⟨_, rfl⟩
 obtain ⟨rk, hrk⟩ : ∃ rk, rowOk p = rk := ⟨_, rfl⟩
 have HLN : Hid (l.length ≤ 20000) := Lib.hid (by rw [← hl9]; have := jumps_len p; omega)
 have HJA : Hid (∀ w', Below W.heap.size W w' → Calls Tryz.prog 94 #[.pointer (some ⟨g, o, none⟩)] w' (JPost w' l)) := Lib.hid fun w' bw => by rw [← hl9]; exact jumps_any w' (HP.out.below bw hb) (Nat.le_trans hb bw.size) (by rw [hnt]; omega)
 rw [hl9, hrk]
 rw [hrk] at HROW
 clear hp ho hxa hxb hxc hxd hnt hu hop hl9 hrk HG HJ HP
 by_cases h10 : op = 10
 ·subst h10
  by_cases t0 : 0 < nt
  ·have dt : decide (0 < nt) = true := decide_eq_true t0
   have dti : decide ((0 : Int) < (nt : Int)) = true := decide_eq_true (by omega)
   have HR : Hid (rk = true) := Lib.hid (by rw [HROW.out]; rw [dt]; rfl)
   clear HROW
   go_enter Tryz.func47, Tryz.ntmps47
   go_upto_region 2 with (fail)
   go_quiet (fail)
   generalize hwd : World.drewN _ _ = wd
   have BD : Below (W.alloc (.cells #[.string nm, .int .i64 4, .func (.func gf) #[] #[], .func (.func sf) #[] sc] 88)).heap.size (W.alloc (.cells #[.string nm, .int .i64 4, .func (.func gf) #[] #[], .func (.func sf) #[] sc] 88)) wd := by rw [← hwd]; exact below_dN _ _ _
   have B2 := Lib.hid (ext_trans (ext_alloc (Below.refl W.heap.size W) (.cells #[.string nm, .int .i64 4, .func (.func gf) #[] #[], .func (.func sf) #[] sc] 88)) BD)
   obtain ⟨zb, cb⟩ := kept_block BD
   clear hwd BD
   have cb2 := cb 2
   simp only [List.getElem?_toArray, List.getElem?_cons_zero, List.getElem?_cons_succ] at cb2
   have CB2 := Lib.hid cb2
   clear cb cb2
   go_wp2_with fail
   refine (HJA.out wd B2.out).mono ?_
   rintro e1 w2 ⟨v, rfl, tj, bj⟩
   obtain ⟨ja, jk, rfl, rj⟩ := tj
   have RJ := Lib.hid rj
   have B3 := Lib.hid (ext_trans B2.out bj)
   have cb2 := (bj.cell (p := ⟨W.heap.size, 2, none⟩) zb).trans CB2.out
   have hzj := Nat.lt_of_lt_of_le zb bj.size
   obtain ⟨nl, hnl⟩ : ∃ nl, l.length = nl := ⟨_, rfl⟩
   have HLL := HLN.out
   rw [hnl] at HLL RJ ⊢
   have HNL := Lib.hid hnl
   clear rj bj CB2 hnl HJA zb
   go_wp2_with fail
   go_loopw [89] (fun iv wr => wr = w2 ∧ ∃ j : Nat, iv = .int .i64 (j : Int) ∧ j ≤ nl ∧ Hid (∀ (i : Nat) (x : Int), i < j → l[i]? = some x → n < x ∧ x ≤ e)) (fun iv _ => nl - (intOf iv).toNat)
   case atStart => exact ⟨rfl, 0, rfl, Nat.zero_le _, Lib.hid (fun i x h => absurd h (Nat.not_lt_zero _))⟩
   case round =>
    obtain ⟨rfl, j, rfl, hj, HI⟩ := hrel
    by_cases hjl : j < nl
    ·obtain ⟨x, hx⟩ : ∃ x, l[j]? = some x := ⟨_, List.getElem?_eq_getElem (by have := HNL.out; omega)⟩
     obtain ⟨G, off, rfl, -, cj⟩ := RJ.out (by omega)
     have cx := cj j x hx
     have HX := Lib.hid hx
     clear cj hx
     by_cases h1 : x ≤ n
     ·have HB : Hid ((l.all fun x => decide (n < x) && decide (x ≤ e)) = false) := Lib.hid (by
       rw [List.all_eq_false]
       exact ⟨x, List.mem_of_getElem? HX.out, by simp; omega⟩)
      clear HI HX HGG
      go_wp2
      go_ret
      exact ⟨retb (by rw [HB.out, HR.out]; rfl), B3.out⟩
     ·by_cases h2 : e < x
      ·have HB : Hid ((l.all fun x => decide (n < x) && decide (x ≤ e)) = false) := Lib.hid (by
        rw [List.all_eq_false]
        exact ⟨x, List.mem_of_getElem? HX.out, by simp; omega⟩)
       clear HI HX HGG
       go_wp2
       go_ret
       exact ⟨retb (by rw [HB.out, HR.out]; rfl), B3.out⟩
      ·have HI2 : Hid (∀ (i : Nat) (x : Int), i < j + 1 → l[i]? = some x → n < x ∧ x ≤ e) := Lib.hid fun i y hi hy => by
        rcases Nat.lt_or_ge i j with q | q
        ·exact HI.out i y q hy
        ·obtain rfl : i = j := by omega
         have := HX.out
         rw [hy] at this
         cases this
         omega
       clear HI HX
       go_wp2
       exact ⟨⟨trivial, j + 1, by go_num, by omega, HI2⟩, by simp [intOf]; omega⟩
    ·have hjn : j = nl := by omega
     have HB : Hid ((l.all fun x => decide (n < x) && decide (x ≤ e)) = true) := Lib.hid (by
      rw [List.all_eq_true]
      intro x hx
      obtain ⟨i, hi, e1⟩ := List.getElem_of_mem hx
      have := HI.out i x (by have := HNL.out; omega) (by rw [List.getElem?_eq_getElem hi, e1])
      simp; omega)
     clear HI RJ
     have hcf := HCF.out
     go_wp2_with fail
     refine (HGG.out _ B3.out).mono ?_
     rintro e1 w3 ⟨rfl, b4⟩
     go_wp2_with fail
     go_ret
     exact ⟨retb (by rw [HB.out, HR.out]; rfl), ext_trans B3.out b4⟩
  ·have dt : decide (0 < nt) = false := decide_eq_false t0
   obtain rfl : nt = 0 := by omega
   have HR : Hid (rk = false) := Lib.hid (by rw [HROW.out]; simp)
   clear HROW HJA HGG
   go_enter Tryz.func47, Tryz.ntmps47
   go_upto_region 2 with (fail)
   go_quiet (fail)
   generalize hwd : World.drewN _ _ = wd
   have BD : Below (W.alloc (.cells #[.string nm, .int .i64 4, .func (.func gf) #[] #[], .func (.func sf) #[] sc] 88)).heap.size (W.alloc (.cells #[.string nm, .int .i64 4, .func (.func gf) #[] #[], .func (.func sf) #[] sc] 88)) wd := by rw [← hwd]; exact below_dN _ _ _
   have B2 := Lib.hid (ext_trans (ext_alloc (Below.refl W.heap.size W) (.cells #[.string nm, .int .i64 4, .func (.func gf) #[] #[], .func (.func sf) #[] sc] 88)) BD)
   obtain ⟨zb, cb⟩ := kept_block BD
   clear hwd BD
   clear cb zb
   go_wp2
   go_ret
   exact ⟨retb (by rw [HR.out]; rfl), B2.out⟩
 ·have d10 : decide (op = 10) = false := decide_eq_false h10
  have d10b : (op == 10) = false := by simpa using h10
  by_cases t0 : 0 < nt
  ·have dt : decide (0 < nt) = true := decide_eq_true t0
   have dti : decide ((0 : Int) < (nt : Int)) = true := decide_eq_true (by omega)
   have HR : Hid (rk = false) := Lib.hid (by rw [HROW.out]; rw [d10, dt]; simp)
   clear HROW HJA HGG
   go_enter Tryz.func47, Tryz.ntmps47
   go_upto_region 2 with (fail)
   go_quiet (fail)
   generalize hwd : World.drewN _ _ = wd
   have BD : Below (W.alloc (.cells #[.string nm, .int .i64 4, .func (.func gf) #[] #[], .func (.func sf) #[] sc] 88)).heap.size (W.alloc (.cells #[.string nm, .int .i64 4, .func (.func gf) #[] #[], .func (.func sf) #[] sc] 88)) wd := by rw [← hwd]; exact below_dN _ _ _
   have B2 := Lib.hid (ext_trans (ext_alloc (Below.refl W.heap.size W) (.cells #[.string nm, .int .i64 4, .func (.func gf) #[] #[], .func (.func sf) #[] sc] 88)) BD)
   obtain ⟨zb, cb⟩ := kept_block BD
   clear hwd BD
   clear cb zb
   go_wp2
   go_ret
   exact ⟨retb (by rw [HR.out]; rfl), B2.out⟩
  ·have dt : decide (0 < nt) = false := decide_eq_false t0
   obtain rfl : nt = 0 := by omega
   have HR : Hid (rk = true) := Lib.hid (by rw [HROW.out]; rw [d10]; rfl)
   clear HROW
   go_enter Tryz.func47, Tryz.ntmps47
   go_upto_region 2 with (fail)
   go_quiet (fail)
   generalize hwd : World.drewN _ _ = wd
   have BD : Below (W.alloc (.cells #[.string nm, .int .i64 4, .func (.func gf) #[] #[], .func (.func sf) #[] sc] 88)).heap.size (W.alloc (.cells #[.string nm, .int .i64 4, .func (.func gf) #[] #[], .func (.func sf) #[] sc] 88)) wd := by rw [← hwd]; exact below_dN _ _ _
   have B2 := Lib.hid (ext_trans (ext_alloc (Below.refl W.heap.size W) (.cells #[.string nm, .int .i64 4, .func (.func gf) #[] #[], .func (.func sf) #[] sc] 88)) BD)
   obtain ⟨zb, cb⟩ := kept_block BD
   clear hwd BD
   have cb2 := cb 2
   simp only [List.getElem?_toArray, List.getElem?_cons_zero, List.getElem?_cons_succ] at cb2
   have CB2 := Lib.hid cb2
   clear cb cb2
   go_wp2_with fail
   refine (HJA.out wd B2.out).mono ?_
   rintro e1 w2 ⟨v, rfl, tj, bj⟩
   obtain ⟨ja, jk, rfl, rj⟩ := tj
   have RJ := Lib.hid rj
   have B3 := Lib.hid (ext_trans B2.out bj)
   have cb2 := (bj.cell (p := ⟨W.heap.size, 2, none⟩) zb).trans CB2.out
   have hzj := Nat.lt_of_lt_of_le zb bj.size
   obtain ⟨nl, hnl⟩ : ∃ nl, l.length = nl := ⟨_, rfl⟩
   have HLL := HLN.out
   rw [hnl] at HLL RJ ⊢
   have HNL := Lib.hid hnl
   clear rj bj CB2 hnl HJA zb
   go_wp2_with fail
   go_loopw [89] (fun iv wr => wr = w2 ∧ ∃ j : Nat, iv = .int .i64 (j : Int) ∧ j ≤ nl ∧ Hid (∀ (i : Nat) (x : Int), i < j → l[i]? = some x → n < x ∧ x ≤ e)) (fun iv _ => nl - (intOf iv).toNat)
   case atStart => exact ⟨rfl, 0, rfl, Nat.zero_le _, Lib.hid (fun i x h => absurd h (Nat.not_lt_zero _))⟩
   case round =>
    obtain ⟨rfl, j, rfl, hj, HI⟩ := hrel
    by_cases hjl : j < nl
    ·obtain ⟨x, hx⟩ : ∃ x, l[j]? = some x := ⟨_, List.getElem?_eq_getElem (by have := HNL.out; omega)⟩
     obtain ⟨G, off, rfl, -, cj⟩ := RJ.out (by omega)
     have cx := cj j x hx
     have HX := Lib.hid hx
     clear cj hx
     by_cases h1 : x ≤ n
     ·have HB : Hid ((l.all fun x => decide (n < x) && decide (x ≤ e)) = false) := Lib.hid (by
       rw [List.all_eq_false]
       exact ⟨x, List.mem_of_getElem? HX.out, by simp; omega⟩)
      clear HI HX HGG
      go_wp2
      go_ret
      exact ⟨retb (by rw [HB.out, HR.out]; rfl), B3.out⟩
     ·by_cases h2 : e < x
      ·have HB : Hid ((l.all fun x => decide (n < x) && decide (x ≤ e)) = false) := Lib.hid (by
        rw [List.all_eq_false]
        exact ⟨x, List.mem_of_getElem? HX.out, by simp; omega⟩)
       clear HI HX HGG
       go_wp2
       go_ret
       exact ⟨retb (by rw [HB.out, HR.out]; rfl), B3.out⟩
      ·have HI2 : Hid (∀ (i : Nat) (x : Int), i < j + 1 → l[i]? = some x → n < x ∧ x ≤ e) := Lib.hid fun i y hi hy => by
        rcases Nat.lt_or_ge i j with q | q
        ·exact HI.out i y q hy
        ·obtain rfl : i = j := by omega
         have := HX.out
         rw [hy] at this
         cases this
         omega
       clear HI HX
       go_wp2
       exact ⟨⟨trivial, j + 1, by go_num, by omega, HI2⟩, by simp [intOf]; omega⟩
    ·have hjn : j = nl := by omega
     have HB : Hid ((l.all fun x => decide (n < x) && decide (x ≤ e)) = true) := Lib.hid (by
      rw [List.all_eq_true]
      intro x hx
      obtain ⟨i, hi, e1⟩ := List.getElem_of_mem hx
      have := HI.out i x (by have := HNL.out; omega) (by rw [List.getElem?_eq_getElem hi, e1])
      simp; omega)
     clear HI RJ
     have hcf := HCF.out
     go_wp2_with fail
     refine (HGG.out _ B3.out).mono ?_
     rintro e1 w3 ⟨rfl, b4⟩
     go_wp2_with fail
     go_ret
     exact ⟨retb (by rw [HB.out, HR.out]; rfl), ext_trans B3.out b4⟩
end Go.Proofs.YtlmpiobdgkmmgaaGreatDoor
namespace Go.Proofs.YtlmpiobdgkmmgaaGreatDoor
open Go.RowKit Go.Lib
theorem formed2_any {b g o Mx gf sf : Nat} {p : PI} {tv : Value} {nm : ByteArray} {sc : Array Value} {gd : Bool} (n e : Int) (W : World) (hp : InP W b g o p tv) (hb : b ≤ W.heap.size) (ht : p.t.length ≤ 10000)
 (hl : (Instr.lookup 77 (.map (some Mx)) (.int .i64 p.op) true).run Tryz.prog W = .ok (.tuple #[.agg #[.string nm, .int .i64 2, .func (.func gf) #[] #[], .func (.func sf) #[] sc], .bool true]) W)
 (hop : 1 ≤ p.op ∧ p.op ≤ 20) (hu : usesI p.op = 2) (HG : ∀ W', Below W.heap.size W W' → Calls Tryz.prog gf #[.pointer (some ⟨g, o, none⟩)] W' (GdP W' gd)) (hcf : ∀ (xs : Array Value) (w : World), (callFunc gf xs).run Tryz.prog w = .ok (.enter gf xs) w) :
 Calls Tryz.prog 47 #[.map (some Mx), .pointer (some ⟨g, o, none⟩), .int .i64 n, .int .i64 e] W fun e' w' => e' = .returned (.bool (rowOk p && ((jumpsI p).all fun x => decide (n < x) && decide (x ≤ e)) && gd)) ∧ Below W.heap.size W w' := by
 have c0 := hp.c0; have c1 := hp.c1; have c2 := hp.c2; have c3 := hp.c3; have c4 := hp.c4; have c5 := hp.c5
 have HP := Lib.hid hp
 have hgl := hp.lt
 have hg1 : g < W.heap.size := by omega
 have hg2 : ¬ g = W.heap.size := by omega
 obtain ⟨ta, tk, rfl, -⟩ := id hp.t
 have HGG := Lib.hid HG
 have HCF := Lib.hid hcf
 clear hcf
 obtain ⟨xa, hxa⟩ : ∃ xa, p.a = xa := ⟨_, rfl⟩
 rw [hxa] at c1
 obtain ⟨xb, hxb⟩ : ∃ xb, p.b = xb := ⟨_, rfl⟩
 rw [hxb] at c2
 obtain ⟨xc, hxc⟩ : ∃ xc, p.c = xc := ⟨_, rfl⟩
 rw [hxc] at c3
 obtain ⟨xd, hxd⟩ : ∃ xd, p.d = xd := ⟨_, rfl⟩
 rw [hxd] at c4
 obtain ⟨op, ho⟩ : ∃ op, p.op = op := ⟨_, rfl⟩
 rw [ho] at c0 hl hop hu
 obtain ⟨nt, hnt⟩ : ∃ nt, p.t.length = nt := ⟨_, rfl⟩
 have HROW : Hid (rowOk p = (decide (1 ≤ op) && decide (op ≤ 20) && (decide (1 ≤ usesI op) || decide (xa = 0)) && (decide (2 ≤ usesI op) || decide (xb = 0)) && (decide (3 ≤ usesI op) || decide (xc = 0)) && (decide (4 ≤ usesI op) || decide (xd = 0)) && (decide (0 < nt) == decide (op = 10)))) := Lib.hid (by unfold rowOk; rw [ho, hxa, hxb, hxc, hxd, hnt])
 rw [hu, decide_eq_true hop.1, decide_eq_true hop.2] at HROW
 rw [hnt] at c5 ht
 have HNT := Lib.hid hnt
 have HJ := Lib.hid (jumps_any W hp hb (by rw [hnt]; omega))
 obtain ⟨l, hl9⟩ : ∃ l, jumpsI p = l := ⟨_, rfl⟩
 obtain ⟨rk, hrk⟩ : ∃ rk, rowOk p = rk := ⟨_, rfl⟩
 have HLN : Hid (l.length ≤ 20000) := Lib.hid (by rw [← hl9]; have := jumps_len p; omega)
 have HJA : Hid (∀ w', Below W.heap.size W w' → Calls Tryz.prog 94 #[.pointer (some ⟨g, o, none⟩)] w' (JPost w' l)) := Lib.hid fun w' bw => by rw [← hl9]; exact jumps_any w' (HP.out.below bw hb) (Nat.le_trans hb bw.size) (by rw [hnt]; omega)
 rw [hl9, hrk]
 rw [hrk] at HROW
 clear hp ho hxa hxb hxc hxd hnt hu hop hl9 hrk HG HJ HP
 by_cases q2 : xc = 0
 ·subst q2
  by_cases q3 : xd = 0
  ·subst q3
   by_cases h10 : op = 10
   ·subst h10
    by_cases t0 : 0 < nt
    ·have dt : decide (0 < nt) = true := decide_eq_true t0
     have dti : decide ((0 : Int) < (nt : Int)) = true := decide_eq_true (by omega)
     have HR : Hid (rk = true) := Lib.hid (by rw [HROW.out]; rw [dt]; rfl)
     clear HROW
     go_enter Tryz.func47, Tryz.ntmps47
     go_upto_region 2 with (fail)
     go_quiet (fail)
     generalize hwd : World.drewN _ _ = wd
     have BD : Below (W.alloc (.cells #[.string nm, .int .i64 2, .func (.func gf) #[] #[], .func (.func sf) #[] sc] 88)).heap.size (W.alloc (.cells #[.string nm, .int .i64 2, .func (.func gf) #[] #[], .func (.func sf) #[] sc] 88)) wd := by rw [← hwd]; exact below_dN _ _ _
     have B2 := Lib.hid (ext_trans (ext_alloc (Below.refl W.heap.size W) (.cells #[.string nm, .int .i64 2, .func (.func gf) #[] #[], .func (.func sf) #[] sc] 88)) BD)
     obtain ⟨zb, cb⟩ := kept_block BD
     clear hwd BD
     have cb2 := cb 2
     simp only [List.getElem?_toArray, List.getElem?_cons_zero, List.getElem?_cons_succ] at cb2
     have CB2 := Lib.hid cb2
     clear cb cb2
     go_wp2_with fail
     refine (HJA.out wd B2.out).mono ?_
     rintro e1 w2 ⟨v, rfl, tj, bj⟩
     obtain ⟨ja, jk, rfl, rj⟩ := tj
     have RJ := Lib.hid rj
     have B3 := Lib.hid (ext_trans B2.out bj)
     have cb2 := (bj.cell (p := ⟨W.heap.size, 2, none⟩) zb).trans CB2.out
     have hzj := Nat.lt_of_lt_of_le zb bj.size
     obtain ⟨nl, hnl⟩ : ∃ nl, l.length = nl := ⟨_, rfl⟩
     have HLL := HLN.out
     rw [hnl] at HLL RJ ⊢
     have HNL := Lib.hid hnl
     clear rj bj CB2 hnl HJA zb
     go_wp2_with fail
     go_loopw [89] (fun iv wr => wr = w2 ∧ ∃ j : Nat, iv = .int .i64 (j : Int) ∧ j ≤ nl ∧ Hid (∀ (i : Nat) (x : Int), i < j → l[i]? = some x → n < x ∧ x ≤ e)) (fun iv _ => nl - (intOf iv).toNat)
     case atStart => exact ⟨rfl, 0, rfl, Nat.zero_le _, Lib.hid (fun i x h => absurd h (Nat.not_lt_zero _))⟩
     case round =>
      obtain ⟨rfl, j, rfl, hj, HI⟩ := hrel
      by_cases hjl : j < nl
      ·obtain ⟨x, hx⟩ : ∃ x, l[j]? = some x := ⟨_, List.getElem?_eq_getElem (by have := HNL.out; omega)⟩
       obtain ⟨G, off, rfl, -, cj⟩ := RJ.out (by omega)
       have cx := cj j x hx
       have HX := Lib.hid hx
       clear cj hx
       by_cases h1 : x ≤ n
       ·have HB : Hid ((l.all fun x => decide (n < x) && decide (x ≤ e)) = false) := Lib.hid (by
         rw [List.all_eq_false]
         exact ⟨x, List.mem_of_getElem? HX.out, by simp; omega⟩)
        clear HI HX HGG
        go_wp2
        go_ret
        exact ⟨retb (by rw [HB.out, HR.out]; rfl), B3.out⟩
       ·by_cases h2 : e < x
        ·have HB : Hid ((l.all fun x => decide (n < x) && decide (x ≤ e)) = false) := Lib.hid (by
          rw [List.all_eq_false]
          exact ⟨x, List.mem_of_getElem? HX.out, by simp; omega⟩)
         clear HI HX HGG
         go_wp2
         go_ret
         exact ⟨retb (by rw [HB.out, HR.out]; rfl), B3.out⟩
        ·have HI2 : Hid (∀ (i : Nat) (x : Int), i < j + 1 → l[i]? = some x → n < x ∧ x ≤ e) := Lib.hid fun i y hi hy => by
          rcases Nat.lt_or_ge i j with q | q
          ·exact HI.out i y q hy
          ·obtain rfl : i = j := by omega
           have := HX.out
           rw [hy] at this
           cases this
           omega
         clear HI HX
         go_wp2
         exact ⟨⟨trivial, j + 1, by go_num, by omega, HI2⟩, by simp [intOf]; omega⟩
      ·have hjn : j = nl := by omega
       have HB : Hid ((l.all fun x => decide (n < x) && decide (x ≤ e)) = true) := Lib.hid (by
        rw [List.all_eq_true]
        intro x hx
        obtain ⟨i, hi, e1⟩ := List.getElem_of_mem hx
        have := HI.out i x (by have := HNL.out; omega) (by rw [List.getElem?_eq_getElem hi, e1])
        simp; omega)
       clear HI RJ
       have hcf := HCF.out
       go_wp2_with fail
       refine (HGG.out _ B3.out).mono ?_
       rintro e1 w3 ⟨rfl, b4⟩
       go_wp2_with fail
       go_ret
       exact ⟨retb (by rw [HB.out, HR.out]; rfl), ext_trans B3.out b4⟩
    ·have dt : decide (0 < nt) = false := decide_eq_false t0
     obtain rfl : nt = 0 := by omega
     have HR : Hid (rk = false) := Lib.hid (by rw [HROW.out]; simp)
     clear HROW HJA HGG
     go_enter Tryz.func47, Tryz.ntmps47
     go_upto_region 2 with (fail)
     go_quiet (fail)
     generalize hwd : World.drewN _ _ = wd
     have BD : Below (W.alloc (.cells #[.string nm, .int .i64 2, .func (.func gf) #[] #[], .func (.func sf) #[] sc] 88)).heap.size (W.alloc (.cells #[.string nm, .int .i64 2, .func (.func gf) #[] #[], .func (.func sf) #[] sc] 88)) wd := by rw [← hwd]; exact below_dN _ _ _
     have B2 := Lib.hid (ext_trans (ext_alloc (Below.refl W.heap.size W) (.cells #[.string nm, .int .i64 2, .func (.func gf) #[] #[], .func (.func sf) #[] sc] 88)) BD)
     obtain ⟨zb, cb⟩ := kept_block BD
     clear hwd BD
     clear cb zb
     go_wp2
     go_ret
     exact ⟨retb (by rw [HR.out]; rfl), B2.out⟩
   ·have d10 : decide (op = 10) = false := decide_eq_false h10
    have d10b : (op == 10) = false := by simpa using h10
    by_cases t0 : 0 < nt
    ·have dt : decide (0 < nt) = true := decide_eq_true t0
     have dti : decide ((0 : Int) < (nt : Int)) = true := decide_eq_true (by omega)
     have HR : Hid (rk = false) := Lib.hid (by rw [HROW.out]; rw [d10, dt]; simp)
     clear HROW HJA HGG
     go_enter Tryz.func47, Tryz.ntmps47
     go_upto_region 2 with (fail)
     go_quiet (fail)
     generalize hwd : World.drewN _ _ = wd
     have BD : Below (W.alloc (.cells #[.string nm, .int .i64 2, .func (.func gf) #[] #[], .func (.func sf) #[] sc] 88)).heap.size (W.alloc (.cells #[.string nm, .int .i64 2, .func (.func gf) #[] #[], .func (.func sf) #[] sc] 88)) wd := by rw [← hwd]; exact below_dN _ _ _
     have B2 := Lib.hid (ext_trans (ext_alloc (Below.refl W.heap.size W) (.cells #[.string nm, .int .i64 2, .func (.func gf) #[] #[], .func (.func sf) #[] sc] 88)) BD)
     obtain ⟨zb, cb⟩ := kept_block BD
     clear hwd BD
     clear cb zb
     go_wp2
     go_ret
     exact ⟨retb (by rw [HR.out]; rfl), B2.out⟩
    ·have dt : decide (0 < nt) = false := decide_eq_false t0
     obtain rfl : nt = 0 := by omega
     have HR : Hid (rk = true) := Lib.hid (by rw [HROW.out]; rw [d10]; rfl)
     clear HROW
     go_enter Tryz.func47, Tryz.ntmps47
     go_upto_region 2 with (fail)
     go_quiet (fail)
     generalize hwd : World.drewN _ _ = wd
     have BD : Below (W.alloc (.cells #[.string nm, .int .i64 2, .func (.func gf) #[] #[], .func (.func sf) #[] sc] 88)).heap.size (W.alloc (.cells #[.string nm, .int .i64 2, .func (.func gf) #[] #[], .func (.func sf) #[] sc] 88)) wd := by rw [← hwd]; exact below_dN _ _ _
     have B2 := Lib.hid (ext_trans (ext_alloc (Below.refl W.heap.size W) (.cells #[.string nm, .int .i64 2, .func (.func gf) #[] #[], .func (.func sf) #[] sc] 88)) BD)
     obtain ⟨zb, cb⟩ := kept_block BD
     clear hwd BD
     have cb2 := cb 2
     simp only [List.getElem?_toArray, List.getElem?_cons_zero, List.getElem?_cons_succ] at cb2
     have CB2 := Lib.hid cb2
     clear cb cb2
     go_wp2_with fail
     refine (HJA.out wd B2.out).mono ?_
     rintro e1 w2 ⟨v, rfl, tj, bj⟩
     obtain ⟨ja, jk, rfl, rj⟩ := tj
     have RJ := Lib.hid rj
     have B3 := Lib.hid (ext_trans B2.out bj)
     have cb2 := (bj.cell (p := ⟨W.heap.size, 2, none⟩) zb).trans CB2.out
     have hzj := Nat.lt_of_lt_of_le zb bj.size
     obtain ⟨nl, hnl⟩ : ∃ nl, l.length = nl := ⟨_, rfl⟩
     have HLL := HLN.out
     rw [hnl] at HLL RJ ⊢
     have HNL := Lib.hid hnl
     clear rj bj CB2 hnl HJA zb
     go_wp2_with fail
     go_loopw [89] (fun iv wr => wr = w2 ∧ ∃ j : Nat, iv = .int .i64 (j : Int) ∧ j ≤ nl ∧ Hid (∀ (i : Nat) (x : Int), i < j → l[i]? = some x → n < x ∧ x ≤ e)) (fun iv _ => nl - (intOf iv).toNat)
     case atStart => exact ⟨rfl, 0, rfl, Nat.zero_le _, Lib.hid (fun i x h => absurd h (Nat.not_lt_zero _))⟩
     case round =>
      obtain ⟨rfl, j, rfl, hj, HI⟩ := hrel
      by_cases hjl : j < nl
      ·obtain ⟨x, hx⟩ : ∃ x, l[j]? = some x := ⟨_, List.getElem?_eq_getElem (by have := HNL.out; omega)⟩
       obtain ⟨G, off, rfl, -, cj⟩ := RJ.out (by omega)
       have cx := cj j x hx
       have HX := Lib.hid hx
       clear cj hx
       by_cases h1 : x ≤ n
       ·have HB : Hid ((l.all fun x => decide (n < x) && decide (x ≤ e)) = false) := Lib.hid (by
         rw [List.all_eq_false]
         exact ⟨x, List.mem_of_getElem? HX.out, by simp; omega⟩)
        clear HI HX HGG
        go_wp2
        go_ret
        exact ⟨retb (by rw [HB.out, HR.out]; rfl), B3.out⟩
       ·by_cases h2 : e < x
        ·have HB : Hid ((l.all fun x => decide (n < x) && decide (x ≤ e)) = false) := Lib.hid (by
          rw [List.all_eq_false]
          exact ⟨x, List.mem_of_getElem? HX.out, by simp; omega⟩)
         clear HI HX HGG
         go_wp2
         go_ret
         exact ⟨retb (by rw [HB.out, HR.out]; rfl), B3.out⟩
        ·have HI2 : Hid (∀ (i : Nat) (x : Int), i < j + 1 → l[i]? = some x → n < x ∧ x ≤ e) := Lib.hid fun i y hi hy => by
          rcases Nat.lt_or_ge i j with q | q
          ·exact HI.out i y q hy
          ·obtain rfl : i = j := by omega
           have := HX.out
           rw [hy] at this
           cases this
           omega
         clear HI HX
         go_wp2
         exact ⟨⟨trivial, j + 1, by go_num, by omega, HI2⟩, by simp [intOf]; omega⟩
      ·have hjn : j = nl := by omega
       have HB : Hid ((l.all fun x => decide (n < x) && decide (x ≤ e)) = true) := Lib.hid (by
        rw [List.all_eq_true]
        intro x hx
        obtain ⟨i, hi, e1⟩ := List.getElem_of_mem hx
        have := HI.out i x (by have := HNL.out; omega) (by rw [List.getElem?_eq_getElem hi, e1])
        simp; omega)
       clear HI RJ
       have hcf := HCF.out
       go_wp2_with fail
       refine (HGG.out _ B3.out).mono ?_
       rintro e1 w3 ⟨rfl, b4⟩
       go_wp2_with fail
       go_ret
       exact ⟨retb (by rw [HB.out, HR.out]; rfl), ext_trans B3.out b4⟩
  ·have d3 : decide (xd = 0) = false := decide_eq_false q3
   have e3 : (xd == 0) = false := by simpa using q3
   have n3 : (xd != 0) = true := by simpa using q3
   have HR : Hid (rk = false) := Lib.hid (by rw [HROW.out]; rw [d3]; simp)
   clear HROW HJA HGG
   go_enter Tryz.func47, Tryz.ntmps47
   go_upto_region 2 with (fail)
   go_quiet (fail)
   generalize hwd : World.drewN _ _ = wd
   have BD : Below (W.alloc (.cells #[.string nm, .int .i64 2, .func (.func gf) #[] #[], .func (.func sf) #[] sc] 88)).heap.size (W.alloc (.cells #[.string nm, .int .i64 2, .func (.func gf) #[] #[], .func (.func sf) #[] sc] 88)) wd := by rw [← hwd]; exact below_dN _ _ _
   have B2 := Lib.hid (ext_trans (ext_alloc (Below.refl W.heap.size W) (.cells #[.string nm, .int .i64 2, .func (.func gf) #[] #[], .func (.func sf) #[] sc] 88)) BD)
   obtain ⟨zb, cb⟩ := kept_block BD
   clear hwd BD
   clear cb zb
   go_wp2
   go_ret
   exact ⟨retb (by rw [HR.out]; rfl), B2.out⟩
 ·have d2 : decide (xc = 0) = false := decide_eq_false q2
  have e2 : (xc == 0) = false := by simpa using q2
  have n2 : (xc != 0) = true := by simpa using q2
  have HR : Hid (rk = false) := Lib.hid (by rw [HROW.out]; rw [d2]; simp)
  clear HROW HJA HGG
  go_enter Tryz.func47, Tryz.ntmps47
  go_upto_region 2 with (fail)
  go_quiet (fail)
  generalize hwd : World.drewN _ _ = wd
  have BD : Below (W.alloc (.cells #[.string nm, .int .i64 2, .func (.func gf) #[] #[], .func (.func sf) #[] sc] 88)).heap.size (W.alloc (.cells #[.string nm, .int .i64 2, .func (.func gf) #[] #[], .func (.func sf) #[] sc] 88)) wd := by rw [← hwd]; exact below_dN _ _ _
  have B2 := Lib.hid (ext_trans (ext_alloc (Below.refl W.heap.size W) (.cells #[.string nm, .int .i64 2, .func (.func gf) #[] #[], .func (.func sf) #[] sc] 88)) BD)
  obtain ⟨zb, cb⟩ := kept_block BD
  clear hwd BD
  clear cb zb
  go_wp2
  go_ret
  exact ⟨retb (by rw [HR.out]; rfl), B2.out⟩
end Go.Proofs.YtlmpiobdgkmmgaaGreatDoor
