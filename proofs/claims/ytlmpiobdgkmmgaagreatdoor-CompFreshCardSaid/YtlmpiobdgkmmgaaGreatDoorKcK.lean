/- Comp: the map of kinds; kinds 1 to 8. -/
import Derived.Test.YtlmpiobdgkmmgaaGreatDoorKcJ
import Derived.Maps.Own
import Derived.Maps.OwnOps
import Derived.Maps.Keyed
import Derived.WalkKit
set_option maxRecDepth 1000000
set_option maxHeartbeats 16000000
namespace Go.Proofs.YtlmpiobdgkmmgaaGreatDoor
open Go.RowKit Go.Lib Go.WideMaps Go.Maps
def kindF (k : Nat) : Nat := [0, 23, 25, 26, 27, 29, 31, 32, 34, 36].getD k 0
def kindV (Lx Bl k : Nat) : Value := if k = 9 then .func (.func (kindF 9)) #[.pointer (some ⟨Lx, 0, none⟩)] #[] else .func (.func (kindF k)) #[] #[.pointer (some ⟨Bl, 0, none⟩)]
def kiR (Lx Bl : Nat) (v : Value) : Option (DataW Unit × List MemPlace) := match v with
 | .func (.func f) ⟨[]⟩ ⟨[.pointer (some ⟨x, 0, none⟩)]⟩ => if x = Bl ∧ f ≠ 36 then some (.lit (.int .i64 (f : Int)), []) else none
 | .func (.func f) ⟨[.pointer (some ⟨x, 0, none⟩)]⟩ ⟨[]⟩ => if x = Lx ∧ f = 36 then some (.lit (.int .i64 (f : Int)), []) else none
 | .nilFunc => some (.lit (.int .i64 (-1)), [])
 | _ => none
theorem kiR_inv {Lx Bl : Nat} {v : Value} {f : Nat} {p : List MemPlace} (h : kiR Lx Bl v = some (.lit (.int .i64 (f : Int)), p)) :
 v = if f = 36 then .func (.func f) #[.pointer (some ⟨Lx, 0, none⟩)] #[] else .func (.func f) #[] #[.pointer (some ⟨Bl, 0, none⟩)] := by
 unfold kiR at h
 split at h
 ·split at h
  ·rename_i q
   simp only [Option.some.injEq, Prod.mk.injEq, DataW.lit.injEq, Lit.int.injEq, true_and] at h
   have e := Int.ofNat.inj h.1
   subst e
   rw [if_neg q.2, q.1]
  ·cases h
 ·split at h
  ·rename_i q
   simp only [Option.some.injEq, Prod.mk.injEq, DataW.lit.injEq, Lit.int.injEq, true_and] at h
   have e := Int.ofNat.inj h.1
   subst e
   rw [if_pos q.2, q.1]
  ·cases h
 ·simp only [Option.some.injEq, Prod.mk.injEq, DataW.lit.injEq, Lit.int.injEq, true_and] at h
  omega
 ·cases h
def kiD (k : Nat) : DataW Unit := .lit (.int .i64 (kindF k : Int))
def kindsD : Nat → DataW Unit
 | 0 => .map []
 | k + 1 => (kindsD k).put (.int .i64 ((k + 1 : Nat) : Int)) (kiD (k + 1))
theorem kindsD_at (k : Nat) (h1 : 1 ≤ k) (h2 : k ≤ 9) (zd : DataW Unit) : (kindsD 9).atKey (.int .i64 (k : Int)) zd = kiD k := by
 match k, h1, h2 with
 | 1, _, _ => exact (by kernel_rfl : (kindsD 9).atKey (.int .i64 ((1 : Nat) : Int)) zd = kiD 1)
 | 2, _, _ => exact (by kernel_rfl : (kindsD 9).atKey (.int .i64 ((2 : Nat) : Int)) zd = kiD 2)
 | 3, _, _ => exact (by kernel_rfl : (kindsD 9).atKey (.int .i64 ((3 : Nat) : Int)) zd = kiD 3)
 | 4, _, _ => exact (by kernel_rfl : (kindsD 9).atKey (.int .i64 ((4 : Nat) : Int)) zd = kiD 4)
 | 5, _, _ => exact (by kernel_rfl : (kindsD 9).atKey (.int .i64 ((5 : Nat) : Int)) zd = kiD 5)
 | 6, _, _ => exact (by kernel_rfl : (kindsD 9).atKey (.int .i64 ((6 : Nat) : Int)) zd = kiD 6)
 | 7, _, _ => exact (by kernel_rfl : (kindsD 9).atKey (.int .i64 ((7 : Nat) : Int)) zd = kiD 7)
 | 8, _, _ => exact (by kernel_rfl : (kindsD 9).atKey (.int .i64 ((8 : Nat) : Int)) zd = kiD 8)
 | 9, _, _ => exact (by kernel_rfl : (kindsD 9).atKey (.int .i64 ((9 : Nat) : Int)) zd = kiD 9)
theorem cpIntLaw : Keyed Tryz.prog 3 := int_keyed Tryz.underlying3
theorem zeroKind (w : World) : (zeroValue 67).run Tryz.prog w = .ok .nilFunc w := by kernel_rfl
theorem look_kind {W : World} {b Lx Bl k : Nat} (own : W.ownsMap Tryz.prog 3 (kiR Lx Bl) b 9 (kindsD 9)) (h1 : 1 ≤ k) (h2 : k ≤ 9) :
 (Instr.lookup 62 (.map (some b)) (.int .i64 (k : Int)) false).run Tryz.prog W = .ok (kindV Lx Bl k) W := by
 obtain ⟨v, ps, hrun, hv⟩ := own.lookup cpIntLaw Tryz.underlying62 (zeroKind W) (zd := .lit (.int .i64 (-1))) (zp := []) rfl (key := .int .i64 (k : Int)) (kl := .int .i64 (k : Int)) (keyOf_int_mk Tryz.underlying3 (WalkArith.wf_i64 (by omega)))
 rw [kindsD_at k h1 h2] at hv
 rw [hrun, kiR_inv hv]
 refine congrArg (fun v => Result.ok v W) ?_
 unfold kindV
 have hk : (k = 9 ↔ kindF k = 36) := by
  obtain rfl | rfl | rfl | rfl | rfl | rfl | rfl | rfl | rfl : k = 1 ∨ k = 2 ∨ k = 3 ∨ k = 4 ∨ k = 5 ∨ k = 6 ∨ k = 7 ∨ k = 8 ∨ k = 9 := by omega
  all_goals decide
 by_cases q : k = 9
 ·rw [if_pos q, if_pos (hk.1 q), q]
 ·rw [if_neg q, if_neg fun h => q (hk.2 h)]
structure Env (cl : Nat → Nat) (Lx Bl Mx : Nat) (W : World) : Prop where
 c1 : W.heap[Bl]? = some (.cells #[.pointer (some ⟨Lx, 0, none⟩)] 61 (0, 0))
 k1 : cl Bl = 3
 own : W.ownsMap Tryz.prog 3 (kiR Lx Bl) Mx 9 (kindsD 9)
 k2 : cl Mx = 3
theorem Env.frm {cl cl' : Nat → Nat} {Lx Bl Mx : Nat} {W W' : World} {P : Nat → Prop} (h : Env cl Lx Bl Mx W) (f : Frm P cl W.heap.size cl' W W') (hp : P 3) : Env cl' Lx Bl Mx W' := by
 have f1 := f Bl (lt_of_block h.c1) (by rw [h.k1]; exact hp)
 have f2 := f Mx h.own.lt (by rw [h.k2]; exact hp)
 obtain ⟨es, clock, hb, r⟩ := h.own
 exact ⟨f1.2.trans h.c1, f1.1.trans h.k1, ⟨es, clock, f2.2.trans hb, r⟩, f2.1.trans h.k2⟩
theorem p3_3 : P3 3 := ⟨by omega, by omega, by omega⟩
structure Cx (b Lx Bl Mx : Nat) (cl : Nat → Nat) (S : SX) (ps : List PI) (cs : List PV) (W : World) : Prop where
 ly : Ly b cl S Lx 64 [.map (some Mx)] ps cs W
 env : Env cl Lx Bl Mx W
 hb : b ≤ W.heap.size
theorem Cx.step {b Lx Bl Mx : Nat} {cl cl' : Nat → Nat} {S : SX} {ps ps' : List PI} {cs cs' : List PV} {W W' : World} (h : Cx b Lx Bl Mx cl S ps cs W) (s : Ly b cl' S Lx 64 [.map (some Mx)] ps' cs' W') (f : Frm P3 cl W.heap.size cl' W W') (bb : Below b W W') : Cx b Lx Bl Mx cl' S ps' cs' W' :=
 ⟨s, h.env.frm f p3_3, Nat.le_trans h.hb bb.size⟩
theorem Cx.drew {b Lx Bl Mx : Nat} {cl : Nat → Nat} {S : SX} {ps : List PI} {cs : List PV} {W : World} (h : Cx b Lx Bl Mx cl S ps cs W) : Cx b Lx Bl Mx cl S ps cs W.drew :=
 ⟨h.ly.drew, h.env.frm (P := fun _ => True) (fun _ _ _ => ⟨rfl, rfl⟩) trivial, h.hb⟩
structure Nd (b : Nat) (W : World) (nb off : Nat) (h : Hd) (ks : Trees) (ka : Option Addr) (kl kc : Nat) : Prop where
 nd : NodeAt W nb off h (.slice ka kl kc)
 lt : nb < b
 tv : TreeV W b h ks ka kl
theorem Nd.step {b nb off kl kc : Nat} {W W' : World} {h : Hd} {ks : Trees} {ka : Option Addr} (n : Nd b W nb off h ks ka kl kc) (k : Below b W W') : Nd b W' nb off h ks ka kl kc :=
 ⟨n.nd.kept k n.lt, n.lt, n.tv.kept k (Nat.le_refl _)⟩
theorem Nd.drew {b nb off kl kc : Nat} {W : World} {h : Hd} {ks : Trees} {ka : Option Addr} (n : Nd b W nb off h ks ka kl kc) : Nd b W.drew nb off h ks ka kl kc := n.step (Below.refl b W).drew
def Room (ps : List PI) (cs : List PV) (m : Nat) : Prop := ps.length + 8 * m ≤ 900000 ∧ cs.length + 8 * m ≤ 900000
def LayPost (b Lx Mx : Nat) (cl : Nat → Nat) (S : SX) (ps : List PI) (cs : List PV) (W : World) (F : CF) (e : Ending) (w' : World) : Prop :=
 e = .returned (.tuple #[]) ∧ Ld b cl S Lx 64 [.map (some Mx)] W (ps ++ (F ps.length cs).1) (F ps.length cs).2 w'
def ValC (h : Hd) (ks : Trees) : Prop := ∀ (b Lx Bl Mx nb off : Nat) (cl : Nat → Nat) (S : SX) (ps : List PI) (cs : List PV) (W : World) (ka : Option Addr) (kl kc : Nat),
 Hid (Cx b Lx Bl Mx cl S ps cs W) → Hid (Nd b W nb off h ks ka kl kc) → treeFits h ks = true → Room ps cs (1 + ks.nodes) →
 Calls Tryz.prog 33 #[.pointer (some ⟨Lx, 0, none⟩), .pointer (some ⟨nb, off, none⟩)] W (LayPost b Lx Mx cl S ps cs W (valT h ks))
def AreC (h : Hd) (ks : Trees) : Prop := ∀ (b Lx Bl Mx nb off : Nat) (cl : Nat → Nat) (S : SX) (ps : List PI) (cs : List PV) (W : World) (ka : Option Addr) (kl kc : Nat),
 Hid (Cx b Lx Bl Mx cl S ps cs W) → Hid (Nd b W nb off h ks ka kl kc) → treeFits h ks = true → Room ps cs (1 + ks.nodes) →
 Calls Tryz.prog 67 #[.pointer (some ⟨Lx, 0, none⟩), .pointer (some ⟨nb, off, none⟩)] W (LayPost b Lx Mx cl S ps cs W (areaT h ks))
def VA (h : Hd) (ks : Trees) : Prop := ValC h ks ∧ AreC h ks
def KindC (h : Hd) (ks : Trees) : Prop := ∀ (b Lx Bl Mx nb off : Nat) (cl : Nat → Nat) (S : SX) (ps : List PI) (cs : List PV) (W : World) (ka : Option Addr) (kl kc : Nat),
 Hid (Cx b Lx Bl Mx cl S ps cs W) → Hid (Nd b W nb off h ks ka kl kc) → treeFits h ks = true → Room ps cs (1 + ks.nodes) →
 Calls Tryz.prog (kindF h.kind.toNat) (if h.kind = 9 then #[.pointer (some ⟨Lx, 0, none⟩), .pointer (some ⟨nb, off, none⟩)] else #[.pointer (some ⟨nb, off, none⟩), .pointer (some ⟨Bl, 0, none⟩)]) W (LayPost b Lx Mx cl S ps cs W (valT h ks))
theorem LayPost.drew {b Lx Mx : Nat} {cl : Nat → Nat} {S : SX} {ps : List PI} {cs : List PV} {W : World} {F : CF} {e : Ending} {w' : World} (h : LayPost b Lx Mx cl S ps cs W.drew F e w') : LayPost b Lx Mx cl S ps cs W F e w' := ⟨h.1, h.2.drew⟩
theorem value_any {h : Hd} {ks : Trees} (HK : KindC h ks) : ValC h ks := by
 intro b Lx Bl Mx nb off cl S ps cs W ka kl kc HC HN hf hr
 have hk := (node_ok (h := h) (n := ks.len) (by unfold treeFits at hf; simp only [Bool.and_eq_true] at hf; exact hf.1)).k
 have K := HK b Lx Bl Mx nb off cl S ps cs W.drew ka kl kc (Lib.hid HC.out.drew) (Lib.hid HN.out.drew) hf hr
 have hl := look_kind (k := h.kind.toNat) HC.out.env.own.drew (by omega) (by omega)
 rw [Int.toNat_of_nonneg (by omega)] at hl
 obtain ⟨vI, vC, ts, s⟩ := HC.out.ly
 have c2 : W.cell? ⟨Lx, 1 + 1, none⟩ = some (.map (some Mx)) := (cells_of_block s.box 2).trans rfl
 have n0 := HN.out.nd.facts.c0
 have HKK := Lib.hid K
 clear K s HC HN HK
 rcases (by omega : h.kind = 1 ∨ h.kind = 2 ∨ h.kind = 3 ∨ h.kind = 4 ∨ h.kind = 5 ∨ h.kind = 6 ∨ h.kind = 7 ∨ h.kind = 8 ∨ h.kind = 9) with q | q | q | q | q | q | q | q | q
 ·have HKV : kindV Lx Bl h.kind.toNat = .func (.func 23) #[] #[.pointer (some ⟨Bl, 0, none⟩)] := by rw [q]; rfl
  have HF : kindF h.kind.toNat = 23 := by rw [q]; rfl
  have HA := HKK.out
  rw [if_neg (by omega), HF] at HA
  rw [HKV, q] at hl
  rw [q] at n0
  have HAA := Lib.hid HA
  clear HA HF HKV HKK q
  go_enter Tryz.func33, Tryz.ntmps33
  go_still_tail 10, (by kernel_rfl)
  change wpList _ _ _ _ _ W.drew
  go_wp2_with fail
  refine HAA.out.mono ?_
  rintro e w1 hq
  obtain ⟨rfl, l1⟩ := hq.drew
  have L1 := Lib.hid l1
  clear l1 hq
  go_wp2_with fail
  exact bodyPost_end (results_none rfl _ _ _) rfl ⟨rfl, L1.out⟩
 ·have HKV : kindV Lx Bl h.kind.toNat = .func (.func 25) #[] #[.pointer (some ⟨Bl, 0, none⟩)] := by rw [q]; rfl
  have HF : kindF h.kind.toNat = 25 := by rw [q]; rfl
  have HA := HKK.out
  rw [if_neg (by omega), HF] at HA
  rw [HKV, q] at hl
  rw [q] at n0
  have HAA := Lib.hid HA
  clear HA HF HKV HKK q
  go_enter Tryz.func33, Tryz.ntmps33
  go_still_tail 10, (by kernel_rfl)
  change wpList _ _ _ _ _ W.drew
  go_wp2_with fail
  refine HAA.out.mono ?_
  rintro e w1 hq
  obtain ⟨rfl, l1⟩ := hq.drew
  have L1 := Lib.hid l1
  clear l1 hq
  go_wp2_with fail
  exact bodyPost_end (results_none rfl _ _ _) rfl ⟨rfl, L1.out⟩
 ·have HKV : kindV Lx Bl h.kind.toNat = .func (.func 26) #[] #[.pointer (some ⟨Bl, 0, none⟩)] := by rw [q]; rfl
  have HF : kindF h.kind.toNat = 26 := by rw [q]; rfl
  have HA := HKK.out
  rw [if_neg (by omega), HF] at HA
  rw [HKV, q] at hl
  rw [q] at n0
  have HAA := Lib.hid HA
  clear HA HF HKV HKK q
  go_enter Tryz.func33, Tryz.ntmps33
  go_still_tail 10, (by kernel_rfl)
  change wpList _ _ _ _ _ W.drew
  go_wp2_with fail
  refine HAA.out.mono ?_
  rintro e w1 hq
  obtain ⟨rfl, l1⟩ := hq.drew
  have L1 := Lib.hid l1
  clear l1 hq
  go_wp2_with fail
  exact bodyPost_end (results_none rfl _ _ _) rfl ⟨rfl, L1.out⟩
 ·have HKV : kindV Lx Bl h.kind.toNat = .func (.func 27) #[] #[.pointer (some ⟨Bl, 0, none⟩)] := by rw [q]; rfl
  have HF : kindF h.kind.toNat = 27 := by rw [q]; rfl
  have HA := HKK.out
  rw [if_neg (by omega), HF] at HA
  rw [HKV, q] at hl
  rw [q] at n0
  have HAA := Lib.hid HA
  clear HA HF HKV HKK q
  go_enter Tryz.func33, Tryz.ntmps33
  go_still_tail 10, (by kernel_rfl)
  change wpList _ _ _ _ _ W.drew
  go_wp2_with fail
  refine HAA.out.mono ?_
  rintro e w1 hq
  obtain ⟨rfl, l1⟩ := hq.drew
  have L1 := Lib.hid l1
  clear l1 hq
  go_wp2_with fail
  exact bodyPost_end (results_none rfl _ _ _) rfl ⟨rfl, L1.out⟩
 ·have HKV : kindV Lx Bl h.kind.toNat = .func (.func 29) #[] #[.pointer (some ⟨Bl, 0, none⟩)] := by rw [q]; rfl
  have HF : kindF h.kind.toNat = 29 := by rw [q]; rfl
  have HA := HKK.out
  rw [if_neg (by omega), HF] at HA
  rw [HKV, q] at hl
  rw [q] at n0
  have HAA := Lib.hid HA
  clear HA HF HKV HKK q
  go_enter Tryz.func33, Tryz.ntmps33
  go_still_tail 10, (by kernel_rfl)
  change wpList _ _ _ _ _ W.drew
  go_wp2_with fail
  refine HAA.out.mono ?_
  rintro e w1 hq
  obtain ⟨rfl, l1⟩ := hq.drew
  have L1 := Lib.hid l1
  clear l1 hq
  go_wp2_with fail
  exact bodyPost_end (results_none rfl _ _ _) rfl ⟨rfl, L1.out⟩
 ·have HKV : kindV Lx Bl h.kind.toNat = .func (.func 31) #[] #[.pointer (some ⟨Bl, 0, none⟩)] := by rw [q]; rfl
  have HF : kindF h.kind.toNat = 31 := by rw [q]; rfl
  have HA := HKK.out
  rw [if_neg (by omega), HF] at HA
  rw [HKV, q] at hl
  rw [q] at n0
  have HAA := Lib.hid HA
  clear HA HF HKV HKK q
  go_enter Tryz.func33, Tryz.ntmps33
  go_still_tail 10, (by kernel_rfl)
  change wpList _ _ _ _ _ W.drew
  go_wp2_with fail
  refine HAA.out.mono ?_
  rintro e w1 hq
  obtain ⟨rfl, l1⟩ := hq.drew
  have L1 := Lib.hid l1
  clear l1 hq
  go_wp2_with fail
  exact bodyPost_end (results_none rfl _ _ _) rfl ⟨rfl, L1.out⟩
 ·have HKV : kindV Lx Bl h.kind.toNat = .func (.func 32) #[] #[.pointer (some ⟨Bl, 0, none⟩)] := by rw [q]; rfl
  have HF : kindF h.kind.toNat = 32 := by rw [q]; rfl
  have HA := HKK.out
  rw [if_neg (by omega), HF] at HA
  rw [HKV, q] at hl
  rw [q] at n0
  have HAA := Lib.hid HA
  clear HA HF HKV HKK q
  go_enter Tryz.func33, Tryz.ntmps33
  go_still_tail 10, (by kernel_rfl)
  change wpList _ _ _ _ _ W.drew
  go_wp2_with fail
  refine HAA.out.mono ?_
  rintro e w1 hq
  obtain ⟨rfl, l1⟩ := hq.drew
  have L1 := Lib.hid l1
  clear l1 hq
  go_wp2_with fail
  exact bodyPost_end (results_none rfl _ _ _) rfl ⟨rfl, L1.out⟩
 ·have HKV : kindV Lx Bl h.kind.toNat = .func (.func 34) #[] #[.pointer (some ⟨Bl, 0, none⟩)] := by rw [q]; rfl
  have HF : kindF h.kind.toNat = 34 := by rw [q]; rfl
  have HA := HKK.out
  rw [if_neg (by omega), HF] at HA
  rw [HKV, q] at hl
  rw [q] at n0
  have HAA := Lib.hid HA
  clear HA HF HKV HKK q
  go_enter Tryz.func33, Tryz.ntmps33
  go_still_tail 10, (by kernel_rfl)
  change wpList _ _ _ _ _ W.drew
  go_wp2_with fail
  refine HAA.out.mono ?_
  rintro e w1 hq
  obtain ⟨rfl, l1⟩ := hq.drew
  have L1 := Lib.hid l1
  clear l1 hq
  go_wp2_with fail
  exact bodyPost_end (results_none rfl _ _ _) rfl ⟨rfl, L1.out⟩
 ·have HKV : kindV Lx Bl h.kind.toNat = .func (.func 36) #[.pointer (some ⟨Lx, 0, none⟩)] #[] := by rw [q]; rfl
  have HF : kindF h.kind.toNat = 36 := by rw [q]; rfl
  have HA := HKK.out
  rw [if_pos q, HF] at HA
  rw [HKV, q] at hl
  rw [q] at n0
  have HAA := Lib.hid HA
  clear HA HF HKV HKK q
  go_enter Tryz.func33, Tryz.ntmps33
  go_still_tail 10, (by kernel_rfl)
  change wpList _ _ _ _ _ W.drew
  go_wp2_with fail
  refine HAA.out.mono ?_
  rintro e w1 hq
  obtain ⟨rfl, l1⟩ := hq.drew
  have L1 := Lib.hid l1
  clear l1 hq
  go_wp2_with fail
  exact bodyPost_end (results_none rfl _ _ _) rfl ⟨rfl, L1.out⟩
end Go.Proofs.YtlmpiobdgkmmgaaGreatDoor
namespace Go.Proofs.YtlmpiobdgkmmgaaGreatDoor
open Go.RowKit
structure Rn (b Lx Bl Mx : Nat) (cl0 : Nat → Nat) (W0 : World) (cl : Nat → Nat) (S : SX) (ps : List PI) (cs : List PV) (W : World) : Prop where
 cx : Cx b Lx Bl Mx cl S ps cs W
 fr : Frm P3 cl0 W0.heap.size cl W0 W
 be : Below b W0 W
section
variable {b Lx Bl Mx : Nat} {cl0 cl cl' : Nat → Nat} {S S' : SX} {ps ps' : List PI} {cs cs' : List PV} {W0 W W' : World}
theorem Rn.start (h : Cx b Lx Bl Mx cl S ps cs W) : Rn b Lx Bl Mx cl W cl S ps cs W := ⟨h, Frm.refl _ _ _ _, Below.refl _ _⟩
theorem Rn.go (h : Rn b Lx Bl Mx cl0 W0 cl S ps cs W) (s : Ly b cl' S Lx 64 [.map (some Mx)] ps' cs' W') (f : Frm P3 cl W.heap.size cl' W W') (bb : Below b W W') : Rn b Lx Bl Mx cl0 W0 cl' S ps' cs' W' :=
 ⟨h.cx.step s f bb, h.fr.trans f h.be.size, h.be.trans bb⟩
theorem Rn.drew (h : Rn b Lx Bl Mx cl0 W0 cl S ps cs W) : Rn b Lx Bl Mx cl0 W0 cl S ps cs W.drew := ⟨h.cx.drew, h.fr, h.be.drew⟩
theorem Rn.kept (h : Rn b Lx Bl Mx cl0 W0 cl S ps cs W) (k : Below W.heap.size W W') (c : Nat) : Rn b Lx Bl Mx cl0 W0 (upc cl W.heap.size c) S ps cs W' :=
 h.go (h.cx.ly.kept k c) (Frm.kept k) (k.mono h.cx.hb)
theorem Rn.toLd (h : Rn b Lx Bl Mx cl0 W0 cl S ps cs W) : Ld b cl0 S Lx 64 [.map (some Mx)] W0 ps cs W := ⟨cl, h.cx.ly, h.fr, h.be⟩
theorem Rn.bl (h : Rn b Lx Bl Mx cl0 W0 cl S ps cs W) : W.cell? ⟨Bl, 0, none⟩ = some (.pointer (some ⟨Lx, 0, none⟩)) := (cells_of_block h.cx.env.c1 0).trans rfl
end
theorem kind1_any {h : Hd} {ks : Trees} (q : h.kind = 1) : KindC h ks := by
 intro b Lx Bl Mx nb off cl S ps cs W ka kl kc HC ND0 hf hr
 rw [if_neg (by omega), (by rw [q]; rfl : kindF h.kind.toNat = 23)]
 have RN0 := Lib.hid (Rn.start HC.out)
 clear HC
 obtain ⟨hr1, hr2⟩ := hr
 have d0 := RN0.out.bl
 have c2 := ND0.out.nd.facts.c2
 have HV : Hid (valT h ks = conF ⟨1, h.num, []⟩) := Lib.hid (by unfold valT valF; simp only [q]; rfl)
 clear q hf
 go_enter Tryz.func23, Tryz.ntmps23
 go_still_tail 6, (by kernel_rfl)
 change wpList _ _ _ _ _ W.drew
 go_wp2_with fail
 have RD0 := Lib.hid RN0.out.drew
 clear RN0
 refine (con_any 1 h.num [] W.drew (Lib.hid RD0.out.cx.ly) RD0.out.cx.hb (by omega) (by omega)).mono ?_
 rintro e w1 ⟨rfl, cl1, s1, f1, b1⟩
 have RN1 := Lib.hid (RD0.out.go s1 f1 b1)
 have ND1 := Lib.hid (ND0.out.step (((Below.refl _ _).drew).trans b1))
 clear RD0 s1 f1 b1 ND0 d0 c2
 go_wp2_with fail
 exact bodyPost_end (results_none rfl _ _ _) rfl ⟨rfl, by rw [HV.out]; exact RN1.out.toLd⟩
theorem kind2_any {h : Hd} {ks : Trees} (q : h.kind = 2) : KindC h ks := by
 intro b Lx Bl Mx nb off cl S ps cs W ka kl kc HC ND0 hf hr
 rw [if_neg (by omega), (by rw [q]; rfl : kindF h.kind.toNat = 25)]
 have RN0 := Lib.hid (Rn.start HC.out)
 clear HC
 obtain ⟨hr1, hr2⟩ := hr
 have d0 := RN0.out.bl
 have c3 := ND0.out.nd.facts.c3
 have HV : Hid (valT h ks = conF ⟨3, 0, h.text⟩) := Lib.hid (by unfold valT valF; simp only [q]; rfl)
 clear q hf
 go_enter Tryz.func25, Tryz.ntmps25
 go_still_tail 6, (by kernel_rfl)
 change wpList _ _ _ _ _ W.drew
 go_wp2_with fail
 have RD0 := Lib.hid RN0.out.drew
 clear RN0
 refine (con_any 3 0 h.text W.drew (Lib.hid RD0.out.cx.ly) RD0.out.cx.hb (by omega) (by omega)).mono ?_
 rintro e w1 ⟨rfl, cl1, s1, f1, b1⟩
 have RN1 := Lib.hid (RD0.out.go s1 f1 b1)
 have ND1 := Lib.hid (ND0.out.step (((Below.refl _ _).drew).trans b1))
 clear RD0 s1 f1 b1 ND0 d0 c3
 go_wp2_with fail
 exact bodyPost_end (results_none rfl _ _ _) rfl ⟨rfl, by rw [HV.out]; exact RN1.out.toLd⟩
theorem kind3_any {h : Hd} {ks : Trees} (q : h.kind = 3) : KindC h ks := by
 intro b Lx Bl Mx nb off cl S ps cs W ka kl kc HC ND0 hf hr
 rw [if_neg (by omega), (by rw [q]; rfl : kindF h.kind.toNat = 26)]
 have RN0 := Lib.hid (Rn.start HC.out)
 clear HC
 obtain ⟨hr1, hr2⟩ := hr
 have d0 := RN0.out.bl
 have c2 := ND0.out.nd.facts.c2
 have HV : Hid (valT h ks = conF ⟨2, h.num, []⟩) := Lib.hid (by unfold valT valF; simp only [q]; rfl)
 clear q hf
 go_enter Tryz.func26, Tryz.ntmps26
 go_still_tail 6, (by kernel_rfl)
 change wpList _ _ _ _ _ W.drew
 go_wp2_with fail
 have RD0 := Lib.hid RN0.out.drew
 clear RN0
 refine (con_any 2 h.num [] W.drew (Lib.hid RD0.out.cx.ly) RD0.out.cx.hb (by omega) (by omega)).mono ?_
 rintro e w1 ⟨rfl, cl1, s1, f1, b1⟩
 have RN1 := Lib.hid (RD0.out.go s1 f1 b1)
 have ND1 := Lib.hid (ND0.out.step (((Below.refl _ _).drew).trans b1))
 clear RD0 s1 f1 b1 ND0 d0 c2
 go_wp2_with fail
 exact bodyPost_end (results_none rfl _ _ _) rfl ⟨rfl, by rw [HV.out]; exact RN1.out.toLd⟩
theorem kind4_any {h : Hd} {ks : Trees} (q : h.kind = 4) : KindC h ks := by
 intro b Lx Bl Mx nb off cl S ps cs W ka kl kc HC ND0 hf hr
 rw [if_neg (by omega), (by rw [q]; rfl : kindF h.kind.toNat = 27)]
 have RN0 := Lib.hid (Rn.start HC.out)
 clear HC
 obtain ⟨hr1, hr2⟩ := hr
 have d0 := RN0.out.bl
 have c2 := ND0.out.nd.facts.c2
 have HV : Hid (valT h ks = errF h.num) := Lib.hid (by unfold valT valF; simp only [q]; rfl)
 clear q hf
 go_enter Tryz.func27, Tryz.ntmps27
 go_still_tail 5, (by kernel_rfl)
 change wpList _ _ _ _ _ W.drew
 go_wp2_with fail
 have RD0 := Lib.hid RN0.out.drew
 clear RN0
 refine (wrong_any h.num W.drew (Lib.hid RD0.out.cx.ly) RD0.out.cx.hb (by omega) (by omega)).mono ?_
 rintro e w1 ⟨rfl, cl1, s1, f1, b1⟩
 have RN1 := Lib.hid (RD0.out.go s1 f1 b1)
 have ND1 := Lib.hid (ND0.out.step (((Below.refl _ _).drew).trans b1))
 clear RD0 s1 f1 b1 ND0 d0 c2
 go_wp2_with fail
 exact bodyPost_end (results_none rfl _ _ _) rfl ⟨rfl, by rw [HV.out]; exact RN1.out.toLd⟩
theorem kind5_any {h : Hd} {ks : Trees} (q : h.kind = 5) : KindC h ks := by
 intro b Lx Bl Mx nb off cl S ps cs W ka kl kc HC ND0 hf hr
 rw [if_neg (by omega), (by rw [q]; rfl : kindF h.kind.toNat = 29)]
 have RN0 := Lib.hid (Rn.start HC.out)
 clear HC
 obtain ⟨hr1, hr2⟩ := hr
 have d0 := RN0.out.bl
 have c4 := ND0.out.nd.facts.c4
 have c5 := ND0.out.nd.facts.c5
 have HV : Hid (valT h ks = insF ⟨2, h.ref.row, h.ref.col, 0, 0, []⟩) := Lib.hid (by unfold valT valF; simp only [q]; rfl)
 clear q hf
 go_enter Tryz.func29, Tryz.ntmps29
 go_still_tail 12, (by kernel_rfl)
 change wpList _ _ _ _ _ W.drew
 go_wp2_with fail
 have RD0 := Lib.hid RN0.out.drew
 clear RN0
 refine (put_any 2 h.ref.row h.ref.col 0 0 W.drew (Lib.hid RD0.out.cx.ly) RD0.out.cx.hb (by omega)).mono ?_
 rintro e w1 ⟨rfl, cl1, s1, f1, b1⟩
 have RN1 := Lib.hid (RD0.out.go s1 f1 b1)
 have ND1 := Lib.hid (ND0.out.step (((Below.refl _ _).drew).trans b1))
 clear RD0 s1 f1 b1 ND0 d0 c4 c5
 go_wp2_with fail
 exact bodyPost_end (results_none rfl _ _ _) rfl ⟨rfl, by rw [HV.out]; exact RN1.out.toLd⟩
theorem kind6_any {h : Hd} {ks : Trees} (q : h.kind = 6) : KindC h ks := by
 intro b Lx Bl Mx nb off cl S ps cs W ka kl kc HC ND0 hf hr
 rw [if_neg (by omega), (by rw [q]; rfl : kindF h.kind.toNat = 31)]
 have RN0 := Lib.hid (Rn.start HC.out)
 clear HC
 obtain ⟨hr1, hr2⟩ := hr
 have d0 := RN0.out.bl
 have HV : Hid (valT h ks = errF 4) := Lib.hid (by unfold valT valF; simp only [q]; rfl)
 clear q hf
 go_enter Tryz.func31, Tryz.ntmps31
 go_wp2_with fail
 refine (wrong_any 4 W (Lib.hid RN0.out.cx.ly) RN0.out.cx.hb (by omega) (by omega)).mono ?_
 rintro e w1 ⟨rfl, cl1, s1, f1, b1⟩
 have RN1 := Lib.hid (RN0.out.go s1 f1 b1)
 have ND1 := Lib.hid (ND0.out.step b1)
 clear RN0 s1 f1 b1 ND0 d0 
 go_wp2_with fail
 exact bodyPost_end (results_none rfl _ _ _) rfl ⟨rfl, by rw [HV.out]; exact RN1.out.toLd⟩
theorem kind7_any {h : Hd} {ks : Trees} (q : h.kind = 7) (ih : AllT VA ks) : KindC h ks := by
 intro b Lx Bl Mx nb off cl S ps cs W ka kl kc HC ND0 hf hr
 rw [if_neg (by omega), (by rw [q]; rfl : kindF h.kind.toNat = 32)]
 have RN0 := Lib.hid (Rn.start HC.out)
 clear HC
 obtain ⟨hr1, hr2⟩ := hr
 have hfv : fitsV h ks.len = true ∧ allFits ks = true := by unfold treeFits at hf; simpa using hf
 have hkl := ND0.out.tv.len
 have hl1 : ks.len = 1 := (node_ok hfv.1).c7 q
 obtain ⟨h0, k0, r0, rfl⟩ := trees_cons (rest := ks) (by omega)
 obtain ⟨kb, ko, ka0, kl0, kc0, rfl, hb0, N0, tv0⟩ := ND0.out.tv.row.head
 have KA0 : Hid (Nd b W kb (ko + 0 * 14) h0 k0 ka0 kl0 kc0) := Lib.hid ⟨N0, hb0, tv0⟩
 simp only [Trees.len] at hl1 hkl
 obtain rfl : r0 = .nil := by cases r0 <;> simp_all [Trees.len]
 simp only [allFits, Bool.and_eq_true, Trees.nodes] at hfv hr1 hr2
 have hf0 : treeFits h0 k0 = true := by unfold treeFits; simp [hfv]
 have IH := Lib.hid ih.1.1
 have HV : Hid (valT h (.cons h0 k0 .nil) = seqF (valT h0 k0) (insF ⟨4, h.op, 0, 0, 0, []⟩)) := Lib.hid (by unfold valT valF; simp only [q]; rfl)
 have hx := fb_valT h0 k0 ps.length cs
 obtain rfl : kl = 1 := by omega
 clear hkl
 clear q hf hfv ih N0 tv0 hl1
 have d0 := RN0.out.bl
 have c13 := ND0.out.nd.facts.c13
 go_enter Tryz.func32, Tryz.ntmps32
 go_upto_region 0 with (fail)
 go_still_tail 6, (by kernel_rfl)
 change wpList _ _ _ _ _ W.drew
 go_wp2_with fail
 have RD0 := Lib.hid RN0.out.drew
 clear RN0
 refine (IH.out b Lx Bl Mx kb _ cl S ps cs _ ka0 kl0 kc0 (Lib.hid RD0.out.cx) (Lib.hid KA0.out.drew) hf0 ⟨by omega, by omega⟩).mono ?_
 rintro e w1 ⟨rfl, cl1, s1, f1, b1⟩
 have RN1 := Lib.hid (RD0.out.go s1 f1 b1)
 have ND1 := Lib.hid (ND0.out.step (((Below.refl _ _).drew).trans b1))
 have KA1 := Lib.hid (KA0.out.step (((Below.refl _ _).drew).trans b1))
 clear RD0 s1 f1 b1 ND0 KA0 d0 c13
 have d0 := RN1.out.bl
 have c1 := ND1.out.nd.facts.c1
 go_upto_region 1 with (fail)
 go_still_tail 6, (by kernel_rfl)
 change wpList _ _ _ _ _ w1.drew
 go_wp2_with fail
 have RD1 := Lib.hid RN1.out.drew
 clear RN1
 refine (put_any 4 h.op 0 0 0 w1.drew (Lib.hid RD1.out.cx.ly) RD1.out.cx.hb (by rw [List.length_append]; omega)).mono ?_
 rintro e w2 ⟨rfl, cl2, s2, f2, b2⟩
 have RN2 := Lib.hid (RD1.out.go s2 f2 b2)
 have ND2 := Lib.hid (ND1.out.step (((Below.refl _ _).drew).trans b2))
 have KA2 := Lib.hid (KA1.out.step (((Below.refl _ _).drew).trans b2))
 clear RD1 s2 f2 b2 ND1 KA1 d0 c1
 go_wp2_with fail
 exact bodyPost_end (results_none rfl _ _ _) rfl ⟨rfl, by rw [HV.out]; have q := RN2.out.toLd; rw [List.append_assoc] at q; exact q⟩
theorem kind8_any {h : Hd} {ks : Trees} (q : h.kind = 8) (ih : AllT VA ks) : KindC h ks := by
 intro b Lx Bl Mx nb off cl S ps cs W ka kl kc HC ND0 hf hr
 rw [if_neg (by omega), (by rw [q]; rfl : kindF h.kind.toNat = 34)]
 have RN0 := Lib.hid (Rn.start HC.out)
 clear HC
 obtain ⟨hr1, hr2⟩ := hr
 have hfv : fitsV h ks.len = true ∧ allFits ks = true := by unfold treeFits at hf; simpa using hf
 have hkl := ND0.out.tv.len
 have hl1 : ks.len = 2 := (node_ok hfv.1).c8 q
 obtain ⟨h0, k0, r0, rfl⟩ := trees_cons (rest := ks) (by omega)
 obtain ⟨kb, ko, ka0, kl0, kc0, rfl, hb0, N0, tv0⟩ := ND0.out.tv.row.head
 have KA0 : Hid (Nd b W kb (ko + 0 * 14) h0 k0 ka0 kl0 kc0) := Lib.hid ⟨N0, hb0, tv0⟩
 simp only [Trees.len] at hl1 hkl
 obtain ⟨h1, k1, r1, rfl⟩ := trees_cons (rest := r0) (by omega)
 simp only [Trees.len] at hl1 hkl
 obtain rfl : r1 = .nil := by cases r1 <;> simp_all [Trees.len]
 obtain ⟨kb1, ko1, ka1, kl1, kc1, ea1, hb1, N1, tv1⟩ := RowIn.head ND0.out.tv.row.2
 simp only [Option.some.injEq, Addr.mk.injEq, and_true] at ea1
 obtain ⟨rfl, rfl⟩ := ea1
 have KB0 : Hid (Nd b W kb (ko + 1 * 14) h1 k1 ka1 kl1 kc1) := Lib.hid ⟨N1, hb1, tv1⟩
 simp only [allFits, Bool.and_eq_true, Trees.nodes] at hfv hr1 hr2
 have hf0 : treeFits h0 k0 = true := by unfold treeFits; simp [hfv]
 have hf1 : treeFits h1 k1 = true := by unfold treeFits; simp [hfv]
 have IH := Lib.hid ih.1.1
 have IH1 := Lib.hid ih.2.1.1
 have HV : Hid (valT h (.cons h0 k0 (.cons h1 k1 .nil)) = seqF (valT h0 k0) (headF (fun _ => seqF (valT h1 k1) (insF ⟨5, h.op, 0, 0, 0, []⟩)) (fun e => ⟨7, e, 0, 0, 0, []⟩))) := Lib.hid (by unfold valT valF; simp only [q]; rfl)
 have hx := fb_valT h0 k0 ps.length cs
 generalize hA : valT h0 k0 ps.length cs = A at hx
 have HA := Lib.hid hA
 have hx1 := fb_valT h1 k1 (ps ++ A.1 ++ [(⟨7, 0, 0, 0, 0, []⟩ : PI)]).length A.2
 generalize hB : valT h1 k1 (ps ++ A.1 ++ [(⟨7, 0, 0, 0, 0, []⟩ : PI)]).length A.2 = B at hx1
 have HB := Lib.hid hB
 have hlA : (ps ++ A.1).length = ps.length + A.1.length := List.length_append
 have hlA1 : (ps ++ A.1 ++ [(⟨7, 0, 0, 0, 0, []⟩ : PI)]).length = ps.length + A.1.length + 1 := by simp only [List.length_append, List.length_singleton]
 have hlB : (ps ++ A.1 ++ [(⟨7, 0, 0, 0, 0, []⟩ : PI)] ++ B.1).length = ps.length + A.1.length + 1 + B.1.length := by simp only [List.length_append, List.length_singleton]
 have hlC : (ps ++ A.1 ++ [(⟨7, 0, 0, 0, 0, []⟩ : PI)] ++ B.1 ++ [(⟨5, h.op, 0, 0, 0, []⟩ : PI)]).length = ps.length + A.1.length + 1 + B.1.length + 1 := by simp only [List.length_append, List.length_singleton]
 obtain rfl : kl = 2 := by omega
 clear hkl
 clear q hf hfv ih N0 tv0 N1 tv1 hl1 hA hB
 have d0 := RN0.out.bl
 have c13 := ND0.out.nd.facts.c13
 go_enter Tryz.func34, Tryz.ntmps34
 go_upto_region 0 with (fail)
 go_still_tail 6, (by kernel_rfl)
 change wpList _ _ _ _ _ W.drew
 go_wp2_with fail
 have RD0 := Lib.hid RN0.out.drew
 clear RN0
 refine (IH.out b Lx Bl Mx kb _ cl S ps cs _ ka0 kl0 kc0 (Lib.hid RD0.out.cx) (Lib.hid KA0.out.drew) hf0 ⟨by omega, by omega⟩).mono ?_
 rintro e w1 ⟨rfl, cl1, s1, f1, b1⟩
 have RN1 := Lib.hid (RD0.out.go s1 f1 b1)
 have ND1 := Lib.hid (ND0.out.step (((Below.refl _ _).drew).trans b1))
 have KA1 := Lib.hid (KA0.out.step (((Below.refl _ _).drew).trans b1))
 have KB1 := Lib.hid (KB0.out.step (((Below.refl _ _).drew).trans b1))
 clear RD0 s1 f1 b1 ND0 KA0 KB0 d0 c13
 rw [HA.out] at RN1
 clear KA1
 have d0 := RN1.out.bl
 go_wp2_with fail
 refine (open_any 7 0 0 0 0 w1 (Lib.hid RN1.out.cx.ly) RN1.out.cx.hb (by omega)).mono ?_
 rintro e w2 ⟨Bl2, Ba2, cl2, rfl, s2, f2, b2, o2⟩
 have RN2 := Lib.hid (RN1.out.go s2 f2 b2)
 have ND2 := Lib.hid (ND1.out.step b2)
 have KB2 := Lib.hid (KB1.out.step b2)
 have OC2 := Lib.hid o2
 simp only [cloV]
 clear RN1 s2 f2 b2 ND1 KB1 o2 d0
 have d0 := RN2.out.bl
 have c13 := ND2.out.nd.facts.c13
 go_upto_region 2 with (fail)
 go_still_tail 6, (by kernel_rfl)
 change wpList _ _ _ _ _ w2.drew
 go_wp2_with fail
 have RD2 := Lib.hid RN2.out.drew
 clear RN2
 refine (IH1.out b Lx Bl Mx kb _ cl2 S _ _ _ ka1 kl1 kc1 (Lib.hid RD2.out.cx) (Lib.hid KB2.out.drew) hf1 ⟨by omega, by omega⟩).mono ?_
 rintro e w3 ⟨rfl, cl3, s3, f3, b3⟩
 have RN3 := Lib.hid (RD2.out.go s3 f3 b3)
 have ND3 := Lib.hid (ND2.out.step (((Below.refl _ _).drew).trans b3))
 have KB3 := Lib.hid (KB2.out.step (((Below.refl _ _).drew).trans b3))
 have OC3 := Lib.hid (OC2.out.frm f3 p3_6 (Nat.le_refl _))
 clear RD2 s3 f3 b3 ND2 KB2 OC2 d0 c13
 rw [HB.out] at RN3
 clear KB3
 have d0 := RN3.out.bl
 have c1 := ND3.out.nd.facts.c1
 go_upto_region 3 with (fail)
 go_still_tail 6, (by kernel_rfl)
 change wpList _ _ _ _ _ w3.drew
 go_wp2_with fail
 have RD3 := Lib.hid RN3.out.drew
 clear RN3
 refine (put_any 5 h.op 0 0 0 w3.drew (Lib.hid RD3.out.cx.ly) RD3.out.cx.hb (by omega)).mono ?_
 rintro e w4 ⟨rfl, cl4, s4, f4, b4⟩
 have RN4 := Lib.hid (RD3.out.go s4 f4 b4)
 have ND4 := Lib.hid (ND3.out.step (((Below.refl _ _).drew).trans b4))
 have OC4 := Lib.hid (OC3.out.frm f4 p3_6 (Nat.le_refl _))
 clear RD3 s4 f4 b4 ND3 OC3 d0 c1
 go_wp2_with fail
 refine (closeFn_any w4 (Lib.hid RN4.out.cx.ly) RN4.out.cx.hb (by omega) OC4.out (by omega)).mono ?_
 rintro e w5 ⟨rfl, cl5, s5, f5, b5⟩
 have RN5 := Lib.hid (RN4.out.go s5 f5 b5)
 have ND5 := Lib.hid (ND4.out.step b5)
 have OC5 := Lib.hid (OC4.out.frm f5 p3_6 (Nat.le_refl _))
 clear RN4 s5 f5 b5 ND4 OC4
 go_wp2_with fail
 have q : Ld b cl S Lx 64 [.map (some Mx)] W (ps ++ (valT h (.cons h0 k0 (.cons h1 k1 .nil)) ps.length cs).1) (valT h (.cons h0 k0 (.cons h1 k1 .nil)) ps.length cs).2 w5 := by
  have q := RN5.out.toLd
  rw [hlC, List.append_assoc _ B.1, patA_app _ _ _ _ (by rw [hlA, hlA1]; omega), patA_last] at q
  have e1 : headF (fun _ => seqF (valT h1 k1) (insF ⟨5, h.op, 0, 0, 0, []⟩)) (fun e => ⟨7, e, 0, 0, 0, []⟩) (ps.length + A.1.length) A.2 = (⟨7, ((ps.length + A.1.length + 1 + B.1.length + 1 : Nat) : Int), 0, 0, 0, []⟩ :: (B.1 ++ [⟨5, h.op, 0, 0, 0, []⟩]), B.2) := by
   have hB := HB.out
   rw [hlA1] at hB
   simp only [headF, seqF, insF, hB, List.length_cons, List.length_nil, List.length_append, Nat.zero_add, List.singleton_append]
   simp only [Nat.add_assoc]
  rw [HV.out, seqF, HA.out, e1]
  simpa only [List.append_assoc, List.singleton_append, List.cons_append, List.nil_append] using q
 exact bodyPost_end (results_none rfl _ _ _) rfl ⟨rfl, q⟩
end Go.Proofs.YtlmpiobdgkmmgaaGreatDoor
