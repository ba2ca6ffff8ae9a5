/- Comp: put, constant; small functions. -/
import Derived.Test.YtlmpiobdgkmmgaaGreatDoorKcH
import Derived.Deep.CutRange
set_option maxRecDepth 1000000
set_option maxHeartbeats 16000000
namespace Go.Proofs.YtlmpiobdgkmmgaaGreatDoor
open Go.RowKit
def Ly (b : Nat) (cl : Nat → Nat) (S : SX) (Lx : Nat) (TL : TypeId) (ex : List Value) (ps : List PI) (cs : List PV) (W : World) : Prop := ∃ vI vC ts, LayS b W.heap.size cl S Lx TL ex vI vC ps ts cs W
def P3 (c : Nat) : Prop := c ≠ 0 ∧ c ≠ 1 ∧ c ≠ 2
def Ld (b : Nat) (cl : Nat → Nat) (S : SX) (Lx : Nat) (TL : TypeId) (ex : List Value) (W : World) (ps : List PI) (cs : List PV) (W' : World) : Prop := ∃ cl', Ly b cl' S Lx TL ex ps cs W' ∧ Frm P3 cl W.heap.size cl' W W' ∧ Below b W W'
theorem p3_10 (i : Nat) : P3 (10 + i) := ⟨by omega, by omega, by omega⟩
theorem p3_6 : P3 6 := ⟨by omega, by omega, by omega⟩
theorem p3_9 : P3 9 := ⟨by omega, by omega, by omega⟩
theorem LayS.ly {b Lx : Nat} {TL : TypeId} {ex : List Value} {cl : Nat → Nat} {S : SX} {vI vC : Value} {ps : List PI} {ts : List Value} {cs : List PV} {W : World} (s : LayS b W.heap.size cl S Lx TL ex vI vC ps ts cs W) : Ly b cl S Lx TL ex ps cs W := ⟨_, _, _, s⟩
theorem LayS.kept {b Lx : Nat} {TL : TypeId} {ex : List Value} {cl : Nat → Nat} {S : SX} {vI vC : Value} {ps : List PI} {ts : List Value} {cs : List PV} {W W' : World} (s : LayS b W.heap.size cl S Lx TL ex vI vC ps ts cs W) (h : Below W.heap.size W W') (c : Nat) : LayS b W'.heap.size (upc cl W.heap.size c) S Lx TL ex vI vC ps ts cs W' :=
 s.frm (P := fun _ => True) (Frm.kept h) h.size trivial trivial trivial fun _ _ => trivial
theorem Ly.kept {b Lx : Nat} {TL : TypeId} {ex : List Value} {cl : Nat → Nat} {S : SX} {ps : List PI} {cs : List PV} {W W' : World} (s : Ly b cl S Lx TL ex ps cs W) (h : Below W.heap.size W W') (c : Nat) : Ly b (upc cl W.heap.size c) S Lx TL ex ps cs W' := by
 obtain ⟨vI, vC, ts, s⟩ := s
 exact (s.kept h c).ly
theorem Ly.hasBox {b Lx : Nat} {TL : TypeId} {ex : List Value} {cl : Nat → Nat} {S : SX} {ps : List PI} {cs : List PV} {W : World} (s : Ly b cl S Lx TL ex ps cs W) : b ≤ Lx ∧ Lx < W.heap.size := by
 obtain ⟨vI, vC, ts, s⟩ := s
 exact ⟨s.bx.2.2, s.bx.2.1⟩
theorem Ld.trans {b Lx : Nat} {TL : TypeId} {ex : List Value} {cl cl1 : Nat → Nat} {S : SX} {ps : List PI} {cs : List PV} {W W1 W2 : World} (f : Frm P3 cl W.heap.size cl1 W W1) (b1 : Below b W W1) (h : Ld b cl1 S Lx TL ex W1 ps cs W2) : Ld b cl S Lx TL ex W ps cs W2 := by
 obtain ⟨cl2, s2, f2, b2⟩ := h
 exact ⟨cl2, s2, f.trans f2 b1.size, b1.trans b2⟩
theorem Ld.kept {b Lx c : Nat} {TL : TypeId} {ex : List Value} {cl : Nat → Nat} {S : SX} {ps : List PI} {cs : List PV} {W W1 W2 : World} (h1 : Below W.heap.size W W1) (hb : b ≤ W.heap.size) (h : Ld b (upc cl W.heap.size c) S Lx TL ex W1 ps cs W2) : Ld b cl S Lx TL ex W ps cs W2 := Ld.trans (Frm.kept h1) (h1.mono hb) h
theorem wrap_len (n : Nat) (h : n ≤ 1000001) : IntKind.i64.wrap (((n + 1 : Nat) : Int) - 1) = (n : Int) := by
 rw [IntWalk.i64_in _ (by omega)]; omega
theorem put_any {b Lx : Nat} {cl : Nat → Nat} {S : SX} {ex : List Value} {ps : List PI} {cs : List PV} (o a1 a2 a3 a4 : Int) (W : World) (HL : Hid (Ly b cl S Lx 64 ex ps cs W)) (hb : b ≤ W.heap.size) (hn : ps.length ≤ 1000000) :
 Calls Tryz.prog 30 #[.pointer (some ⟨Lx, 0, none⟩), .agg #[.int .i64 o, .int .i64 a1, .int .i64 a2, .int .i64 a3, .int .i64 a4, .slice none 0 0]] W fun e w' => e = .returned (.int .i64 (ps.length : Int)) ∧ Ld b cl S Lx 64 ex W (ps ++ [⟨o, a1, a2, a3, a4, []⟩]) cs w' := by
 obtain ⟨vI, vC, ts, s0⟩ := HL.out
 have b0 : Below W.heap.size W (W.alloc (.cells #[.int .i64 o, .int .i64 a1, .int .i64 a2, .int .i64 a3, .int .i64 a4, .slice none 0 0] 47)) := ext_alloc (Below.refl _ _) _
 have s1 := s0.kept b0 9
 obtain ⟨aI, kI, e1⟩ := s0.rI.own.slice9
 obtain ⟨W1, hW1⟩ : ∃ W1, W1 = W.alloc (.cells #[.int .i64 o, .int .i64 a1, .int .i64 a2, .int .i64 a3, .int .i64 a4, .slice none 0 0] 47) := ⟨_, rfl⟩
 have hB : W1.heap[W.heap.size]? = some (.cells #[.int .i64 o, .int .i64 a1, .int .i64 a2, .int .i64 a3, .int .i64 a4, .slice none 0 0] 47 (0, 0)) := by rw [hW1]; exact heap_alloc_new W _
 rw [← hW1] at b0 s1
 subst e1
 have LS1 := Lib.hid s1; have HB1 := Lib.hid hB; have B0 := Lib.hid b0
 have hb1 : b ≤ W1.heap.size := Nat.le_trans hb b0.size
 have hcl9 : upc cl W.heap.size 9 W.heap.size = 9 := upc_ge (Nat.le_refl _)
 clear s0 s1 hB b0
 go_enter Tryz.func30, Tryz.ntmps30
 go_upto_region 1 with (fail)
 rw [← hW1]
 obtain ⟨B9, hB9⟩ : ∃ B9, B9 = W.heap.size := ⟨_, rfl⟩
 rw [← hB9] at HB1 LS1 hcl9 B0 ⊢
 have HN := Lib.hid hB9
 clear hB9
 refine put_r (p := ⟨o, a1, a2, a3, a4, []⟩) LS1 HB1 hcl9 hb1 rfl hn rfl (Lib.hid ?_)
 intros
 rename_i g cap cl1 W2 LS2 F2 B2
 have c0 := (cells_of_block LS2.out.box 0).trans rfl
 have HW := Lib.hid (wrap_len ps.length (by omega))
 go_wp2_with fail
 go_ret
 refine ⟨rfl, Ld.kept (W1 := W1) (c := 9) (by rw [← HN.out]; exact B0.out) hb ?_⟩
 rw [← HN.out]
 exact ⟨cl1, LS2.out.ly, F2.out.mono fun c h => ⟨h.1, h.2.2⟩, B2⟩
theorem refPut_any {b Lx : Nat} {cl : Nat → Nat} {S : SX} {ex : List Value} {ps : List PI} {cs : List PV} (o a1 a2 a3 a4 : Int) (W : World) (HL : Hid (Ly b cl S Lx 59 ex ps cs W)) (hb : b ≤ W.heap.size) (hn : ps.length ≤ 1000000) :
 Calls Tryz.prog 60 #[.pointer (some ⟨Lx, 0, none⟩), .agg #[.int .i64 o, .int .i64 a1, .int .i64 a2, .int .i64 a3, .int .i64 a4, .slice none 0 0]] W fun e w' => e = .returned (.int .i64 (ps.length : Int)) ∧ Ld b cl S Lx 59 ex W (ps ++ [⟨o, a1, a2, a3, a4, []⟩]) cs w' := by
 obtain ⟨vI, vC, ts, s0⟩ := HL.out
 have b0 : Below W.heap.size W (W.alloc (.cells #[.int .i64 o, .int .i64 a1, .int .i64 a2, .int .i64 a3, .int .i64 a4, .slice none 0 0] 47)) := ext_alloc (Below.refl _ _) _
 have s1 := s0.kept b0 9
 obtain ⟨aI, kI, e1⟩ := s0.rI.own.slice9
 obtain ⟨W1, hW1⟩ : ∃ W1, W1 = W.alloc (.cells #[.int .i64 o, .int .i64 a1, .int .i64 a2, .int .i64 a3, .int .i64 a4, .slice none 0 0] 47) := ⟨_, rfl⟩
 have hB : W1.heap[W.heap.size]? = some (.cells #[.int .i64 o, .int .i64 a1, .int .i64 a2, .int .i64 a3, .int .i64 a4, .slice none 0 0] 47 (0, 0)) := by rw [hW1]; exact heap_alloc_new W _
 rw [← hW1] at b0 s1
 subst e1
 have LS1 := Lib.hid s1; have HB1 := Lib.hid hB; have B0 := Lib.hid b0
 have hb1 : b ≤ W1.heap.size := Nat.le_trans hb b0.size
 have hcl9 : upc cl W.heap.size 9 W.heap.size = 9 := upc_ge (Nat.le_refl _)
 clear s0 s1 hB b0
 go_enter Tryz.func60, Tryz.ntmps60
 go_upto_region 1 with (fail)
 rw [← hW1]
 obtain ⟨B9, hB9⟩ : ∃ B9, B9 = W.heap.size := ⟨_, rfl⟩
 rw [← hB9] at HB1 LS1 hcl9 B0 ⊢
 have HN := Lib.hid hB9
 clear hB9
 refine put_q (p := ⟨o, a1, a2, a3, a4, []⟩) LS1 HB1 hcl9 hb1 rfl hn rfl (Lib.hid ?_)
 intros
 rename_i g cap cl1 W2 LS2 F2 B2
 have c0 := (cells_of_block LS2.out.box 0).trans rfl
 have HW := Lib.hid (wrap_len ps.length (by omega))
 go_wp2_with fail
 go_ret
 refine ⟨rfl, Ld.kept (W1 := W1) (c := 9) (by rw [← HN.out]; exact B0.out) hb ?_⟩
 rw [← HN.out]
 exact ⟨cl1, LS2.out.ly, F2.out.mono fun c h => ⟨h.1, h.2.2⟩, B2⟩
theorem ixOf_step : ∀ (cs : List PV) (v c : PV) (k : Nat), k ≤ ixOf cs v → cs[k]? = some c → c ≠ v → k + 1 ≤ ixOf cs v
 | [], _, _, _, _, h, _ => by simp at h
 | x :: r, v, c, 0, _, h, hn => by
  simp only [List.getElem?_cons_zero, Option.some.injEq] at h
  subst h
  unfold ixOf
  rw [if_neg hn]
  omega
 | x :: r, v, c, k + 1, hk, h, hn => by
  unfold ixOf at hk ⊢
  split at hk
  ·omega
  ·rename_i q
   rw [if_neg q]
   have := ixOf_step r v c k (by omega) (by simpa using h) hn
   omega
theorem ixOf_here : ∀ (cs : List PV) (v : PV) (k : Nat), k ≤ ixOf cs v → cs[k]? = some v → ixOf cs v = k
 | [], _, _, _, h => by simp at h
 | x :: r, v, 0, _, h => by
  simp only [List.getElem?_cons_zero, Option.some.injEq] at h
  subst h
  simp [ixOf]
 | x :: r, v, k + 1, hk, h => by
  unfold ixOf at hk ⊢
  split at hk
  ·omega
  ·rename_i q
   rw [if_neg q, ixOf_here r v k (by omega) (by simpa using h)]
theorem pushC_here {cs : List PV} {v : PV} (h : ixOf cs v < cs.length) : pushC cs v = cs := by unfold pushC; rw [if_pos h]
theorem pushC_new {cs : List PV} {v : PV} (h : cs.length ≤ ixOf cs v) : pushC cs v = cs ++ [v] ∧ ixOf cs v = cs.length := ⟨by unfold pushC; rw [if_neg (by omega)], by have := ixOf_le cs v; omega⟩
theorem text_same {a b : List UInt8} (h : (({ data := a.toArray } : ByteArray).toList == ({ data := b.toArray } : ByteArray).toList) = true) : a = b := by
 rw [ByteArray.toList_eq, ByteArray.toList_eq] at h
 simpa using h
theorem text_same' (a : List UInt8) : (({ data := a.toArray } : ByteArray).toList == ({ data := a.toArray } : ByteArray).toList) = true := by simp
theorem text_other {a b : List UInt8} (h : a ≠ b) : (({ data := a.toArray } : ByteArray).toList == ({ data := b.toArray } : ByteArray).toList) = false := by
 cases e : (({ data := a.toArray } : ByteArray).toList == ({ data := b.toArray } : ByteArray).toList) with
 | false => rfl
 | true => exact absurd (text_same e) h
def Conl (W1 : World) (cs : List PV) (v : PV) (iv : Value) (wr : World) : Prop := ∃ j : Nat, iv = .int .i64 (j : Int) ∧ j ≤ cs.length ∧ j ≤ ixOf cs v ∧ Hid (Below W1.heap.size W1 wr)
theorem con_any {b Lx : Nat} {cl : Nat → Nat} {S : SX} {ex : List Value} {ps : List PI} {cs : List PV} (k n : Int) (s : List UInt8) (W : World) (HL : Hid (Ly b cl S Lx 64 ex ps cs W)) (hb : b ≤ W.heap.size) (hn : ps.length ≤ 1000000) (hm : cs.length ≤ 1000000) :
 Calls Tryz.prog 24 #[.pointer (some ⟨Lx, 0, none⟩), .agg #[.int .i64 k, .int .i64 n, .string ⟨s.toArray⟩]] W fun e w' => e = .returned (.tuple #[]) ∧ Ld b cl S Lx 64 ex W (ps ++ [⟨1, (ixOf cs ⟨k, n, s⟩ : Nat), 0, 0, 0, []⟩]) (pushC cs ⟨k, n, s⟩) w' := by
 obtain ⟨vI, vC, ts, s0⟩ := HL.out
 have b0 : Below W.heap.size W (W.alloc (.cells #[.int .i64 k, .int .i64 n, .string ⟨s.toArray⟩] 54)) := ext_alloc (Below.refl _ _) _
 have s1 := s0.kept b0 9
 obtain ⟨aC, kC, e1⟩ := s0.rC.own.slice9
 obtain ⟨W1, hW1⟩ : ∃ W1, W1 = W.alloc (.cells #[.int .i64 k, .int .i64 n, .string ⟨s.toArray⟩] 54) := ⟨_, rfl⟩
 have hB : W1.heap[W.heap.size]? = some (.cells #[.int .i64 k, .int .i64 n, .string ⟨s.toArray⟩] 54 (0, 0)) := by rw [hW1]; exact heap_alloc_new W _
 rw [← hW1] at b0 s1
 subst e1
 have LS1 := Lib.hid s1; have HB1 := Lib.hid hB; have B0 := Lib.hid b0
 have hb1 : b ≤ W1.heap.size := Nat.le_trans hb b0.size
 have hcl9 : upc cl W.heap.size 9 W.heap.size = 9 := upc_ge (Nat.le_refl _)
 clear s0 s1 hB b0
 go_enter Tryz.func24, Tryz.ntmps24
 go_upto_region 1 with (fail)
 rw [← hW1]
 obtain ⟨B9, hB9⟩ : ∃ B9, B9 = W.heap.size := ⟨_, rfl⟩
 rw [← hB9] at HB1 LS1 hcl9 B0 ⊢
 have HN := Lib.hid hB9
 clear hB9 hW1
 have c1 := (cells_of_block LS1.out.box 1).trans rfl
 go_wp2_with fail
 go_loopw [12] (fun iv wr => Conl W1 cs ⟨k, n, s⟩ iv wr) (fun iv _ => cs.length - (intOf iv).toNat)
 case atStart => exact ⟨0, rfl, Nat.zero_le _, Nat.zero_le _, Lib.hid (Below.refl _ _)⟩
 case round =>
  obtain ⟨j, rfl, hj, hix, BR⟩ := hrel
  have LSR := Lib.hid (LS1.out.kept BR.out 9)
  by_cases hlt : j < cs.length
  ·obtain ⟨c, hc⟩ : ∃ c, cs[j]? = some c := ⟨_, List.getElem?_eq_getElem hlt⟩
   rcases LSR.out.rC.own.2 with ⟨e, h0⟩ | ⟨g, cap, cur, e, -⟩
   ·exact absurd h0 (by omega)
   simp only [Value.slice.injEq] at e
   obtain ⟨rfl, -, rfl⟩ := e
   have d0 := (own_cell LSR.out.rC.own (j * 3 + 0) (by rw [conC_len]; omega)).trans (conC_get cs j 0 c hc (by omega))
   have d1 := (own_cell LSR.out.rC.own (j * 3 + 1) (by rw [conC_len]; omega)).trans (conC_get cs j 1 c hc (by omega))
   have d2 := (own_cell LSR.out.rC.own (j * 3 + 2) (by rw [conC_len]; omega)).trans (conC_get cs j 2 c hc (by omega))
   have hB := (BR.out.block _ (by have := lt_of_block HB1.out; omega)).trans HB1.out
   have v0 := cells_of_block hB 0; have v1 := cells_of_block hB 1; have v2 := cells_of_block hB 2
   have HC := Lib.hid hc
   have hBlt := lt_of_block hB
   simp only [conV, List.getElem?_cons_zero, List.getElem?_cons_succ, List.getElem?_toArray, Nat.add_zero] at d0 d1 d2 v0 v1 v2
   clear hB hc
   by_cases e0 : c.kind = k
   ·by_cases e1 : c.num = n
    ·by_cases e2 : c.text = s
     ·have HV : Hid (c = ⟨k, n, s⟩) := Lib.hid (by obtain ⟨c1, c2, c3⟩ := c; simp_all)
      subst e0 e1 e2
      have q2 := text_same' c.text
      go_wp2_with fail
      obtain ⟨w2, hw2⟩ : ∃ w2, w2 = wr.alloc (.cells #[.int .i64 c.kind, .int .i64 c.num, .string ⟨c.text.toArray⟩] 54) := ⟨_, rfl⟩
      rw [← hw2]
      have B2 : Below W1.heap.size W1 w2 := BR.out.trans (by rw [hw2]; exact ext_alloc (Below.refl _ _) _ |>.mono BR.out.size)
      have L2 := Lib.hid (LS1.out.kept B2 9).ly
      have HIX : Hid (ixOf cs c = j) := Lib.hid (ixOf_here cs c j hix HC.out)
      clear hw2
      refine (put_any 1 j 0 0 0 w2 L2 (Nat.le_trans hb1 B2.size) hn).mono ?_
      rintro e w3 ⟨rfl, l3⟩
      have L3 := Lib.hid l3
      clear l3
      go_wp2_with fail
      have hp : pushC cs c = cs := pushC_here (by rw [HIX.out]; exact hlt)
      have q9 : Ld b cl S Lx 64 ex W (ps ++ [⟨1, (ixOf cs c : Nat), 0, 0, 0, []⟩]) (pushC cs c) w3 := by
       rw [HIX.out, hp]
       have q1 := Ld.kept (W1 := w2) (c := 9) B2 hb1 L3.out
       exact Ld.kept (W1 := W1) (c := 9) (by rw [← HN.out]; exact B0.out) hb (by rw [← HN.out]; exact q1)
      exact bodyPost_ret (results_none rfl _ _ _) rfl ⟨rfl, q9⟩
     ·have HV : Hid (c ≠ ⟨k, n, s⟩) := Lib.hid (fun q => e2 (by rw [q]))
      subst e0 e1
      go_wp2_with fail
      refine ⟨⟨j + 1, by go_num, by omega, ixOf_step _ _ _ _ hix HC.out HV.out, Lib.hid (BR.out.trans (ext_alloc (Below.refl _ _) _ |>.mono BR.out.size))⟩, by simp [intOf]; omega⟩
    ·have HV : Hid (c ≠ ⟨k, n, s⟩) := Lib.hid (fun q => e1 (by rw [q]))
     have q1 : (c.num == n) = false := by simpa using e1
     subst e0
     clear e1
     go_wp2_with fail
     refine ⟨⟨j + 1, by go_num, by omega, ixOf_step _ _ _ _ hix HC.out HV.out, Lib.hid (BR.out.trans (ext_alloc (Below.refl _ _) _ |>.mono BR.out.size))⟩, by simp [intOf]; omega⟩
   ·have HV : Hid (c ≠ ⟨k, n, s⟩) := Lib.hid (fun q => e0 (by rw [q]))
    have q0 : (c.kind == k) = false := by simpa using e0
    clear e0
    go_wp2_with fail
    refine ⟨⟨j + 1, by go_num, by omega, ixOf_step _ _ _ _ hix HC.out HV.out, Lib.hid (BR.out.trans (ext_alloc (Below.refl _ _) _ |>.mono BR.out.size))⟩, by simp [intOf]; omega⟩
  ·obtain rfl : j = cs.length := by omega
   have c2 := (cells_of_block LSR.out.box 1).trans rfl
   have hbr := (BR.out.block _ (by have := lt_of_block HB1.out; omega)).trans HB1.out
   have HBR := Lib.hid hbr
   have hcr : upc (upc cl B9 9) W1.heap.size 9 B9 = 9 := (upc_lt (by have := lt_of_block HB1.out; omega)).trans hcl9
   have hbw : b ≤ wr.heap.size := Nat.le_trans hb1 BR.out.size
   clear hbr
   go_upto_region 7 with (fail)
   refine con_r (c := ⟨k, n, s⟩) LSR HBR hcr hbw rfl hm (Lib.hid ?_)
   intros
   rename_i g cap cl1 w2 LS2 F2 B2
   have c3 := (cells_of_block LS2.out.box 1).trans rfl
   have HW := Lib.hid (wrap_len cs.length (by omega))
   go_wp2_with fail
   refine (put_any 1 cs.length 0 0 0 w2 (Lib.hid LS2.out.ly) (Nat.le_trans hbw B2.size) hn).mono ?_
   rintro e w3 ⟨rfl, l3⟩
   have L3 := Lib.hid l3
   clear l3
   go_wp2_with fail
   obtain ⟨e1, e2⟩ := pushC_new hix
   have q9 : Ld b cl S Lx 64 ex W (ps ++ [⟨1, (ixOf cs ⟨k, n, s⟩ : Nat), 0, 0, 0, []⟩]) (pushC cs ⟨k, n, s⟩) w3 := by
    rw [e1, e2]
    have q0 := Ld.trans (F2.out.mono fun c h => ⟨h.2.1, h.2.2⟩) B2 L3.out
    have q1 := Ld.kept (W1 := wr) (c := 9) BR.out hb1 q0
    exact Ld.kept (W1 := W1) (c := 9) (by rw [← HN.out]; exact B0.out) hb (by rw [← HN.out]; exact q1)
   exact bodyPost_end (results_none rfl _ _ _) rfl ⟨rfl, q9⟩
def Conq (W1 : World) (cs : List PV) (v : PV) (iv : Value) (wr : World) : Prop := ∃ j : Nat, iv = .int .i64 (j : Int) ∧ j ≤ cs.length ∧ j ≤ ixOf cs v ∧ Hid (Below W1.heap.size W1 wr)
theorem refCon_any {b Lx : Nat} {cl : Nat → Nat} {S : SX} {ex : List Value} {ps : List PI} {cs : List PV} (k n : Int) (s : List UInt8) (W : World) (HL : Hid (Ly b cl S Lx 59 ex ps cs W)) (hb : b ≤ W.heap.size) (hn : ps.length ≤ 1000000) (hm : cs.length ≤ 1000000) :
 Calls Tryz.prog 58 #[.pointer (some ⟨Lx, 0, none⟩), .agg #[.int .i64 k, .int .i64 n, .string ⟨s.toArray⟩]] W fun e w' => e = .returned (.tuple #[]) ∧ Ld b cl S Lx 59 ex W (ps ++ [⟨1, (ixOf cs ⟨k, n, s⟩ : Nat), 0, 0, 0, []⟩]) (pushC cs ⟨k, n, s⟩) w' := by
 obtain ⟨vI, vC, ts, s0⟩ := HL.out
 have b0 : Below W.heap.size W (W.alloc (.cells #[.int .i64 k, .int .i64 n, .string ⟨s.toArray⟩] 54)) := ext_alloc (Below.refl _ _) _
 have s1 := s0.kept b0 9
 obtain ⟨aC, kC, e1⟩ := s0.rC.own.slice9
 obtain ⟨W1, hW1⟩ : ∃ W1, W1 = W.alloc (.cells #[.int .i64 k, .int .i64 n, .string ⟨s.toArray⟩] 54) := ⟨_, rfl⟩
 have hB : W1.heap[W.heap.size]? = some (.cells #[.int .i64 k, .int .i64 n, .string ⟨s.toArray⟩] 54 (0, 0)) := by rw [hW1]; exact heap_alloc_new W _
 rw [← hW1] at b0 s1
 subst e1
 have LS1 := Lib.hid s1; have HB1 := Lib.hid hB; have B0 := Lib.hid b0
 have hb1 : b ≤ W1.heap.size := Nat.le_trans hb b0.size
 have hcl9 : upc cl W.heap.size 9 W.heap.size = 9 := upc_ge (Nat.le_refl _)
 clear s0 s1 hB b0
 go_enter Tryz.func58, Tryz.ntmps58
 go_upto_region 1 with (fail)
 rw [← hW1]
 obtain ⟨B9, hB9⟩ : ∃ B9, B9 = W.heap.size := ⟨_, rfl⟩
 rw [← hB9] at HB1 LS1 hcl9 B0 ⊢
 have HN := Lib.hid hB9
 clear hB9 hW1
 have c1 := (cells_of_block LS1.out.box 1).trans rfl
 go_wp2_with fail
 go_loopw [4] (fun iv wr => Conq W1 cs ⟨k, n, s⟩ iv wr) (fun iv _ => cs.length - (intOf iv).toNat)
 case atStart => exact ⟨0, rfl, Nat.zero_le _, Nat.zero_le _, Lib.hid (Below.refl _ _)⟩
 case round =>
  obtain ⟨j, rfl, hj, hix, BR⟩ := hrel
  have LSR := Lib.hid (LS1.out.kept BR.out 9)
  have c2 := (cells_of_block LSR.out.box 1).trans rfl
  by_cases hlt : j < cs.length
  ·obtain ⟨c, hc⟩ : ∃ c, cs[j]? = some c := ⟨_, List.getElem?_eq_getElem hlt⟩
   rcases LSR.out.rC.own.2 with ⟨e, h0⟩ | ⟨g, cap, cur, e, -⟩
   ·exact absurd h0 (by omega)
   simp only [Value.slice.injEq] at e
   obtain ⟨rfl, -, rfl⟩ := e
   have d0 := (own_cell LSR.out.rC.own (j * 3 + 0) (by rw [conC_len]; omega)).trans (conC_get cs j 0 c hc (by omega))
   have d1 := (own_cell LSR.out.rC.own (j * 3 + 1) (by rw [conC_len]; omega)).trans (conC_get cs j 1 c hc (by omega))
   have d2 := (own_cell LSR.out.rC.own (j * 3 + 2) (by rw [conC_len]; omega)).trans (conC_get cs j 2 c hc (by omega))
   have hB := (BR.out.block _ (by have := lt_of_block HB1.out; omega)).trans HB1.out
   have v0 := cells_of_block hB 0; have v1 := cells_of_block hB 1; have v2 := cells_of_block hB 2
   have HC := Lib.hid hc
   have hBlt := lt_of_block hB
   simp only [conV, List.getElem?_cons_zero, List.getElem?_cons_succ, List.getElem?_toArray, Nat.add_zero] at d0 d1 d2 v0 v1 v2
   clear hB hc
   by_cases e0 : c.kind = k
   ·by_cases e1 : c.num = n
    ·by_cases e2 : c.text = s
     ·have HV : Hid (c = ⟨k, n, s⟩) := Lib.hid (by obtain ⟨c1, c2, c3⟩ := c; simp_all)
      subst e0 e1 e2
      have q2 := text_same' c.text
      go_wp2_with fail
      go_quiet (fail)
      generalize hwd : World.drewN wr _ = wd
      have BD : Below wr.heap.size wr wd := by rw [← hwd]; exact ext_drewN (Below.refl _ _) _
      clear hwd
      go_wp2_with fail
      obtain ⟨w2, hw2⟩ : ∃ w2, w2 = wd := ⟨_, rfl⟩
      rw [← hw2]
      have B2 : Below W1.heap.size W1 w2 := by rw [hw2]; exact BR.out.trans (BD.mono BR.out.size)
      have L2 := Lib.hid (LS1.out.kept B2 9).ly
      have HIX : Hid (ixOf cs c = j) := Lib.hid (ixOf_here cs c j hix HC.out)
      clear hw2
      refine (refPut_any 1 j 0 0 0 w2 L2 (Nat.le_trans hb1 B2.size) hn).mono ?_
      rintro e w3 ⟨rfl, l3⟩
      have L3 := Lib.hid l3
      clear l3
      go_wp2_with fail
      have hp : pushC cs c = cs := pushC_here (by rw [HIX.out]; exact hlt)
      have q9 : Ld b cl S Lx 59 ex W (ps ++ [⟨1, (ixOf cs c : Nat), 0, 0, 0, []⟩]) (pushC cs c) w3 := by
       rw [HIX.out, hp]
       have q1 := Ld.kept (W1 := w2) (c := 9) B2 hb1 L3.out
       exact Ld.kept (W1 := W1) (c := 9) (by rw [← HN.out]; exact B0.out) hb (by rw [← HN.out]; exact q1)
      exact bodyPost_ret (results_none rfl _ _ _) rfl ⟨rfl, q9⟩
     ·have HV : Hid (c ≠ ⟨k, n, s⟩) := Lib.hid (fun q => e2 (by rw [q]))
      subst e0 e1
      go_wp2_with fail
      go_quiet (fail)
      generalize hwd : World.drewN wr _ = wd
      have BD : Below wr.heap.size wr wd := by rw [← hwd]; exact ext_drewN (Below.refl _ _) _
      clear hwd
      go_wp2_with fail
      refine ⟨⟨j + 1, by go_num, by omega, ixOf_step _ _ _ _ hix HC.out HV.out, Lib.hid (BR.out.trans (BD.mono BR.out.size))⟩, by simp [intOf]; omega⟩
    ·have HV : Hid (c ≠ ⟨k, n, s⟩) := Lib.hid (fun q => e1 (by rw [q]))
     have q1 : (c.num == n) = false := by simpa using e1
     subst e0
     clear e1
     go_wp2_with fail
     go_quiet (fail)
     generalize hwd : World.drewN wr _ = wd
     have BD : Below wr.heap.size wr wd := by rw [← hwd]; exact ext_drewN (Below.refl _ _) _
     clear hwd
     go_wp2_with fail
     refine ⟨⟨j + 1, by go_num, by omega, ixOf_step _ _ _ _ hix HC.out HV.out, Lib.hid (BR.out.trans (BD.mono BR.out.size))⟩, by simp [intOf]; omega⟩
   ·have HV : Hid (c ≠ ⟨k, n, s⟩) := Lib.hid (fun q => e0 (by rw [q]))
    have q0 : (c.kind == k) = false := by simpa using e0
    clear e0
    go_wp2_with fail
    go_quiet (fail)
    generalize hwd : World.drewN wr _ = wd
    have BD : Below wr.heap.size wr wd := by rw [← hwd]; exact ext_drewN (Below.refl _ _) _
    clear hwd
    go_wp2_with fail
    refine ⟨⟨j + 1, by go_num, by omega, ixOf_step _ _ _ _ hix HC.out HV.out, Lib.hid (BR.out.trans (BD.mono BR.out.size))⟩, by simp [intOf]; omega⟩
  ·obtain rfl : j = cs.length := by omega
   have hbr := (BR.out.block _ (by have := lt_of_block HB1.out; omega)).trans HB1.out
   have HBR := Lib.hid hbr
   have hcr : upc (upc cl B9 9) W1.heap.size 9 B9 = 9 := (upc_lt (by have := lt_of_block HB1.out; omega)).trans hcl9
   have hbw : b ≤ wr.heap.size := Nat.le_trans hb1 BR.out.size
   clear hbr
   go_upto_region 6 with (fail)
   refine con_q (c := ⟨k, n, s⟩) LSR HBR hcr hbw rfl hm (Lib.hid ?_)
   intros
   rename_i g cap cl1 w2 LS2 F2 B2
   have c3 := (cells_of_block LS2.out.box 1).trans rfl
   have HW := Lib.hid (wrap_len cs.length (by omega))
   go_wp2_with fail
   refine (refPut_any 1 cs.length 0 0 0 w2 (Lib.hid LS2.out.ly) (Nat.le_trans hbw B2.size) hn).mono ?_
   rintro e w3 ⟨rfl, l3⟩
   have L3 := Lib.hid l3
   clear l3
   go_wp2_with fail
   obtain ⟨e1, e2⟩ := pushC_new hix
   have q9 : Ld b cl S Lx 59 ex W (ps ++ [⟨1, (ixOf cs ⟨k, n, s⟩ : Nat), 0, 0, 0, []⟩]) (pushC cs ⟨k, n, s⟩) w3 := by
    rw [e1, e2]
    have q0 := Ld.trans (F2.out.mono fun c h => ⟨h.2.1, h.2.2⟩) B2 L3.out
    have q1 := Ld.kept (W1 := wr) (c := 9) BR.out hb1 q0
    exact Ld.kept (W1 := W1) (c := 9) (by rw [← HN.out]; exact B0.out) hb (by rw [← HN.out]; exact q1)
   exact bodyPost_end (results_none rfl _ _ _) rfl ⟨rfl, q9⟩
end Go.Proofs.YtlmpiobdgkmmgaaGreatDoor
namespace Go.Proofs.YtlmpiobdgkmmgaaGreatDoor
open Go.RowKit
theorem Ld.app {b Lx : Nat} {TL : TypeId} {ex : List Value} {cl : Nat → Nat} {S : SX} {ps : List PI} {_cs : List PV} {W W' : World} {p : List PI × List PV} (h : Ld b cl S Lx TL ex W (ps ++ p.1) p.2 W') : Ld b cl S Lx TL ex W (ps ++ p.1) p.2 W' := h
theorem wrong_any {b Lx : Nat} {cl : Nat → Nat} {S : SX} {ex : List Value} {ps : List PI} {cs : List PV} (n : Int) (W : World) (HL : Hid (Ly b cl S Lx 64 ex ps cs W)) (hb : b ≤ W.heap.size) (hn : ps.length ≤ 1000000) (hm : cs.length ≤ 1000000) :
 Calls Tryz.prog 28 #[.pointer (some ⟨Lx, 0, none⟩), .int .i64 n] W fun e w' => e = .returned (.tuple #[]) ∧ Ld b cl S Lx 64 ex W (ps ++ (errF n ps.length cs).1) (errF n ps.length cs).2 w' := by
 have K := con_any (b := b) (Lx := Lx) (cl := cl) (S := S) (ex := ex) (ps := ps) (cs := cs) 4 n [] W HL hb hn hm
 have HK := Lib.hid K
 clear K
 go_enter Tryz.func28, Tryz.ntmps28
 go_wp2_with fail
 refine HK.out.mono ?_
 rintro e w1 ⟨rfl, l1⟩
 have L1 := Lib.hid l1
 clear l1
 go_wp2_with fail
 exact bodyPost_end (results_none rfl _ _ _) rfl ⟨rfl, L1.out⟩
theorem fault_any {b Lx : Nat} {cl : Nat → Nat} {S : SX} {ex : List Value} {ps : List PI} {cs : List PV} (n : Int) (W : World) (HL : Hid (Ly b cl S Lx 59 ex ps cs W)) (hb : b ≤ W.heap.size) (hn : ps.length ≤ 1000000) (hm : cs.length ≤ 1000000) :
 Calls Tryz.prog 59 #[.pointer (some ⟨Lx, 0, none⟩), .int .i64 n] W fun e w' => e = .returned (.tuple #[]) ∧ Ld b cl S Lx 59 ex W (ps ++ (errF n ps.length cs).1) (errF n ps.length cs).2 w' := by
 have K := refCon_any (b := b) (Lx := Lx) (cl := cl) (S := S) (ex := ex) (ps := ps) (cs := cs) 4 n [] W HL hb hn hm
 have HK := Lib.hid K
 clear K
 go_enter Tryz.func59, Tryz.ntmps59
 go_wp2_with fail
 refine HK.out.mono ?_
 rintro e w1 ⟨rfl, l1⟩
 have L1 := Lib.hid l1
 clear l1
 go_wp2_with fail
 exact bodyPost_end (results_none rfl _ _ _) rfl ⟨rfl, L1.out⟩
theorem clsV_eq (n : Int) : infoV n = .tuple #[.agg #[.string ⟨(infoRow n).name.toArray⟩, .int .i64 (infoRow n).cls, .int .i64 (infoRow n).min, .int .i64 (infoRow n).max], .int .i64 (infoErr n)] := rfl
theorem class_any {nb off : Nat} (h : Hd) (kv : Value) (W : World) (nd : NodeAt W nb off h kv) :
 Calls Tryz.prog 64 #[.pointer (some ⟨nb, off, none⟩)] W fun e w' => e = .returned (.int .i64 (clsOf h)) ∧ Below W.heap.size W w' := by
 obtain ⟨c0, c12⟩ := And.intro nd.facts.c0 nd.facts.c12
 clear nd
 obtain ⟨kind, op, num, text, ref, tr, fn⟩ := h
 simp only at c0 c12 ⊢
 have HI := Lib.hid (info_any fn)
 by_cases hk : kind = 9
 ·have HE : Hid (clsOf ⟨kind, op, num, text, ref, tr, fn⟩ = (infoRow fn).cls) := Lib.hid (by unfold clsOf; rw [if_pos hk])
  subst hk
  go_enter Tryz.func64, Tryz.ntmps64
  go_wp2_with fail
  refine (HI.out _).mono ?_
  rintro e w1 ⟨rfl, b1⟩
  simp only [clsV_eq]
  go_wp2_with fail
  go_ret
  refine ⟨by rw [HE.out]; rfl, ?_⟩
  exact b1.alloc b1.size _
 ·have HE : Hid (clsOf ⟨kind, op, num, text, ref, tr, fn⟩ = 0) := Lib.hid (by unfold clsOf; rw [if_neg hk])
  clear HI
  go_enter Tryz.func64, Tryz.ntmps64
  go_wp2_with fail
  go_ret
  refine ⟨by rw [HE.out]; rfl, ?_⟩
  exact Below.refl _ _
theorem refClass_any (h : Hd) (kv : Value) (W : World) :
 Calls Tryz.prog 101 #[.agg #[.int .i64 h.kind, .int .i64 h.op, .int .i64 h.num, .string ⟨h.text.toArray⟩, .int .i64 h.ref.row, .int .i64 h.ref.col, .bool h.ref.pr, .bool h.ref.pc, .int .i64 h.to.row, .int .i64 h.to.col, .bool h.to.pr, .bool h.to.pc, .int .i64 h.fn, kv]] W fun e w' => e = .returned (.int .i64 (clsOf h)) ∧ Below W.heap.size W w' := by
 obtain ⟨kind, op, num, text, ref, tr, fn⟩ := h
 simp only at ⊢
 have HI := Lib.hid (refInfo_any fn)
 by_cases hk : kind = 9
 ·have HE : Hid (clsOf ⟨kind, op, num, text, ref, tr, fn⟩ = (infoRow fn).cls) := Lib.hid (by unfold clsOf; rw [if_pos hk])
  subst hk
  go_enter Tryz.func101, Tryz.ntmps101
  go_wp2_with fail
  refine (HI.out _).mono ?_
  rintro e w1 ⟨rfl, b1⟩
  simp only [clsV_eq]
  go_wp2_with fail
  go_ret
  refine ⟨by rw [HE.out]; rfl, ?_⟩
  exact (ext_trans (ext_alloc (Below.refl _ _) _) b1).alloc (ext_trans (ext_alloc (Below.refl _ _) _) b1).size _
 ·have HE : Hid (clsOf ⟨kind, op, num, text, ref, tr, fn⟩ = 0) := Lib.hid (by unfold clsOf; rw [if_neg hk])
  clear HI
  go_enter Tryz.func101, Tryz.ntmps101
  go_wp2_with fail
  go_ret
  refine ⟨by rw [HE.out]; rfl, ?_⟩
  exact ext_alloc (Below.refl _ _) _
structure RcIn (r : Rc) : Prop where
 t0 : 0 ≤ r.top
 tb : r.top ≤ r.bottom
 b1 : r.bottom < 65536
 l0 : 0 ≤ r.left
 lr : r.left ≤ r.right
 r1 : r.right < 702
def rcN (r : Rc) : Int := (r.bottom - r.top + 1) * (r.right - r.left + 1)
def sizeV (r : Rc) : Value := if rcOk r = true then .tuple #[.int .i64 (rcN r), .int .i64 0] else .tuple #[.int .i64 0, .int .i64 2]
theorem rcN_le {r : Rc} (h : RcIn r) : 0 ≤ rcN r ∧ rcN r ≤ 46006272 := by
 obtain ⟨h1, h2, h3, h4, h5, h6⟩ := h
 have a1 : 0 ≤ r.bottom - r.top + 1 := by omega
 have a2 : r.bottom - r.top + 1 ≤ 65536 := by omega
 have a3 : 0 ≤ r.right - r.left + 1 := by omega
 have a4 : r.right - r.left + 1 ≤ 702 := by omega
 refine ⟨Int.mul_nonneg a1 a3, ?_⟩
 have := Int.mul_le_mul a2 a4 a3 (by omega : (0 : Int) ≤ 65536)
 unfold rcN
 omega
theorem rcOk_in {r : Rc} (h : RcIn r) : rcOk r = decide (rcN r ≤ 4096) := by
 obtain ⟨h1, h2, h3, h4, h5, h6⟩ := h
 simp only [rcOk, h1, h2, h3, h4, h5, h6, decide_true, Bool.true_and]
 rfl
theorem wrapN {a b c d : Int} (h : RcIn ⟨a, b, c, d⟩) : IntKind.i64.wrap ((c - a + 1) * (d - b + 1)) = rcN ⟨a, b, c, d⟩ := by
 have := rcN_le h
 unfold rcN at this ⊢
 simp only at this ⊢
 exact IntWalk.i64_in _ (by omega)
theorem first_any (a b c d : Int) (W : World) : Calls Tryz.prog 132 #[.agg #[.int .i64 a, .int .i64 b, .int .i64 c, .int .i64 d]] W fun e w' => e = .returned (.agg #[.int .i64 a, .int .i64 b]) ∧ Below W.heap.size W w' := by
 go_enter Tryz.func132, Tryz.ntmps132
 go_wp2
 refine bodyPost_ret (by simp [results, Tryz.results132, go_sem]; rfl) rfl ?_
 exact ⟨rfl, (ext_alloc (ext_alloc (Below.refl _ _) _) _)⟩
theorem last_any (a b c d : Int) (W : World) : Calls Tryz.prog 133 #[.agg #[.int .i64 a, .int .i64 b, .int .i64 c, .int .i64 d]] W fun e w' => e = .returned (.agg #[.int .i64 c, .int .i64 d]) ∧ Below W.heap.size W w' := by
 go_enter Tryz.func133, Tryz.ntmps133
 go_wp2
 refine bodyPost_ret (by simp [results, Tryz.results133, go_sem]; rfl) rfl ?_
 exact ⟨rfl, (ext_alloc (ext_alloc (Below.refl _ _) _) _)⟩
theorem areaMay_any (a b c d : Int) (W : World) (h : RcIn ⟨a, b, c, d⟩) : Calls Tryz.prog 125 #[.agg #[.int .i64 a, .int .i64 b, .int .i64 c, .int .i64 d]] W fun e w' => e = .returned (.int .i64 0) ∧ Below W.heap.size W w' := by
 obtain ⟨h1, h2, h3, h4, h5, h6⟩ := h
 simp only at h1 h2 h3 h4 h5 h6
 go_enter Tryz.func125, Tryz.ntmps125
 have p1 : placeB ⟨a, b, false, false⟩ = true := by unfold placeB; simp; omega
 have p2 : placeB ⟨c, d, false, false⟩ = true := by unfold placeB; simp; omega
 have P1 := Lib.hid p1; have P2 := Lib.hid p2
 clear p1 p2
 go_wp2_with fail
 refine (first_any a b c d _).mono ?_
 rintro e w1 ⟨rfl, q1⟩
 obtain ⟨zb1, cb1⟩ := kept_block q1
 go_wp2_with fail
 refine (spotMay_any a b _).mono ?_
 rintro e w2 ⟨rfl, q2⟩
 have r2 := ext_trans q1 q2
 clear zb1 cb1 q1 q2
 obtain ⟨zb2, cb2⟩ := kept_block r2
 rw [P1.out]
 go_wp2_with fail
 refine (last_any a b c d _).mono ?_
 rintro e w3 ⟨rfl, q3⟩
 have r3 := ext_trans r2 q3
 clear zb2 cb2 r2 q3
 obtain ⟨zb3, cb3⟩ := kept_block r3
 go_wp2_with fail
 refine (spotMay_any c d _).mono ?_
 rintro e w4 ⟨rfl, q4⟩
 have r4 := ext_trans r3 q4
 clear zb3 cb3 r3 q4
 obtain ⟨zb4, cb4⟩ := kept_block r4
 rw [P2.out]
 go_wp2_with fail
 go_ret
 exact ⟨rfl, ext_trans (ext_alloc (Below.refl _ _) _) r4⟩
theorem ref3May_any (a b c d : Int) (W : World) (h : RcIn ⟨a, b, c, d⟩) : Calls Tryz.prog 131 #[.agg #[.int .i64 a, .int .i64 b, .int .i64 c, .int .i64 d]] W fun e w' => e = .returned (.int .i64 0) ∧ Below W.heap.size W w' := by
 obtain ⟨h1, h2, h3, h4, h5, h6⟩ := h
 simp only at h1 h2 h3 h4 h5 h6
 go_enter Tryz.func131, Tryz.ntmps131
 go_wp2
 go_ret
 exact ⟨rfl, ext_alloc (Below.refl _ _) _⟩
theorem areaSize_any (a b c d : Int) (W : World) (h : RcIn ⟨a, b, c, d⟩) : Calls Tryz.prog 109 #[.agg #[.int .i64 a, .int .i64 b, .int .i64 c, .int .i64 d]] W fun e w' => e = .returned (sizeV ⟨a, b, c, d⟩) ∧ Below W.heap.size W w' := by
 have HIN := Lib.hid h
 have hw := wrapN h
 have hok := rcOk_in h
 have hle := rcN_le h
 obtain ⟨h1, h2, h3, h4, h5, h6⟩ := h
 simp only at h1 h2 h3 h4 h5 h6
 obtain ⟨n, hnn⟩ : ∃ n, n = rcN ⟨a, b, c, d⟩ := ⟨_, rfl⟩
 rw [← hnn] at hw hok hle
 have HNN := Lib.hid hnn
 clear hnn
 have HOK := Lib.hid hok
 clear hok
 go_enter Tryz.func109, Tryz.ntmps109
 go_wp2_with fail
 refine (areaMay_any a b c d _ HIN.out).mono ?_
 rintro e w1 ⟨rfl, q1⟩
 obtain ⟨zb1, cb1⟩ := kept_block q1
 by_cases hn : n ≤ 4096
 ·have HR : Hid (sizeV ⟨a, b, c, d⟩ = .tuple #[.int .i64 n, .int .i64 0]) := Lib.hid (by unfold sizeV; rw [if_pos (by rw [HOK.out]; simpa using hn), ← HNN.out])
  go_wp2_with fail
  go_ret2
  exact ⟨by rw [HR.out]; rfl, ext_trans (ext_alloc (Below.refl _ _) _) q1⟩
 ·have HR : Hid (sizeV ⟨a, b, c, d⟩ = .tuple #[.int .i64 0, .int .i64 2]) := Lib.hid (by unfold sizeV; rw [if_neg (by rw [HOK.out]; simpa using hn)])
  go_wp2_with fail
  go_ret2
  exact ⟨by rw [HR.out]; rfl, ext_trans (ext_alloc (Below.refl _ _) _) q1⟩
theorem ref3Size_any (a b c d : Int) (W : World) (h : RcIn ⟨a, b, c, d⟩) : Calls Tryz.prog 124 #[.agg #[.int .i64 a, .int .i64 b, .int .i64 c, .int .i64 d]] W fun e w' => e = .returned (sizeV ⟨a, b, c, d⟩) ∧ Below W.heap.size W w' := by
 have HIN := Lib.hid h
 have hw := wrapN h
 have hok := rcOk_in h
 have hle := rcN_le h
 obtain ⟨h1, h2, h3, h4, h5, h6⟩ := h
 simp only at h1 h2 h3 h4 h5 h6
 obtain ⟨n, hnn⟩ : ∃ n, n = rcN ⟨a, b, c, d⟩ := ⟨_, rfl⟩
 rw [← hnn] at hw hok hle
 have HNN := Lib.hid hnn
 clear hnn
 have HOK := Lib.hid hok
 clear hok
 go_enter Tryz.func124, Tryz.ntmps124
 go_wp2_with fail
 refine (ref3May_any a b c d _ HIN.out).mono ?_
 rintro e w1 ⟨rfl, q1⟩
 obtain ⟨zb1, cb1⟩ := kept_block q1
 by_cases hn : n ≤ 4096
 ·have HR : Hid (sizeV ⟨a, b, c, d⟩ = .tuple #[.int .i64 n, .int .i64 0]) := Lib.hid (by unfold sizeV; rw [if_pos (by rw [HOK.out]; simpa using hn), ← HNN.out])
  go_wp2_with fail
  go_ret2
  exact ⟨by rw [HR.out]; rfl, ext_trans (ext_alloc (Below.refl _ _) _) q1⟩
 ·have HR : Hid (sizeV ⟨a, b, c, d⟩ = .tuple #[.int .i64 0, .int .i64 2]) := Lib.hid (by unfold sizeV; rw [if_neg (by rw [HOK.out]; simpa using hn)])
  go_wp2_with fail
  go_ret2
  exact ⟨by rw [HR.out]; rfl, ext_trans (ext_alloc (Below.refl _ _) _) q1⟩
theorem rect_any {b Lx : Nat} {cl : Nat → Nat} {S : SX} {ex : List Value} {ps : List PI} {cs : List PV} (a b1 c d : Int) (W : World) (HL : Hid (Ly b cl S Lx 64 ex ps cs W)) (hb : b ≤ W.heap.size) (hn : ps.length ≤ 1000000) (hm : cs.length ≤ 1000000) (h : RcIn ⟨a, b1, c, d⟩) :
 Calls Tryz.prog 105 #[.pointer (some ⟨Lx, 0, none⟩), .agg #[.int .i64 a, .int .i64 b1, .int .i64 c, .int .i64 d]] W fun e w' => e = .returned (.tuple #[]) ∧ Ld b cl S Lx 64 ex W (ps ++ (rcF ⟨a, b1, c, d⟩ ps.length cs).1) (rcF ⟨a, b1, c, d⟩ ps.length cs).2 w' := by
 have HIN := Lib.hid h
 have HLE := rcN_le h
 have hok := rcOk_in h
 obtain ⟨n, hnn⟩ : ∃ n, n = rcN ⟨a, b1, c, d⟩ := ⟨_, rfl⟩
 have HNN := Lib.hid hnn
 rw [← hnn] at hok HLE
 have HOK := Lib.hid hok
 clear h hnn hok
 go_enter Tryz.func105, Tryz.ntmps105
 go_wp2_with fail
 refine (areaSize_any a b1 c d _ HIN.out).mono ?_
 rintro e w1 ⟨rfl, q1⟩
 obtain ⟨zb1, cb1⟩ := kept_block q1
 have q2 : Below W.heap.size W w1 := ext_trans (ext_alloc (Below.refl _ _) _) q1
 have L1 := Lib.hid (HL.out.kept q2 9)
 have hb1 : b ≤ w1.heap.size := Nat.le_trans hb q2.size
 have Q2 := Lib.hid q2
 clear q1 q2
 by_cases hq : n ≤ 4096
 ·have HR : Hid (sizeV ⟨a, b1, c, d⟩ = .tuple #[.int .i64 n, .int .i64 0]) := Lib.hid (by unfold sizeV; rw [if_pos (by rw [HOK.out]; simpa using hq), ← HNN.out])
  have HF : Hid (rcF ⟨a, b1, c, d⟩ = insF ⟨3, a, b1, c, d, []⟩) := Lib.hid (by unfold rcF; rw [if_pos (by rw [HOK.out]; simpa using hq)])
  rw [HR.out]
  clear HR HOK
  go_wp2_with fail
  refine (put_any 3 a b1 c d w1 L1 hb1 hn).mono ?_
  rintro e w2 ⟨rfl, l2⟩
  have L2 := Lib.hid l2
  clear l2
  go_wp2_with fail
  exact bodyPost_end (results_none rfl _ _ _) rfl ⟨rfl, by rw [HF.out]; exact Ld.kept Q2.out hb L2.out⟩
 ·have HR : Hid (sizeV ⟨a, b1, c, d⟩ = .tuple #[.int .i64 0, .int .i64 2]) := Lib.hid (by unfold sizeV; rw [if_neg (by rw [HOK.out]; simpa using hq)])
  have HF : Hid (rcF ⟨a, b1, c, d⟩ = errF 3) := Lib.hid (by unfold rcF; rw [if_neg (by rw [HOK.out]; simpa using hq)])
  rw [HR.out]
  clear HR HOK
  go_wp2_with fail
  refine (wrong_any 3 w1 L1 hb1 hn hm).mono ?_
  rintro e w2 ⟨rfl, l2⟩
  have L2 := Lib.hid l2
  clear l2
  go_wp2_with fail
  exact bodyPost_ret (results_none rfl _ _ _) rfl ⟨rfl, by rw [HF.out]; exact Ld.kept Q2.out hb L2.out⟩
end Go.Proofs.YtlmpiobdgkmmgaaGreatDoor
