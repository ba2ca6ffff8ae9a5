/- Trees: the reference's sizes, all and May; areas. -/
import Derived.Test.YtlmpiobdgkmmgaaGreatDoorKcA
import Derived.Test.YtlmpiobdgkmmgaaGreatDoorKcB
set_option maxRecDepth 1000000
set_option maxHeartbeats 16000000
namespace Go.Proofs.YtlmpiobdgkmmgaaGreatDoor
open Go.RowKit
def WOk (h : Hd) (ks : Trees) (d n b : Int) : Prop := n + 1 + ks.nodes ≤ 512 ∧ d + ks.deep ≤ 64 ∧ b + h.bytes + ks.bytes ≤ 16384
def WPost (h : Hd) (ks : Trees) (d n b : Int) (w : World) (e : Ending) (w' : World) : Prop :=
 ∃ N D T : Int, e = .returned (.tuple #[.int .i64 N, .int .i64 D, .int .i64 T]) ∧ Below w.heap.size w w' ∧
  (WOk h ks d n b → N = n + 1 + ks.nodes ∧ D = d + ks.deep ∧ T = b + h.bytes + ks.bytes) ∧ (¬ WOk h ks d n b → N = 513)
def Weighs (h : Hd) (ks : Trees) : Prop := ∀ (w : World) (B : Nat) (ka : Option Addr) (kl kc : Nat) (d n b : Int), B ≤ w.heap.size → TreeV w B h ks ka kl → 0 ≤ d → d ≤ 65 → 0 ≤ n → n ≤ 512 → 0 ≤ b → b ≤ 16384 →
 Calls Tryz.prog 99 #[.agg #[.int .i64 h.kind, .int .i64 h.op, .int .i64 h.num, .string ⟨h.text.toArray⟩,
  .int .i64 h.ref.row, .int .i64 h.ref.col, .bool h.ref.pr, .bool h.ref.pc,
  .int .i64 h.to.row, .int .i64 h.to.col, .bool h.to.pr, .bool h.to.pc, .int .i64 h.fn, .slice ka kl kc], .int .i64 d, .int .i64 n, .int .i64 b] w (WPost h ks d n b w)
theorem WPost.bad {h : Hd} {ks : Trees} {d n b D T : Int} {w w' : World} (hb : Below w.heap.size w w') (hn : ¬ WOk h ks d n b) : WPost h ks d n b w (.returned (.tuple #[.int .i64 513, .int .i64 D, .int .i64 T])) w' :=
 ⟨513, D, T, rfl, hb, fun h => absurd h hn, fun _ => rfl⟩
def WRel (ks : Trees) (kl B : Nat) (ka : Option Addr) (d n0 b0 : Int) (w wr : World) (n b dp i : Value) : Prop :=
 ∃ (j : Nat) (nn bb dd : Int) (rest : Trees), n = .int .i64 nn ∧ b = .int .i64 bb ∧ dp = .int .i64 dd ∧ i = .int .i64 j ∧ j + rest.len = kl ∧ RowIn wr B rest ka j ∧ AllT Weighs rest ∧ Below w.heap.size w wr ∧
  0 ≤ nn ∧ nn ≤ 512 ∧ 0 ≤ bb ∧ bb ≤ 16384 ∧ d ≤ dd ∧ dd ≤ 64 ∧ Hid (nn + rest.nodes = n0 + ks.nodes) ∧ Hid (bb + rest.bytes = b0 + ks.bytes) ∧ Hid (dd ≤ d + ks.deep ∧ rest.deep ≤ ks.deep ∧ (dd = d + ks.deep ∨ rest.deep = ks.deep))
theorem trees_cons {rest : Trees} (h : 0 < rest.len) : ∃ h' k' r', rest = .cons h' k' r' := by
 cases rest with
 | nil => simp [Trees.len] at h
 | cons h' k' r' => exact ⟨h', k', r', rfl⟩
theorem trees_nil {rest : Trees} (h : rest.len = 0) : rest = .nil := by
 cases rest with
 | nil => rfl
 | cons h' k' r' => simp [Trees.len] at h
theorem ret3 {a b c a' b' c' : Int} (h : a = a') (h1 : b = b') (h2 : c = c') : Ending.returned (.tuple #[.int .i64 a, .int .i64 b, .int .i64 c]) = .returned (.tuple #[.int .i64 a', .int .i64 b', .int .i64 c']) := by rw [h, h1, h2]
theorem weigh_step (h : Hd) (ks : Trees) (ih : AllT Weighs ks) : Weighs h ks := by
 intro w B ka kl kc d n b hB tv hd0 hd hn0 hn hb0 hb
 have ht := tv.ok.text
 have hl := tv.len
 have hm := tv.max
 have hr := tv.row
 have HI := Lib.hid ih; clear ih
 have HL := Lib.hid hl; clear hl
 have HR := Lib.hid hr; clear hr
 clear tv
 by_cases hk : h.kind = 2
 ·have hbytes : (h.bytes : Int) = h.text.length := by simp [Hd.bytes, hk]
  by_cases g : n + 1 > 512 ∨ d > 64 ∨ b + h.bytes > 16384
  ·have bad : ¬ WOk h ks d n b := by rintro ⟨x, y, z⟩; omega
   have HB := Lib.hid bad; clear bad
   rw [hbytes] at g
   clear hbytes
   obtain ⟨kind, op, num, text, ⟨rr, rc, rpr, rpc⟩, ⟨tr, tc, tpr, tpc⟩, fn⟩ := h
   simp only at hk ht g
   subst hk
   skip
   have g1 : 512 < n + 1 ∨ (n + 1 ≤ 512 ∧ 64 < d) ∨ (n + 1 ≤ 512 ∧ d ≤ 64 ∧ 16384 < b + text.length) := by omega
   clear g
   rcases g1 with g1 | ⟨g1, g2⟩ | ⟨g1, g2, g3⟩
   all_goals first | (exfalso; omega) | skip
   all_goals
    go_enter Tryz.func99, Tryz.ntmps99
    go_wp2
    all_goals
     go_ret3
     exact .bad (ext_alloc (Below.refl _ _) _) HB.out
  ·have g1 : n + 1 ≤ 512 := by omega
   have g2 : d ≤ 64 := by omega
   have g3 : b + h.bytes ≤ 16384 := by omega
   have hW : WOk h ks d n b ↔ (n + 1 + ks.nodes ≤ 512 ∧ d + ks.deep ≤ 64 ∧ b + h.text.length + ks.bytes ≤ 16384) := by unfold WOk; rw [hbytes]; try simp
   have hP : ∀ N D T : Int, N = n + 1 + ks.nodes → D = d + ks.deep → T = b + h.text.length + ks.bytes → N = n + 1 + ks.nodes ∧ D = d + ks.deep ∧ T = b + h.bytes + ks.bytes := by
    intro N D T x y z; rw [hbytes]; exact ⟨x, y, by omega⟩
   rw [hbytes] at g3
   have HW := Lib.hid hW; clear hW
   have HP := Lib.hid hP; clear hP
   clear hbytes g
   obtain ⟨kind, op, num, text, ⟨rr, rc, rpr, rpc⟩, ⟨tr, tc, tpr, tpc⟩, fn⟩ := h
   simp only at hk ht g3
   subst hk
   skip
   go_enter Tryz.func99, Tryz.ntmps99
   go_wp2_with fail
   go_loopw [2, 3, 11, 12] (fun n' b' dp i wr => WRel ks kl B ka d (n + 1) (b + text.length) (w.alloc (.cells #[.int .i64 2, .int .i64 op, .int .i64 num, .string ⟨text.toArray⟩, .int .i64 rr, .int .i64 rc, .bool rpr, .bool rpc, .int .i64 tr, .int .i64 tc, .bool tpr, .bool tpc, .int .i64 fn, .slice ka kl kc] 34)) wr n' b' dp i)
    (fun _ _ _ i _ => kl - (intOf i).toNat)
   case atStart =>
    refine ⟨0, n + 1, b + text.length, d, ks, rfl, rfl, rfl, rfl, by have := HL.out; omega, HR.out.kept ((Below.refl _ _).alloc hB _) (Nat.le_refl _), HI.out, Below.refl _ _, by omega, by omega, by omega, by omega, by omega, by omega, Lib.hid rfl, Lib.hid rfl, Lib.hid (by omega)⟩
   case round =>
    obtain ⟨j, nn, bb, dd, rest, rfl, rfl, rfl, rfl, hj, hrow, hall, hbel, n0, n1, q0, q1, e0, e1, H1, H2, H3⟩ := hrel
    obtain ⟨zb, cb⟩ := kept_block hbel
    by_cases hlt : j < kl
    ·obtain ⟨h', k', r', rfl⟩ := trees_cons (rest := rest) (by omega)
     obtain ⟨b1, off, ka', kl', kc', rfl, hb1, N1, tv1⟩ := hrow.head
     obtain ⟨hl1, c0, c1, c2, c3, c4, c5, c6, c7, c8, c9, c10, c11, c12, c13, d5, d6, d7, d9, d10, d11⟩ := N1.facts
     clear d5 d6 d7 d9 d10 d11 N1
     have HT := Lib.hid tv1; clear tv1
     have HC := Lib.hid (hall.1); have HA := Lib.hid hall.2; clear hall
     have HRow := Lib.hid hrow.2; clear hrow
     have HJ := Lib.hid hj; clear hj
     go_wp2_with fail
     refine (HC.out _ B ka' kl' kc' (d + 1) nn bb (by have := hbel.size; simp at this; omega) HT.out (by omega) (by omega) n0 n1 q0 q1).mono ?_
     clear c0 c1 c2 c3 c4 c5 c6 c7 c8 c9 c10 c11 c12 c13
     rintro e w2 ⟨N, D, T, rfl, b2, yes, no⟩
     by_cases wk : WOk h' k' (d + 1) nn bb
     ·obtain ⟨y1, y2, y3⟩ := yes wk
      clear no yes
      obtain ⟨k1, k2, k3⟩ := wk
      have m1 : N ≤ 512 := by omega
      have m2 : 0 ≤ N := by omega
      have m3 : T ≤ 16384 := by omega
      have m4 : 0 ≤ T := by omega
      have m5 : D ≤ 64 := by omega
      have m6 : 0 ≤ D := by omega
      have Y := Lib.hid (And.intro y1 (And.intro y2 y3)); clear y1 y2 y3 k1 k2 k3
      go_wp2
      refine ⟨⟨j + 1, N, T, (if dd < D then D else dd), r', rfl, rfl, rfl, by go_num, ?_, HRow.out.kept b2 (by have := hbel.size; simp at this; omega), HA.out, hbel.trans (b2.mono hbel.size), m2, m1, m4, m3, by split <;> omega, by split <;> omega, Lib.hid ?_, Lib.hid ?_, Lib.hid ?_⟩, by simp [intOf]; omega⟩
      have hmx : (if dd < D then D else dd) = max dd D := by split <;> omega
      all_goals
       have t0 := HJ.out; have t1 := H1.out; have t2 := H2.out; have t3 := H3.out
       obtain ⟨y1, y2, y3⟩ := Y.out
       simp only [Trees.len, Trees.nodes, Trees.bytes, Trees.deep] at t0 t1 t2 t3
       try rw [hmx]
       omega
     ·have y1 := no wk
      subst y1
      clear no yes
      have bad : ¬ (n + 1 + ks.nodes ≤ 512 ∧ d + ks.deep ≤ 64 ∧ (b + text.length) + ks.bytes ≤ 16384) := by
       rintro ⟨x, y, z⟩
       apply wk
       have t1 := H1.out; have t2 := H2.out; have t3 := H3.out
       simp only [Trees.nodes, Trees.bytes, Trees.deep] at t1 t2 t3
       refine ⟨?_, ?_, ?_⟩ <;> omega
      have BAD := Lib.hid (fun x => bad (HW.out.1 x)); clear bad wk
      go_wp2
      all_goals
       go_ret3
       exact .bad (((Below.refl _ _).alloc (Nat.le_refl _) _).trans ((hbel.trans (b2.mono hbel.size)).mono (by simp))) BAD.out
    ·have hz : rest.len = 0 := by omega
     obtain rfl := trees_nil hz
     have t1 := H1.out; have t2 := H2.out; have t3 := H3.out
     simp only [Trees.nodes, Trees.bytes, Trees.deep] at t1 t2 t3
     have good := HW.out.2 ⟨by omega, by omega, by omega⟩
     have P := HP.out nn dd bb (by omega) (by omega) (by omega)
     have GG := Lib.hid (And.intro good P); clear good P t1 t2 t3
     go_wp2
     go_ret3
     exact ⟨nn, dd, bb, rfl, ((Below.refl _ _).alloc (Nat.le_refl _) _).trans (hbel.mono (by simp)), fun _ => GG.out.2, fun x => absurd GG.out.1 x⟩
 ·have hbytes : (h.bytes : Int) = 0 := by simp [Hd.bytes, hk]
  by_cases g : n + 1 > 512 ∨ d > 64 ∨ b + h.bytes > 16384
  ·have bad : ¬ WOk h ks d n b := by rintro ⟨x, y, z⟩; omega
   have HB := Lib.hid bad; clear bad
   rw [hbytes] at g
   clear hbytes
   obtain ⟨kind, op, num, text, ⟨rr, rc, rpr, rpc⟩, ⟨tr, tc, tpr, tpc⟩, fn⟩ := h
   simp only at hk ht g
   skip
   have hk2 : (kind == 2) = false := by simp [hk]
   have g1 : 512 < n + 1 ∨ (n + 1 ≤ 512 ∧ 64 < d) ∨ (n + 1 ≤ 512 ∧ d ≤ 64 ∧ 16384 < b) := by omega
   clear g
   rcases g1 with g1 | ⟨g1, g2⟩ | ⟨g1, g2, g3⟩
   all_goals first | (exfalso; omega) | skip
   all_goals
    go_enter Tryz.func99, Tryz.ntmps99
    go_wp2
    all_goals
     go_ret3
     exact .bad (ext_alloc (Below.refl _ _) _) HB.out
  ·have g1 : n + 1 ≤ 512 := by omega
   have g2 : d ≤ 64 := by omega
   have g3 : b + h.bytes ≤ 16384 := by omega
   have hW : WOk h ks d n b ↔ (n + 1 + ks.nodes ≤ 512 ∧ d + ks.deep ≤ 64 ∧ b + ks.bytes ≤ 16384) := by unfold WOk; rw [hbytes]; try simp
   have hP : ∀ N D T : Int, N = n + 1 + ks.nodes → D = d + ks.deep → T = b + ks.bytes → N = n + 1 + ks.nodes ∧ D = d + ks.deep ∧ T = b + h.bytes + ks.bytes := by
    intro N D T x y z; rw [hbytes]; exact ⟨x, y, by omega⟩
   rw [hbytes] at g3
   have HW := Lib.hid hW; clear hW
   have HP := Lib.hid hP; clear hP
   clear hbytes g
   obtain ⟨kind, op, num, text, ⟨rr, rc, rpr, rpc⟩, ⟨tr, tc, tpr, tpc⟩, fn⟩ := h
   simp only at hk ht g3
   skip
   have hk2 : (kind == 2) = false := by simp [hk]
   go_enter Tryz.func99, Tryz.ntmps99
   go_wp2_with fail
   go_loopw [2, 3, 11, 12] (fun n' b' dp i wr => WRel ks kl B ka d (n + 1) (b) (w.alloc (.cells #[.int .i64 kind, .int .i64 op, .int .i64 num, .string ⟨text.toArray⟩, .int .i64 rr, .int .i64 rc, .bool rpr, .bool rpc, .int .i64 tr, .int .i64 tc, .bool tpr, .bool tpc, .int .i64 fn, .slice ka kl kc] 34)) wr n' b' dp i)
    (fun _ _ _ i _ => kl - (intOf i).toNat)
   case atStart =>
    refine ⟨0, n + 1, b, d, ks, rfl, rfl, rfl, rfl, by have := HL.out; omega, HR.out.kept ((Below.refl _ _).alloc hB _) (Nat.le_refl _), HI.out, Below.refl _ _, by omega, by omega, by omega, by omega, by omega, by omega, Lib.hid rfl, Lib.hid rfl, Lib.hid (by omega)⟩
   case round =>
    obtain ⟨j, nn, bb, dd, rest, rfl, rfl, rfl, rfl, hj, hrow, hall, hbel, n0, n1, q0, q1, e0, e1, H1, H2, H3⟩ := hrel
    obtain ⟨zb, cb⟩ := kept_block hbel
    by_cases hlt : j < kl
    ·obtain ⟨h', k', r', rfl⟩ := trees_cons (rest := rest) (by omega)
     obtain ⟨b1, off, ka', kl', kc', rfl, hb1, N1, tv1⟩ := hrow.head
     obtain ⟨hl1, c0, c1, c2, c3, c4, c5, c6, c7, c8, c9, c10, c11, c12, c13, d5, d6, d7, d9, d10, d11⟩ := N1.facts
     clear d5 d6 d7 d9 d10 d11 N1
     have HT := Lib.hid tv1; clear tv1
     have HC := Lib.hid (hall.1); have HA := Lib.hid hall.2; clear hall
     have HRow := Lib.hid hrow.2; clear hrow
     have HJ := Lib.hid hj; clear hj
     go_wp2_with fail
     refine (HC.out _ B ka' kl' kc' (d + 1) nn bb (by have := hbel.size; simp at this; omega) HT.out (by omega) (by omega) n0 n1 q0 q1).mono ?_
     clear c0 c1 c2 c3 c4 c5 c6 c7 c8 c9 c10 c11 c12 c13
     rintro e w2 ⟨N, D, T, rfl, b2, yes, no⟩
     by_cases wk : WOk h' k' (d + 1) nn bb
     ·obtain ⟨y1, y2, y3⟩ := yes wk
      clear no yes
      obtain ⟨k1, k2, k3⟩ := wk
      have m1 : N ≤ 512 := by omega
      have m2 : 0 ≤ N := by omega
      have m3 : T ≤ 16384 := by omega
      have m4 : 0 ≤ T := by omega
      have m5 : D ≤ 64 := by omega
      have m6 : 0 ≤ D := by omega
      have Y := Lib.hid (And.intro y1 (And.intro y2 y3)); clear y1 y2 y3 k1 k2 k3
      go_wp2
      refine ⟨⟨j + 1, N, T, (if dd < D then D else dd), r', rfl, rfl, rfl, by go_num, ?_, HRow.out.kept b2 (by have := hbel.size; simp at this; omega), HA.out, hbel.trans (b2.mono hbel.size), m2, m1, m4, m3, by split <;> omega, by split <;> omega, Lib.hid ?_, Lib.hid ?_, Lib.hid ?_⟩, by simp [intOf]; omega⟩
      have hmx : (if dd < D then D else dd) = max dd D := by split <;> omega
      all_goals
       have t0 := HJ.out; have t1 := H1.out; have t2 := H2.out; have t3 := H3.out
       obtain ⟨y1, y2, y3⟩ := Y.out
       simp only [Trees.len, Trees.nodes, Trees.bytes, Trees.deep] at t0 t1 t2 t3
       try rw [hmx]
       omega
     ·have y1 := no wk
      subst y1
      clear no yes
      have bad : ¬ (n + 1 + ks.nodes ≤ 512 ∧ d + ks.deep ≤ 64 ∧ (b) + ks.bytes ≤ 16384) := by
       rintro ⟨x, y, z⟩
       apply wk
       have t1 := H1.out; have t2 := H2.out; have t3 := H3.out
       simp only [Trees.nodes, Trees.bytes, Trees.deep] at t1 t2 t3
       refine ⟨?_, ?_, ?_⟩ <;> omega
      have BAD := Lib.hid (fun x => bad (HW.out.1 x)); clear bad wk
      go_wp2
      all_goals
       go_ret3
       exact .bad (((Below.refl _ _).alloc (Nat.le_refl _) _).trans ((hbel.trans (b2.mono hbel.size)).mono (by simp))) BAD.out
    ·have hz : rest.len = 0 := by omega
     obtain rfl := trees_nil hz
     have t1 := H1.out; have t2 := H2.out; have t3 := H3.out
     simp only [Trees.nodes, Trees.bytes, Trees.deep] at t1 t2 t3
     have good := HW.out.2 ⟨by omega, by omega, by omega⟩
     have P := HP.out nn dd bb (by omega) (by omega) (by omega)
     have GG := Lib.hid (And.intro good P); clear good P t1 t2 t3
     go_wp2
     go_ret3
     exact ⟨nn, dd, bb, rfl, ((Below.refl _ _).alloc (Nat.le_refl _) _).trans (hbel.mono (by simp)), fun _ => GG.out.2, fun x => absurd GG.out.1 x⟩
theorem weighs_any (h : Hd) (ks : Trees) : Weighs h ks := weigh_step h ks (allT weigh_step ks)
def sizeN (h : Hd) (ks : Trees) : Int := if Fine h ks then 1 + ks.nodes else 513
def sizeD (h : Hd) (ks : Trees) : Int := if Fine h ks then 1 + ks.deep else 65
def sizeT (h : Hd) (ks : Trees) : Int := if Fine h ks then h.bytes + ks.bytes else 16385
theorem size_yes {h : Hd} {ks : Trees} (f : Fine h ks) : sizeN h ks = 1 + ks.nodes ∧ sizeD h ks = 1 + ks.deep ∧ sizeT h ks = h.bytes + ks.bytes := by simp [sizeN, sizeD, sizeT, f]
theorem size_no {h : Hd} {ks : Trees} (f : ¬ Fine h ks) : sizeN h ks = 513 ∧ sizeD h ks = 65 ∧ sizeT h ks = 16385 := by simp [sizeN, sizeD, sizeT, f]
def SizePost (h : Hd) (ks : Trees) (w : World) (e : Ending) (w' : World) : Prop := e = .returned (.tuple #[.int .i64 (sizeN h ks), .int .i64 (sizeD h ks), .int .i64 (sizeT h ks)]) ∧ Below w.heap.size w w'
theorem wok_fine (h : Hd) (ks : Trees) : WOk h ks 1 0 0 ↔ Fine h ks := by unfold WOk Fine; omega
theorem refSize_any (h : Hd) (ks : Trees) (w : World) (B : Nat) (ka : Option Addr) (kl kc : Nat) (hB : B ≤ w.heap.size) (tv : TreeV w B h ks ka kl) :
 Calls Tryz.prog 56 #[.agg #[.int .i64 h.kind, .int .i64 h.op, .int .i64 h.num, .string ⟨h.text.toArray⟩,
 .int .i64 h.ref.row, .int .i64 h.ref.col, .bool h.ref.pr, .bool h.ref.pc,
 .int .i64 h.to.row, .int .i64 h.to.col, .bool h.to.pr, .bool h.to.pc, .int .i64 h.fn, .slice ka kl kc]] w (SizePost h ks w) := by
 have HT := Lib.hid tv; clear tv
 go_enter Tryz.func56, Tryz.ntmps56
 go_wp2_with fail
 refine (weighs_any h ks _ B ka kl kc 1 0 0 (by simp; omega) (HT.out.kept ((Below.refl _ _).alloc hB _) (Nat.le_refl _)) (by decide) (by decide) (by decide) (by decide) (by decide) (by decide)).mono ?_
 rintro e w2 ⟨N, D, T, rfl, b2, yes, no⟩
 rw [wok_fine] at yes no
 by_cases f : Fine h ks
 ·obtain ⟨y1, y2, y3⟩ := yes f
  obtain ⟨s1, s2, s3⟩ := size_yes f
  have g1 : N ≤ 512 := by have := f.1; omega
  have Y := Lib.hid (And.intro (y1.trans (by omega : _ = sizeN h ks)) (And.intro (y2.trans s2.symm) (y3.trans (by omega : _ = sizeT h ks))))
  clear yes no f y1 y2 y3 s1 s2 s3
  go_wp2
  go_ret3
  exact ⟨ret3 Y.out.1 Y.out.2.1 Y.out.2.2, ext_trans (ext_alloc (Below.refl _ _) _) b2⟩
 ·have y1 := no f
  subst y1
  obtain ⟨s1, s2, s3⟩ := size_no f
  have Y := Lib.hid (And.intro s1.symm (And.intro s2.symm s3.symm))
  clear yes no f s1 s2 s3
  go_wp2
  go_ret3
  exact ⟨ret3 Y.out.1 Y.out.2.1 Y.out.2.2, ext_trans (ext_alloc (Below.refl _ _) _) b2⟩
end Go.Proofs.YtlmpiobdgkmmgaaGreatDoor
namespace Go.Proofs.YtlmpiobdgkmmgaaGreatDoor
open Go.RowKit
theorem ret_int {a b : Int} (h : a = b) : Ending.returned (.int .i64 a) = .returned (.int .i64 b) := by rw [h]
def allFits : Trees → Bool
 | .nil => true
 | .cons h k r => fitsV h k.len && allFits k && allFits r
def treeFits (h : Hd) (ks : Trees) : Bool := fitsV h ks.len && allFits ks
def mayE (h : Hd) (ks : Trees) : Int := if Fine h ks then (if treeFits h ks = true then 0 else 22) else 2
def AllPost (h : Hd) (ks : Trees) (w : World) (e : Ending) (w' : World) : Prop := e = .returned (.bool (treeFits h ks)) ∧ Below w.heap.size w w'
def RAll (h : Hd) (ks : Trees) : Prop := ∀ (w : World) (B : Nat) (ka : Option Addr) (kl kc : Nat), B ≤ w.heap.size → TreeV w B h ks ka kl →
 Calls Tryz.prog 57 #[.agg #[.int .i64 h.kind, .int .i64 h.op, .int .i64 h.num, .string ⟨h.text.toArray⟩, .int .i64 h.ref.row, .int .i64 h.ref.col, .bool h.ref.pr, .bool h.ref.pc, .int .i64 h.to.row, .int .i64 h.to.col, .bool h.to.pr, .bool h.to.pc, .int .i64 h.fn, .slice ka kl kc]] w (AllPost h ks w)
def ARel (ks : Trees) (kl B : Nat) (ka : Option Addr) (w wr : World) (i : Value) : Prop :=
 ∃ (j : Nat) (rest : Trees), i = .int .i64 j ∧ j + rest.len = kl ∧ RowIn wr B rest ka j ∧ AllT RAll rest ∧ Below w.heap.size w wr ∧ Hid (allFits rest = allFits ks)
theorem refAll_step (h : Hd) (ks : Trees) (ih : AllT RAll ks) : RAll h ks := by
 intro w B ka kl kc hB tv
 have hm := tv.max
 have HI := Lib.hid ih; clear ih
 have HT := Lib.hid tv; clear tv
 have F := fits_any h ka kl kc
 simp only [Hd.vals] at F
 have HF := Lib.hid F; clear F
 go_enter Tryz.func57, Tryz.ntmps57
 go_wp2_with fail
 refine (HF.out _ hm).mono ?_; rintro e w1 ⟨rfl, b1⟩
 cases hf : fitsV h kl
 ·have hx : treeFits h ks = false := by unfold treeFits; rw [← HT.out.len, hf]; rfl
  have HX := Lib.hid hx; clear hx hf
  go_wp2
  go_ret
  exact ⟨ret_bool HX.out.symm, ext_trans (ext_alloc (Below.refl _ _) _) b1⟩
 ·have hx : treeFits h ks = allFits ks := by unfold treeFits; rw [← HT.out.len, hf]; rfl
  have HX := Lib.hid hx; clear hx hf
  go_wp2_with fail
  go_loopw [3] (fun i wr => ARel ks kl B ka (w.alloc (.cells #[.int .i64 h.kind, .int .i64 h.op, .int .i64 h.num, .string ⟨h.text.toArray⟩, .int .i64 h.ref.row, .int .i64 h.ref.col, .bool h.ref.pr, .bool h.ref.pc, .int .i64 h.to.row, .int .i64 h.to.col, .bool h.to.pr, .bool h.to.pc, .int .i64 h.fn, .slice ka kl kc] 34)) wr i) (fun i _ => kl - (intOf i).toNat)
  case atStart =>
   exact ⟨0, ks, rfl, by have := HT.out.len; omega, HT.out.row.kept (((Below.refl _ _).alloc hB _).trans (b1.mono (by simp; omega))) (Nat.le_refl _), HI.out, b1, Lib.hid rfl⟩
  case round =>
   obtain ⟨j, rest, rfl, hj, hrow, hall, hbel, H1⟩ := hrel
   obtain ⟨zb, cb⟩ := kept_block hbel
   by_cases hlt : j < kl
   ·obtain ⟨h', k', r', rfl⟩ := trees_cons (rest := rest) (by omega)
    obtain ⟨bb, off, ka', kl', kc', rfl, hb1, N1, tv1⟩ := hrow.head
    obtain ⟨hl1, c0, c1, c2, c3, c4, c5, c6, c7, c8, c9, c10, c11, c12, c13, d5, d6, d7, d9, d10, d11⟩ := N1.facts
    clear d5 d6 d7 d9 d10 d11 N1
    have HT1 := Lib.hid tv1; clear tv1
    have HC := Lib.hid (hall.1); have HA := Lib.hid hall.2; clear hall
    have HRow := Lib.hid hrow.2; clear hrow
    have HJ := Lib.hid hj; clear hj
    go_wp2_with fail
    refine (HC.out _ B ka' kl' kc' (by have := hbel.size; simp at this; omega) HT1.out).mono ?_
    clear c0 c1 c2 c3 c4 c5 c6 c7 c8 c9 c10 c11 c12 c13
    rintro e w2 ⟨rfl, b2⟩
    cases hq : treeFits h' k'
    ·have hz : treeFits h ks = false := by rw [HX.out, ← H1.out]; unfold allFits; unfold treeFits at hq; rw [hq]; rfl
     have HZ := Lib.hid hz; clear hz hq
     go_wp2
     go_ret
     exact ⟨ret_bool HZ.out.symm, ((Below.refl _ _).alloc (Nat.le_refl _) _).trans ((hbel.trans (b2.mono hbel.size)).mono (by simp))⟩
    ·have hz : allFits r' = allFits ks := by rw [← H1.out]; unfold treeFits at hq; conv => rhs; unfold allFits
                                             rw [hq]; rfl
     have HZ := Lib.hid hz; clear hz hq
     go_wp2
     exact ⟨⟨j + 1, r', by go_num, by have := HJ.out; simp only [Trees.len] at this; omega, HRow.out.kept b2 (by have := hbel.size; simp at this; omega), HA.out, hbel.trans (b2.mono hbel.size), HZ⟩, by simp [intOf]; omega⟩
   ·have hz : rest.len = 0 := by omega
    obtain rfl := trees_nil hz
    go_wp2
    go_ret
    exact ⟨ret_bool (by rw [HX.out, ← H1.out]; rfl), ((Below.refl _ _).alloc (Nat.le_refl _) _).trans (hbel.mono (by simp))⟩
theorem refAll_any (h : Hd) (ks : Trees) : RAll h ks := refAll_step h ks (allT refAll_step ks)
def MayPost (h : Hd) (ks : Trees) (w : World) (e : Ending) (w' : World) : Prop := e = .returned (.int .i64 (mayE h ks)) ∧ Below w.heap.size w w'
theorem refMay_any (h : Hd) (ks : Trees) (w : World) (B : Nat) (ka : Option Addr) (kl kc : Nat) (hB : B ≤ w.heap.size) (tv : TreeV w B h ks ka kl) :
 Calls Tryz.prog 21 #[.agg #[.int .i64 h.kind, .int .i64 h.op, .int .i64 h.num, .string ⟨h.text.toArray⟩, .int .i64 h.ref.row, .int .i64 h.ref.col, .bool h.ref.pr, .bool h.ref.pc, .int .i64 h.to.row, .int .i64 h.to.col, .bool h.to.pr, .bool h.to.pc, .int .i64 h.fn, .slice ka kl kc]] w (MayPost h ks w) := by
 have HT := Lib.hid tv; clear tv
 go_enter Tryz.func21, Tryz.ntmps21
 go_wp2_with fail
 refine (refSize_any h ks _ B ka kl kc (by simp; omega) (HT.out.kept ((Below.refl _ _).alloc hB _) (Nat.le_refl _))).mono ?_
 rintro e w2 ⟨rfl, b2⟩
 obtain ⟨zb, cb⟩ := kept_block b2
 by_cases f : Fine h ks
 ·obtain ⟨s1, s2, s3⟩ := size_yes f
  have g1 : sizeN h ks ≤ 512 := by have := f.1; omega
  have hm : mayE h ks = if treeFits h ks = true then 0 else 22 := by simp [mayE, f]
  have HM := Lib.hid hm
  clear s1 s2 s3 f hm
  go_wp2_with fail
  refine (refAll_any h ks _ B ka kl kc (by omega) (HT.out.kept (((Below.refl _ _).alloc hB _).trans (b2.mono (by simp; omega))) (Nat.le_refl _))).mono ?_
  rintro e w3 ⟨rfl, b3⟩
  cases hq : treeFits h ks
  ·have hm : mayE h ks = 22 := by rw [HM.out, hq]; rfl
   have HM2 := Lib.hid hm
   clear hm hq HM
   go_wp2
   go_ret
   exact ⟨ret_int HM2.out.symm, ext_trans (ext_trans (ext_alloc (Below.refl _ _) _) b2) b3⟩
  ·have hm : mayE h ks = 0 := by rw [HM.out, hq]; rfl
   have HM2 := Lib.hid hm
   clear hm hq HM
   go_wp2
   go_ret
   exact ⟨ret_int HM2.out.symm, ext_trans (ext_trans (ext_alloc (Below.refl _ _) _) b2) b3⟩
 ·obtain ⟨s1, s2, s3⟩ := size_no f
  have g1 : 512 < sizeN h ks := by omega
  have hm : mayE h ks = 2 := by simp [mayE, f]
  have HM := Lib.hid hm
  clear s1 s2 s3 f hm
  go_wp2
  go_ret
  exact ⟨ret_int HM.out.symm, ext_trans (ext_alloc (Below.refl _ _) _) b2⟩
end Go.Proofs.YtlmpiobdgkmmgaaGreatDoor
namespace Go.Proofs.YtlmpiobdgkmmgaaGreatDoor
open Go.RowKit
structure Ar where
 top : Int
 left : Int
 bottom : Int
 right : Int
deriving DecidableEq
def arOf (a b c d : Int) : Ar := ⟨min a c, min b d, max a c, max b d⟩
def OfPost (a b c d : Int) (w : World) (e : Ending) (w' : World) : Prop := e = .returned (.agg #[.int .i64 (arOf a b c d).top, .int .i64 (arOf a b c d).left, .int .i64 (arOf a b c d).bottom, .int .i64 (arOf a b c d).right]) ∧ Below w.heap.size w w'
theorem ag4 {x y z t x' y' z' t' : Int} (h1 : x = x') (h2 : y = y') (h3 : z = z') (h4 : t = t') : Ending.returned (.agg #[.int .i64 x, .int .i64 y, .int .i64 z, .int .i64 t]) = .returned (.agg #[.int .i64 x', .int .i64 y', .int .i64 z', .int .i64 t']) := by subst h1 h2 h3 h4; rfl
theorem areaOf_any (a b c d : Int) (w : World) : Calls Tryz.prog 106 #[.agg #[.int .i64 a, .int .i64 b], .agg #[.int .i64 c, .int .i64 d]] w (OfPost a b c d w) := by
 go_enter Tryz.func106, Tryz.ntmps106
 go_wp2
 all_goals
  refine bodyPost_ret (by simp [results, Tryz.results106, go_sem]; rfl) rfl ?_
  refine ⟨ag4 ?_ ?_ ?_ ?_, ?_⟩
  ·simp only [arOf]; omega
  ·simp only [arOf]; omega
  ·simp only [arOf]; omega
  ·simp only [arOf]; omega
  ·exact ext_alloc (ext_alloc (ext_alloc (Below.refl _ _) _) _) _
theorem refOf_any (a b c d : Int) (w : World) : Calls Tryz.prog 123 #[.agg #[.int .i64 a, .int .i64 b], .agg #[.int .i64 c, .int .i64 d]] w (OfPost a b c d w) := by
 go_enter Tryz.func123, Tryz.ntmps123
 go_wp2
 all_goals
  refine bodyPost_ret (by simp [results, Tryz.results123, go_sem]; rfl) rfl ?_
  refine ⟨ag4 ?_ ?_ ?_ ?_, ?_⟩
  ·simp only [arOf]; omega
  ·simp only [arOf]; omega
  ·simp only [arOf]; omega
  ·simp only [arOf]; omega
  ·exact ext_alloc (ext_alloc (ext_alloc (Below.refl _ _) _) _) _
end Go.Proofs.YtlmpiobdgkmmgaaGreatDoor
