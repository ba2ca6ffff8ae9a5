/- Trees: tree.walk, tree.May. -/
import Derived.Test.YtlmpiobdgkmmgaaGreatDoorKcD
import Derived.StillTailTactics
import Derived.OneCell
import Derived.RegionTactic
import Derived.Laws.EntriesVeiled
import Derived.Test.YtlmpiobdgkmmgaaGreatDoorKcC
set_option maxRecDepth 1000000
set_option maxHeartbeats 16000000
namespace Go.Proofs.YtlmpiobdgkmmgaaGreatDoor
open Go.RowKit
structure Own5 (w : World) (W : Nat) (see : Value) (n d t : Int) : Prop where
 s : w.heap[W]? = some (.cells #[see] 75 (0, 0))
 n : w.heap[W + 1]? = some (.cells #[.int .i64 n] 3 (0, 0))
 d : w.heap[W + 2]? = some (.cells #[.int .i64 d] 3 (0, 0))
 t : w.heap[W + 3]? = some (.cells #[.int .i64 t] 3 (0, 0))
 w : w.heap[W + 4]? = some (.cells #[.func (.func 68) #[] #[.pointer (some ⟨W + 1, 0, none⟩), .pointer (some ⟨W + 2, 0, none⟩), .pointer (some ⟨W + 3, 0, none⟩), .pointer (some ⟨W, 0, none⟩), .pointer (some ⟨W + 4, 0, none⟩)]] 115 (0, 0))
theorem Own5.kept {w w' : World} {W : Nat} {see : Value} {n d t : Int} (o : Own5 w W see n d t) (h : ∀ k, W ≤ k → k < W + 5 → w'.heap[k]? = w.heap[k]?) : Own5 w' W see n d t :=
 ⟨(h _ (by omega) (by omega)).trans o.s, (h _ (by omega) (by omega)).trans o.n, (h _ (by omega) (by omega)).trans o.d, (h _ (by omega) (by omega)).trans o.t, (h _ (by omega) (by omega)).trans o.w⟩
theorem Own5.setN {w : World} {W : Nat} {see : Value} {n d t : Int} (o : Own5 w W see n d t) (n' : Int) : Own5 (w.setCell ⟨W + 1, 0, none⟩ (.int .i64 n')) W see n' d t :=
 ⟨by rw [Below.heap_setCell _ _ _ _ (by simp)]; exact o.s, one_setCell o.n, by rw [Below.heap_setCell _ _ _ _ (by simp)]; exact o.d, by rw [Below.heap_setCell _ _ _ _ (by simp)]; exact o.t, by rw [Below.heap_setCell _ _ _ _ (by simp)]; exact o.w⟩
theorem Own5.setD {w : World} {W : Nat} {see : Value} {n d t : Int} (o : Own5 w W see n d t) (d' : Int) : Own5 (w.setCell ⟨W + 2, 0, none⟩ (.int .i64 d')) W see n d' t :=
 ⟨by rw [Below.heap_setCell _ _ _ _ (by simp)]; exact o.s, by rw [Below.heap_setCell _ _ _ _ (by simp)]; exact o.n, one_setCell o.d, by rw [Below.heap_setCell _ _ _ _ (by simp)]; exact o.t, by rw [Below.heap_setCell _ _ _ _ (by simp)]; exact o.w⟩
theorem Own5.setT {w : World} {W : Nat} {see : Value} {n d t : Int} (o : Own5 w W see n d t) (t' : Int) : Own5 (w.setCell ⟨W + 3, 0, none⟩ (.int .i64 t')) W see n d t' :=
 ⟨by rw [Below.heap_setCell _ _ _ _ (by simp)]; exact o.s, by rw [Below.heap_setCell _ _ _ _ (by simp)]; exact o.n, by rw [Below.heap_setCell _ _ _ _ (by simp)]; exact o.d, one_setCell o.t, by rw [Below.heap_setCell _ _ _ _ (by simp)]; exact o.w⟩
theorem Own5.size {w : World} {W : Nat} {see : Value} {n d t : Int} (o : Own5 w W see n d t) : W + 4 < w.heap.size := lt_of_block o.w
structure SeeSpec {σ : Type} (see : Value) (fs : FuncId) (caps : Array Value) (B W : Nat) (I : Int → σ → World → Prop) (step : σ → Hd × Nat → σ) : Prop where
 val : see = .func (.func fs) #[] caps
 le : B ≤ W
 run : ∀ (args : Array Value) (w : World), (callFunc fs args).run Tryz.prog w = .ok (.enter fs args) w
 call : ∀ (n : Int) (s : σ) (w : World) (b off : Nat) (h : Hd) (ka : Option Addr) (kl kc : Nat), 0 ≤ n → n < 512 → b < B → W + 5 ≤ w.heap.size → NodeAt w b off h (.slice ka kl kc) → I n s w →
  Calls Tryz.prog fs (#[.pointer (some ⟨b, off, none⟩)] ++ caps) w fun e w' => e = .returned (.bool true) ∧ I (n + 1) (step s (h, kl)) w' ∧ Below B w w' ∧ ∀ k, W ≤ k → k < W + 5 → w'.heap[k]? = w.heap[k]?
 up : ∀ (n : Int) (s : σ) (w : World), I n s w → I (n + 1) s w
 stable : ∀ (n : Int) (s : σ) (w w' : World), I n s w → (∀ k, k < w.heap.size → ¬ (W ≤ k ∧ k < W + 5) → w'.heap[k]? = w.heap[k]?) → w.heap.size ≤ w'.heap.size → I n s w'
def DownPost {σ : Type} (see : Value) (B W : Nat) (I : Int → σ → World → Prop) (step : σ → Hd × Nat → σ) (h : Hd) (ks : Trees) (d n dp t : Int) (s : σ) (w : World) (e : Ending) (w' : World) : Prop :=
 ∃ (n' d' t' : Int) (s' : σ) (ok : Bool), e = .returned (.bool ok) ∧ Own5 w' W see n' d' t' ∧ I n' s' w' ∧ Below B w w' ∧
  (WOk h ks d n t → ok = true ∧ n' = n + 1 + ks.nodes ∧ d' = max dp (d + ks.deep) ∧ t' = t + h.bytes + ks.bytes ∧ s' = ((h, ks.len) :: ks.pre).foldl step s) ∧ (¬ WOk h ks d n t → ok = false)
def Downs {σ : Type} (see : Value) (B W : Nat) (I : Int → σ → World → Prop) (step : σ → Hd × Nat → σ) (h : Hd) (ks : Trees) : Prop :=
 ∀ (w : World) (b off : Nat) (ka : Option Addr) (kl kc : Nat) (d n dp t : Int) (s : σ), b < B → NodeAt w b off h (.slice ka kl kc) → TreeV w B h ks ka kl → Own5 w W see n dp t → I n s w →
  1 ≤ d → d ≤ 65 → 0 ≤ n → n ≤ 512 → 0 ≤ dp → dp ≤ 64 → 0 ≤ t → t ≤ 16384 →
 Calls Tryz.prog 68 #[.pointer (some ⟨b, off, none⟩), .int .i64 d, .pointer (some ⟨W + 1, 0, none⟩), .pointer (some ⟨W + 2, 0, none⟩), .pointer (some ⟨W + 3, 0, none⟩), .pointer (some ⟨W, 0, none⟩), .pointer (some ⟨W + 4, 0, none⟩)] w
  (DownPost see B W I step h ks d n dp t s w)
def DRel {σ : Type} (see : Value) (B W : Nat) (I : Int → σ → World → Prop) (step : σ → Hd × Nat → σ) (ks : Trees) (kl : Nat) (ka : Option Addr) (d n0 dp0 t0 : Int) (s0 : σ) (w wr : World) (i : Value) : Prop :=
 ∃ (j : Nat) (nn dd tt : Int) (s : σ) (rest : Trees), i = .int .i64 j ∧ j + rest.len = kl ∧ RowIn wr B rest ka j ∧ AllT (Downs see B W I step) rest ∧ Below B w wr ∧ Own5 wr W see nn dd tt ∧ I nn s wr ∧
  0 ≤ nn ∧ nn ≤ 512 ∧ 0 ≤ tt ∧ tt ≤ 16384 ∧ dp0 ≤ dd ∧ dd ≤ 64 ∧ Hid (nn + rest.nodes = n0 + ks.nodes) ∧ Hid (tt + rest.bytes = t0 + ks.bytes) ∧ Hid (max dd (d + rest.deep) = max dp0 (d + ks.deep)) ∧ Hid (rest.pre.foldl step s = ks.pre.foldl step s0)
theorem bel_set {B : Nat} {a w : World} (h : Below B a w) {k : Nat} (hk : B ≤ k) (u : Value) : Below B a (w.setCell ⟨k, 0, none⟩ u) := h.setCell hk u
theorem Own5.drew {w : World} {W : Nat} {see : Value} {n d t : Int} (o : Own5 w W see n d t) : Own5 w.drew W see n d t := ⟨o.s, o.n, o.d, o.t, o.w⟩
structure Apart (W : Nat) (w w' : World) : Prop where
 size : w'.heap.size = w.heap.size
 same : ∀ k, ¬ (W ≤ k ∧ k < W + 5) → w'.heap[k]? = w.heap[k]?
 os : w'.os = w.os
 tape : w'.tape = w.tape
 output : w'.output = w.output
theorem Apart.refl (W : Nat) (w : World) : Apart W w w := ⟨rfl, fun _ _ => rfl, rfl, rfl, rfl⟩
theorem Apart.set {W : Nat} {w w' : World} (a : Apart W w w') {k : Nat} (hk : W ≤ k ∧ k < W + 5) (u : Value) : Apart W w (w'.setCell ⟨k, 0, none⟩ u) :=
 ⟨by simp [World.setCell]; exact a.size, fun j hj => by rw [Below.heap_setCell _ _ _ _ (by intro e; subst e; exact hj hk)]; exact a.same j hj, a.os, a.tape, a.output⟩
theorem Apart.drew {W : Nat} {w w' : World} (a : Apart W w w') : Apart W w w'.drew := ⟨a.size, a.same, a.os, a.tape, a.output⟩
theorem Apart.below {W B : Nat} {w w' : World} (a : Apart W w w') (hB : B ≤ W) : Below B w w' := ⟨a.os, a.tape, a.output, Nat.le_of_eq a.size.symm, fun k hk => a.same k (by omega)⟩
theorem DownPost.bad {σ : Type} {see : Value} {fs : FuncId} {caps : Array Value} {B W : Nat} {I : Int → σ → World → Prop} {step : σ → Hd × Nat → σ} (S : SeeSpec see fs caps B W I step) {h : Hd} {ks : Trees} {d n dp t d' t' : Int} {s : σ} {w w' : World}
 (hI : I n s w) (a : Apart W w w') (o : Own5 w' W see (n + 1) d' t') (bad : ¬ WOk h ks d n t) : DownPost see B W I step h ks d n dp t s w (.returned (.bool false)) w' :=
 ⟨n + 1, d', t', s, false, rfl, o, S.stable _ s w w' (S.up n s w hI) (fun k _ hk => a.same k hk) (Nat.le_of_eq a.size.symm), a.below S.le, fun x => absurd x bad, fun _ => rfl⟩
theorem down_step {σ : Type} {see : Value} {fs : FuncId} {caps : Array Value} {B W : Nat} {I : Int → σ → World → Prop} {step : σ → Hd × Nat → σ} (S : SeeSpec see fs caps B W I step)
 (nd : Hd) (ks : Trees) (ih : AllT (Downs see B W I step) ks) : Downs see B W I step nd ks := by
 intro w b off ka kl kc d n dp t s hb N tv o hI d0 d1 n0 n1 p0 p1 t0 t1
 obtain rfl := S.val
 have ht := tv.ok.text
 have hm := tv.max
 have hBW := S.le
 have HI := Lib.hid ih; clear ih
 have HT := Lib.hid tv; clear tv
 have HS := Lib.hid S; clear S
 have HO := Lib.hid o
 have HN := Lib.hid N
 have HII := Lib.hid hI; clear hI
 have cs := cell_of_one o.s; have cn := cell_of_one o.n; have cd := cell_of_one o.d; have ct := cell_of_one o.t
 have fn' := free_of_one o.n; have fd := free_of_one o.d; have ft := free_of_one o.t
 have hz := o.size
 obtain ⟨hlt, c0, -, -, c3, -, -, -, -, -, -, -, -, -, c13, -, -, -, -, -, -⟩ := N.facts
 clear o N
 by_cases hk : nd.kind = 2
 ·have c0' : w.cell? ⟨b, off, none⟩ = some (.int .i64 2) := by rw [c0, hk]
  clear c0
  have hbytes : (nd.bytes : Int) = nd.text.length := by simp [Hd.bytes, hk]
  by_cases g : n + 1 > 512 ∨ d > 64 ∨ t + nd.text.length > 16384
  ·have bad : ¬ WOk nd ks d n t := by rintro ⟨x, y, z⟩; omega
   have BAD := Lib.hid bad; clear bad hbytes HT HI
   have g1 : 512 < n + 1 ∨ (n + 1 ≤ 512 ∧ 64 < d) ∨ (n + 1 ≤ 512 ∧ d ≤ 64 ∧ 16384 < t + nd.text.length) := by omega
   clear g
   rcases g1 with g1 | ⟨g1, g2⟩ | ⟨g1, g2, g3⟩
   all_goals first | (exfalso; omega) | skip
   all_goals
    go_enter Tryz.func68, Tryz.ntmps68
    go_wp2
   all_goals
    generalize hW : World.setCell (World.setCell w _ _) _ _ = w1
    have o1 : Own5 w1 W (.func (.func fs) #[] caps) (n + 1) (max dp d) t := by rw [← hW]; have o := (HO.out.setN (n + 1)).setD (max dp d); first | (rw [Int.max_eq_left (by omega)] at o ⊢; exact o) | (rw [Int.max_eq_right (by omega)] at o ⊢; exact o)
    have a1 : Apart W w w1 := by rw [← hW]; exact ((Apart.refl W w).set (by omega) _).set (by omega) _
    have N1 := HN.out.kept (a1.below hBW) hb
    clear hW
    have ct1 := cell_of_one o1.t; have cn1 := cell_of_one o1.n; have cs1 := cell_of_one o1.s
    have ft1 := free_of_one o1.t
    have hz1 := o1.size
    obtain ⟨hlt1, -, -, -, c31, -, -, -, -, -, -, -, -, -, -, -, -, -, -, -, -⟩ := N1.facts
    have O1 := Lib.hid o1; clear o1
    have A1 := Lib.hid a1; clear a1
    clear N1
    go_still_tail 7, (by kernel_rfl)
    change wpList _ _ _ _ _ (World.drew _)
    go_wp2_with fail
    go_wp2
    go_ret
    first
     | exact .bad HS.out HII.out (A1.out.drew.set (by omega) _) (O1.out.drew.setT _) BAD.out
     | exact .bad HS.out HII.out (A1.out.set (by omega) _).drew (O1.out.setT _).drew BAD.out
     | exact .bad HS.out HII.out ((((Apart.refl W w).set (by omega) _).set (by omega) _)) ((HO.out.setN _).setD _) BAD.out
     | fail
  ·have g1 : n + 1 ≤ 512 := by omega
   have g2 : d ≤ 64 := by omega
   have g3 : t + nd.text.length ≤ 16384 := by omega
   have HB := Lib.hid hbytes; clear hbytes g
   go_enter Tryz.func68, Tryz.ntmps68
   go_wp2
   all_goals
    generalize hW : World.setCell (World.setCell w _ _) _ _ = w1
    have o1 : Own5 w1 W (.func (.func fs) #[] caps) (n + 1) (max dp d) t := by rw [← hW]; have o := (HO.out.setN (n + 1)).setD (max dp d); first | (rw [Int.max_eq_left (by omega)] at o ⊢; exact o) | (rw [Int.max_eq_right (by omega)] at o ⊢; exact o)
    have a1 : Apart W w w1 := by rw [← hW]; exact ((Apart.refl W w).set (by omega) _).set (by omega) _
    have N1 := HN.out.kept (a1.below hBW) hb
    clear hW
    have ct1 := cell_of_one o1.t; have cn1 := cell_of_one o1.n; have cs1 := cell_of_one o1.s
    have ft1 := free_of_one o1.t
    have hz1 := o1.size
    obtain ⟨hlt1, -, -, -, c31, -, -, -, -, -, -, -, -, -, -, -, -, -, -, -, -⟩ := N1.facts
    have O1 := Lib.hid o1; clear o1
    have A1 := Lib.hid a1; clear a1
    clear N1
    go_still_tail 7, (by kernel_rfl)
    change wpList _ _ _ _ _ (World.drew _)
    go_wp2_with fail
    generalize hW : World.drew (World.setCell w1 _ _) = w3
    have o3 : Own5 w3 W (.func (.func fs) #[] caps) (n + 1) (max dp d) (t + nd.text.length) := by rw [← hW]; exact (O1.out.setT _).drew
    have a3 : Apart W w w3 := by rw [← hW]; exact (A1.out.set (by omega) _).drew
    clear hW O1 A1 hlt1 c31 cn1 cs1 ct1 ft1 hz1
    have hmx0 : 0 ≤ max dp d := by omega
    have hmx1 : max dp d ≤ 64 := by omega
    generalize hmx : max dp d = mx at o3 hmx0 hmx1
    have HMX := Lib.hid hmx; clear hmx
    rw [HS.out.run, Oper.upon_enter]
    refine (HS.out.call n s w3 b off nd ka kl kc n0 (by omega) hb (by rw [a3.size]; omega) (HN.out.kept (a3.below hBW) hb) (HS.out.stable n s w w3 HII.out (fun k _ hk => a3.same k hk) (Nat.le_of_eq a3.size.symm))).mono ?_
    rintro e w2 ⟨rfl, i2, b2, k2⟩
    have o2 := o3.kept k2
    have b02 := (a3.below hBW).trans b2
    have N2 := HN.out.kept b02 hb
    obtain ⟨hlt2, -, -, -, -, -, -, -, -, -, -, -, -, -, c132, -, -, -, -, -, -⟩ := N2.facts
    have I2 := Lib.hid i2; clear i2
    have O2 := Lib.hid o2; clear o2
    have HN2 := Lib.hid N2; clear N2
    clear k2 a3 o3 cs cn cd ct fn' fd ft hz b2
    go_wp2_with fail
    go_loopw [49] (fun i wr => DRel (.func (.func fs) #[] caps) B W I step ks kl ka d (n + 1) mx (t + nd.text.length) (step s (nd, kl)) w2 wr i) (fun i _ => kl - (intOf i).toNat)
    case atStart =>
     exact ⟨0, n + 1, mx, (t + nd.text.length), step s (nd, kl), ks, rfl, by have := HT.out.len; omega, HT.out.row.kept b02 (Nat.le_refl _), HI.out, Below.refl _ _, O2.out, I2.out, by omega, by omega, by omega, by omega, by omega, by omega, Lib.hid rfl, Lib.hid rfl, Lib.hid rfl, Lib.hid rfl⟩
    case round =>
     obtain ⟨j, nn, dd, tt, s1, rest, rfl, hj, hrow, hall, hbel, o4, i4, x0, x1, y0, y1, z0, z1, H1, H2, H3, H4⟩ := hrel
     have N4 := HN2.out.kept hbel hb
     obtain ⟨hlt4, -, -, -, -, -, -, -, -, -, -, -, -, -, c134, -, -, -, -, -, -⟩ := N4.facts
     clear N4
     have cw := cell_of_one o4.w
     have O4 := Lib.hid o4; clear o4
     have I4 := Lib.hid i4; clear i4
     by_cases hlt : j < kl
     ·obtain ⟨h', k', r', rfl⟩ := trees_cons (rest := rest) (by omega)
      obtain ⟨b1, off1, ka', kl', kc', rfl, hb1, N1, tv1⟩ := hrow.head
      have HT1 := Lib.hid tv1; clear tv1
      have HN1 := Lib.hid N1; clear N1
      have HC := Lib.hid (hall.1); have HA := Lib.hid hall.2; clear hall
      have HRow := Lib.hid hrow.2; clear hrow
      have HJ := Lib.hid hj; clear hj
      have hlti : (j : Int) < (kl : Int) := by omega
      go_wp2_with fail
      go_still_tail 9, (by kernel_rfl)
      change wpList _ _ _ _ _ (World.drew _)
      go_wp2_with fail
      refine (HC.out _ b1 _ ka' kl' kc' (d + 1) nn dd tt s1 hb1 (HN1.out.kept ((Below.refl B _).drew) hb1) (HT1.out.kept ((Below.refl B _).drew) (Nat.le_refl _)) O4.out.drew (HS.out.stable _ s1 _ _ I4.out (fun _ _ _ => rfl) (Nat.le_refl _)) (by omega) (by omega) x0 x1 (by omega) z1 y0 y1).mono ?_
      rintro e w5 ⟨N, D, T, s2, ok, rfl, o5, i5, b5, yes, no⟩
      have b6 : Below B wr w5 := ((Below.refl _ wr).drew).trans b5
      have O5 := Lib.hid o5; clear o5
      have I5 := Lib.hid i5; clear i5
      clear b5 cw c134
      by_cases wk : WOk h' k' (d + 1) nn tt
      ·obtain ⟨rfl, y1', y2', y3', y4'⟩ := yes wk
       obtain ⟨k1, k2, k3⟩ := wk
       clear no yes
       have m1 : N ≤ 512 := by omega
       have m2 : 0 ≤ N := by omega
       have m3 : T ≤ 16384 := by omega
       have m4 : 0 ≤ T := by omega
       have m5 : D ≤ 64 := by omega
       have m6 : mx ≤ D := by omega
       have Y := Lib.hid (And.intro y1' (And.intro y2' (And.intro y3' y4'))); clear y1' y2' y3' y4' k1 k2 k3
       go_wp2
       refine ⟨⟨j + 1, N, D, T, s2, r', by go_num, ?_, HRow.out.kept b6 (Nat.le_refl _), HA.out, hbel.trans b6, O5.out, I5.out, m2, m1, m4, m3, m6, m5, Lib.hid ?_, Lib.hid ?_, Lib.hid ?_, Lib.hid ?_⟩, by simp [intOf]; omega⟩
       ·have t0 := HJ.out; simp only [Trees.len] at t0; omega
       ·have t1 := H1.out; obtain ⟨y1, y2, y3, y4⟩ := Y.out; simp only [Trees.nodes] at t1; omega
       ·have t2 := H2.out; obtain ⟨y1, y2, y3, y4⟩ := Y.out; simp only [Trees.bytes] at t2; omega
       ·have t3 := H3.out; obtain ⟨y1, y2, y3, y4⟩ := Y.out; simp only [Trees.deep] at t3; omega
       ·have t4 := H4.out; obtain ⟨y1, y2, y3, y4⟩ := Y.out; rw [← t4, y4]; simp only [Trees.pre, List.foldl_cons, List.foldl_append]
      ·obtain rfl := no wk
       clear no yes
       have bad : ¬ WOk nd ks d n t := by
        rintro ⟨q1, q2, q3⟩
        apply wk
        have t1 := H1.out; have t2 := H2.out; have t3 := H3.out; have t4 := HMX.out; have t5 := HB.out
        simp only [Trees.nodes, Trees.bytes, Trees.deep] at t1 t2 t3
        refine ⟨?_, ?_, ?_⟩ <;> omega
       have BAD := Lib.hid bad; clear bad wk
       go_wp2
       go_ret
       exact ⟨N, D, T, s2, false, rfl, O5.out, I5.out, b02.trans (hbel.trans b6), fun x => absurd x BAD.out, fun _ => rfl⟩
     ·have hz : rest.len = 0 := by omega
      obtain rfl := trees_nil hz
      have good : WOk nd ks d n t := by
       have t1 := H1.out; have t2 := H2.out; have t3 := H3.out; have t4 := HMX.out; have t5 := HB.out
       simp only [Trees.nodes, Trees.bytes, Trees.deep] at t1 t2 t3
       refine ⟨by omega, by omega, by omega⟩
      have HG := Lib.hid good; clear good
      go_wp2
      go_ret
      refine ⟨nn, dd, tt, s1, true, rfl, O4.out, I4.out, b02.trans hbel, fun _ => ⟨rfl, ?_, ?_, ?_, ?_⟩, fun x => absurd HG.out x⟩
      ·have t1 := H1.out; simp only [Trees.nodes] at t1; omega
      ·have t3 := H3.out; have t4 := HMX.out; simp only [Trees.deep] at t3; omega
      ·have t2 := H2.out; have t5 := HB.out; simp only [Trees.bytes] at t2; omega
      ·have t4 := H4.out; simp only [Trees.pre, List.foldl_nil] at t4; rw [t4, List.foldl_cons, ← HT.out.len]
 ·have hk2 : (nd.kind == 2) = false := by simp [hk]
  have hbytes : (nd.bytes : Int) = 0 := by simp [Hd.bytes, hk]
  by_cases g : n + 1 > 512 ∨ d > 64 ∨ t > 16384
  ·have bad : ¬ WOk nd ks d n t := by rintro ⟨x, y, z⟩; omega
   have BAD := Lib.hid bad; clear bad hbytes HT HI
   have g1 : 512 < n + 1 ∨ (n + 1 ≤ 512 ∧ 64 < d) ∨ (n + 1 ≤ 512 ∧ d ≤ 64 ∧ 16384 < t) := by omega
   clear g
   rcases g1 with g1 | ⟨g1, g2⟩ | ⟨g1, g2, g3⟩
   all_goals first | (exfalso; omega) | skip
   all_goals
    go_enter Tryz.func68, Tryz.ntmps68
    go_wp2
   all_goals
    skip
    go_wp2
    go_ret
    first
     | exact .bad HS.out HII.out (A1.out.drew.set (by omega) _) (O1.out.drew.setT _) BAD.out
     | exact .bad HS.out HII.out (A1.out.set (by omega) _).drew (O1.out.setT _).drew BAD.out
     | exact .bad HS.out HII.out ((((Apart.refl W w).set (by omega) _).set (by omega) _)) ((HO.out.setN _).setD _) BAD.out
     | fail
  ·have g1 : n + 1 ≤ 512 := by omega
   have g2 : d ≤ 64 := by omega
   have g3 : t ≤ 16384 := by omega
   have HB := Lib.hid hbytes; clear hbytes g
   go_enter Tryz.func68, Tryz.ntmps68
   go_wp2
   all_goals
    skip
    generalize hW : World.setCell (World.setCell w _ _) _ _ = w3
    have o3 : Own5 w3 W (.func (.func fs) #[] caps) (n + 1) (max dp d) t := by rw [← hW]; have o := (HO.out.setN (n + 1)).setD (max dp d); first | (rw [Int.max_eq_left (by omega)] at o ⊢; exact o) | (rw [Int.max_eq_right (by omega)] at o ⊢; exact o)
    have a3 : Apart W w w3 := by rw [← hW]; exact ((Apart.refl W w).set (by omega) _).set (by omega) _
    clear hW
    have hmx0 : 0 ≤ max dp d := by omega
    have hmx1 : max dp d ≤ 64 := by omega
    generalize hmx : max dp d = mx at o3 hmx0 hmx1
    have HMX := Lib.hid hmx; clear hmx
    rw [HS.out.run, Oper.upon_enter]
    refine (HS.out.call n s w3 b off nd ka kl kc n0 (by omega) hb (by rw [a3.size]; omega) (HN.out.kept (a3.below hBW) hb) (HS.out.stable n s w w3 HII.out (fun k _ hk => a3.same k hk) (Nat.le_of_eq a3.size.symm))).mono ?_
    rintro e w2 ⟨rfl, i2, b2, k2⟩
    have o2 := o3.kept k2
    have b02 := (a3.below hBW).trans b2
    have N2 := HN.out.kept b02 hb
    obtain ⟨hlt2, -, -, -, -, -, -, -, -, -, -, -, -, -, c132, -, -, -, -, -, -⟩ := N2.facts
    have I2 := Lib.hid i2; clear i2
    have O2 := Lib.hid o2; clear o2
    have HN2 := Lib.hid N2; clear N2
    clear k2 a3 o3 cs cn cd ct fn' fd ft hz b2
    go_wp2_with fail
    go_loopw [49] (fun i wr => DRel (.func (.func fs) #[] caps) B W I step ks kl ka d (n + 1) mx t (step s (nd, kl)) w2 wr i) (fun i _ => kl - (intOf i).toNat)
    case atStart =>
     exact ⟨0, n + 1, mx, t, step s (nd, kl), ks, rfl, by have := HT.out.len; omega, HT.out.row.kept b02 (Nat.le_refl _), HI.out, Below.refl _ _, O2.out, I2.out, by omega, by omega, by omega, by omega, by omega, by omega, Lib.hid rfl, Lib.hid rfl, Lib.hid rfl, Lib.hid rfl⟩
    case round =>
     obtain ⟨j, nn, dd, tt, s1, rest, rfl, hj, hrow, hall, hbel, o4, i4, x0, x1, y0, y1, z0, z1, H1, H2, H3, H4⟩ := hrel
     have N4 := HN2.out.kept hbel hb
     obtain ⟨hlt4, -, -, -, -, -, -, -, -, -, -, -, -, -, c134, -, -, -, -, -, -⟩ := N4.facts
     clear N4
     have cw := cell_of_one o4.w
     have O4 := Lib.hid o4; clear o4
     have I4 := Lib.hid i4; clear i4
     by_cases hlt : j < kl
     ·obtain ⟨h', k', r', rfl⟩ := trees_cons (rest := rest) (by omega)
      obtain ⟨b1, off1, ka', kl', kc', rfl, hb1, N1, tv1⟩ := hrow.head
      have HT1 := Lib.hid tv1; clear tv1
      have HN1 := Lib.hid N1; clear N1
      have HC := Lib.hid (hall.1); have HA := Lib.hid hall.2; clear hall
      have HRow := Lib.hid hrow.2; clear hrow
      have HJ := Lib.hid hj; clear hj
      have hlti : (j : Int) < (kl : Int) := by omega
      go_wp2_with fail
      go_still_tail 9, (by kernel_rfl)
      change wpList _ _ _ _ _ (World.drew _)
      go_wp2_with fail
      refine (HC.out _ b1 _ ka' kl' kc' (d + 1) nn dd tt s1 hb1 (HN1.out.kept ((Below.refl B _).drew) hb1) (HT1.out.kept ((Below.refl B _).drew) (Nat.le_refl _)) O4.out.drew (HS.out.stable _ s1 _ _ I4.out (fun _ _ _ => rfl) (Nat.le_refl _)) (by omega) (by omega) x0 x1 (by omega) z1 y0 y1).mono ?_
      rintro e w5 ⟨N, D, T, s2, ok, rfl, o5, i5, b5, yes, no⟩
      have b6 : Below B wr w5 := ((Below.refl _ wr).drew).trans b5
      have O5 := Lib.hid o5; clear o5
      have I5 := Lib.hid i5; clear i5
      clear b5 cw c134
      by_cases wk : WOk h' k' (d + 1) nn tt
      ·obtain ⟨rfl, y1', y2', y3', y4'⟩ := yes wk
       obtain ⟨k1, k2, k3⟩ := wk
       clear no yes
       have m1 : N ≤ 512 := by omega
       have m2 : 0 ≤ N := by omega
       have m3 : T ≤ 16384 := by omega
       have m4 : 0 ≤ T := by omega
       have m5 : D ≤ 64 := by omega
       have m6 : mx ≤ D := by omega
       have Y := Lib.hid (And.intro y1' (And.intro y2' (And.intro y3' y4'))); clear y1' y2' y3' y4' k1 k2 k3
       go_wp2
       refine ⟨⟨j + 1, N, D, T, s2, r', by go_num, ?_, HRow.out.kept b6 (Nat.le_refl _), HA.out, hbel.trans b6, O5.out, I5.out, m2, m1, m4, m3, m6, m5, Lib.hid ?_, Lib.hid ?_, Lib.hid ?_, Lib.hid ?_⟩, by simp [intOf]; omega⟩
       ·have t0 := HJ.out; simp only [Trees.len] at t0; omega
       ·have t1 := H1.out; obtain ⟨y1, y2, y3, y4⟩ := Y.out; simp only [Trees.nodes] at t1; omega
       ·have t2 := H2.out; obtain ⟨y1, y2, y3, y4⟩ := Y.out; simp only [Trees.bytes] at t2; omega
       ·have t3 := H3.out; obtain ⟨y1, y2, y3, y4⟩ := Y.out; simp only [Trees.deep] at t3; omega
       ·have t4 := H4.out; obtain ⟨y1, y2, y3, y4⟩ := Y.out; rw [← t4, y4]; simp only [Trees.pre, List.foldl_cons, List.foldl_append]
      ·obtain rfl := no wk
       clear no yes
       have bad : ¬ WOk nd ks d n t := by
        rintro ⟨q1, q2, q3⟩
        apply wk
        have t1 := H1.out; have t2 := H2.out; have t3 := H3.out; have t4 := HMX.out; have t5 := HB.out
        simp only [Trees.nodes, Trees.bytes, Trees.deep] at t1 t2 t3
        refine ⟨?_, ?_, ?_⟩ <;> omega
       have BAD := Lib.hid bad; clear bad wk
       go_wp2
       go_ret
       exact ⟨N, D, T, s2, false, rfl, O5.out, I5.out, b02.trans (hbel.trans b6), fun x => absurd x BAD.out, fun _ => rfl⟩
     ·have hz : rest.len = 0 := by omega
      obtain rfl := trees_nil hz
      have good : WOk nd ks d n t := by
       have t1 := H1.out; have t2 := H2.out; have t3 := H3.out; have t4 := HMX.out; have t5 := HB.out
       simp only [Trees.nodes, Trees.bytes, Trees.deep] at t1 t2 t3
       refine ⟨by omega, by omega, by omega⟩
      have HG := Lib.hid good; clear good
      go_wp2
      go_ret
      refine ⟨nn, dd, tt, s1, true, rfl, O4.out, I4.out, b02.trans hbel, fun _ => ⟨rfl, ?_, ?_, ?_, ?_⟩, fun x => absurd HG.out x⟩
      ·have t1 := H1.out; simp only [Trees.nodes] at t1; omega
      ·have t3 := H3.out; have t4 := HMX.out; simp only [Trees.deep] at t3; omega
      ·have t2 := H2.out; have t5 := HB.out; simp only [Trees.bytes] at t2; omega
      ·have t4 := H4.out; simp only [Trees.pre, List.foldl_nil] at t4; rw [t4, List.foldl_cons, ← HT.out.len]
theorem down_any {σ : Type} {see : Value} {fs : FuncId} {caps : Array Value} {B W : Nat} {I : Int → σ → World → Prop} {step : σ → Hd × Nat → σ} (S : SeeSpec see fs caps B W I step) (h : Hd) (ks : Trees) : Downs see B W I step h ks :=
 down_step S h ks (allT (down_step S) ks)
end Go.Proofs.YtlmpiobdgkmmgaaGreatDoor
namespace Go.Proofs.YtlmpiobdgkmmgaaGreatDoor
open Go.RowKit
def WalkPost {σ : Type} (B : Nat) (I : Int → σ → World → Prop) (step : σ → Hd × Nat → σ) (h : Hd) (ks : Trees) (s : σ) (w : World) (e : Ending) (w' : World) : Prop :=
 ∃ (n d t : Int) (s' : σ) (ok : Bool), e = .returned (.tuple #[.int .i64 n, .int .i64 d, .int .i64 t, .bool ok]) ∧ I n s' w' ∧ Below B w w' ∧
  (Fine h ks → ok = true ∧ n = 1 + ks.nodes ∧ d = 1 + ks.deep ∧ t = h.bytes + ks.bytes ∧ s' = ((h, ks.len) :: ks.pre).foldl step s) ∧ (¬ Fine h ks → ok = false)
def downV (W : Nat) : Value := .func (.func 68) #[] #[.pointer (some ⟨W + 1, 0, none⟩), .pointer (some ⟨W + 2, 0, none⟩), .pointer (some ⟨W + 3, 0, none⟩), .pointer (some ⟨W, 0, none⟩), .pointer (some ⟨W + 4, 0, none⟩)]
theorem heap5 (w : World) (a b c d e : Obj) : (((((w.alloc a).alloc b).alloc c).alloc d).alloc e).heap[w.heap.size]? = some a ∧ (((((w.alloc a).alloc b).alloc c).alloc d).alloc e).heap[w.heap.size + 1]? = some b ∧
 (((((w.alloc a).alloc b).alloc c).alloc d).alloc e).heap[w.heap.size + 2]? = some c ∧ (((((w.alloc a).alloc b).alloc c).alloc d).alloc e).heap[w.heap.size + 3]? = some d ∧ (((((w.alloc a).alloc b).alloc c).alloc d).alloc e).heap[w.heap.size + 4]? = some e := by
 have hh : (((((w.alloc a).alloc b).alloc c).alloc d).alloc e).heap = ((((w.heap.push a).push b).push c).push d).push e := rfl
 rw [hh]
 refine ⟨?_, ?_, ?_, ?_, ?_⟩ <;> (simp only [Array.getElem?_push, Array.size_push]; repeat (first | rfl | rw [if_pos rfl] | rw [if_neg (by omega)]))
theorem own5_made (w : World) (see : Value) : Own5 (((((w.alloc (.cells #[see] 75)).alloc (.cells #[.int .i64 0] 3)).alloc (.cells #[.int .i64 0] 3)).alloc (.cells #[.int .i64 0] 3)).alloc (.cells #[downV w.heap.size] 115)) w.heap.size see 0 0 0 := by
 obtain ⟨a, b, c, d, e⟩ := heap5 w (.cells #[see] 75) (.cells #[.int .i64 0] 3) (.cells #[.int .i64 0] 3) (.cells #[.int .i64 0] 3) (.cells #[downV w.heap.size] 115)
 exact ⟨a, b, c, d, e⟩
theorem walk_any {σ : Type} {see : Value} {fs : FuncId} {caps : Array Value} {B : Nat} {I : Int → σ → World → Prop} {step : σ → Hd × Nat → σ} (w : World) (S : SeeSpec see fs caps B w.heap.size I step)
 (nd : Hd) (ks : Trees) (b off : Nat) (ka : Option Addr) (kl kc : Nat) (s : σ) (hb : b < B) (N : NodeAt w b off nd (.slice ka kl kc)) (tv : TreeV w B nd ks ka kl) (hI : I 0 s w) :
 Calls Tryz.prog 41 #[.pointer (some ⟨b, off, none⟩), see] w (WalkPost B I step nd ks s w) := by
 obtain rfl := S.val
 have hBW := S.le
 have hlt := N.1
 have HT := Lib.hid tv; clear tv
 have HS := Lib.hid S; clear S
 have HN := Lib.hid N; clear N
 have HII := Lib.hid hI; clear hI
 go_enter Tryz.func41, Tryz.ntmps41
 go_wp2_with fail
 have o1 := own5_made w (.func (.func fs) #[] caps)
 unfold downV at o1
 have b1 := ext_alloc (ext_alloc (ext_alloc (ext_alloc (ext_alloc (Below.refl _ w) (.cells #[.func (.func fs) #[] caps] 75)) (.cells #[.int .i64 0] 3)) (.cells #[.int .i64 0] 3)) (.cells #[.int .i64 0] 3)) (.cells #[downV w.heap.size] 115)
 unfold downV at b1
 generalize hW : World.alloc _ (Obj.cells _ 115) = w1
 have o2 : Own5 w1 w.heap.size (.func (.func fs) #[] caps) 0 0 0 := by rw [← hW]; exact o1
 have b2 : Below w.heap.size w w1 := by rw [← hW]; exact b1
 clear hW o1 b1
 have hz := o2.size
 refine (down_any HS.out nd ks w1 b off ka kl kc 1 0 0 0 s hb (HN.out.kept b2 hlt) (HT.out.kept b2 hBW) o2 (HS.out.stable 0 s w w1 HII.out (fun k hk _ => b2.block k hk) b2.size) (by decide) (by decide) (by decide) (by decide) (by decide) (by decide) (by decide) (by decide)).mono ?_
 rintro e w3 ⟨n', d', t', s', ok, rfl, o3, i3, b3, yes, no⟩
 rw [wok_fine] at yes no
 have Y := Lib.hid (And.intro yes no); clear yes no
 have I3 := Lib.hid i3; clear i3
 have B3 := Lib.hid ((b2.mono hBW).trans b3); clear b3 b2 o2 hz
 have cn := cell_of_one o3.n; have cd := cell_of_one o3.d; have ct := cell_of_one o3.t
 have fn' := free_of_one o3.n; have fd := free_of_one o3.d; have ft := free_of_one o3.t
 have O3 := Lib.hid o3; clear o3
 go_wp2_with fail
 go_region
 go_wp2
 generalize hW : World.drew (World.setCell (World.setCell (World.setCell w3 _ _) _ _) _ _) = w4
 have o4 : Own5 w4 w.heap.size (.func (.func fs) #[] caps) n' d' t' := by
  rw [← hW]; exact (((O3.out.setN n').setD d').setT t').drew
 have a4 : Apart w.heap.size w3 w4 := by
  rw [← hW]; exact ((((Apart.refl w.heap.size w3).set (by omega) _).set (by omega) _).set (by omega) _).drew
 clear hW cn cd ct fn' fd ft
 have cn := cell_of_one o4.n; have cd := cell_of_one o4.d; have ct := cell_of_one o4.t
 refine bodyPost_ret (v := .tuple #[.int .i64 n', .int .i64 d', .int .i64 t', .bool ok]) (by simp [results, Tryz.results41, go_sem, cn, cd, ct]) rfl ?_
 refine ⟨n', d', t', s', ok, rfl, HS.out.stable _ s' w3 w4 I3.out (fun k _ hk => a4.same k hk) (Nat.le_of_eq a4.size.symm), B3.out.trans (a4.below hBW), fun f => ?_, Y.out.2⟩
 obtain ⟨y1, y2, y3, y4, y5⟩ := Y.out.1 f
 exact ⟨y1, by omega, by omega, by omega, y5⟩
theorem node_box (w : World) (h : Hd) (ks : Value) : NodeAt (w.alloc (.cells #[.int .i64 h.kind, .int .i64 h.op, .int .i64 h.num, .string ⟨h.text.toArray⟩, .int .i64 h.ref.row, .int .i64 h.ref.col, .bool h.ref.pr, .bool h.ref.pc, .int .i64 h.to.row, .int .i64 h.to.col, .bool h.to.pr, .bool h.to.pc, .int .i64 h.fn, ks] 34)) w.heap.size 0 h ks := by
 refine ⟨by simp, fun j v hj => ?_⟩
 rw [World.cell?_alloc_at _ _ _ _ rfl, Nat.zero_add]
 rw [← hj]
 simp only [Hd.vals, List.getElem?_toArray]
theorem all_any (v : Value) (w : World) : Calls Tryz.prog 44 #[v] w fun e w' => e = .returned (.bool true) ∧ w = w' := by
 go_enter Tryz.func44, Tryz.ntmps44
 go_wp2
 go_ret
 exact ⟨rfl, rfl⟩
theorem all_spec {B W : Nat} (h : B ≤ W) : SeeSpec (.func (.func 44) #[] #[]) 44 #[] B W (fun _ (_ : Unit) _ => True) (fun s _ => s) :=
 ⟨rfl, h, fun _ _ => by kernel_rfl, fun _ _ w b off _ _ _ _ _ _ _ _ _ _ => (all_any _ w).mono fun _ _ ⟨a, b⟩ => ⟨a, trivial, b ▸ Below.refl _ _, fun _ _ _ => by rw [b]⟩, fun _ _ _ _ => trivial, fun _ _ _ _ _ _ _ => trivial⟩
end Go.Proofs.YtlmpiobdgkmmgaaGreatDoor
namespace Go.Proofs.YtlmpiobdgkmmgaaGreatDoor
open Go.RowKit
def OneBool (w : World) (g : Nat) (s : Bool) : Prop := w.heap[g]? = some (.cells #[.bool s] 4 (0, 0))
theorem may1_any (s : Bool) (w : World) (g b off : Nat) (h : Hd) (ka : Option Addr) (kl kc : Nat) (N : NodeAt w b off h (.slice ka kl kc)) (hg : OneBool w g s) :
 Calls Tryz.prog 42 #[.pointer (some ⟨b, off, none⟩), .pointer (some ⟨g, 0, none⟩)] w fun e w' =>
  e = .returned (.bool true) ∧ OneBool w' g (s && fitsV h kl) ∧ Below g w w' ∧ ∀ k, g < k → k < w.heap.size → w'.heap[k]? = w.heap[k]? := by
 have cg := cell_of_one hg
 have fg := free_of_one hg
 have lg := lt_of_block hg
 have HG := Lib.hid hg; clear hg
 have T := told_any h b off ka kl kc w N
 have HT := Lib.hid T; clear T N
 cases s
 ·go_enter Tryz.func42, Tryz.ntmps42
  go_wp2
  go_ret
  exact ⟨rfl, one_setCell HG.out, bel_set (Below.refl g w) (Nat.le_refl g) _, fun k hk _ => Below.heap_setCell _ _ _ _ (by simp; omega)⟩
 ·go_enter Tryz.func42, Tryz.ntmps42
  go_wp2_with fail
  refine HT.out.mono ?_; rintro e w1 ⟨rfl, b1⟩
  have g1 : OneBool w1 g true := (b1.block g lg).trans HG.out
  have cg1 := cell_of_one g1
  have fg1 := free_of_one g1
  have G1 := Lib.hid g1; clear g1 cg fg
  go_wp2
  go_ret
  refine ⟨rfl, ?_, bel_set (b1.mono (Nat.le_of_lt lg)) (Nat.le_refl g) _, fun k hk hk2 => (Below.heap_setCell _ _ _ _ (by simp; omega)).trans (b1.block k hk2)⟩
  rw [Bool.true_and]; exact one_setCell G1.out
theorem may_spec {g W : Nat} (h : g < W) : SeeSpec (.func (.func 42) #[] #[.pointer (some ⟨g, 0, none⟩)]) 42 #[.pointer (some ⟨g, 0, none⟩)] g W (fun _ s w => OneBool w g s) (fun s x => s && fitsV x.1 x.2) :=
 ⟨rfl, by omega, fun _ _ => by kernel_rfl, fun _ s w b off h ka kl kc _ _ _ _ N hI => (may1_any s w g b off h ka kl kc N hI).mono fun _ _ ⟨a, b, c, d⟩ => ⟨a, b, c, fun k hk hk2 => d k (by omega) (by omega)⟩,
  fun _ _ _ h => h, fun _ s w w' hI hk hs => (hk g (lt_of_block hI) (by omega)).trans hI⟩
theorem fold_fits : ∀ (ks : Trees) (s : Bool), ks.pre.foldl (fun s x => s && fitsV x.1 x.2) s = (s && allFits ks)
 | .nil, s => by simp [Trees.pre, allFits]
 | .cons h k r, s => by
  rw [Trees.pre, List.foldl_cons, List.foldl_append, fold_fits k, fold_fits r, allFits]
  simp only [Bool.and_assoc]
theorem fold_tree (h : Hd) (ks : Trees) (s : Bool) : ((h, ks.len) :: ks.pre).foldl (fun s x => s && fitsV x.1 x.2) s = (s && treeFits h ks) := by
 rw [List.foldl_cons, fold_fits, treeFits, Bool.and_assoc]
theorem may_any (nd : Hd) (ks : Trees) (w : World) (B : Nat) (ka : Option Addr) (kl kc : Nat) (hB : B ≤ w.heap.size) (tv : TreeV w B nd ks ka kl) :
 Calls Tryz.prog 17 #[.agg #[.int .i64 nd.kind, .int .i64 nd.op, .int .i64 nd.num, .string ⟨nd.text.toArray⟩, .int .i64 nd.ref.row, .int .i64 nd.ref.col, .bool nd.ref.pr, .bool nd.ref.pc, .int .i64 nd.to.row, .int .i64 nd.to.col, .bool nd.to.pr, .bool nd.to.pc, .int .i64 nd.fn, .slice ka kl kc]] w (MayPost nd ks w) := by
 have HT := Lib.hid tv; clear tv
 go_enter Tryz.func17, Tryz.ntmps17
 go_wp2_with fail
 have N0 := (node_box w nd (.slice ka kl kc)).kept ((Below.refl (w.heap.size + 1) _).alloc (by simp) (.cells #[.bool true] 4)) (Nat.lt_succ_self _)
 have hs1 : ((w.alloc (.cells #[.int .i64 nd.kind, .int .i64 nd.op, .int .i64 nd.num, .string ⟨nd.text.toArray⟩, .int .i64 nd.ref.row, .int .i64 nd.ref.col, .bool nd.ref.pr, .bool nd.ref.pc, .int .i64 nd.to.row, .int .i64 nd.to.col, .bool nd.to.pr, .bool nd.to.pc, .int .i64 nd.fn, .slice ka kl kc] 34)).alloc (.cells #[.bool true] 4)).heap.size = w.heap.size + 2 := by simp
 have hg : OneBool ((w.alloc (.cells #[.int .i64 nd.kind, .int .i64 nd.op, .int .i64 nd.num, .string ⟨nd.text.toArray⟩, .int .i64 nd.ref.row, .int .i64 nd.ref.col, .bool nd.ref.pr, .bool nd.ref.pc, .int .i64 nd.to.row, .int .i64 nd.to.col, .bool nd.to.pr, .bool nd.to.pc, .int .i64 nd.fn, .slice ka kl kc] 34)).alloc (.cells #[.bool true] 4)) (w.heap.size + 1) true := heap_alloc2_new _ _ _
 have b0 : Below B w ((w.alloc (.cells #[.int .i64 nd.kind, .int .i64 nd.op, .int .i64 nd.num, .string ⟨nd.text.toArray⟩, .int .i64 nd.ref.row, .int .i64 nd.ref.col, .bool nd.ref.pr, .bool nd.ref.pc, .int .i64 nd.to.row, .int .i64 nd.to.col, .bool nd.to.pr, .bool nd.to.pc, .int .i64 nd.fn, .slice ka kl kc] 34)).alloc (.cells #[.bool true] 4)) := ((Below.refl _ _).alloc hB _).alloc (by simp; omega) _
 have b0' : Below w.heap.size w ((w.alloc (.cells #[.int .i64 nd.kind, .int .i64 nd.op, .int .i64 nd.num, .string ⟨nd.text.toArray⟩, .int .i64 nd.ref.row, .int .i64 nd.ref.col, .bool nd.ref.pr, .bool nd.ref.pc, .int .i64 nd.to.row, .int .i64 nd.to.col, .bool nd.to.pr, .bool nd.to.pc, .int .i64 nd.fn, .slice ka kl kc] 34)).alloc (.cells #[.bool true] 4)) := ((Below.refl _ _).alloc (Nat.le_refl _) _).alloc (by simp) _
 generalize hW : World.alloc (World.alloc w _) _ = w0 at *
 clear hW
 refine (walk_any w0 (may_spec (g := w.heap.size + 1) (by omega)) nd ks w.heap.size 0 ka kl kc true (Nat.lt_succ_self _) N0 ((HT.out.kept b0 (Nat.le_refl _)).mono (by omega)) hg).mono ?_
 rintro e w2 ⟨n, d, t, s', ok, rfl, i2, b2, yes, no⟩
 rw [fold_tree] at yes
 have B3 := Lib.hid (b0'.trans (b2.mono (by omega)))
 have cg := cell_of_one i2
 clear b2 b0 b0' N0 hs1 hg i2
 by_cases f : Fine nd ks
 ·obtain ⟨rfl, -, -, -, y5⟩ := yes f
  rw [Bool.true_and] at y5
  subst y5
  have hm : mayE nd ks = if treeFits nd ks = true then 0 else 22 := by simp [mayE, f]
  clear yes no
  cases hq : treeFits nd ks
  ·rw [hq] at cg hm
   have HM := Lib.hid hm
   clear hm hq f
   go_wp2
   go_ret
   exact ⟨ret_int HM.out.symm, B3.out⟩
  ·rw [hq] at cg hm
   have HM := Lib.hid hm
   clear hm hq f
   go_wp2
   go_ret
   exact ⟨ret_int HM.out.symm, B3.out⟩
 ·obtain rfl := no f
  have hm : mayE nd ks = 2 := by simp [mayE, f]
  have HM := Lib.hid hm
  clear yes no f hm
  go_wp2
  go_ret
  exact ⟨ret_int HM.out.symm, B3.out⟩
end Go.Proofs.YtlmpiobdgkmmgaaGreatDoor
