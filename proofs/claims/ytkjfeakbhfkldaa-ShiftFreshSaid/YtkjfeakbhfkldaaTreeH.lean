/- Trees: walk goes over a tree, a node ahead of its kids, and calls what it is handed at each. -/
import Derived.Test.YtkjfeakbhfkldaaTreeE
import Derived.StillTailTactics
import Derived.OneCell
namespace Go.Proofs.Ytkjfeakbhfkldaa
open Go.RowKit

/-- walk's own five cells: from block W on: see, nodes, depth, bytes, down. -/
structure Own5 (w : World) (W : Nat) (see : Value) (n d t : Int) : Prop where
  s : w.heap[W]? = some (.cells #[see] 86 (0, 0))
  n : w.heap[W + 1]? = some (.cells #[.int .i64 n] 3 (0, 0))
  d : w.heap[W + 2]? = some (.cells #[.int .i64 d] 3 (0, 0))
  t : w.heap[W + 3]? = some (.cells #[.int .i64 t] 3 (0, 0))
  w : w.heap[W + 4]? = some (.cells #[.func (.func 78) #[] #[.pointer (some ⟨W + 1, 0, none⟩), .pointer (some ⟨W + 2, 0, none⟩), .pointer (some ⟨W + 3, 0, none⟩), .pointer (some ⟨W, 0, none⟩), .pointer (some ⟨W + 4, 0, none⟩)]] 105 (0, 0))

theorem Own5.kept {w w' : World} {W : Nat} {see : Value} {n d t : Int} (o : Own5 w W see n d t) (h : ∀ k, W ≤ k → k < W + 5 → w'.heap[k]? = w.heap[k]?) : Own5 w' W see n d t :=
  ⟨(h _ (by omega) (by omega)).trans o.s, (h _ (by omega) (by omega)).trans o.n, (h _ (by omega) (by omega)).trans o.d, (h _ (by omega) (by omega)).trans o.t, (h _ (by omega) (by omega)).trans o.w⟩
theorem Own5.setN {w : World} {W : Nat} {see : Value} {n d t : Int} (o : Own5 w W see n d t) (n' : Int) : Own5 (w.setCell ⟨W + 1, 0, none⟩ (.int .i64 n')) W see n' d t :=
  ⟨by rw [Below.heap_setCell _ _ _ _ (by simp)]; exact o.s, one_setCell o.n, by rw [Below.heap_setCell _ _ _ _ (by simp)]; exact o.d, by rw [Below.heap_setCell _ _ _ _ (by simp)]; exact o.t, by rw [Below.heap_setCell _ _ _ _ (by simp)]; exact o.w⟩
theorem Own5.setD {w : World} {W : Nat} {see : Value} {n d t : Int} (o : Own5 w W see n d t) (d' : Int) : Own5 (w.setCell ⟨W + 2, 0, none⟩ (.int .i64 d')) W see n d' t :=
  ⟨by rw [Below.heap_setCell _ _ _ _ (by simp)]; exact o.s, by rw [Below.heap_setCell _ _ _ _ (by simp)]; exact o.n, one_setCell o.d, by rw [Below.heap_setCell _ _ _ _ (by simp)]; exact o.t, by rw [Below.heap_setCell _ _ _ _ (by simp)]; exact o.w⟩
theorem Own5.setT {w : World} {W : Nat} {see : Value} {n d t : Int} (o : Own5 w W see n d t) (t' : Int) : Own5 (w.setCell ⟨W + 3, 0, none⟩ (.int .i64 t')) W see n d t' :=
  ⟨by rw [Below.heap_setCell _ _ _ _ (by simp)]; exact o.s, by rw [Below.heap_setCell _ _ _ _ (by simp)]; exact o.n, by rw [Below.heap_setCell _ _ _ _ (by simp)]; exact o.d, one_setCell o.t, by rw [Below.heap_setCell _ _ _ _ (by simp)]; exact o.w⟩
theorem Own5.size {w : World} {W : Nat} {see : Value} {n d t : Int} (o : Own5 w W see n d t) : W + 4 < w.heap.size := lt_of_block o.w

/-- What is told of the function that walk is handed: its own memory (told by I, over states s) lies in blocks from B on, but not among walk's own five. -/
structure SeeSpec {σ : Type} (see : Value) (fs : FuncId) (caps : Array Value) (B W : Nat) (I : Int → σ → World → Prop) (step : σ → Hd × Nat → σ) : Prop where
  val : see = .func (.func fs) #[] caps
  le : B ≤ W
  run : ∀ (args : Array Value) (w : World), (callFunc fs args).run Try.prog w = .ok (.enter fs args) w
  call : ∀ (n : Int) (s : σ) (w : World) (b off : Nat) (h : Hd) (ka : Option Addr) (kl kc : Nat), 0 ≤ n → n < 512 → b < B → W + 5 ≤ w.heap.size → NodeAt w b off h (.slice ka kl kc) → I n s w →
    Calls Try.prog fs (#[.pointer (some ⟨b, off, none⟩)] ++ caps) w fun e w' => e = .returned (.bool true) ∧ I (n + 1) (step s (h, kl)) w' ∧ Below B w w' ∧ ∀ k, W ≤ k → k < W + 5 → w'.heap[k]? = w.heap[k]?
  up : ∀ (n : Int) (s : σ) (w : World), I n s w → I (n + 1) s w
  stable : ∀ (n : Int) (s : σ) (w w' : World), I n s w → (∀ k, k < w.heap.size → ¬ (W ≤ k ∧ k < W + 5) → w'.heap[k]? = w.heap[k]?) → w.heap.size ≤ w'.heap.size → I n s w'

def DownPost {σ : Type} (see : Value) (B W : Nat) (I : Int → σ → World → Prop) (step : σ → Hd × Nat → σ) (h : Hd) (ks : Trees) (d n dp t : Int) (s : σ) (w : World) (e : Ending) (w' : World) : Prop :=
  ∃ (n' d' t' : Int) (s' : σ) (ok : Bool), e = .returned (.bool ok) ∧ Own5 w' W see n' d' t' ∧ I n' s' w' ∧ Below B w w' ∧
    (WOk h ks d n t → ok = true ∧ n' = n + 1 + ks.nodes ∧ d' = max dp (d + ks.deep) ∧ t' = t + h.bytes + ks.bytes ∧ s' = ((h, ks.len) :: ks.pre).foldl step s) ∧ (¬ WOk h ks d n t → ok = false)
def Downs {σ : Type} (see : Value) (B W : Nat) (I : Int → σ → World → Prop) (step : σ → Hd × Nat → σ) (h : Hd) (ks : Trees) : Prop :=
  ∀ (w : World) (b off : Nat) (ka : Option Addr) (kl kc : Nat) (d n dp t : Int) (s : σ), b < B → NodeAt w b off h (.slice ka kl kc) → TreeV w B h ks ka kl → Own5 w W see n dp t → I n s w →
    1 ≤ d → d ≤ 65 → 0 ≤ n → n ≤ 512 → 0 ≤ dp → dp ≤ 64 → 0 ≤ t → t ≤ 16384 →
  Calls Try.prog 78 #[.pointer (some ⟨b, off, none⟩), .int .i64 d, .pointer (some ⟨W + 1, 0, none⟩), .pointer (some ⟨W + 2, 0, none⟩), .pointer (some ⟨W + 3, 0, none⟩), .pointer (some ⟨W, 0, none⟩), .pointer (some ⟨W + 4, 0, none⟩)] w
    (DownPost see B W I step h ks d n dp t s w)

def DRel {σ : Type} (see : Value) (B W : Nat) (I : Int → σ → World → Prop) (step : σ → Hd × Nat → σ) (ks : Trees) (kl : Nat) (ka : Option Addr) (d n0 dp0 t0 : Int) (s0 : σ) (w wr : World) (i : Value) : Prop :=
  ∃ (j : Nat) (nn dd tt : Int) (s : σ) (rest : Trees), i = .int .i64 j ∧ j + rest.len = kl ∧ RowIn wr B rest ka j ∧ AllT (Downs see B W I step) rest ∧ Below B w wr ∧ Own5 wr W see nn dd tt ∧ I nn s wr ∧
    0 ≤ nn ∧ nn ≤ 512 ∧ 0 ≤ tt ∧ tt ≤ 16384 ∧ dp0 ≤ dd ∧ dd ≤ 64 ∧ Hid (nn + rest.nodes = n0 + ks.nodes) ∧ Hid (tt + rest.bytes = t0 + ks.bytes) ∧ Hid (max dd (d + rest.deep) = max dp0 (d + ks.deep)) ∧ Hid (rest.pre.foldl step s = ks.pre.foldl step s0)

theorem bel_set {B : Nat} {a w : World} (h : Below B a w) {k : Nat} (hk : B ≤ k) (u : Value) : Below B a (w.setCell ⟨k, 0, none⟩ u) := h.setCell hk u

theorem Own5.drew {w : World} {W : Nat} {see : Value} {n d t : Int} (o : Own5 w W see n d t) : Own5 w.drew W see n d t := ⟨o.s, o.n, o.d, o.t, o.w⟩
/-- Blocks that are not walk's own stay as they are while walk's own are written. -/
structure Apart (W : Nat) (w w' : World) : Prop where
  size : w'.heap.size = w.heap.size
  same : ∀ k, ¬ (W ≤ k ∧ k < W + 5) → w'.heap[k]? = w.heap[k]?
  os : w'.os = w.os
  tape : w'.tape = w.tape
  output : w'.output = w.output
theorem Apart.refl (W : Nat) (w : World) : Apart W w w := ⟨rfl, fun _ _ => rfl, rfl, rfl, rfl⟩
theorem Apart.set {W : Nat} {w w' : World} (a : Apart W w w') {k : Nat} (hk : W ≤ k ∧ k < W + 5) (u : Value) : Apart W w (w'.setCell ⟨k, 0, none⟩ u) :=
  ⟨by simp [World.setCell]; exact a.size, fun j hj => by rw [Below.heap_setCell _ _ _ _ (by intro e; subst e; exact hj hk)]; exact a.same j hj, a.os, a.tape, a.output⟩
theorem Apart.drew {W : Nat} {w w' : World} (a : Apart W w w') : Apart W w w'.drew := ⟨a.size, a.same, a.os, a.tape, a.output⟩
theorem Apart.below {W B : Nat} {w w' : World} (a : Apart W w w') (hB : B ≤ W) : Below B w w' := ⟨a.os, a.tape, a.output, Nat.le_of_eq a.size.symm, fun k hk => a.same k (by omega)⟩

theorem DownPost.bad {σ : Type} {see : Value} {fs : FuncId} {caps : Array Value} {B W : Nat} {I : Int → σ → World → Prop} {step : σ → Hd × Nat → σ} (S : SeeSpec see fs caps B W I step) {h : Hd} {ks : Trees} {d n dp t d' t' : Int} {s : σ} {w w' : World}
    (hI : I n s w) (a : Apart W w w') (o : Own5 w' W see (n + 1) d' t') (bad : ¬ WOk h ks d n t) : DownPost see B W I step h ks d n dp t s w (.returned (.bool false)) w' :=
  ⟨n + 1, d', t', s, false, rfl, o, S.stable _ s w w' (S.up n s w hI) (fun k _ hk => a.same k hk) (Nat.le_of_eq a.size.symm), a.below S.le, fun x => absurd x bad, fun _ => rfl⟩

set_option maxRecDepth 100000 in
set_option maxHeartbeats 4000000 in
theorem down_step {σ : Type} {see : Value} {fs : FuncId} {caps : Array Value} {B W : Nat} {I : Int → σ → World → Prop} {step : σ → Hd × Nat → σ} (S : SeeSpec see fs caps B W I step)
    (nd : Hd) (ks : Trees) (ih : AllT (Downs see B W I step) ks) : Downs see B W I step nd ks := by
  intro w b off ka kl kc d n dp t s hb N tv o hI d0 d1 n0 n1 p0 p1 t0 t1
  obtain rfl := S.val
  have ht := tv.ok.text
  have hm := tv.max
  have hBW := S.le
  have HI := Lib.hid ih; clear ih
  have HT := Lib.hid tv; clear tv
  have HS := Lib.hid S; clear S
  have HO := Lib.hid o
  have HN := Lib.hid N
  have HII := Lib.hid hI; clear hI
  have cs := cell_of_one o.s; have cn := cell_of_one o.n; have cd := cell_of_one o.d; have ct := cell_of_one o.t
  have fn' := free_of_one o.n; have fd := free_of_one o.d; have ft := free_of_one o.t
  have hz := o.size
  obtain ⟨hlt, c0, -, -, c3, -, -, -, -, -, -, -, -, -, c13, -, -, -, -, -, -⟩ := N.facts
  clear o N
  by_cases hk : nd.kind = 2
  · have c0' : w.cell? ⟨b, off, none⟩ = some (.int .i64 2) := by rw [c0, hk]
    clear c0
    have hbytes : (nd.bytes : Int) = nd.text.length := by simp [Hd.bytes, hk]
    by_cases g : n + 1 > 512 ∨ d > 64 ∨ t + nd.text.length > 16384
    · have bad : ¬ WOk nd ks d n t := by rintro ⟨x, y, z⟩; omega
      have BAD := Lib.hid bad; clear bad hbytes HT HI
      have g1 : 512 < n + 1 ∨ (n + 1 ≤ 512 ∧ 64 < d) ∨ (n + 1 ≤ 512 ∧ d ≤ 64 ∧ 16384 < t + nd.text.length) := by omega
      clear g
      rcases g1 with g1 | ⟨g1, g2⟩ | ⟨g1, g2, g3⟩
      all_goals first | (exfalso; omega) | skip
      all_goals
        go_enter Try.func78, Try.ntmps78
        go_wp2
      all_goals
        generalize hW : World.setCell (World.setCell w _ _) _ _ = w1
        have o1 : Own5 w1 W (.func (.func fs) #[] caps) (n + 1) (max dp d) t := by rw [← hW]; have o := (HO.out.setN (n + 1)).setD (max dp d); first | (rw [Int.max_eq_left (by omega)] at o ⊢; exact o) | (rw [Int.max_eq_right (by omega)] at o ⊢; exact o)
        have a1 : Apart W w w1 := by rw [← hW]; exact ((Apart.refl W w).set (by omega) _).set (by omega) _
        have N1 := HN.out.kept (a1.below hBW) hb
        clear hW
        have ct1 := cell_of_one o1.t; have cn1 := cell_of_one o1.n; have cs1 := cell_of_one o1.s
        have ft1 := free_of_one o1.t
        have hz1 := o1.size
        obtain ⟨hlt1, -, -, -, c31, -, -, -, -, -, -, -, -, -, -, -, -, -, -, -, -⟩ := N1.facts
        have O1 := Lib.hid o1; clear o1
        have A1 := Lib.hid a1; clear a1
        clear N1
        go_still_tail 7, (by kernel_rfl)
        change wpList _ _ _ _ _ (World.drew _)
        go_wp2_with fail
        go_wp2
        go_ret
        first
          | exact .bad HS.out HII.out (A1.out.drew.set (by omega) _) (O1.out.drew.setT _) BAD.out
          | exact .bad HS.out HII.out (A1.out.set (by omega) _).drew (O1.out.setT _).drew BAD.out
          | exact .bad HS.out HII.out ((((Apart.refl W w).set (by omega) _).set (by omega) _)) ((HO.out.setN _).setD _) BAD.out
          | fail
    · have g1 : n + 1 ≤ 512 := by omega
      have g2 : d ≤ 64 := by omega
      have g3 : t + nd.text.length ≤ 16384 := by omega
      have HB := Lib.hid hbytes; clear hbytes g
      go_enter Try.func78, Try.ntmps78
      go_wp2
      all_goals
        generalize hW : World.setCell (World.setCell w _ _) _ _ = w1
        have o1 : Own5 w1 W (.func (.func fs) #[] caps) (n + 1) (max dp d) t := by rw [← hW]; have o := (HO.out.setN (n + 1)).setD (max dp d); first | (rw [Int.max_eq_left (by omega)] at o ⊢; exact o) | (rw [Int.max_eq_right (by omega)] at o ⊢; exact o)
        have a1 : Apart W w w1 := by rw [← hW]; exact ((Apart.refl W w).set (by omega) _).set (by omega) _
        have N1 := HN.out.kept (a1.below hBW) hb
        clear hW
        have ct1 := cell_of_one o1.t; have cn1 := cell_of_one o1.n; have cs1 := cell_of_one o1.s
        have ft1 := free_of_one o1.t
        have hz1 := o1.size
        obtain ⟨hlt1, -, -, -, c31, -, -, -, -, -, -, -, -, -, -, -, -, -, -, -, -⟩ := N1.facts
        have O1 := Lib.hid o1; clear o1
        have A1 := Lib.hid a1; clear a1
        clear N1
        go_still_tail 7, (by kernel_rfl)
        change wpList _ _ _ _ _ (World.drew _)
        go_wp2_with fail
        generalize hW : World.drew (World.setCell w1 _ _) = w3
        have o3 : Own5 w3 W (.func (.func fs) #[] caps) (n + 1) (max dp d) (t + nd.text.length) := by rw [← hW]; exact (O1.out.setT _).drew
        have a3 : Apart W w w3 := by rw [← hW]; exact (A1.out.set (by omega) _).drew
        clear hW O1 A1 hlt1 c31 cn1 cs1 ct1 ft1 hz1
        have hmx0 : 0 ≤ max dp d := by omega
        have hmx1 : max dp d ≤ 64 := by omega
        generalize hmx : max dp d = mx at o3 hmx0 hmx1
        have HMX := Lib.hid hmx; clear hmx
        rw [HS.out.run, Oper.upon_enter]
        refine (HS.out.call n s w3 b off nd ka kl kc n0 (by omega) hb (by rw [a3.size]; omega) (HN.out.kept (a3.below hBW) hb) (HS.out.stable n s w w3 HII.out (fun k _ hk => a3.same k hk) (Nat.le_of_eq a3.size.symm))).mono ?_
        rintro e w2 ⟨rfl, i2, b2, k2⟩
        have o2 := o3.kept k2
        have b02 := (a3.below hBW).trans b2
        have N2 := HN.out.kept b02 hb
        obtain ⟨hlt2, -, -, -, -, -, -, -, -, -, -, -, -, -, c132, -, -, -, -, -, -⟩ := N2.facts
        have I2 := Lib.hid i2; clear i2
        have O2 := Lib.hid o2; clear o2
        have HN2 := Lib.hid N2; clear N2
        clear k2 a3 o3 cs cn cd ct fn' fd ft hz b2
        go_wp2_with fail
        go_loopw [49] (fun i wr => DRel (.func (.func fs) #[] caps) B W I step ks kl ka d (n + 1) mx (t + nd.text.length) (step s (nd, kl)) w2 wr i) (fun i _ => kl - (intOf i).toNat)
        case atStart =>
          exact ⟨0, n + 1, mx, (t + nd.text.length), step s (nd, kl), ks, rfl, by have := HT.out.len; omega, HT.out.row.kept b02 (Nat.le_refl _), HI.out, Below.refl _ _, O2.out, I2.out, by omega, by omega, by omega, by omega, by omega, by omega, Lib.hid rfl, Lib.hid rfl, Lib.hid rfl, Lib.hid rfl⟩
        case round =>
          obtain ⟨j, nn, dd, tt, s1, rest, rfl, hj, hrow, hall, hbel, o4, i4, x0, x1, y0, y1, z0, z1, H1, H2, H3, H4⟩ := hrel
          have N4 := HN2.out.kept hbel hb
          obtain ⟨hlt4, -, -, -, -, -, -, -, -, -, -, -, -, -, c134, -, -, -, -, -, -⟩ := N4.facts
          clear N4
          have cw := cell_of_one o4.w
          have O4 := Lib.hid o4; clear o4
          have I4 := Lib.hid i4; clear i4
          by_cases hlt : j < kl
          · obtain ⟨h', k', r', rfl⟩ := trees_cons (rest := rest) (by omega)
            obtain ⟨b1, off1, ka', kl', kc', rfl, hb1, N1, tv1⟩ := hrow.head
            have HT1 := Lib.hid tv1; clear tv1
            have HN1 := Lib.hid N1; clear N1
            have HC := Lib.hid (hall.1); have HA := Lib.hid hall.2; clear hall
            have HRow := Lib.hid hrow.2; clear hrow
            have HJ := Lib.hid hj; clear hj
            have hlti : (j : Int) < (kl : Int) := by omega
            go_wp2_with fail
            go_still_tail 9, (by kernel_rfl)
            change wpList _ _ _ _ _ (World.drew _)
            go_wp2_with fail
            refine (HC.out _ b1 _ ka' kl' kc' (d + 1) nn dd tt s1 hb1 (HN1.out.kept ((Below.refl B _).drew) hb1) (HT1.out.kept ((Below.refl B _).drew) (Nat.le_refl _)) O4.out.drew (HS.out.stable _ s1 _ _ I4.out (fun _ _ _ => rfl) (Nat.le_refl _)) (by omega) (by omega) x0 x1 (by omega) z1 y0 y1).mono ?_
            rintro e w5 ⟨N, D, T, s2, ok, rfl, o5, i5, b5, yes, no⟩
            have b6 : Below B wr w5 := ((Below.refl _ wr).drew).trans b5
            have O5 := Lib.hid o5; clear o5
            have I5 := Lib.hid i5; clear i5
            clear b5 cw c134
            by_cases wk : WOk h' k' (d + 1) nn tt
            · obtain ⟨rfl, y1', y2', y3', y4'⟩ := yes wk
              obtain ⟨k1, k2, k3⟩ := wk
              clear no yes
              have m1 : N ≤ 512 := by omega
              have m2 : 0 ≤ N := by omega
              have m3 : T ≤ 16384 := by omega
              have m4 : 0 ≤ T := by omega
              have m5 : D ≤ 64 := by omega
              have m6 : mx ≤ D := by omega
              have Y := Lib.hid (And.intro y1' (And.intro y2' (And.intro y3' y4'))); clear y1' y2' y3' y4' k1 k2 k3
              go_wp2
              refine ⟨⟨j + 1, N, D, T, s2, r', by go_num, ?_, HRow.out.kept b6 (Nat.le_refl _), HA.out, hbel.trans b6, O5.out, I5.out, m2, m1, m4, m3, m6, m5, Lib.hid ?_, Lib.hid ?_, Lib.hid ?_, Lib.hid ?_⟩, by simp [intOf]; omega⟩
              · have t0 := HJ.out; simp only [Trees.len] at t0; omega
              · have t1 := H1.out; obtain ⟨y1, y2, y3, y4⟩ := Y.out; simp only [Trees.nodes] at t1; omega
              · have t2 := H2.out; obtain ⟨y1, y2, y3, y4⟩ := Y.out; simp only [Trees.bytes] at t2; omega
              · have t3 := H3.out; obtain ⟨y1, y2, y3, y4⟩ := Y.out; simp only [Trees.deep] at t3; omega
              · have t4 := H4.out; obtain ⟨y1, y2, y3, y4⟩ := Y.out; rw [← t4, y4]; simp only [Trees.pre, List.foldl_cons, List.foldl_append]
            · obtain rfl := no wk
              clear no yes
              have bad : ¬ WOk nd ks d n t := by
                rintro ⟨q1, q2, q3⟩
                apply wk
                have t1 := H1.out; have t2 := H2.out; have t3 := H3.out; have t4 := HMX.out; have t5 := HB.out
                simp only [Trees.nodes, Trees.bytes, Trees.deep] at t1 t2 t3
                refine ⟨?_, ?_, ?_⟩ <;> omega
              have BAD := Lib.hid bad; clear bad wk
              go_wp2
              go_ret
              exact ⟨N, D, T, s2, false, rfl, O5.out, I5.out, b02.trans (hbel.trans b6), fun x => absurd x BAD.out, fun _ => rfl⟩
          · have hz : rest.len = 0 := by omega
            obtain rfl := trees_nil hz
            have good : WOk nd ks d n t := by
              have t1 := H1.out; have t2 := H2.out; have t3 := H3.out; have t4 := HMX.out; have t5 := HB.out
              simp only [Trees.nodes, Trees.bytes, Trees.deep] at t1 t2 t3
              refine ⟨by omega, by omega, by omega⟩
            have HG := Lib.hid good; clear good
            go_wp2
            go_ret
            refine ⟨nn, dd, tt, s1, true, rfl, O4.out, I4.out, b02.trans hbel, fun _ => ⟨rfl, ?_, ?_, ?_, ?_⟩, fun x => absurd HG.out x⟩
            · have t1 := H1.out; simp only [Trees.nodes] at t1; omega
            · have t3 := H3.out; have t4 := HMX.out; simp only [Trees.deep] at t3; omega
            · have t2 := H2.out; have t5 := HB.out; simp only [Trees.bytes] at t2; omega
            · have t4 := H4.out; simp only [Trees.pre, List.foldl_nil] at t4; rw [t4, List.foldl_cons, ← HT.out.len]
  · have hk2 : (nd.kind == 2) = false := by simp [hk]
    have hbytes : (nd.bytes : Int) = 0 := by simp [Hd.bytes, hk]
    by_cases g : n + 1 > 512 ∨ d > 64 ∨ t > 16384
    · have bad : ¬ WOk nd ks d n t := by rintro ⟨x, y, z⟩; omega
      have BAD := Lib.hid bad; clear bad hbytes HT HI
      have g1 : 512 < n + 1 ∨ (n + 1 ≤ 512 ∧ 64 < d) ∨ (n + 1 ≤ 512 ∧ d ≤ 64 ∧ 16384 < t) := by omega
      clear g
      rcases g1 with g1 | ⟨g1, g2⟩ | ⟨g1, g2, g3⟩
      all_goals first | (exfalso; omega) | skip
      all_goals
        go_enter Try.func78, Try.ntmps78
        go_wp2
      all_goals
        skip
        go_wp2
        go_ret
        first
          | exact .bad HS.out HII.out (A1.out.drew.set (by omega) _) (O1.out.drew.setT _) BAD.out
          | exact .bad HS.out HII.out (A1.out.set (by omega) _).drew (O1.out.setT _).drew BAD.out
          | exact .bad HS.out HII.out ((((Apart.refl W w).set (by omega) _).set (by omega) _)) ((HO.out.setN _).setD _) BAD.out
          | fail
    · have g1 : n + 1 ≤ 512 := by omega
      have g2 : d ≤ 64 := by omega
      have g3 : t ≤ 16384 := by omega
      have HB := Lib.hid hbytes; clear hbytes g
      go_enter Try.func78, Try.ntmps78
      go_wp2
      all_goals
        skip
        generalize hW : World.setCell (World.setCell w _ _) _ _ = w3
        have o3 : Own5 w3 W (.func (.func fs) #[] caps) (n + 1) (max dp d) t := by rw [← hW]; have o := (HO.out.setN (n + 1)).setD (max dp d); first | (rw [Int.max_eq_left (by omega)] at o ⊢; exact o) | (rw [Int.max_eq_right (by omega)] at o ⊢; exact o)
        have a3 : Apart W w w3 := by rw [← hW]; exact ((Apart.refl W w).set (by omega) _).set (by omega) _
        clear hW
        have hmx0 : 0 ≤ max dp d := by omega
        have hmx1 : max dp d ≤ 64 := by omega
        generalize hmx : max dp d = mx at o3 hmx0 hmx1
        have HMX := Lib.hid hmx; clear hmx
        rw [HS.out.run, Oper.upon_enter]
        refine (HS.out.call n s w3 b off nd ka kl kc n0 (by omega) hb (by rw [a3.size]; omega) (HN.out.kept (a3.below hBW) hb) (HS.out.stable n s w w3 HII.out (fun k _ hk => a3.same k hk) (Nat.le_of_eq a3.size.symm))).mono ?_
        rintro e w2 ⟨rfl, i2, b2, k2⟩
        have o2 := o3.kept k2
        have b02 := (a3.below hBW).trans b2
        have N2 := HN.out.kept b02 hb
        obtain ⟨hlt2, -, -, -, -, -, -, -, -, -, -, -, -, -, c132, -, -, -, -, -, -⟩ := N2.facts
        have I2 := Lib.hid i2; clear i2
        have O2 := Lib.hid o2; clear o2
        have HN2 := Lib.hid N2; clear N2
        clear k2 a3 o3 cs cn cd ct fn' fd ft hz b2
        go_wp2_with fail
        go_loopw [49] (fun i wr => DRel (.func (.func fs) #[] caps) B W I step ks kl ka d (n + 1) mx t (step s (nd, kl)) w2 wr i) (fun i _ => kl - (intOf i).toNat)
        case atStart =>
          exact ⟨0, n + 1, mx, t, step s (nd, kl), ks, rfl, by have := HT.out.len; omega, HT.out.row.kept b02 (Nat.le_refl _), HI.out, Below.refl _ _, O2.out, I2.out, by omega, by omega, by omega, by omega, by omega, by omega, Lib.hid rfl, Lib.hid rfl, Lib.hid rfl, Lib.hid rfl⟩
        case round =>
          obtain ⟨j, nn, dd, tt, s1, rest, rfl, hj, hrow, hall, hbel, o4, i4, x0, x1, y0, y1, z0, z1, H1, H2, H3, H4⟩ := hrel
          have N4 := HN2.out.kept hbel hb
          obtain ⟨hlt4, -, -, -, -, -, -, -, -, -, -, -, -, -, c134, -, -, -, -, -, -⟩ := N4.facts
          clear N4
          have cw := cell_of_one o4.w
          have O4 := Lib.hid o4; clear o4
          have I4 := Lib.hid i4; clear i4
          by_cases hlt : j < kl
          · obtain ⟨h', k', r', rfl⟩ := trees_cons (rest := rest) (by omega)
            obtain ⟨b1, off1, ka', kl', kc', rfl, hb1, N1, tv1⟩ := hrow.head
            have HT1 := Lib.hid tv1; clear tv1
            have HN1 := Lib.hid N1; clear N1
            have HC := Lib.hid (hall.1); have HA := Lib.hid hall.2; clear hall
            have HRow := Lib.hid hrow.2; clear hrow
            have HJ := Lib.hid hj; clear hj
            have hlti : (j : Int) < (kl : Int) := by omega
            go_wp2_with fail
            go_still_tail 9, (by kernel_rfl)
            change wpList _ _ _ _ _ (World.drew _)
            go_wp2_with fail
            refine (HC.out _ b1 _ ka' kl' kc' (d + 1) nn dd tt s1 hb1 (HN1.out.kept ((Below.refl B _).drew) hb1) (HT1.out.kept ((Below.refl B _).drew) (Nat.le_refl _)) O4.out.drew (HS.out.stable _ s1 _ _ I4.out (fun _ _ _ => rfl) (Nat.le_refl _)) (by omega) (by omega) x0 x1 (by omega) z1 y0 y1).mono ?_
            rintro e w5 ⟨N, D, T, s2, ok, rfl, o5, i5, b5, yes, no⟩
            have b6 : Below B wr w5 := ((Below.refl _ wr).drew).trans b5
            have O5 := Lib.hid o5; clear o5
            have I5 := Lib.hid i5; clear i5
            clear b5 cw c134
            by_cases wk : WOk h' k' (d + 1) nn tt
            · obtain ⟨rfl, y1', y2', y3', y4'⟩ := yes wk
              obtain ⟨k1, k2, k3⟩ := wk
              clear no yes
              have m1 : N ≤ 512 := by omega
              have m2 : 0 ≤ N := by omega
              have m3 : T ≤ 16384 := by omega
              have m4 : 0 ≤ T := by omega
              have m5 : D ≤ 64 := by omega
              have m6 : mx ≤ D := by omega
              have Y := Lib.hid (And.intro y1' (And.intro y2' (And.intro y3' y4'))); clear y1' y2' y3' y4' k1 k2 k3
              go_wp2
              refine ⟨⟨j + 1, N, D, T, s2, r', by go_num, ?_, HRow.out.kept b6 (Nat.le_refl _), HA.out, hbel.trans b6, O5.out, I5.out, m2, m1, m4, m3, m6, m5, Lib.hid ?_, Lib.hid ?_, Lib.hid ?_, Lib.hid ?_⟩, by simp [intOf]; omega⟩
              · have t0 := HJ.out; simp only [Trees.len] at t0; omega
              · have t1 := H1.out; obtain ⟨y1, y2, y3, y4⟩ := Y.out; simp only [Trees.nodes] at t1; omega
              · have t2 := H2.out; obtain ⟨y1, y2, y3, y4⟩ := Y.out; simp only [Trees.bytes] at t2; omega
              · have t3 := H3.out; obtain ⟨y1, y2, y3, y4⟩ := Y.out; simp only [Trees.deep] at t3; omega
              · have t4 := H4.out; obtain ⟨y1, y2, y3, y4⟩ := Y.out; rw [← t4, y4]; simp only [Trees.pre, List.foldl_cons, List.foldl_append]
            · obtain rfl := no wk
              clear no yes
              have bad : ¬ WOk nd ks d n t := by
                rintro ⟨q1, q2, q3⟩
                apply wk
                have t1 := H1.out; have t2 := H2.out; have t3 := H3.out; have t4 := HMX.out; have t5 := HB.out
                simp only [Trees.nodes, Trees.bytes, Trees.deep] at t1 t2 t3
                refine ⟨?_, ?_, ?_⟩ <;> omega
              have BAD := Lib.hid bad; clear bad wk
              go_wp2
              go_ret
              exact ⟨N, D, T, s2, false, rfl, O5.out, I5.out, b02.trans (hbel.trans b6), fun x => absurd x BAD.out, fun _ => rfl⟩
          · have hz : rest.len = 0 := by omega
            obtain rfl := trees_nil hz
            have good : WOk nd ks d n t := by
              have t1 := H1.out; have t2 := H2.out; have t3 := H3.out; have t4 := HMX.out; have t5 := HB.out
              simp only [Trees.nodes, Trees.bytes, Trees.deep] at t1 t2 t3
              refine ⟨by omega, by omega, by omega⟩
            have HG := Lib.hid good; clear good
            go_wp2
            go_ret
            refine ⟨nn, dd, tt, s1, true, rfl, O4.out, I4.out, b02.trans hbel, fun _ => ⟨rfl, ?_, ?_, ?_, ?_⟩, fun x => absurd HG.out x⟩
            · have t1 := H1.out; simp only [Trees.nodes] at t1; omega
            · have t3 := H3.out; have t4 := HMX.out; simp only [Trees.deep] at t3; omega
            · have t2 := H2.out; have t5 := HB.out; simp only [Trees.bytes] at t2; omega
            · have t4 := H4.out; simp only [Trees.pre, List.foldl_nil] at t4; rw [t4, List.foldl_cons, ← HT.out.len]
theorem down_any {σ : Type} {see : Value} {fs : FuncId} {caps : Array Value} {B W : Nat} {I : Int → σ → World → Prop} {step : σ → Hd × Nat → σ} (S : SeeSpec see fs caps B W I step) (h : Hd) (ks : Trees) : Downs see B W I step h ks :=
  down_step S h ks (allT (down_step S) ks)
end Go.Proofs.Ytkjfeakbhfkldaa
