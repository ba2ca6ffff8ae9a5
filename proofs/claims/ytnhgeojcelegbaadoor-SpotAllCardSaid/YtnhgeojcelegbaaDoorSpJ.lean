/- References' texts: the order of places. -/
import Derived.Test.YtnhgeojcelegbaaDoorSpI
import Derived.StillTailTactics
namespace Go.Proofs.YtnhgeojcelegbaaDoor
open Go.RowKit Go.Lib

def orN (x y : Int) : Int := if x = 0 then y else x
set_option maxHeartbeats 1000000 in
theorem cmpOr_any (x y : Int) (b : Nat) (w : World) (c0 : w.cell? ⟨b, 0, none⟩ = some (.int .i64 x)) (c1 : w.cell? ⟨b, 1, none⟩ = some (.int .i64 y)) :
    Calls Tryd.prog 73 #[.slice (some ⟨b, 0, none⟩) 2 2] w fun e w' => e = .returned (.int .i64 (orN x y)) ∧ w = w' := by
  go_enter Tryd.func73, Tryd.ntmps73
  go_wp2
  go_loop [8] (fun i => ∃ k : Nat, i = .int .i64 k ∧ k ≤ 2 ∧ Hid (0 < k → x = 0) ∧ Hid (1 < k → y = 0)) (fun i => 2 - (intOf i).toNat)
  case atStart => exact ⟨0, rfl, by omega, Lib.hid (fun h => absurd h (by omega)), Lib.hid (fun h => absurd h (by omega))⟩
  case round =>
    obtain ⟨k, rfl, hk, H0, H1⟩ := hrel
    match k, hk with
    | 0, _ =>
      by_cases hx : x = 0
      · have HX := Lib.hid hx
        have hb : (x != 0) = false := by simpa using hx
        clear hx
        go_wp2
        go_round
        case rel => exact ⟨1, rfl, by omega, Lib.hid (fun _ => HX.out), Lib.hid (fun h => absurd h (by omega))⟩
        case measure => simp [intOf]
      · have HX := Lib.hid hx
        have hb : (x != 0) = true := by simpa using hx
        clear hx
        go_wp2
        go_ret
        exact ⟨by rw [orN, if_neg HX.out]; rfl, rfl⟩
    | 1, _ =>
      have HX := Lib.hid (H0.out (by omega))
      by_cases hy : y = 0
      · have HY := Lib.hid hy
        have hb : (y != 0) = false := by simpa using hy
        clear hy
        go_wp2
        go_round
        case rel => exact ⟨2, rfl, by omega, Lib.hid (fun _ => HX.out), Lib.hid (fun _ => HY.out)⟩
        case measure => simp [intOf]
      · have hb : (y != 0) = true := by simpa using hy
        clear hy
        go_wp2
        go_ret
        exact ⟨by rw [orN, if_pos HX.out]; rfl, rfl⟩
    | 2, _ =>
      have HX := Lib.hid (H0.out (by omega)); have HY := Lib.hid (H1.out (by omega))
      go_wp2
      go_ret
      exact ⟨by rw [orN, if_pos HX.out, HY.out]; rfl, rfl⟩
theorem cmpS_eq (ar ac br bc : Int) : orN (compareInt ar br) (compareInt ac bc) = cmpS ar ac br bc := by
  unfold orN compareInt cmpS
  repeat' split
  all_goals omega
structure TwoS (w W : World) (ar ac br bc : Int) : Prop where
  bel : Below w.heap.size w W
def CmpPost (v : Int) (w : World) (e : Ending) (w' : World) : Prop := e = .returned (.int .i64 v) ∧ Below w.heap.size w w'
set_option maxHeartbeats 1000000 in
theorem spCompare_any (ar ac br bc : Int) (w : World) : Calls Tryd.prog 29 #[.agg #[.int .i64 ar, .int .i64 ac], .agg #[.int .i64 br, .int .i64 bc]] w (CmpPost (cmpS ar ac br bc) w) := by
  have BB := Lib.hid (ext_alloc (ext_alloc (Below.refl _ w) (.cells #[.int .i64 ar, .int .i64 ac] 39)) (.cells #[.int .i64 br, .int .i64 bc] 39))
  go_enter Tryd.func29, Tryd.ntmps29
  go_wp2_with fail
  have cO : ∀ (x y : Int) (b : Nat) (W : World), W.cell? ⟨b, 0, none⟩ = some (.int .i64 x) → W.cell? ⟨b, 1, none⟩ = some (.int .i64 y) → Calls Tryd.prog 73 #[.slice (some ⟨b, 0, none⟩) 2 2] W fun e w' => e = .returned (.int .i64 (orN x y)) ∧ W = w' := fun x y b W h1 h2 => cmpOr_any x y b W h1 h2
  have CO := Lib.hid cO
  clear cO
  have h1 : ∀ (o : Nat), ((w.alloc (.cells (#[.int .i64 ar, .int .i64 ac] : Array Value) 39)).alloc (.cells (#[.int .i64 br, .int .i64 bc] : Array Value) 39)).cell? ⟨w.heap.size, o, none⟩ = (#[.int .i64 ar, .int .i64 ac] : Array Value)[o]? := fun o => (kept_block2 (Below.refl _ _)).2.1 o
  have h2 : ∀ (o : Nat), ((w.alloc (.cells (#[.int .i64 ar, .int .i64 ac] : Array Value) 39)).alloc (.cells (#[.int .i64 br, .int .i64 bc] : Array Value) 39)).cell? ⟨w.heap.size + 1, o, none⟩ = (#[.int .i64 br, .int .i64 bc] : Array Value)[o]? := fun o => (kept_block2 (Below.refl _ _)).2.2 o
  have g1 : ∀ (O : Obj) (o : Nat), (((w.alloc (.cells (#[.int .i64 ar, .int .i64 ac] : Array Value) 39)).alloc (.cells (#[.int .i64 br, .int .i64 bc] : Array Value) 39)).alloc O).cell? ⟨w.heap.size, o, none⟩ = (#[.int .i64 ar, .int .i64 ac] : Array Value)[o]? := fun O o => (World.cell?_alloc_past _ _ _ (by simp; omega)).trans (h1 o)
  have g2 : ∀ (O : Obj) (o : Nat), (((w.alloc (.cells (#[.int .i64 ar, .int .i64 ac] : Array Value) 39)).alloc (.cells (#[.int .i64 br, .int .i64 bc] : Array Value) 39)).alloc O).cell? ⟨w.heap.size + 1, o, none⟩ = (#[.int .i64 br, .int .i64 bc] : Array Value)[o]? := fun O o => (World.cell?_alloc_past _ _ _ (by simp)).trans (h2 o)
  have n0 : ∀ (x y : Int) (T : TypeId), (((w.alloc (.cells (#[.int .i64 ar, .int .i64 ac] : Array Value) 39)).alloc (.cells (#[.int .i64 br, .int .i64 bc] : Array Value) 39)).alloc (.cells #[.int .i64 x, .int .i64 y] T)).drew.cell? ⟨w.heap.size + 1 + 1, 0, none⟩ = some (.int .i64 x) := fun x y T => show World.cell? (World.alloc _ _) _ = _ from World.cell?_alloc_at _ _ _ _ (by simp)
  have n1 : ∀ (x y : Int) (T : TypeId), (((w.alloc (.cells (#[.int .i64 ar, .int .i64 ac] : Array Value) 39)).alloc (.cells (#[.int .i64 br, .int .i64 bc] : Array Value) 39)).alloc (.cells #[.int .i64 x, .int .i64 y] T)).drew.cell? ⟨w.heap.size + 1 + 1, 1, none⟩ = some (.int .i64 y) := fun x y T => show World.cell? (World.alloc _ _) _ = _ from World.cell?_alloc_at _ _ _ _ (by simp)
  have N0 := Lib.hid n0; have N1 := Lib.hid n1; have G1 := Lib.hid g1; have G2 := Lib.hid g2
  clear n0 n1 g1 g2
  go_region_held3 (fun W => (∀ o, W.cell? ⟨w.heap.size, o, none⟩ = (#[.int .i64 ar, .int .i64 ac] : Array Value)[o]?) ∧ (∀ o, W.cell? ⟨w.heap.size + 1, o, none⟩ = (#[.int .i64 br, .int .i64 bc] : Array Value)[o]?)) (first | assumption | exact ⟨h1, h2⟩ | exact ⟨G1.out _, G2.out _⟩) (first
    | (go_at_call 74
       refine (Tryd.cmp_Compare_int _ _ _).mono ?_
       rintro e w' ⟨rfl, rfl⟩)
    | (go_at_call 73
       refine (CO.out (compareInt ar br) (compareInt ac bc) (w.heap.size + 1 + 1) _ (N0.out _ _ _) (N1.out _ _ _)).mono ?_
       rintro e w' ⟨rfl, rfl⟩))
  all_goals
    go_wp2
    go_ret
    exact ⟨by rw [cmpS_eq]; rfl, (by repeat (first | exact BB.out | refine ext_alloc ?_ _ | refine Below.drew ?_))⟩
end Go.Proofs.YtnhgeojcelegbaaDoor
