/- Trees: walk, and Size by it. -/
import Derived.Test.YtkjfeakbhfkldaaTreeH
import Derived.Test.YtkjfeakbhfkldaaTreeF
import Derived.RegionTactic
import Derived.Laws.EntriesVeiled
namespace Go.Proofs.Ytkjfeakbhfkldaa
open Go.RowKit

def WalkPost {σ : Type} (B : Nat) (I : Int → σ → World → Prop) (step : σ → Hd × Nat → σ) (h : Hd) (ks : Trees) (s : σ) (w : World) (e : Ending) (w' : World) : Prop :=
  ∃ (n d t : Int) (s' : σ) (ok : Bool), e = .returned (.tuple #[.int .i64 n, .int .i64 d, .int .i64 t, .bool ok]) ∧ I n s' w' ∧ Below B w w' ∧
    (Fine h ks → ok = true ∧ n = 1 + ks.nodes ∧ d = 1 + ks.deep ∧ t = h.bytes + ks.bytes ∧ s' = ((h, ks.len) :: ks.pre).foldl step s) ∧ (¬ Fine h ks → ok = false)

def downV (W : Nat) : Value := .func (.func 78) #[] #[.pointer (some ⟨W + 1, 0, none⟩), .pointer (some ⟨W + 2, 0, none⟩), .pointer (some ⟨W + 3, 0, none⟩), .pointer (some ⟨W, 0, none⟩), .pointer (some ⟨W + 4, 0, none⟩)]
theorem heap5 (w : World) (a b c d e : Obj) : (((((w.alloc a).alloc b).alloc c).alloc d).alloc e).heap[w.heap.size]? = some a ∧ (((((w.alloc a).alloc b).alloc c).alloc d).alloc e).heap[w.heap.size + 1]? = some b ∧
    (((((w.alloc a).alloc b).alloc c).alloc d).alloc e).heap[w.heap.size + 2]? = some c ∧ (((((w.alloc a).alloc b).alloc c).alloc d).alloc e).heap[w.heap.size + 3]? = some d ∧ (((((w.alloc a).alloc b).alloc c).alloc d).alloc e).heap[w.heap.size + 4]? = some e := by
  have hh : (((((w.alloc a).alloc b).alloc c).alloc d).alloc e).heap = ((((w.heap.push a).push b).push c).push d).push e := rfl
  rw [hh]
  refine ⟨?_, ?_, ?_, ?_, ?_⟩ <;> (simp only [Array.getElem?_push, Array.size_push]; repeat (first | rfl | rw [if_pos rfl] | rw [if_neg (by omega)]))
theorem own5_made (w : World) (see : Value) : Own5 (((((w.alloc (.cells #[see] 86)).alloc (.cells #[.int .i64 0] 3)).alloc (.cells #[.int .i64 0] 3)).alloc (.cells #[.int .i64 0] 3)).alloc (.cells #[downV w.heap.size] 105)) w.heap.size see 0 0 0 := by
  obtain ⟨a, b, c, d, e⟩ := heap5 w (.cells #[see] 86) (.cells #[.int .i64 0] 3) (.cells #[.int .i64 0] 3) (.cells #[.int .i64 0] 3) (.cells #[downV w.heap.size] 105)
  exact ⟨a, b, c, d, e⟩

set_option maxRecDepth 100000 in
set_option maxHeartbeats 4000000 in
theorem walk_any {σ : Type} {see : Value} {fs : FuncId} {caps : Array Value} {B : Nat} {I : Int → σ → World → Prop} {step : σ → Hd × Nat → σ} (w : World) (S : SeeSpec see fs caps B w.heap.size I step)
    (nd : Hd) (ks : Trees) (b off : Nat) (ka : Option Addr) (kl kc : Nat) (s : σ) (hb : b < B) (N : NodeAt w b off nd (.slice ka kl kc)) (tv : TreeV w B nd ks ka kl) (hI : I 0 s w) :
    Calls Try.prog 52 #[.pointer (some ⟨b, off, none⟩), see] w (WalkPost B I step nd ks s w) := by
  obtain rfl := S.val
  have hBW := S.le
  have hlt := N.1
  have HT := Lib.hid tv; clear tv
  have HS := Lib.hid S; clear S
  have HN := Lib.hid N; clear N
  have HII := Lib.hid hI; clear hI
  go_enter Try.func52, Try.ntmps52
  go_wp2_with fail
  have o1 := own5_made w (.func (.func fs) #[] caps)
  unfold downV at o1
  have b1 := ext_alloc (ext_alloc (ext_alloc (ext_alloc (ext_alloc (Below.refl _ w) (.cells #[.func (.func fs) #[] caps] 86)) (.cells #[.int .i64 0] 3)) (.cells #[.int .i64 0] 3)) (.cells #[.int .i64 0] 3)) (.cells #[downV w.heap.size] 105)
  unfold downV at b1
  generalize hW : World.alloc _ (Obj.cells _ 105) = w1
  have o2 : Own5 w1 w.heap.size (.func (.func fs) #[] caps) 0 0 0 := by rw [← hW]; exact o1
  have b2 : Below w.heap.size w w1 := by rw [← hW]; exact b1
  clear hW o1 b1
  have hz := o2.size
  refine (down_any HS.out nd ks w1 b off ka kl kc 1 0 0 0 s hb (HN.out.kept b2 hlt) (HT.out.kept b2 hBW) o2 (HS.out.stable 0 s w w1 HII.out (fun k hk _ => b2.block k hk) b2.size) (by decide) (by decide) (by decide) (by decide) (by decide) (by decide) (by decide) (by decide)).mono ?_
  rintro e w3 ⟨n', d', t', s', ok, rfl, o3, i3, b3, yes, no⟩
  rw [wok_fine] at yes no
  have Y := Lib.hid (And.intro yes no); clear yes no
  have I3 := Lib.hid i3; clear i3
  have B3 := Lib.hid ((b2.mono hBW).trans b3); clear b3 b2 o2 hz
  have cn := cell_of_one o3.n; have cd := cell_of_one o3.d; have ct := cell_of_one o3.t
  have fn' := free_of_one o3.n; have fd := free_of_one o3.d; have ft := free_of_one o3.t
  have O3 := Lib.hid o3; clear o3
  go_wp2_with fail
  go_region
  go_wp2
  generalize hW : World.drew (World.setCell (World.setCell (World.setCell w3 _ _) _ _) _ _) = w4
  have o4 : Own5 w4 w.heap.size (.func (.func fs) #[] caps) n' d' t' := by
    rw [← hW]; exact (((O3.out.setN n').setD d').setT t').drew
  have a4 : Apart w.heap.size w3 w4 := by
    rw [← hW]; exact ((((Apart.refl w.heap.size w3).set (by omega) _).set (by omega) _).set (by omega) _).drew
  clear hW cn cd ct fn' fd ft
  have cn := cell_of_one o4.n; have cd := cell_of_one o4.d; have ct := cell_of_one o4.t
  refine bodyPost_ret (v := .tuple #[.int .i64 n', .int .i64 d', .int .i64 t', .bool ok]) (by simp [results, Try.results52, go_sem, cn, cd, ct]) rfl ?_
  refine ⟨n', d', t', s', ok, rfl, HS.out.stable _ s' w3 w4 I3.out (fun k _ hk => a4.same k hk) (Nat.le_of_eq a4.size.symm), B3.out.trans (a4.below hBW), fun f => ?_, Y.out.2⟩
  obtain ⟨y1, y2, y3, y4, y5⟩ := Y.out.1 f
  exact ⟨y1, by omega, by omega, by omega, y5⟩

/-- A node that was boxed. -/
theorem node_box (w : World) (h : Hd) (ks : Value) : NodeAt (w.alloc (.cells #[.int .i64 h.kind, .int .i64 h.op, .int .i64 h.num, .string ⟨h.text.toArray⟩, .int .i64 h.ref.row, .int .i64 h.ref.col, .bool h.ref.pr, .bool h.ref.pc, .int .i64 h.to.row, .int .i64 h.to.col, .bool h.to.pr, .bool h.to.pc, .int .i64 h.fn, ks] 29)) w.heap.size 0 h ks := by
  refine ⟨by simp, fun j v hj => ?_⟩
  rw [World.cell?_alloc_at _ _ _ _ rfl, Nat.zero_add]
  rw [← hj]
  simp only [Hd.vals, List.getElem?_toArray]

/-- The function that sees any node. -/
theorem all_any (v : Value) (w : World) : Calls Try.prog 53 #[v] w fun e w' => e = .returned (.bool true) ∧ w = w' := by
  go_enter Try.func53, Try.ntmps53
  go_wp2
  go_ret
  exact ⟨rfl, rfl⟩
theorem all_spec {B W : Nat} (h : B ≤ W) : SeeSpec (.func (.func 53) #[] #[]) 53 #[] B W (fun _ (_ : Unit) _ => True) (fun s _ => s) :=
  ⟨rfl, h, fun _ _ => by kernel_rfl, fun _ _ w b off _ _ _ _ _ _ _ _ _ _ => (all_any _ w).mono fun _ _ ⟨a, b⟩ => ⟨a, trivial, b ▸ Below.refl _ _, fun _ _ _ => by rw [b]⟩, fun _ _ _ _ => trivial, fun _ _ _ _ _ _ _ => trivial⟩

set_option maxRecDepth 100000 in
set_option maxHeartbeats 1000000 in
theorem size_any (nd : Hd) (ks : Trees) (w : World) (B : Nat) (ka : Option Addr) (kl kc : Nat) (hB : B ≤ w.heap.size) (tv : TreeV w B nd ks ka kl) :
    Calls Try.prog 24 #[.agg #[.int .i64 nd.kind, .int .i64 nd.op, .int .i64 nd.num, .string ⟨nd.text.toArray⟩, .int .i64 nd.ref.row, .int .i64 nd.ref.col, .bool nd.ref.pr, .bool nd.ref.pc, .int .i64 nd.to.row, .int .i64 nd.to.col, .bool nd.to.pr, .bool nd.to.pc, .int .i64 nd.fn, .slice ka kl kc]] w (SizePost nd ks w) := by
  have HT := Lib.hid tv; clear tv
  go_enter Try.func24, Try.ntmps24
  go_wp2_with fail
  have N0 := node_box w nd (.slice ka kl kc)
  have hs1 : ∀ o : Obj, (w.alloc o).heap.size = w.heap.size + 1 := fun o => by simp
  refine (walk_any _ (all_spec (B := w.heap.size + 1) (by rw [hs1]; exact Nat.le_refl _)) nd ks w.heap.size 0 ka kl kc () (Nat.lt_succ_self _) N0 ((HT.out.kept ((Below.refl _ _).alloc hB _) (Nat.le_refl _)).mono (by omega)) trivial).mono ?_
  rintro e w2 ⟨n, d, t, s', ok, rfl, -, b2, yes, no⟩
  have b3 : Below w.heap.size w w2 := ((Below.refl _ _).alloc (Nat.le_refl _) _).trans (b2.mono (by omega))
  have B3 := Lib.hid b3
  clear b2 b3 N0 hs1
  by_cases f : Fine nd ks
  · obtain ⟨rfl, y1, y2, y3, -⟩ := yes f
    obtain ⟨s1, s2, s3⟩ := size_yes f
    have Y := Lib.hid (And.intro (y1.trans s1.symm) (And.intro (y2.trans s2.symm) (y3.trans s3.symm)))
    clear yes no f y1 y2 y3 s1 s2 s3
    go_wp2
    go_ret3
    exact ⟨ret3 Y.out.1 Y.out.2.1 Y.out.2.2, B3.out⟩
  · obtain rfl := no f
    obtain ⟨s1, s2, s3⟩ := size_no f
    have Y := Lib.hid (And.intro s1.symm (And.intro s2.symm s3.symm))
    clear yes no f s1 s2 s3
    go_wp2
    go_ret3
    exact ⟨ret3 Y.out.1 Y.out.2.1 Y.out.2.2, B3.out⟩
end Go.Proofs.Ytkjfeakbhfkldaa
