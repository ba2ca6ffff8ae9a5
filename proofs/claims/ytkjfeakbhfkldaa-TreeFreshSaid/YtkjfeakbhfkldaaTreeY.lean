/- Trees: Reads. -/
import Derived.Test.YtkjfeakbhfkldaaTreeU
import Derived.Test.YtkjfeakbhfkldaaTreeJ
import Derived.BigRegion
import Derived.Deep.RegionLaw
import Derived.Deep.AppendLies
namespace Go.Proofs.Ytkjfeakbhfkldaa
open Go.RowKit

/-- The row that the cell at g holds. -/
def ReadsI (g W : Nat) (n : Int) (s : List Ar) (w : World) : Prop := ∃ v, w.heap[g]? = some (.cells #[v] 41 (0, 0)) ∧ ArRow (W + 5) w s v ∧ (s.length : Int) ≤ n

/-- Two new blocks hold the node's two places. -/
structure R1F (nd : Hd) (w w1 : World) (p1 p2 : Nat) : Prop where
  bel : Below w.heap.size w w1
  sz : w1.heap.size = w.heap.size + 2
  one : ∀ o, w1.cell? ⟨p1, o, none⟩ = (#[.int .i64 nd.ref.row, .int .i64 nd.ref.col] : Array Value)[o]?
  two : ∀ o, w1.cell? ⟨p2, o, none⟩ = (#[.int .i64 nd.to.row, .int .i64 nd.to.col] : Array Value)[o]?
theorem reads_end {g W : Nat} {n : Int} {s : List Ar} {w w1 w2 w3 : World} {v : Value} {nd : Hd} {x : Ar} {O : Obj} {g' cap : Nat} (hvb : ∀ k, v.ownBlock = some k → W + 5 ≤ k ∧ k < w.heap.size) (hr : readN nd = [x]) (hn : (s.length : Int) ≤ n) (hgW : g < W) (hW : W + 5 ≤ w.heap.size)
    (bw : Below w.heap.size w w1) (hg1 : g < w1.heap.size) (hz : w1.heap.size = w.heap.size + 2) (b2 : Below w1.heap.size w1 w2) (hgrow : (w2.alloc O).grownBy w3 v.ownBlock) (hat : v.ownBlock = some g' ∨ g' = (w2.alloc O).heap.size)
    (hG3 : w3.heap[g]? = some (.cells #[v] 41 (0, 0))) (hown : w3.ownsRow (W + 5) 47 4 (.slice (some ⟨g', 0, none⟩) (s.length + 1) cap) (s.length + 1) (arCells s ++ x.vals)) :
    ReadsI g W (n + 1) (s ++ readN nd) (w3.setCell ⟨g, 0, none⟩ (.slice (some ⟨g', 0, none⟩) (s.length + 1) cap)) ∧ Below g w (w3.setCell ⟨g, 0, none⟩ (.slice (some ⟨g', 0, none⟩) (s.length + 1) cap)) ∧
      ∀ k, W ≤ k → k < W + 5 → (w3.setCell ⟨g, 0, none⟩ (.slice (some ⟨g', 0, none⟩) (s.length + 1) cap)).heap[k]? = w.heap[k]? := by
  have hsz2 := b2.size
  have hq : g' ≠ g := by
    rintro rfl
    rcases hat with e | e
    · have := (hvb _ e).1; omega
    · simp at e; omega
  have b12 : Below w.heap.size w w2 := bw.trans (b2.mono (by omega))
  have bl : Below (W + 5) w w3 := (b12.mono hW).trans (((Below.refl (W + 5) w2).alloc (by omega) O).grown hgrow (by simp; omega) (fun k hk => (hvb k hk).1))
  refine ⟨⟨_, one_setCell hG3, ?_, ?_⟩, (bl.mono (by omega)).setCell (p := ⟨g, 0, none⟩) (Nat.le_refl g) _, fun k hk hk2 => (Below.heap_setCell _ _ _ _ (by simp; omega)).trans (bl.block k (by omega))⟩
  · have a : ArRow (W + 5) w3 (s ++ readN nd) (.slice (some ⟨g', 0, none⟩) (s.length + 1) cap) := by
      unfold ArRow
      rw [hr, arCells_app, List.length_append]
      simpa [arCells] using hown
    exact a.kept fun k hk => Below.heap_setCell _ _ _ _ (by simp [Value.ownBlock] at hk; subst hk; simpa using hq)
  · rw [hr, List.length_append]; simp; omega

set_option maxRecDepth 100000 in
set_option maxHeartbeats 4000000 in
theorem reads1_any (g W : Nat) (hgW : g < W) (n : Int) (s : List Ar) (w : World) (b off : Nat) (nd : Hd) (ka : Option Addr) (kl kc : Nat) (n0 : 0 ≤ n) (n1 : n < 512) (_hb : b < g) (hW : W + 5 ≤ w.heap.size) (N : NodeAt w b off nd (.slice ka kl kc)) (hI : ReadsI g W n s w) :
    Calls Try.prog 55 #[.pointer (some ⟨b, off, none⟩), .pointer (some ⟨g, 0, none⟩)] w fun e w' =>
      e = .returned (.bool true) ∧ ReadsI g W (n + 1) (s ++ readN nd) w' ∧ Below g w w' ∧ ∀ k, W ≤ k → k < W + 5 → w'.heap[k]? = w.heap[k]? := by
  obtain ⟨i0, hi, hz0, hz1, hz2⟩ := info_parts infoAr
  obtain ⟨v, hg, hv, hn⟩ := hI
  obtain ⟨hlt, c0, -, -, -, c4, c5, -, -, c8, c9, -, -, -, -, -, -, -, -, -, -⟩ := N.facts
  have HN := Lib.hid N; clear N
  have HG := Lib.hid hg
  have HV := Lib.hid hv
  clear hg hv
  go_enter Try.func55, Try.ntmps55
  have hgs : g < w.heap.size := by omega
  have hvb : ∀ k, v.ownBlock = some k → W + 5 ≤ k ∧ k < w.heap.size := fun k hk => HV.out.lt k hk
  have HVB := Lib.hid hvb; clear hvb
  go_wp2_with fail
  rename_i K hK
  have key : ∀ (p1 p2 : Nat) (w1 : World) (x6 x7 x8 x9 x10 x11 x12 x13 x14 x15 x16 x17 x18 x19 x20 x21 x22 x23 x24 x25 x26 x27 : Value), R1F nd w w1 p1 p2 →
      K { tmps := #[.pointer (some ⟨b, off, none⟩), .pointer (some ⟨g, 0, none⟩), undef, .bool false, .pointer (some ⟨p1, 0, none⟩), .pointer (some ⟨p2, 0, none⟩), x6, x7, x8, x9, x10, x11, x12, x13, x14, x15, x16, x17, x18, x19, x20, x21, x22, x23, x24, x25, x26, x27, undef, undef, undef, undef, undef, undef, undef, undef, undef, undef, undef, undef, undef, undef, undef, undef, undef, undef, undef, undef], defers := [] } w1 := by
    intro p1 p2 w1 x6 x7 x8 x9 x10 x11 x12 x13 x14 x15 x16 x17 x18 x19 x20 x21 x22 x23 x24 x25 x26 x27 hF
    refine hK _ _ ?_
    clear hK
    have ca := hF.one
    have cb := hF.two
    have hz1' := hF.sz
    have bw := hF.bel
    clear hF
    have hg1 : g < w1.heap.size := by omega
    have hG1 : w1.heap[g]? = some (.cells #[v] 41 (0, 0)) := (bw.block g hgs).trans HG.out
    have cg1 := cell_of_one hG1
    have fg1 := free_of_one hG1
    have HG1 := Lib.hid hG1; clear hG1
    have HV1 : Hid (ArRow (W + 5) w1 s v) := Lib.hid (HV.out.kept fun k hk => bw.block k (HVB.out k hk).2)
    have c0' : w1.cell? ⟨b, off, none⟩ = some (.int .i64 nd.kind) := (bw.cell (p := ⟨b, off, none⟩) hlt).trans c0
    have hlt1 : b < w1.heap.size := by omega
    have BW := Lib.hid bw
    clear c0 c4 c5 c8 c9 bw
    by_cases k5 : nd.kind = 5
    · have e5 : (nd.kind == 5) = true := by simp [k5]
      have hr : readN nd = [arOf nd.ref.row nd.ref.col nd.ref.row nd.ref.col] := by simp [readN, k5]
      have HR := Lib.hid hr; clear hr
      have K5 := Lib.hid k5; clear k5
      go_wp2_with fail
      go_region_law (first
        | (go_simp
           go_at_call 56
           refine (areaOf_any _ _ _ _ _).mono ?_
           rintro e w2 ⟨rfl, b2'⟩
           have b2 : Below w1.heap.size w1 w2 := ((Below.refl _ w1).drew).trans b2'
           have hsz2 := b2.size
           have hown : w2.ownsRow (W + 5) 47 4 v s.length (arCells s) := HV1.out.kept fun k hk => b2.block k (by have := (HVB.out k hk).2; omega)
           have hG2 : w2.heap[g]? = some (.cells #[v] 41 (0, 0)) := (b2.block g hg1).trans HG1.out
           have cg2 := cell_of_one hG2
           have lg2 := lt_of_block hG2
           have cg2a : ∀ O : Obj, (w2.alloc O).cell? ⟨g, 0, none⟩ = some v := fun O => by rw [World.cell?_alloc_lt _ _ _ lg2]; exact cg2
           have B2 := Lib.hid b2; have HG2 := Lib.hid hG2
           clear b2' b2 hG2)
        | (refine step_append_lies _ rfl (.tmp 34) (.tmp 38) 41 rfl (W + 5) 47 i0 _ 4 32 Try.underlying41 hi hz0 hz1 hz2 rfl (by decide) v s.length (arCells s) (by simp [Act.eval]) (hown.alloc _) ⟨w2.heap.size, 0, none⟩ 1 1 (arOf nd.ref.row nd.ref.col nd.ref.row nd.ref.col).vals (by simp [Act.eval]) rfl (World.news_of_block (heap_alloc_new w2 _)) (by simp [Value.oneCell', Ar.vals]) (by decide) (by unfold maxLen; omega) (by omega) (by simp; omega) _ rfl ?_
           intro g' cap w3 hown3 hgrow hat hlt3
           have hne : some g ≠ v.ownBlock := fun e => by have := (HVB.out g e.symm).1; omega
           have hG3 : w3.heap[g]? = some (.cells #[v] 41 (0, 0)) := (hgrow.block g (by simp; omega) hne).trans ((Below.heap_alloc _ _ _ lg2).trans HG2.out)
           have cg3 := cell_of_one hG3
           have fg3 := free_of_one hG3
           have HG3 := Lib.hid hG3; have HO3 := Lib.hid hown3; have HW3 := Lib.hid hgrow
           clear hG3 hown3 hgrow))
      all_goals
        have fin := reads_end HVB.out HR.out hn hgW hW BW.out hg1 hz1' B2.out HW3.out hat HG3.out HO3.out
        have FIN := Lib.hid fin; clear fin
        clear hat cg2 cg2a cg3 fg3 hown
        go_wp2
        go_ret
        exact ⟨rfl, FIN.out⟩
    by_cases k6 : nd.kind = 6
    · have e5 : (nd.kind == 5) = false := by simp [k5]
      have e6 : (nd.kind == 6) = true := by simp [k6]
      have hr : readN nd = [arOf nd.ref.row nd.ref.col nd.to.row nd.to.col] := by simp [readN, k6]
      have HR := Lib.hid hr; clear hr
      have K5 := Lib.hid k5; clear k5
      have K6 := Lib.hid k6; clear k6
      go_wp2_with fail
      go_region_law (first
        | (go_simp
           go_at_call 56
           refine (areaOf_any _ _ _ _ _).mono ?_
           rintro e w2 ⟨rfl, b2'⟩
           have b2 : Below w1.heap.size w1 w2 := ((Below.refl _ w1).drew).trans b2'
           have hsz2 := b2.size
           have hown : w2.ownsRow (W + 5) 47 4 v s.length (arCells s) := HV1.out.kept fun k hk => b2.block k (by have := (HVB.out k hk).2; omega)
           have hG2 : w2.heap[g]? = some (.cells #[v] 41 (0, 0)) := (b2.block g hg1).trans HG1.out
           have cg2 := cell_of_one hG2
           have lg2 := lt_of_block hG2
           have cg2a : ∀ O : Obj, (w2.alloc O).cell? ⟨g, 0, none⟩ = some v := fun O => by rw [World.cell?_alloc_lt _ _ _ lg2]; exact cg2
           have B2 := Lib.hid b2; have HG2 := Lib.hid hG2
           clear b2' b2 hG2)
        | (refine step_append_lies _ rfl (.tmp 42) (.tmp 46) 41 rfl (W + 5) 47 i0 _ 4 32 Try.underlying41 hi hz0 hz1 hz2 rfl (by decide) v s.length (arCells s) (by simp [Act.eval]) (hown.alloc _) ⟨w2.heap.size, 0, none⟩ 1 1 (arOf nd.ref.row nd.ref.col nd.to.row nd.to.col).vals (by simp [Act.eval]) rfl (World.news_of_block (heap_alloc_new w2 _)) (by simp [Value.oneCell', Ar.vals]) (by decide) (by unfold maxLen; omega) (by omega) (by simp; omega) _ rfl ?_
           intro g' cap w3 hown3 hgrow hat hlt3
           have hne : some g ≠ v.ownBlock := fun e => by have := (HVB.out g e.symm).1; omega
           have hG3 : w3.heap[g]? = some (.cells #[v] 41 (0, 0)) := (hgrow.block g (by simp; omega) hne).trans ((Below.heap_alloc _ _ _ lg2).trans HG2.out)
           have cg3 := cell_of_one hG3
           have fg3 := free_of_one hG3
           have HG3 := Lib.hid hG3; have HO3 := Lib.hid hown3; have HW3 := Lib.hid hgrow
           clear hG3 hown3 hgrow))
      all_goals
        have fin := reads_end HVB.out HR.out hn hgW hW BW.out hg1 hz1' B2.out HW3.out hat HG3.out HO3.out
        have FIN := Lib.hid fin; clear fin
        clear hat cg2 cg2a cg3 fg3 hown
        go_wp2
        go_ret
        exact ⟨rfl, FIN.out⟩
    · have e5 : (nd.kind == 5) = false := by simp [k5]
      have e6 : (nd.kind == 6) = false := by simp [k6]
      have hr : readN nd = [] := by simp [readN, k5, k6]
      have HR := Lib.hid hr; clear hr
      have K5 := Lib.hid k5; clear k5
      have K6 := Lib.hid k6; clear k6
      go_wp2
      go_ret
      refine ⟨rfl, ⟨v, HG1.out, ?_, ?_⟩, BW.out.mono (by omega), fun k _ hk => BW.out.block k (by omega)⟩
      · rw [HR.out, List.append_nil]; exact HV1.out
      · rw [HR.out, List.append_nil]; omega
  have HK := Lib.hid key
  clear key hK
  go_region
  all_goals
    refine HK.out _ _ _ _ _ _ _ _ _ _ _ _ _ _ _ _ _ _ _ _ _ _ _ _ _ ?_
    first
      | exact ⟨(ext_alloc (ext_alloc (Below.refl _ w) _) _).drew, by simp [World.drew], fun o => cells_of_block (heap_alloc2_old w _ _) _, fun o => cells_of_block (heap_alloc2_new w _ _) _⟩
      | exact ⟨(ext_alloc (ext_alloc (Below.refl _ w) _) _).drew, by simp [World.drew], fun o => cells_of_block (heap_alloc2_new w _ _) _, fun o => cells_of_block (heap_alloc2_old w _ _) _⟩
end Go.Proofs.Ytkjfeakbhfkldaa
