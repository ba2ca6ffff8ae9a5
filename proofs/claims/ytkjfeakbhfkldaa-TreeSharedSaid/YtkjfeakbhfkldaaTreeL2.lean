/- TreeShared: trees whose lists of kids are shared. -/
import Derived.Test.YtkjfeakbhfkldaaTreeL0
import Derived.Test.YtkjfeakbhfkldaaTreeBg
import Derived.Test.YtkjfeakbhfkldaaTreeArg
import Derived.Test.YtkjfeakbhfkldaaLaw
namespace Go.Proofs.Ytkjfeakbhfkldaa
open Go.ChangeShapes Go.WideShapes Go.ChangeAt Go.RowKit

set_option maxRecDepth 100000 in
theorem u8Arg {H : Type} {enc : TypeId × Value → H} {W : World} {base b1 : Nat} {sp : Nat → Bool} {held : Bool} {r : Reach} {v : Value} {d : DataW H} {p : List MemPlace} (hv : Value.okWide Try.prog W r base 5 v) (h : DataW.Trod enc Try.prog W b1 sp held 5 v d p) : ∃ n : Int, v = .int .u8 n ∧ 0 ≤ n ∧ n ≤ 255 := by
  obtain ⟨fuel, hf⟩ := h
  obtain ⟨n, e, -, hw⟩ := DataW.trod_int Try.underlying5 hf
  obtain ⟨m, rfl⟩ := okWide_int Try.underlying5 hv
  simp [Value.cells] at e
  subst e
  exact ⟨_, rfl, bounds_u8 hw⟩
def OkB (w wr : World) (b : Nat) : Prop := b < wr.heap.size ∧ b ≠ w.heap.size
def ShRel (w : World) (n : Int) (wr : World) (i : Value) : Prop :=
  ∃ (j : Nat) (na : Hd) (ks : Trees) (xa : Option Addr) (xl xc : Nat), i = .int .u8 j ∧ (j : Int) ≤ n % 64 ∧ Below w.heap.size w wr ∧ wr.heap[w.heap.size]? = some (.cells #[.int .i64 na.kind, .int .i64 na.op, .int .i64 na.num, .string ⟨na.text.toArray⟩, .int .i64 na.ref.row, .int .i64 na.ref.col, .bool na.ref.pr, .bool na.ref.pc, .int .i64 na.to.row, .int .i64 na.to.col, .bool na.to.pr, .bool na.to.pc, .int .i64 na.fn, .slice xa xl xc] 29 (0, 0)) ∧ Hid (TreeX wr (OkB w wr) na ks xa xl)

set_option maxRecDepth 100000 in
set_option maxHeartbeats 4000000 in
theorem treeShared_any (w : World) (nt : Hd) (kt : Trees) (ta : Option Addr) (tl tc : Nat) (n : Int) (n0 : 0 ≤ n) (n1 : n ≤ 255) (tv : TreeV w w.heap.size nt kt ta tl) : Calls Try.prog 4 #[.agg #[.int .i64 nt.kind, .int .i64 nt.op, .int .i64 nt.num, .string ⟨nt.text.toArray⟩, .int .i64 nt.ref.row, .int .i64 nt.ref.col, .bool nt.ref.pr, .bool nt.ref.pc, .int .i64 nt.to.row, .int .i64 nt.to.col, .bool nt.to.pr, .bool nt.to.pc, .int .i64 nt.fn, .slice ta tl tc], .int .u8 n] w (TruePost w) := by
  have X0 : Hid (TreeX w (fun b => b < w.heap.size) nt kt ta tl) := Lib.hid (TreeX.of tv fun b hb => hb)
  clear tv
  go_enter Try.func4, Try.ntmps4
  go_wp2_with fail
  refine (begun_any _).mono ?_
  rintro e w1 ⟨rfl, b1⟩
  have hb1 : w1.heap[w.heap.size]? = some (.cells #[.int .i64 nt.kind, .int .i64 nt.op, .int .i64 nt.num, .string ⟨nt.text.toArray⟩, .int .i64 nt.ref.row, .int .i64 nt.ref.col, .bool nt.ref.pr, .bool nt.ref.pc, .int .i64 nt.to.row, .int .i64 nt.to.col, .bool nt.to.pr, .bool nt.to.pc, .int .i64 nt.fn, .slice ta tl tc] 29 (0, 0)) := (b1.block _ (by simp)).trans (heap_alloc_new _ _)
  have hs1 : w.heap.size < w1.heap.size := lt_of_block hb1
  have B1 : Hid (Below w.heap.size w w1) := Lib.hid ((ext_alloc (Below.refl _ w) _).trans (b1.mono (by simp)))
  have H1 := Lib.hid hb1
  clear b1 hb1
  go_wp2_with fail
  go_loopw [5] (fun i wr => ShRel w n wr i) (fun i _ => 64 - (intOf i).toNat)
  case atStart => exact ⟨0, nt, kt, ta, tl, tc, rfl, by omega, B1.out, H1.out, Lib.hid (X0.out.kept fun b hb => ⟨⟨by omega, by omega⟩, B1.out.block b hb⟩)⟩
  case round =>
    obtain ⟨j, na, ks, xa, xl, xc, rfl, hj, hb, hx, TX⟩ := hrel
    have cb := cells_of_block hx
    have fb := frees_of_block hx
    have hsz := lt_of_block hx
    by_cases hlt : (j : Int) < n % 64
    · go_wp2
      refine ⟨?_, by simp [intOf]; omega⟩
      change ShRel w n ((World.setCells wr w.heap.size 0 [.int .i64 8, .int .i64 (1 + (j : Int) % 12), .int .i64 0, .string ⟨#[]⟩, .int .i64 0, .int .i64 0, .bool false, .bool false, .int .i64 0, .int .i64 0, .bool false, .bool false, .int .i64 0, .slice (some ⟨wr.heap.size, 0, none⟩) 2 2]).alloc (.cells #[.int .i64 na.kind, .int .i64 na.op, .int .i64 na.num, .string ⟨na.text.toArray⟩, .int .i64 na.ref.row, .int .i64 na.ref.col, .bool na.ref.pr, .bool na.ref.pc, .int .i64 na.to.row, .int .i64 na.to.col, .bool na.to.pr, .bool na.to.pc, .int .i64 na.fn, .slice xa xl xc, .int .i64 na.kind, .int .i64 na.op, .int .i64 na.num, .string ⟨na.text.toArray⟩, .int .i64 na.ref.row, .int .i64 na.ref.col, .bool na.ref.pr, .bool na.ref.pc, .int .i64 na.to.row, .int .i64 na.to.col, .bool na.to.pr, .bool na.to.pc, .int .i64 na.fn, .slice xa xl xc] 29)) _
      clear cb fb
      have hx2 := setCells_all (vs := [.int .i64 8, .int .i64 (1 + (j : Int) % 12), .int .i64 0, .string ⟨#[]⟩, .int .i64 0, .int .i64 0, .bool false, .bool false, .int .i64 0, .int .i64 0, .bool false, .bool false, .int .i64 0, .slice (some ⟨wr.heap.size, 0, none⟩) 2 2]) hx rfl
      have hz2 := setCells_size [.int .i64 8, .int .i64 (1 + (j : Int) % 12), .int .i64 0, .string ⟨#[]⟩, .int .i64 0, .int .i64 0, .bool false, .bool false, .int .i64 0, .int .i64 0, .bool false, .bool false, .int .i64 0, .slice (some ⟨wr.heap.size, 0, none⟩) 2 2] 0 w.heap.size wr
      have hb2 := setCells_below (Nat.le_refl w.heap.size) [.int .i64 8, .int .i64 (1 + (j : Int) % 12), .int .i64 0, .string ⟨#[]⟩, .int .i64 0, .int .i64 0, .bool false, .bool false, .int .i64 0, .int .i64 0, .bool false, .bool false, .int .i64 0, .slice (some ⟨wr.heap.size, 0, none⟩) 2 2] 0 hb
      have hk2 : ∀ k, k ≠ w.heap.size → _ := fun k hk => setCells_other hk [.int .i64 8, .int .i64 (1 + (j : Int) % 12), .int .i64 0, .string ⟨#[]⟩, .int .i64 0, .int .i64 0, .bool false, .bool false, .int .i64 0, .int .i64 0, .bool false, .bool false, .int .i64 0, .slice (some ⟨wr.heap.size, 0, none⟩) 2 2] 0 wr
      generalize hB : World.setCells wr w.heap.size 0 [.int .i64 8, .int .i64 (1 + (j : Int) % 12), .int .i64 0, .string ⟨#[]⟩, .int .i64 0, .int .i64 0, .bool false, .bool false, .int .i64 0, .int .i64 0, .bool false, .bool false, .int .i64 0, .slice (some ⟨wr.heap.size, 0, none⟩) 2 2] = w2 at *
      clear hB
      have hx3 := (Below.heap_alloc w2 (.cells #[.int .i64 na.kind, .int .i64 na.op, .int .i64 na.num, .string ⟨na.text.toArray⟩, .int .i64 na.ref.row, .int .i64 na.ref.col, .bool na.ref.pr, .bool na.ref.pc, .int .i64 na.to.row, .int .i64 na.to.col, .bool na.to.pr, .bool na.to.pc, .int .i64 na.fn, .slice xa xl xc, .int .i64 na.kind, .int .i64 na.op, .int .i64 na.num, .string ⟨na.text.toArray⟩, .int .i64 na.ref.row, .int .i64 na.ref.col, .bool na.ref.pr, .bool na.ref.pc, .int .i64 na.to.row, .int .i64 na.to.col, .bool na.to.pr, .bool na.to.pc, .int .i64 na.fn, .slice xa xl xc] 29) w.heap.size (by omega)).trans hx2
      have hb3 := ext_alloc hb2 (.cells #[.int .i64 na.kind, .int .i64 na.op, .int .i64 na.num, .string ⟨na.text.toArray⟩, .int .i64 na.ref.row, .int .i64 na.ref.col, .bool na.ref.pr, .bool na.ref.pc, .int .i64 na.to.row, .int .i64 na.to.col, .bool na.to.pr, .bool na.to.pc, .int .i64 na.fn, .slice xa xl xc, .int .i64 na.kind, .int .i64 na.op, .int .i64 na.num, .string ⟨na.text.toArray⟩, .int .i64 na.ref.row, .int .i64 na.ref.col, .bool na.ref.pr, .bool na.ref.pc, .int .i64 na.to.row, .int .i64 na.to.col, .bool na.to.pr, .bool na.to.pc, .int .i64 na.fn, .slice xa xl xc] 29)
      have hk3 : ∀ b, b ≠ w.heap.size → b < wr.heap.size → (w2.alloc (.cells #[.int .i64 na.kind, .int .i64 na.op, .int .i64 na.num, .string ⟨na.text.toArray⟩, .int .i64 na.ref.row, .int .i64 na.ref.col, .bool na.ref.pr, .bool na.ref.pc, .int .i64 na.to.row, .int .i64 na.to.col, .bool na.to.pr, .bool na.to.pc, .int .i64 na.fn, .slice xa xl xc, .int .i64 na.kind, .int .i64 na.op, .int .i64 na.num, .string ⟨na.text.toArray⟩, .int .i64 na.ref.row, .int .i64 na.ref.col, .bool na.ref.pr, .bool na.ref.pc, .int .i64 na.to.row, .int .i64 na.to.col, .bool na.to.pr, .bool na.to.pc, .int .i64 na.fn, .slice xa xl xc] 29)).heap[b]? = wr.heap[b]? := fun b h1 hlt => (Below.heap_alloc _ _ _ (by omega)).trans (hk2 b h1)
      have hnew : (w2.alloc (.cells #[.int .i64 na.kind, .int .i64 na.op, .int .i64 na.num, .string ⟨na.text.toArray⟩, .int .i64 na.ref.row, .int .i64 na.ref.col, .bool na.ref.pr, .bool na.ref.pc, .int .i64 na.to.row, .int .i64 na.to.col, .bool na.to.pr, .bool na.to.pc, .int .i64 na.fn, .slice xa xl xc, .int .i64 na.kind, .int .i64 na.op, .int .i64 na.num, .string ⟨na.text.toArray⟩, .int .i64 na.ref.row, .int .i64 na.ref.col, .bool na.ref.pr, .bool na.ref.pc, .int .i64 na.to.row, .int .i64 na.to.col, .bool na.to.pr, .bool na.to.pc, .int .i64 na.fn, .slice xa xl xc] 29)).heap[wr.heap.size]? = some (.cells #[.int .i64 na.kind, .int .i64 na.op, .int .i64 na.num, .string ⟨na.text.toArray⟩, .int .i64 na.ref.row, .int .i64 na.ref.col, .bool na.ref.pr, .bool na.ref.pc, .int .i64 na.to.row, .int .i64 na.to.col, .bool na.to.pr, .bool na.to.pc, .int .i64 na.fn, .slice xa xl xc, .int .i64 na.kind, .int .i64 na.op, .int .i64 na.num, .string ⟨na.text.toArray⟩, .int .i64 na.ref.row, .int .i64 na.ref.col, .bool na.ref.pr, .bool na.ref.pc, .int .i64 na.to.row, .int .i64 na.to.col, .bool na.to.pr, .bool na.to.pc, .int .i64 na.fn, .slice xa xl xc] 29 (0, 0)) := by rw [← hz2]; exact heap_alloc_new _ _
      have hz3 : (w2.alloc (.cells #[.int .i64 na.kind, .int .i64 na.op, .int .i64 na.num, .string ⟨na.text.toArray⟩, .int .i64 na.ref.row, .int .i64 na.ref.col, .bool na.ref.pr, .bool na.ref.pc, .int .i64 na.to.row, .int .i64 na.to.col, .bool na.to.pr, .bool na.to.pc, .int .i64 na.fn, .slice xa xl xc, .int .i64 na.kind, .int .i64 na.op, .int .i64 na.num, .string ⟨na.text.toArray⟩, .int .i64 na.ref.row, .int .i64 na.ref.col, .bool na.ref.pr, .bool na.ref.pc, .int .i64 na.to.row, .int .i64 na.to.col, .bool na.to.pr, .bool na.to.pc, .int .i64 na.fn, .slice xa xl xc] 29)).heap.size = wr.heap.size + 1 := by simp [hz2]
      generalize hA : w2.alloc (.cells #[.int .i64 na.kind, .int .i64 na.op, .int .i64 na.num, .string ⟨na.text.toArray⟩, .int .i64 na.ref.row, .int .i64 na.ref.col, .bool na.ref.pr, .bool na.ref.pc, .int .i64 na.to.row, .int .i64 na.to.col, .bool na.to.pr, .bool na.to.pc, .int .i64 na.fn, .slice xa xl xc, .int .i64 na.kind, .int .i64 na.op, .int .i64 na.num, .string ⟨na.text.toArray⟩, .int .i64 na.ref.row, .int .i64 na.ref.col, .bool na.ref.pr, .bool na.ref.pc, .int .i64 na.to.row, .int .i64 na.to.col, .bool na.to.pr, .bool na.to.pc, .int .i64 na.fn, .slice xa xl xc] 29) = w3 at *
      clear hA
      have TX' : TreeX w3 (OkB w w3) na ks xa xl := TX.out.kept fun b hb => ⟨⟨by have := hb.1; omega, hb.2⟩, hk3 b hb.2 hb.1⟩
      have okR : OkB w w3 wr.heap.size := ⟨by omega, by omega⟩
      refine ⟨j + 1, ⟨8, 1 + (j : Int) % 12, 0, [], ⟨0, 0, false, false⟩, ⟨0, 0, false, false⟩, 0⟩, .cons na ks (.cons na ks .nil), some ⟨wr.heap.size, 0, none⟩, 2, 2, by go_num, by omega, hb3, hx3, Lib.hid ⟨rfl, by omega, ok_small (by simp [I64]; omega), ?_⟩⟩
      exact ⟨⟨wr.heap.size, 0, xa, xl, xc, rfl, okR, node_in 0 hnew [] (na.vals (.slice xa xl xc)) rfl rfl, TX'.len, TX'.max, TX'.hok, TX'.row⟩, ⟨wr.heap.size, 0, xa, xl, xc, rfl, okR, node_in 1 hnew (na.vals (.slice xa xl xc)) [] rfl rfl, TX'.len, TX'.max, TX'.hok, TX'.row⟩, trivial⟩
    · obtain ⟨w3, hw3⟩ : ∃ x, x = wr := ⟨_, rfl⟩
      subst hw3
      have HX := Lib.hid hx; have HB := Lib.hid hb
      clear cb fb hx hb
      go_wp2_with fail
      go_loopw [6, 7] (fun i _ wr => ∃ k : Nat, i = .int .i64 k ∧ 1 ≤ k ∧ k ≤ 6 ∧ Below w3.heap.size w3 wr) (fun i _ _ => 6 - (intOf i).toNat)
      case atStart => exact ⟨1, rfl, by omega, by omega, Below.refl _ _⟩
      case round =>
        obtain ⟨k, rfl, hk1, hk2, hb4⟩ := hrel
        have hs4 := hb4.size
        have hx4 := (hb4.block _ hsz).trans HX.out
        have c4 := cells_of_block hx4
        have B4 := Lib.hid (HB.out.trans (hb4.mono (by omega)))
        have HB4 := Lib.hid hb4
        clear hb4 hx4
        by_cases hk : k ≤ 5
        · go_wp2_with fail
          have T4 := (TX.out.to (fun b h => h.1)).kept HB4.out (Nat.le_refl _)
          refine (plays_any k na na ks ks wr w3.heap.size xa xa xl xc xl xc hs4 T4 T4).mono ?_
          rintro e w5 ⟨rfl, b5⟩
          have B5 := Lib.hid (HB4.out.trans (b5.mono hs4))
          clear b5 c4 T4
          go_wp2
          exact ⟨⟨k + 1, by go_num, by omega, by omega, B5.out⟩, by simp [intOf]; omega⟩
        · clear c4
          go_wp2
          go_ret
          exact ⟨rfl, B4.out⟩

set_option maxRecDepth 100000 in
theorem treeShared_lifted (os : Os) (started : os.Started) (H : Type) (enc : TypeId × Value → H) :
    ReturnsInHanded {} Try.checked os 4 .any (Rows.treeSharedSpec.pre6 enc Try.prog Try.f4 Rows.treeSharedRow.domain false) (Rows.treeSharedSpec.post enc Try.prog Try.f4 false true false false) := by
  refine lift_law (C := Try.checked) (tb := 4) own started (by kernel_rfl) Try.func4
    (ChangeSpec.witness6 (enc := enc) (C := Try.checked) false ⟨#[], #[.agg #[.int .i64 0, .int .i64 0, .int .i64 0, .string ⟨#[]⟩, .int .i64 0, .int .i64 0, .bool false, .bool false, .int .i64 0, .int .i64 0, .bool false, .bool false, .int .i64 0, .slice none 0 0], .int .u8 0], []⟩ 8 (by kernel_rfl) (by kernel_rfl) (by kernel_rfl) (by kernel_rfl)) laidOut (by kernel_rfl) rfl Try.underlying4 rfl ?_ ?_
  · rintro ds hl
    match ds, hl with
    | [_, _], _ => exact ⟨rfl, rfl, rfl⟩
  · intro W base args ds p hval0 hA hlt hsz
    have hval : ∀ (j : Nat) t v, Try.f4.params[j]? = some t → args[j]? = some v → Value.okWide Try.prog W .any base t v := hval0
    clear hval0
    rw [Try.params4] at hA hsz hval
    obtain ⟨v0, vs0, d0, ds0, p0, q0, hargs, rfl, rfl, h0, r0⟩ := trodAll_cons hA
    obtain ⟨v1, vs1, d1, ds1, p1, q1, rfl, rfl, rfl, h1, r1⟩ := trodAll_cons r0
    obtain ⟨rfl, rfl, rfl⟩ := trodAll_nil r1
    obtain rfl : args = #[v0, v1] := by cases args; simp_all
    have hlt0 : ∀ x ∈ p0, x.block < W.heap.size := fun x hx => hlt x (by simp [hx])
    have hlt1 : ∀ x ∈ p1, x.block < W.heap.size := fun x hx => hlt x (by simp [hx])
    have hv0 : Value.okWide Try.prog W .any base 29 v0 := hval 0 _ _ rfl rfl
    have hv1 : Value.okWide Try.prog W .any base 5 v1 := hval 1 _ _ rfl rfl
    have g0 : DataW.Trod enc Try.prog W 0 (fun _ => true) true 29 v0 d0 p0 := h0
    have g1 : DataW.Trod enc Try.prog W 0 (fun _ => true) true 5 v1 d1 p1 := h1
    obtain ⟨n0, rfl, hn⟩ := u8Arg hv1 g1
    obtain ⟨nt, kt, ta, tl, tc, rfl, tv⟩ := treeArg hv0 g0 (fun n hn => by have := List.all_eq_true.1 hsz n (DataW.weights_mem_each (P := Try.prog) (j := 0) rfl rfl n hn); simpa using this)
    exact treeShared_any W nt kt ta tl tc n0 hn.1 hn.2 tv

set_option maxRecDepth 100000 in
theorem treeShared_holds : Rows.TreeSharedSaid :=
  OpenClaim.holds_of_wide 4 Try.f4 rfl rfl rfl rfl rfl rfl rfl ⟨rfl, rfl, rfl, rfl, rfl⟩ rfl rfl rfl rfl rfl (by kernel_rfl) Try.func4 (by kernel_rfl)
    (of_decide_eq_true (by kernel_rfl)) (by unfold Func.isWrapper; first | (rw [if_pos (by decide +kernel)]; kernel_rfl) | (rw [if_neg (by decide +kernel)]; exact ⟨rfl, rfl⟩))
    (fun os started H enc _ => treeShared_lifted os started H enc)
#print axioms treeShared_holds
end Go.Proofs.Ytkjfeakbhfkldaa
