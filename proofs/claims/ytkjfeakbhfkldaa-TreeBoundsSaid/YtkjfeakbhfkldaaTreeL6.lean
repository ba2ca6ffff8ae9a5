/- TreeBounds: a chain of signs, a list of arguments and a text, at the bounds and beyond them. -/
import Derived.Test.YtkjfeakbhfkldaaTreeL5
import Derived.Test.YtkjfeakbhfkldaaTreeL0
import Derived.Test.YtkjfeakbhfkldaaTreeArg2
import Derived.Test.YtkjfeakbhfkldaaLaw
import Derived.Deep.RegionHeld3
namespace Go.Proofs.Ytkjfeakbhfkldaa
open Go.ChangeShapes Go.WideShapes Go.ChangeAt Go.RowKit

def OkC (T : Nat) (wr : World) (b : Nat) : Prop := b < wr.heap.size ∧ b ≠ T
/-- The loop that makes the chain: k rounds are due; T: its variable's block. -/
def ChRel (w w1 : World) (D : Int) (wr : World) (i : Value) : Prop :=
  ∃ (j m : Nat) (na : Hd) (ks : Trees) (xa : Option Addr) (xl xc : Nat), i = .int .i64 j ∧ 1 ≤ j ∧ (j : Int) ≤ D ∧ Hid (j = m + 1 ∧ na = chainH m ∧ ks = chainK m) ∧ Below w.heap.size w wr ∧ wr.heap[w1.heap.size]? = some (.cells #[.int .i64 na.kind, .int .i64 na.op, .int .i64 na.num, .string ⟨na.text.toArray⟩, .int .i64 na.ref.row, .int .i64 na.ref.col, .bool na.ref.pr, .bool na.ref.pc, .int .i64 na.to.row, .int .i64 na.to.col, .bool na.to.pr, .bool na.to.pc, .int .i64 na.fn, .slice xa xl xc] 29 (0, 0)) ∧ Hid (TreeX wr (OkC w1.heap.size wr) na ks xa xl)
/-- The loop that makes the list: S: its variable's block. -/
def BoRel (w3 : World) (W : Int) (wr : World) (i : Value) : Prop :=
  ∃ (j : Nat) (F : List Nat) (la : Option Addr) (ll lc : Nat), i = .int .i64 j ∧ (j : Int) ≤ W ∧ Below w3.heap.size w3 wr ∧ wr.heap[w3.heap.size]? = some (.cells #[.int .i64 9, .int .i64 0, .int .i64 0, .string ⟨#[]⟩, .int .i64 0, .int .i64 0, .bool false, .bool false, .int .i64 0, .int .i64 0, .bool false, .bool false, .int .i64 54, .slice la ll lc] 29 (0, 0)) ∧ Hid (Fresh wr (w3.heap.size + 1) (boolsK j) (.slice la ll lc) F)

theorem infoL : (Try.prog.info? 56).map (·.size) = some 42 := by kernel_rfl
theorem heap_alloc3_new (w : World) (a b c : Obj) : (((w.alloc a).alloc b).alloc c).heap[w.heap.size + 1 + 1]? = some c := by
  have := heap_alloc_new ((w.alloc a).alloc b) c
  simpa using this
theorem heap_alloc3_mid (w : World) (a b c : Obj) : (((w.alloc a).alloc b).alloc c).heap[w.heap.size + 1]? = some b :=
  (Below.heap_alloc _ _ _ (by simp)).trans (heap_alloc2_new w a b)
theorem infoU8 : (Try.prog.info? 5).map (fun i => (i.zero, i.size, i.bytes)) = some (some (.int .u8 0), 1, 1) := by kernel_rfl
theorem zeros_cell {w : World} {base n : Nat} {v : Value} {b cap : Nat} (h : w.ownsRow base 5 1 v n (madeCells #[Value.int .u8 0] n).toList) (hv : v = .slice (some ⟨b, 0, none⟩) n cap) : ∀ j, j < n → w.cell? ⟨b, j, none⟩ = some (.int .u8 0) := by
  intro j hj
  rcases h.2 with ⟨e, -⟩ | ⟨g, cap', cur, e, -, hb, -, -, -, ht⟩
  · rw [hv] at e; cases e
  · rw [hv] at e
    injection e with e1 e2 e3
    injection e1 with e1
    injection e1 with e1
    subst e1
    rw [cells_of_block hb]
    have e4 : (cur.toList.take (n * 1))[j]? = some (.int .u8 0) := by
      rw [ht, toList_madeCells_one, List.getElem?_replicate]
      rw [if_pos (by omega)]
    rw [List.getElem?_take_of_lt (by omega)] at e4
    simpa using e4

set_option maxRecDepth 100000 in
set_option maxHeartbeats 4000000 in
theorem treeBounds_any (w : World) (dp wi by_ : Int) (d0 : 0 ≤ dp) (d1 : dp ≤ 255) (e0 : 0 ≤ wi) (e1 : wi ≤ 65535) (f0 : 0 ≤ by_) (f1 : by_ ≤ 65535) : Calls Try.prog 8 #[.int .u8 dp, .int .u16 wi, .int .u16 by_] w (TruePost w) := by
  obtain ⟨i0, hi, hz0, hz1, hz2⟩ := info_parts infoExpr
  obtain ⟨iu, hu, hu0, hu1, hu2⟩ := info_parts infoU8
  go_enter Try.func8, Try.ntmps8
  go_wp2_with fail
  refine (begun_any _).mono ?_
  rintro e w1 ⟨rfl, b1⟩
  have B1 := Lib.hid b1
  have h01 := b1.size
  clear b1
  go_wp2_with fail
  go_loopw [9] (fun i wr => ChRel w w1 (dp % 70 + 1) wr i) (fun i _ => 71 - (intOf i).toNat)
  case atStart =>
    exact ⟨1, 0, chainH 0, chainK 0, none, 0, 0, rfl, by omega, by omega, Lib.hid ⟨rfl, rfl, rfl⟩, B1.out.alloc h01 _, (heap_alloc_new _ _).trans rfl, Lib.hid ⟨rfl, by omega, chainH_ok 0, trivial⟩⟩
  case round =>
    obtain ⟨j, m, na, ks, xa, xl, xc, rfl, hj1, hj, HM, hb, hx, TX⟩ := hrel
    have cb := cells_of_block hx
    have fb := frees_of_block hx
    have hsz := lt_of_block hx
    by_cases hlt : (j : Int) < dp % 70 + 1
    · go_wp2
      refine ⟨?_, by simp [intOf]; omega⟩
      change ChRel w w1 (dp % 70 + 1) ((World.setCells wr w1.heap.size 0 [.int .i64 7, .int .i64 1, .int .i64 0, .string ⟨#[]⟩, .int .i64 0, .int .i64 0, .bool false, .bool false, .int .i64 0, .int .i64 0, .bool false, .bool false, .int .i64 0, .slice (some ⟨wr.heap.size, 0, none⟩) 1 1]).alloc (.cells #[.int .i64 na.kind, .int .i64 na.op, .int .i64 na.num, .string ⟨na.text.toArray⟩, .int .i64 na.ref.row, .int .i64 na.ref.col, .bool na.ref.pr, .bool na.ref.pc, .int .i64 na.to.row, .int .i64 na.to.col, .bool na.to.pr, .bool na.to.pc, .int .i64 na.fn, .slice xa xl xc] 29)) _
      clear cb fb
      have hx2 := setCells_all (vs := [.int .i64 7, .int .i64 1, .int .i64 0, .string ⟨#[]⟩, .int .i64 0, .int .i64 0, .bool false, .bool false, .int .i64 0, .int .i64 0, .bool false, .bool false, .int .i64 0, .slice (some ⟨wr.heap.size, 0, none⟩) 1 1]) hx rfl
      have hz2 := setCells_size [.int .i64 7, .int .i64 1, .int .i64 0, .string ⟨#[]⟩, .int .i64 0, .int .i64 0, .bool false, .bool false, .int .i64 0, .int .i64 0, .bool false, .bool false, .int .i64 0, .slice (some ⟨wr.heap.size, 0, none⟩) 1 1] 0 w1.heap.size wr
      have hb2 := setCells_below h01 [.int .i64 7, .int .i64 1, .int .i64 0, .string ⟨#[]⟩, .int .i64 0, .int .i64 0, .bool false, .bool false, .int .i64 0, .int .i64 0, .bool false, .bool false, .int .i64 0, .slice (some ⟨wr.heap.size, 0, none⟩) 1 1] 0 hb
      have hk2 : ∀ k, k ≠ w1.heap.size → _ := fun k hk => setCells_other hk [.int .i64 7, .int .i64 1, .int .i64 0, .string ⟨#[]⟩, .int .i64 0, .int .i64 0, .bool false, .bool false, .int .i64 0, .int .i64 0, .bool false, .bool false, .int .i64 0, .slice (some ⟨wr.heap.size, 0, none⟩) 1 1] 0 wr
      generalize hB : World.setCells wr w1.heap.size 0 [.int .i64 7, .int .i64 1, .int .i64 0, .string ⟨#[]⟩, .int .i64 0, .int .i64 0, .bool false, .bool false, .int .i64 0, .int .i64 0, .bool false, .bool false, .int .i64 0, .slice (some ⟨wr.heap.size, 0, none⟩) 1 1] = w2 at *
      clear hB
      have hx3 := (Below.heap_alloc w2 (.cells #[.int .i64 na.kind, .int .i64 na.op, .int .i64 na.num, .string ⟨na.text.toArray⟩, .int .i64 na.ref.row, .int .i64 na.ref.col, .bool na.ref.pr, .bool na.ref.pc, .int .i64 na.to.row, .int .i64 na.to.col, .bool na.to.pr, .bool na.to.pc, .int .i64 na.fn, .slice xa xl xc] 29) w1.heap.size (by omega)).trans hx2
      have hb3 := ext_alloc hb2 (.cells #[.int .i64 na.kind, .int .i64 na.op, .int .i64 na.num, .string ⟨na.text.toArray⟩, .int .i64 na.ref.row, .int .i64 na.ref.col, .bool na.ref.pr, .bool na.ref.pc, .int .i64 na.to.row, .int .i64 na.to.col, .bool na.to.pr, .bool na.to.pc, .int .i64 na.fn, .slice xa xl xc] 29)
      have hk3 : ∀ b, b ≠ w1.heap.size → b < wr.heap.size → (w2.alloc (.cells #[.int .i64 na.kind, .int .i64 na.op, .int .i64 na.num, .string ⟨na.text.toArray⟩, .int .i64 na.ref.row, .int .i64 na.ref.col, .bool na.ref.pr, .bool na.ref.pc, .int .i64 na.to.row, .int .i64 na.to.col, .bool na.to.pr, .bool na.to.pc, .int .i64 na.fn, .slice xa xl xc] 29)).heap[b]? = wr.heap[b]? := fun b h1 hlt => (Below.heap_alloc _ _ _ (by omega)).trans (hk2 b h1)
      have hnew : (w2.alloc (.cells #[.int .i64 na.kind, .int .i64 na.op, .int .i64 na.num, .string ⟨na.text.toArray⟩, .int .i64 na.ref.row, .int .i64 na.ref.col, .bool na.ref.pr, .bool na.ref.pc, .int .i64 na.to.row, .int .i64 na.to.col, .bool na.to.pr, .bool na.to.pc, .int .i64 na.fn, .slice xa xl xc] 29)).heap[wr.heap.size]? = some (.cells #[.int .i64 na.kind, .int .i64 na.op, .int .i64 na.num, .string ⟨na.text.toArray⟩, .int .i64 na.ref.row, .int .i64 na.ref.col, .bool na.ref.pr, .bool na.ref.pc, .int .i64 na.to.row, .int .i64 na.to.col, .bool na.to.pr, .bool na.to.pc, .int .i64 na.fn, .slice xa xl xc] 29) := by have := heap_alloc_new w2 (.cells #[.int .i64 na.kind, .int .i64 na.op, .int .i64 na.num, .string ⟨na.text.toArray⟩, .int .i64 na.ref.row, .int .i64 na.ref.col, .bool na.ref.pr, .bool na.ref.pc, .int .i64 na.to.row, .int .i64 na.to.col, .bool na.to.pr, .bool na.to.pc, .int .i64 na.fn, .slice xa xl xc] 29); rw [hz2] at this; exact this
      have hz3 : (w2.alloc (.cells #[.int .i64 na.kind, .int .i64 na.op, .int .i64 na.num, .string ⟨na.text.toArray⟩, .int .i64 na.ref.row, .int .i64 na.ref.col, .bool na.ref.pr, .bool na.ref.pc, .int .i64 na.to.row, .int .i64 na.to.col, .bool na.to.pr, .bool na.to.pc, .int .i64 na.fn, .slice xa xl xc] 29)).heap.size = wr.heap.size + 1 := by simp [hz2]
      generalize hA : w2.alloc (.cells #[.int .i64 na.kind, .int .i64 na.op, .int .i64 na.num, .string ⟨na.text.toArray⟩, .int .i64 na.ref.row, .int .i64 na.ref.col, .bool na.ref.pr, .bool na.ref.pc, .int .i64 na.to.row, .int .i64 na.to.col, .bool na.to.pr, .bool na.to.pc, .int .i64 na.fn, .slice xa xl xc] 29) = w3 at *
      clear hA
      have TX' : TreeX w3 (OkC w1.heap.size w3) na ks xa xl := TX.out.kept fun b hb => ⟨⟨by have := hb.1; omega, hb.2⟩, hk3 b hb.2 hb.1⟩
      have okR : OkC w1.heap.size w3 wr.heap.size := ⟨by omega, by omega⟩
      obtain ⟨e1, rfl, rfl⟩ := HM.out
      exact ⟨j + 1, m + 1, chainH (m + 1), chainK (m + 1), some ⟨wr.heap.size, 0, none⟩, 1, 1, by go_num, by omega, by omega, Lib.hid ⟨by omega, rfl, rfl⟩, hb3, hx3, Lib.hid ⟨rfl, by omega, chainH_ok _, ⟨wr.heap.size, 0, xa, xl, xc, rfl, okR, node_in 0 hnew [] [] rfl rfl, TX'.len, TX'.max, TX'.hok, TX'.row⟩, trivial⟩⟩
    · obtain ⟨w3, hw3⟩ : ∃ x, x = wr := ⟨_, rfl⟩
      subst hw3
      have HX := Lib.hid hx; have HB := Lib.hid hb
      have HJ := Lib.hid (show (j : Int) = dp % 70 + 1 by omega)
      clear cb fb hx hb hj
      go_wp2_with fail
      clear hlt
      go_loopw [12] (fun i wr => BoRel w3 (wi % 520 + 1) wr i) (fun i _ => 521 - (intOf i).toNat)
      case atStart =>
        exact ⟨0, [], none, 0, 0, rfl, by omega, ext_alloc (Below.refl _ _) _, (heap_alloc_new _ _).trans rfl, Lib.hid ⟨⟨[], [], [], ⟨rfl, .inl ⟨rfl, rfl, rfl⟩⟩, ⟨rfl, rfl⟩, rfl⟩, List.nodup_nil, by simp, by simp⟩⟩
      case round =>
        obtain ⟨j2, F, la, ll, lc, rfl, hj2, hb2, hx2, HF⟩ := hrel
        have cb := cells_of_block hx2
        have fb := frees_of_block hx2
        have hs2 := lt_of_block hx2
        by_cases hlt : (j2 : Int) < wi % 520 + 1
        · obtain ⟨⟨cs, G, F', s, o, eF⟩, once, new, lt⟩ := HF.out
          have eG := s.block
          subst eG eF
          have hown := s.owns (base := w3.heap.size + 1) fun b hb => new b (by simp [hb])
          have hbl := boolsK_len j2
          have hne : (Value.slice la ll lc).ownBlock ≠ some w3.heap.size := fun e => by have := new w3.heap.size (by simp [mem_ownList.2 e]); omega
          have O2 := Lib.hid o; have ON := Lib.hid once; have NW := Lib.hid new; have LT := Lib.hid lt; have NE := Lib.hid hne; have HX2 := Lib.hid hx2; have HB2 := Lib.hid hb2
          clear s o once new lt hne hx2 hb2
          go_wp2_with (at_builtin; refine wpList_append_own_at _ rfl _ _ 27 rfl (w3.heap.size + 1) 29 i0 _ 14 120 Try.underlying27 hi hz0 hz1 hz2 rfl (by decide) (.slice la ll lc) (boolsK j2).len cs rfl (hown.alloc _) ⟨wr.heap.size, 0, none⟩ 1 1 (boolH.vals (.slice none 0 0)) rfl rfl (World.news_of_block (heap_alloc_new wr _)) (by simp [Value.oneCell', Hd.vals]) (by unfold maxLen; omega) (by omega) (by simp; omega) ?_)
          intro v' w4 hown4 hgrow _ hloc
          have f4 := Fresh.step (wr := wr) (w2 := wr) (k := .nil) (v2 := .slice none 0 0) (F2 := []) (h := boolH) O2.out ON.out NW.out LT.out (Below.refl _ _) ⟨⟨[], [], [], ⟨rfl, .inl ⟨rfl, rfl, rfl⟩⟩, ⟨rfl, rfl⟩, rfl⟩, List.nodup_nil, by simp, by simp⟩ bool_ok (by omega) hgrow (by rw [hbl]; exact hown4) (by simpa using hloc)
          rw [boolsK_snoc] at f4
          obtain ⟨va, vl, vc, rfl⟩ : ∃ a l c, v' = .slice a l c := by obtain ⟨a, c, e⟩ := (slot_of hown4).slice; exact ⟨a, _, c, e⟩
          have hx4 := block_grown HX2.out (Below.refl _ _) hgrow NE.out
          have q4 : Below (w3.heap.size + 1) wr w4 := ((Below.refl (w3.heap.size + 1) wr).alloc (by omega) _).grown hgrow (by simp; omega) (fun k hk => NW.out k (by simp [mem_ownList.2 hk]))
          have cu := cells_of_block hx4
          have fu := frees_of_block hx4
          have U5 := Lib.hid ((block_set hx4 (i := 13) (.slice va vl vc)).trans rfl)
          have B5 := Lib.hid ((HB2.out.trans (q4.mono (by omega))).setCell (p := ⟨w3.heap.size, 13, none⟩) (Nat.le_refl _) (.slice va vl vc))
          have F5 := Lib.hid (f4.sets (w' := w4.setCell ⟨w3.heap.size, 13, none⟩ (.slice va vl vc)) (fun k hk => Below.heap_setCell _ _ _ _ (by simp; omega)) (Nat.le_refl _) (by simp [World.setCell]))
          clear hown hown4 hgrow hloc f4 q4 hx4 cb fb
          go_wp2
          exact ⟨⟨j2 + 1, _, va, vl, vc, by go_num, by omega, B5.out, U5.out, F5⟩, by simp [intOf]; omega⟩
        · obtain ⟨w5, hw5⟩ : ∃ x, x = wr := ⟨_, rfl⟩
          subst hw5
          have HJ2 := Lib.hid (show (j2 : Int) = wi % 520 + 1 by omega)
          obtain ⟨nb, hnb⟩ : ∃ nb : Nat, by_ % 20000 = nb := ⟨(by_ % 20000).toNat, by omega⟩
          have hnb2 : nb ≤ 20000 := by omega
          have hxT := (hb2.block _ hsz).trans HX.out
          have HT := Lib.hid hxT; have HS := Lib.hid hx2; have HB5 := Lib.hid hb2
          clear cb fb hxT hx2 hb2 hj2
          go_wp2_with (at_make; refine wpList_make_full _ rfl _ _ 54 rfl w5.heap.size 5 iu (.int .u8 0) 1 Try.underlying54 hu hu0 hu1 .i64 .i64 _ _ nb rfl rfl hnb hnb (by rw [hu2]; omega) (by unfold maxLen; omega) (Nat.le_refl _) ?_)
          intro w6 hown6 hgrow6
          clear hlt
          have hs5T : w1.heap.size < w5.heap.size := lt_of_block HT.out
          have hs5S : w3.heap.size < w5.heap.size := lt_of_block HS.out
          have b56 : Below w5.heap.size w5 w6 := (Below.refl _ w5).grown hgrow6 (Nat.le_refl _) (by simp)
          have h56 := b56.size
          have hxT := (b56.block _ hs5T).trans HT.out
          have hxS := (b56.block _ hs5S).trans HS.out
          have zc := zeros_cell hown6 rfl
          have hcv : (convert 54 9 (.slice (some ⟨w5.heap.size, 0, none⟩) nb nb)).run Try.prog w6 = .ok (.string ⟨(List.replicate nb (0 : UInt8)).toArray⟩) w6 := by
            have := run_convert_bytes_back (P := Try.prog) w6 54 9 5 ⟨w5.heap.size, 0, none⟩ nb (List.replicate nb (0 : UInt8)) Try.underlying54 Try.underlying5 Try.underlying9 (fun q hq => by rw [Addr.add_mid, Nat.zero_add, zc q (by simpa using hq)]; simp)
            simpa using this
          have cT := cells_of_block hxT
          have cS := cells_of_block hxS
          have HT6 := Lib.hid hxT; have HS6 := Lib.hid hxS; have B6 := Lib.hid b56
          have hs6T : w1.heap.size < w6.heap.size := by omega
          have hs6S : w3.heap.size < w6.heap.size := by omega
          clear hown6 hgrow6 b56 hxT hxS zc
          have h42 := heap_alloc3_new w6 (.cells #[.int .i64 2, .int .i64 0, .int .i64 0, .string ⟨Array.replicate nb 0⟩, .int .i64 0, .int .i64 0, .bool false, .bool false, .int .i64 0, .int .i64 0, .bool false, .bool false, .int .i64 0, .slice none 0 0] 29) (.cells #[.bool (decide (64 < dp % 70 + 1)), .bool (decide (511 < wi % 520 + 1)), .bool (decide (16384 < (nb : Int)))] 55) (.cells #[.int .i64 0, .int .i64 0, .int .i64 0, .string ⟨#[]⟩, .int .i64 0, .int .i64 0, .bool false, .bool false, .int .i64 0, .int .i64 0, .bool false, .bool false, .int .i64 0, .slice none 0 0, .int .i64 0, .int .i64 0, .int .i64 0, .string ⟨#[]⟩, .int .i64 0, .int .i64 0, .bool false, .bool false, .int .i64 0, .int .i64 0, .bool false, .bool false, .int .i64 0, .slice none 0 0, .int .i64 0, .int .i64 0, .int .i64 0, .string ⟨#[]⟩, .int .i64 0, .int .i64 0, .bool false, .bool false, .int .i64 0, .int .i64 0, .bool false, .bool false, .int .i64 0, .slice none 0 0] 56)
          have li := setCells_all (vs := [.int .i64 na.kind, .int .i64 na.op, .int .i64 na.num, .string ⟨na.text.toArray⟩, .int .i64 na.ref.row, .int .i64 na.ref.col, .bool na.ref.pr, .bool na.ref.pc, .int .i64 na.to.row, .int .i64 na.to.col, .bool na.to.pr, .bool na.to.pc, .int .i64 na.fn, .slice xa xl xc, .int .i64 9, .int .i64 0, .int .i64 0, .string ⟨#[]⟩, .int .i64 0, .int .i64 0, .bool false, .bool false, .int .i64 0, .int .i64 0, .bool false, .bool false, .int .i64 54, .slice la ll lc, .int .i64 2, .int .i64 0, .int .i64 0, .string ⟨Array.replicate nb 0⟩, .int .i64 0, .int .i64 0, .bool false, .bool false, .int .i64 0, .int .i64 0, .bool false, .bool false, .int .i64 0, .slice none 0 0]) h42 rfl
          have lo := (setCells_other (by omega : w6.heap.size + 1 ≠ w6.heap.size + 1 + 1) [.int .i64 na.kind, .int .i64 na.op, .int .i64 na.num, .string ⟨na.text.toArray⟩, .int .i64 na.ref.row, .int .i64 na.ref.col, .bool na.ref.pr, .bool na.ref.pc, .int .i64 na.to.row, .int .i64 na.to.col, .bool na.to.pr, .bool na.to.pc, .int .i64 na.fn, .slice xa xl xc, .int .i64 9, .int .i64 0, .int .i64 0, .string ⟨#[]⟩, .int .i64 0, .int .i64 0, .bool false, .bool false, .int .i64 0, .int .i64 0, .bool false, .bool false, .int .i64 54, .slice la ll lc, .int .i64 2, .int .i64 0, .int .i64 0, .string ⟨Array.replicate nb 0⟩, .int .i64 0, .int .i64 0, .bool false, .bool false, .int .i64 0, .int .i64 0, .bool false, .bool false, .int .i64 0, .slice none 0 0] 0 (((w6.alloc (.cells #[.int .i64 2, .int .i64 0, .int .i64 0, .string ⟨Array.replicate nb 0⟩, .int .i64 0, .int .i64 0, .bool false, .bool false, .int .i64 0, .int .i64 0, .bool false, .bool false, .int .i64 0, .slice none 0 0] 29)).alloc (.cells #[.bool (decide (64 < dp % 70 + 1)), .bool (decide (511 < wi % 520 + 1)), .bool (decide (16384 < (nb : Int)))] 55)).alloc (.cells #[.int .i64 0, .int .i64 0, .int .i64 0, .string ⟨#[]⟩, .int .i64 0, .int .i64 0, .bool false, .bool false, .int .i64 0, .int .i64 0, .bool false, .bool false, .int .i64 0, .slice none 0 0, .int .i64 0, .int .i64 0, .int .i64 0, .string ⟨#[]⟩, .int .i64 0, .int .i64 0, .bool false, .bool false, .int .i64 0, .int .i64 0, .bool false, .bool false, .int .i64 0, .slice none 0 0, .int .i64 0, .int .i64 0, .int .i64 0, .string ⟨#[]⟩, .int .i64 0, .int .i64 0, .bool false, .bool false, .int .i64 0, .int .i64 0, .bool false, .bool false, .int .i64 0, .slice none 0 0] 56))).trans (heap_alloc3_mid w6 (.cells #[.int .i64 2, .int .i64 0, .int .i64 0, .string ⟨Array.replicate nb 0⟩, .int .i64 0, .int .i64 0, .bool false, .bool false, .int .i64 0, .int .i64 0, .bool false, .bool false, .int .i64 0, .slice none 0 0] 29) (.cells #[.bool (decide (64 < dp % 70 + 1)), .bool (decide (511 < wi % 520 + 1)), .bool (decide (16384 < (nb : Int)))] 55) (.cells #[.int .i64 0, .int .i64 0, .int .i64 0, .string ⟨#[]⟩, .int .i64 0, .int .i64 0, .bool false, .bool false, .int .i64 0, .int .i64 0, .bool false, .bool false, .int .i64 0, .slice none 0 0, .int .i64 0, .int .i64 0, .int .i64 0, .string ⟨#[]⟩, .int .i64 0, .int .i64 0, .bool false, .bool false, .int .i64 0, .int .i64 0, .bool false, .bool false, .int .i64 0, .slice none 0 0, .int .i64 0, .int .i64 0, .int .i64 0, .string ⟨#[]⟩, .int .i64 0, .int .i64 0, .bool false, .bool false, .int .i64 0, .int .i64 0, .bool false, .bool false, .int .i64 0, .slice none 0 0] 56))
          have b9 := setCells_below (by omega : w6.heap.size ≤ w6.heap.size + 1 + 1) [.int .i64 na.kind, .int .i64 na.op, .int .i64 na.num, .string ⟨na.text.toArray⟩, .int .i64 na.ref.row, .int .i64 na.ref.col, .bool na.ref.pr, .bool na.ref.pc, .int .i64 na.to.row, .int .i64 na.to.col, .bool na.to.pr, .bool na.to.pc, .int .i64 na.fn, .slice xa xl xc, .int .i64 9, .int .i64 0, .int .i64 0, .string ⟨#[]⟩, .int .i64 0, .int .i64 0, .bool false, .bool false, .int .i64 0, .int .i64 0, .bool false, .bool false, .int .i64 54, .slice la ll lc, .int .i64 2, .int .i64 0, .int .i64 0, .string ⟨Array.replicate nb 0⟩, .int .i64 0, .int .i64 0, .bool false, .bool false, .int .i64 0, .int .i64 0, .bool false, .bool false, .int .i64 0, .slice none 0 0] 0 (ext_alloc (ext_alloc (ext_alloc (Below.refl _ w6) (.cells #[.int .i64 2, .int .i64 0, .int .i64 0, .string ⟨Array.replicate nb 0⟩, .int .i64 0, .int .i64 0, .bool false, .bool false, .int .i64 0, .int .i64 0, .bool false, .bool false, .int .i64 0, .slice none 0 0] 29)) (.cells #[.bool (decide (64 < dp % 70 + 1)), .bool (decide (511 < wi % 520 + 1)), .bool (decide (16384 < (nb : Int)))] 55)) (.cells #[.int .i64 0, .int .i64 0, .int .i64 0, .string ⟨#[]⟩, .int .i64 0, .int .i64 0, .bool false, .bool false, .int .i64 0, .int .i64 0, .bool false, .bool false, .int .i64 0, .slice none 0 0, .int .i64 0, .int .i64 0, .int .i64 0, .string ⟨#[]⟩, .int .i64 0, .int .i64 0, .bool false, .bool false, .int .i64 0, .int .i64 0, .bool false, .bool false, .int .i64 0, .slice none 0 0, .int .i64 0, .int .i64 0, .int .i64 0, .string ⟨#[]⟩, .int .i64 0, .int .i64 0, .bool false, .bool false, .int .i64 0, .int .i64 0, .bool false, .bool false, .int .i64 0, .slice none 0 0] 56))
          have LI := Lib.hid li; have LO9 := Lib.hid lo; have B9 := Lib.hid b9
          have T42 := Lib.hid (there_of_block h42 42 rfl)
          clear li lo b9 h42
          go_wp2_with (refine wpList_store_mid rfl 56 _ _ rfl (w6.heap.size + 1 + 1) 0 #[.int .i64 na.kind, .int .i64 na.op, .int .i64 na.num, .string ⟨na.text.toArray⟩, .int .i64 na.ref.row, .int .i64 na.ref.col, .bool na.ref.pr, .bool na.ref.pc, .int .i64 na.to.row, .int .i64 na.to.col, .bool na.to.pr, .bool na.to.pc, .int .i64 na.fn, .slice xa xl xc, .int .i64 9, .int .i64 0, .int .i64 0, .string ⟨#[]⟩, .int .i64 0, .int .i64 0, .bool false, .bool false, .int .i64 0, .int .i64 0, .bool false, .bool false, .int .i64 54, .slice la ll lc, .int .i64 2, .int .i64 0, .int .i64 0, .string ⟨Array.replicate nb 0⟩, .int .i64 0, .int .i64 0, .bool false, .bool false, .int .i64 0, .int .i64 0, .bool false, .bool false, .int .i64 0, .slice none 0 0] rfl rfl T42.out infoL (by simp [Value.oneCell']) ?_)
          generalize hW : World.setCells (((w6.alloc (.cells #[.int .i64 2, .int .i64 0, .int .i64 0, .string ⟨Array.replicate nb 0⟩, .int .i64 0, .int .i64 0, .bool false, .bool false, .int .i64 0, .int .i64 0, .bool false, .bool false, .int .i64 0, .slice none 0 0] 29)).alloc (.cells #[.bool (decide (64 < dp % 70 + 1)), .bool (decide (511 < wi % 520 + 1)), .bool (decide (16384 < (nb : Int)))] 55)).alloc (.cells #[.int .i64 0, .int .i64 0, .int .i64 0, .string ⟨#[]⟩, .int .i64 0, .int .i64 0, .bool false, .bool false, .int .i64 0, .int .i64 0, .bool false, .bool false, .int .i64 0, .slice none 0 0, .int .i64 0, .int .i64 0, .int .i64 0, .string ⟨#[]⟩, .int .i64 0, .int .i64 0, .bool false, .bool false, .int .i64 0, .int .i64 0, .bool false, .bool false, .int .i64 0, .slice none 0 0, .int .i64 0, .int .i64 0, .int .i64 0, .string ⟨#[]⟩, .int .i64 0, .int .i64 0, .bool false, .bool false, .int .i64 0, .int .i64 0, .bool false, .bool false, .int .i64 0, .slice none 0 0] 56)) (w6.heap.size + 1 + 1) 0 [.int .i64 na.kind, .int .i64 na.op, .int .i64 na.num, .string ⟨na.text.toArray⟩, .int .i64 na.ref.row, .int .i64 na.ref.col, .bool na.ref.pr, .bool na.ref.pc, .int .i64 na.to.row, .int .i64 na.to.col, .bool na.to.pr, .bool na.to.pc, .int .i64 na.fn, .slice xa xl xc, .int .i64 9, .int .i64 0, .int .i64 0, .string ⟨#[]⟩, .int .i64 0, .int .i64 0, .bool false, .bool false, .int .i64 0, .int .i64 0, .bool false, .bool false, .int .i64 54, .slice la ll lc, .int .i64 2, .int .i64 0, .int .i64 0, .string ⟨Array.replicate nb 0⟩, .int .i64 0, .int .i64 0, .bool false, .bool false, .int .i64 0, .int .i64 0, .bool false, .bool false, .int .i64 0, .slice none 0 0] = w9 at *
          clear hW T42 hcv cT cS
          obtain ⟨e1, rfl, rfl⟩ := HM.out
          have h35 := HB5.out.size
          have b69 : Below w5.heap.size w5 w9 := B6.out.trans (B9.out.mono h56)
          have b39 : Below w3.heap.size w3 w9 := HB5.out.trans (b69.mono h35)
          have h69 := B9.out.size
          have b09 : Below w.heap.size w w9 := HB.out.trans (b39.mono (HB.out.size))
          have bv1 : BoundV (chainH m) (chainK m) (decide (64 < dp % 70 + 1)) := by
            have := bound_chain m (by have := HJ.out; omega)
            rwa [show ((m : Int) + 1) = dp % 70 + 1 by have := HJ.out; omega] at this
          have bv2 : BoundV sumH (boolsK j2) (decide (511 < wi % 520 + 1)) := by
            have := bound_sum j2 (by have := HJ2.out; omega)
            rwa [show ((j2 : Int)) = wi % 520 + 1 by have := HJ2.out; omega] at this
          have pick : ∀ k : Nat, k < 3 → ∃ h kk a n c b, NodeAt w9 (w6.heap.size + 1 + 1) (0 + k * 14) h (.slice a n c) ∧ TreeV w9 w9.heap.size h kk a n ∧ w9.cell? ⟨w6.heap.size + 1, k, none⟩ = some (.bool b) ∧ BoundV h kk b := by
            intro k hk
            have cl := cells_of_block LO9.out
            rcases (show k = 0 ∨ k = 1 ∨ k = 2 by omega) with rfl | rfl | rfl
            · exact ⟨chainH m, chainK m, xa, xl, xc, _, node_in 0 LI.out [] ((sumH.vals (.slice la ll lc)) ++ ((zerosH nb).vals (.slice none 0 0))) rfl rfl, ((TX.out.to (fun b h => h.1)).kept b39 (Nat.le_refl _)).mono (by omega), cl 0, bv1⟩
            · exact ⟨sumH, boolsK j2, la, ll, lc, _, node_in 1 LI.out ((chainH m).vals (.slice xa xl xc)) ((zerosH nb).vals (.slice none 0 0)) rfl rfl, ((HF.out.readable sum_ok).kept b69 (Nat.le_refl _)).mono (by omega), cl 1, bv2⟩
            · exact ⟨zerosH nb, .nil, none, 0, 0, _, node_in 2 LI.out (((chainH m).vals (.slice xa xl xc)) ++ (sumH.vals (.slice la ll lc))) [] rfl rfl, ⟨rfl, by omega, zeros_ok nb hnb2, trivial⟩, cl 2, bound_zeros nb⟩
          have PICK := Lib.hid pick
          have B09 := Lib.hid b09
          have l9 := lt_of_block LI.out
          clear e1 pick b09 bv1 bv2 b39 b69 LI LO9 B9 HM TX HF HT HS HT6 HS6 HX HB HJ HJ2 HB5 B6 B1
          go_loopw [17, 18] (fun i _ wr => ∃ k : Nat, i = .int .i64 k ∧ k ≤ 3 ∧ Below w9.heap.size w9 wr) (fun i _ _ => 3 - (intOf i).toNat)
          case atStart => exact ⟨0, rfl, by omega, Below.refl _ _⟩
          case round =>
            obtain ⟨k, rfl, hk3, hb9⟩ := hrel
            by_cases hk : k < 3
            · obtain ⟨h, kk, a, n, c, b, N0, tv, lc, bv1, bv2⟩ := PICK.out k hk
              have ll := (hb9.cell (p := ⟨w6.heap.size + 1, k, none⟩) (by simp; omega)).trans lc
              have hS : ∀ W, Below w9.heap.size w9 W → ((W.cell? ⟨w6.heap.size + 1 + 1, k * 14, none⟩ = some (.int .i64 h.kind) ∧ W.cell? ⟨w6.heap.size + 1 + 1, k * 14 + 1, none⟩ = some (.int .i64 h.op) ∧ W.cell? ⟨w6.heap.size + 1 + 1, k * 14 + 2, none⟩ = some (.int .i64 h.num) ∧ W.cell? ⟨w6.heap.size + 1 + 1, k * 14 + 3, none⟩ = some (.string ⟨h.text.toArray⟩) ∧ W.cell? ⟨w6.heap.size + 1 + 1, k * 14 + 4, none⟩ = some (.int .i64 h.ref.row) ∧ W.cell? ⟨w6.heap.size + 1 + 1, k * 14 + 5, none⟩ = some (.int .i64 h.ref.col) ∧ W.cell? ⟨w6.heap.size + 1 + 1, k * 14 + 6, none⟩ = some (.bool h.ref.pr) ∧ W.cell? ⟨w6.heap.size + 1 + 1, k * 14 + 7, none⟩ = some (.bool h.ref.pc) ∧ W.cell? ⟨w6.heap.size + 1 + 1, k * 14 + 8, none⟩ = some (.int .i64 h.to.row) ∧ W.cell? ⟨w6.heap.size + 1 + 1, k * 14 + 9, none⟩ = some (.int .i64 h.to.col) ∧ W.cell? ⟨w6.heap.size + 1 + 1, k * 14 + 10, none⟩ = some (.bool h.to.pr) ∧ W.cell? ⟨w6.heap.size + 1 + 1, k * 14 + 11, none⟩ = some (.bool h.to.pc) ∧ W.cell? ⟨w6.heap.size + 1 + 1, k * 14 + 12, none⟩ = some (.int .i64 h.fn) ∧ W.cell? ⟨w6.heap.size + 1 + 1, k * 14 + 13, none⟩ = some (.slice a n c) ∧ W.cell? ⟨w6.heap.size + 1, k, none⟩ = some (.bool b)) ∧ Below w9.heap.size w9 W) := fun W hb => by
                obtain ⟨-, c0, c1, c2, c3, c4, c5, c6, c7, c8, c9, c10, c11, c12, c13, -, -, -, -, -, -⟩ := (N0.kept hb l9).facts
                simp only [Nat.zero_add] at c0 c1 c2 c3 c4 c5 c6 c7 c8 c9 c10 c11 c12 c13
                exact ⟨⟨c0, c1, c2, c3, c4, c5, c6, c7, c8, c9, c10, c11, c12, c13, (hb.cell (p := ⟨w6.heap.size + 1, k, none⟩) (by simp; omega)).trans lc⟩, hb⟩
              have cM : ∀ W, ((W.cell? ⟨w6.heap.size + 1 + 1, k * 14, none⟩ = some (.int .i64 h.kind) ∧ W.cell? ⟨w6.heap.size + 1 + 1, k * 14 + 1, none⟩ = some (.int .i64 h.op) ∧ W.cell? ⟨w6.heap.size + 1 + 1, k * 14 + 2, none⟩ = some (.int .i64 h.num) ∧ W.cell? ⟨w6.heap.size + 1 + 1, k * 14 + 3, none⟩ = some (.string ⟨h.text.toArray⟩) ∧ W.cell? ⟨w6.heap.size + 1 + 1, k * 14 + 4, none⟩ = some (.int .i64 h.ref.row) ∧ W.cell? ⟨w6.heap.size + 1 + 1, k * 14 + 5, none⟩ = some (.int .i64 h.ref.col) ∧ W.cell? ⟨w6.heap.size + 1 + 1, k * 14 + 6, none⟩ = some (.bool h.ref.pr) ∧ W.cell? ⟨w6.heap.size + 1 + 1, k * 14 + 7, none⟩ = some (.bool h.ref.pc) ∧ W.cell? ⟨w6.heap.size + 1 + 1, k * 14 + 8, none⟩ = some (.int .i64 h.to.row) ∧ W.cell? ⟨w6.heap.size + 1 + 1, k * 14 + 9, none⟩ = some (.int .i64 h.to.col) ∧ W.cell? ⟨w6.heap.size + 1 + 1, k * 14 + 10, none⟩ = some (.bool h.to.pr) ∧ W.cell? ⟨w6.heap.size + 1 + 1, k * 14 + 11, none⟩ = some (.bool h.to.pc) ∧ W.cell? ⟨w6.heap.size + 1 + 1, k * 14 + 12, none⟩ = some (.int .i64 h.fn) ∧ W.cell? ⟨w6.heap.size + 1 + 1, k * 14 + 13, none⟩ = some (.slice a n c) ∧ W.cell? ⟨w6.heap.size + 1, k, none⟩ = some (.bool b)) ∧ Below w9.heap.size w9 W) → Calls Try.prog 23 #[.agg #[.int .i64 h.kind, .int .i64 h.op, .int .i64 h.num, .string ⟨h.text.toArray⟩, .int .i64 h.ref.row, .int .i64 h.ref.col, .bool h.ref.pr, .bool h.ref.pc, .int .i64 h.to.row, .int .i64 h.to.col, .bool h.to.pr, .bool h.to.pc, .int .i64 h.fn, .slice a n c]] W (fun e w' => e = .returned (.int .i64 (if b = true then 2 else 0)) ∧ ((w'.cell? ⟨w6.heap.size + 1 + 1, k * 14, none⟩ = some (.int .i64 h.kind) ∧ w'.cell? ⟨w6.heap.size + 1 + 1, k * 14 + 1, none⟩ = some (.int .i64 h.op) ∧ w'.cell? ⟨w6.heap.size + 1 + 1, k * 14 + 2, none⟩ = some (.int .i64 h.num) ∧ w'.cell? ⟨w6.heap.size + 1 + 1, k * 14 + 3, none⟩ = some (.string ⟨h.text.toArray⟩) ∧ w'.cell? ⟨w6.heap.size + 1 + 1, k * 14 + 4, none⟩ = some (.int .i64 h.ref.row) ∧ w'.cell? ⟨w6.heap.size + 1 + 1, k * 14 + 5, none⟩ = some (.int .i64 h.ref.col) ∧ w'.cell? ⟨w6.heap.size + 1 + 1, k * 14 + 6, none⟩ = some (.bool h.ref.pr) ∧ w'.cell? ⟨w6.heap.size + 1 + 1, k * 14 + 7, none⟩ = some (.bool h.ref.pc) ∧ w'.cell? ⟨w6.heap.size + 1 + 1, k * 14 + 8, none⟩ = some (.int .i64 h.to.row) ∧ w'.cell? ⟨w6.heap.size + 1 + 1, k * 14 + 9, none⟩ = some (.int .i64 h.to.col) ∧ w'.cell? ⟨w6.heap.size + 1 + 1, k * 14 + 10, none⟩ = some (.bool h.to.pr) ∧ w'.cell? ⟨w6.heap.size + 1 + 1, k * 14 + 11, none⟩ = some (.bool h.to.pc) ∧ w'.cell? ⟨w6.heap.size + 1 + 1, k * 14 + 12, none⟩ = some (.int .i64 h.fn) ∧ w'.cell? ⟨w6.heap.size + 1 + 1, k * 14 + 13, none⟩ = some (.slice a n c) ∧ w'.cell? ⟨w6.heap.size + 1, k, none⟩ = some (.bool b)) ∧ Below w9.heap.size w9 w')) :=
                fun W q => (may_any h kk W _ a n c q.2.size (tv.kept q.2 (Nat.le_refl _))).mono fun e w' r => ⟨by have := r.1; rw [bv1] at this; exact this, hS _ (q.2.trans (r.2.mono q.2.size))⟩
              have cS : ∀ W, ((W.cell? ⟨w6.heap.size + 1 + 1, k * 14, none⟩ = some (.int .i64 h.kind) ∧ W.cell? ⟨w6.heap.size + 1 + 1, k * 14 + 1, none⟩ = some (.int .i64 h.op) ∧ W.cell? ⟨w6.heap.size + 1 + 1, k * 14 + 2, none⟩ = some (.int .i64 h.num) ∧ W.cell? ⟨w6.heap.size + 1 + 1, k * 14 + 3, none⟩ = some (.string ⟨h.text.toArray⟩) ∧ W.cell? ⟨w6.heap.size + 1 + 1, k * 14 + 4, none⟩ = some (.int .i64 h.ref.row) ∧ W.cell? ⟨w6.heap.size + 1 + 1, k * 14 + 5, none⟩ = some (.int .i64 h.ref.col) ∧ W.cell? ⟨w6.heap.size + 1 + 1, k * 14 + 6, none⟩ = some (.bool h.ref.pr) ∧ W.cell? ⟨w6.heap.size + 1 + 1, k * 14 + 7, none⟩ = some (.bool h.ref.pc) ∧ W.cell? ⟨w6.heap.size + 1 + 1, k * 14 + 8, none⟩ = some (.int .i64 h.to.row) ∧ W.cell? ⟨w6.heap.size + 1 + 1, k * 14 + 9, none⟩ = some (.int .i64 h.to.col) ∧ W.cell? ⟨w6.heap.size + 1 + 1, k * 14 + 10, none⟩ = some (.bool h.to.pr) ∧ W.cell? ⟨w6.heap.size + 1 + 1, k * 14 + 11, none⟩ = some (.bool h.to.pc) ∧ W.cell? ⟨w6.heap.size + 1 + 1, k * 14 + 12, none⟩ = some (.int .i64 h.fn) ∧ W.cell? ⟨w6.heap.size + 1 + 1, k * 14 + 13, none⟩ = some (.slice a n c) ∧ W.cell? ⟨w6.heap.size + 1, k, none⟩ = some (.bool b)) ∧ Below w9.heap.size w9 W) → Calls Try.prog 25 #[.agg #[.int .i64 h.kind, .int .i64 h.op, .int .i64 h.num, .string ⟨h.text.toArray⟩, .int .i64 h.ref.row, .int .i64 h.ref.col, .bool h.ref.pr, .bool h.ref.pc, .int .i64 h.to.row, .int .i64 h.to.col, .bool h.to.pr, .bool h.to.pc, .int .i64 h.fn, .slice a n c], .agg #[.int .i64 h.kind, .int .i64 h.op, .int .i64 h.num, .string ⟨h.text.toArray⟩, .int .i64 h.ref.row, .int .i64 h.ref.col, .bool h.ref.pr, .bool h.ref.pc, .int .i64 h.to.row, .int .i64 h.to.col, .bool h.to.pr, .bool h.to.pc, .int .i64 h.fn, .slice a n c]] W (fun e w' => e = .returned (.bool (!b)) ∧ ((w'.cell? ⟨w6.heap.size + 1 + 1, k * 14, none⟩ = some (.int .i64 h.kind) ∧ w'.cell? ⟨w6.heap.size + 1 + 1, k * 14 + 1, none⟩ = some (.int .i64 h.op) ∧ w'.cell? ⟨w6.heap.size + 1 + 1, k * 14 + 2, none⟩ = some (.int .i64 h.num) ∧ w'.cell? ⟨w6.heap.size + 1 + 1, k * 14 + 3, none⟩ = some (.string ⟨h.text.toArray⟩) ∧ w'.cell? ⟨w6.heap.size + 1 + 1, k * 14 + 4, none⟩ = some (.int .i64 h.ref.row) ∧ w'.cell? ⟨w6.heap.size + 1 + 1, k * 14 + 5, none⟩ = some (.int .i64 h.ref.col) ∧ w'.cell? ⟨w6.heap.size + 1 + 1, k * 14 + 6, none⟩ = some (.bool h.ref.pr) ∧ w'.cell? ⟨w6.heap.size + 1 + 1, k * 14 + 7, none⟩ = some (.bool h.ref.pc) ∧ w'.cell? ⟨w6.heap.size + 1 + 1, k * 14 + 8, none⟩ = some (.int .i64 h.to.row) ∧ w'.cell? ⟨w6.heap.size + 1 + 1, k * 14 + 9, none⟩ = some (.int .i64 h.to.col) ∧ w'.cell? ⟨w6.heap.size + 1 + 1, k * 14 + 10, none⟩ = some (.bool h.to.pr) ∧ w'.cell? ⟨w6.heap.size + 1 + 1, k * 14 + 11, none⟩ = some (.bool h.to.pc) ∧ w'.cell? ⟨w6.heap.size + 1 + 1, k * 14 + 12, none⟩ = some (.int .i64 h.fn) ∧ w'.cell? ⟨w6.heap.size + 1 + 1, k * 14 + 13, none⟩ = some (.slice a n c) ∧ w'.cell? ⟨w6.heap.size + 1, k, none⟩ = some (.bool b)) ∧ Below w9.heap.size w9 w')) :=
                fun W q => (same_all h h kk kk W _ _ a a n c n c q.2.size q.2.size (tv.kept q.2 (Nat.le_refl _)) (tv.kept q.2 (Nat.le_refl _))).mono fun e w' r => ⟨by have := r.1; rw [bv2] at this; exact this, hS _ (q.2.trans (r.2.mono q.2.size))⟩
              have hd0 := hS wr hb9
              have hd1 := hS wr.drew (hb9.trans ((drew_below rfl).mono hb9.size))
              have CM := Lib.hid cM; have CS := Lib.hid cS; have D0 := Lib.hid hd0; have D1 := Lib.hid hd1
              clear N0 tv lc bv1 bv2 hb9 cM cS hS hd0 hd1 PICK
              cases b
              · go_wp2_with fail
                have hd0 := D0.out
                have hd1 := D1.out
                have h3' : (k : Int) < 3 := by omega
                go_region_held3 (fun W => ((W.cell? ⟨w6.heap.size + 1 + 1, k * 14, none⟩ = some (.int .i64 h.kind) ∧ W.cell? ⟨w6.heap.size + 1 + 1, k * 14 + 1, none⟩ = some (.int .i64 h.op) ∧ W.cell? ⟨w6.heap.size + 1 + 1, k * 14 + 2, none⟩ = some (.int .i64 h.num) ∧ W.cell? ⟨w6.heap.size + 1 + 1, k * 14 + 3, none⟩ = some (.string ⟨h.text.toArray⟩) ∧ W.cell? ⟨w6.heap.size + 1 + 1, k * 14 + 4, none⟩ = some (.int .i64 h.ref.row) ∧ W.cell? ⟨w6.heap.size + 1 + 1, k * 14 + 5, none⟩ = some (.int .i64 h.ref.col) ∧ W.cell? ⟨w6.heap.size + 1 + 1, k * 14 + 6, none⟩ = some (.bool h.ref.pr) ∧ W.cell? ⟨w6.heap.size + 1 + 1, k * 14 + 7, none⟩ = some (.bool h.ref.pc) ∧ W.cell? ⟨w6.heap.size + 1 + 1, k * 14 + 8, none⟩ = some (.int .i64 h.to.row) ∧ W.cell? ⟨w6.heap.size + 1 + 1, k * 14 + 9, none⟩ = some (.int .i64 h.to.col) ∧ W.cell? ⟨w6.heap.size + 1 + 1, k * 14 + 10, none⟩ = some (.bool h.to.pr) ∧ W.cell? ⟨w6.heap.size + 1 + 1, k * 14 + 11, none⟩ = some (.bool h.to.pc) ∧ W.cell? ⟨w6.heap.size + 1 + 1, k * 14 + 12, none⟩ = some (.int .i64 h.fn) ∧ W.cell? ⟨w6.heap.size + 1 + 1, k * 14 + 13, none⟩ = some (.slice a n c) ∧ W.cell? ⟨w6.heap.size + 1, k, none⟩ = some (.bool false)) ∧ Below w9.heap.size w9 W)) (first | assumption | exact hd0 | exact hd1) (first
                  | (go_at_call 23
                     refine (CM.out _ (by assumption)).mono ?_
                     rintro e w' ⟨rfl, hS'⟩)
                  | (go_at_call 25
                     refine (CS.out _ (by assumption)).mono ?_
                     rintro e w' ⟨rfl, hS'⟩))
                all_goals
                  have HS := Lib.hid hS'.2
                  clear hS' hd0 hd1
                  go_wp2
                  exact ⟨⟨k + 1, by go_num, by omega, HS.out⟩, by simp [intOf]; omega⟩
              · go_wp2_with fail
                have hd0 := D0.out
                have hd1 := D1.out
                have h3' : (k : Int) < 3 := by omega
                go_region_held3 (fun W => ((W.cell? ⟨w6.heap.size + 1 + 1, k * 14, none⟩ = some (.int .i64 h.kind) ∧ W.cell? ⟨w6.heap.size + 1 + 1, k * 14 + 1, none⟩ = some (.int .i64 h.op) ∧ W.cell? ⟨w6.heap.size + 1 + 1, k * 14 + 2, none⟩ = some (.int .i64 h.num) ∧ W.cell? ⟨w6.heap.size + 1 + 1, k * 14 + 3, none⟩ = some (.string ⟨h.text.toArray⟩) ∧ W.cell? ⟨w6.heap.size + 1 + 1, k * 14 + 4, none⟩ = some (.int .i64 h.ref.row) ∧ W.cell? ⟨w6.heap.size + 1 + 1, k * 14 + 5, none⟩ = some (.int .i64 h.ref.col) ∧ W.cell? ⟨w6.heap.size + 1 + 1, k * 14 + 6, none⟩ = some (.bool h.ref.pr) ∧ W.cell? ⟨w6.heap.size + 1 + 1, k * 14 + 7, none⟩ = some (.bool h.ref.pc) ∧ W.cell? ⟨w6.heap.size + 1 + 1, k * 14 + 8, none⟩ = some (.int .i64 h.to.row) ∧ W.cell? ⟨w6.heap.size + 1 + 1, k * 14 + 9, none⟩ = some (.int .i64 h.to.col) ∧ W.cell? ⟨w6.heap.size + 1 + 1, k * 14 + 10, none⟩ = some (.bool h.to.pr) ∧ W.cell? ⟨w6.heap.size + 1 + 1, k * 14 + 11, none⟩ = some (.bool h.to.pc) ∧ W.cell? ⟨w6.heap.size + 1 + 1, k * 14 + 12, none⟩ = some (.int .i64 h.fn) ∧ W.cell? ⟨w6.heap.size + 1 + 1, k * 14 + 13, none⟩ = some (.slice a n c) ∧ W.cell? ⟨w6.heap.size + 1, k, none⟩ = some (.bool true)) ∧ Below w9.heap.size w9 W)) (first | assumption | exact hd0 | exact hd1) (first
                  | (go_at_call 23
                     refine (CM.out _ (by assumption)).mono ?_
                     rintro e w' ⟨rfl, hS'⟩)
                  | (go_at_call 25
                     refine (CS.out _ (by assumption)).mono ?_
                     rintro e w' ⟨rfl, hS'⟩))
                all_goals
                  have HS := Lib.hid hS'.2
                  clear hS' hd0 hd1
                  go_wp2
                  exact ⟨⟨k + 1, by go_num, by omega, HS.out⟩, by simp [intOf]; omega⟩
            · go_wp2
              go_ret
              exact ⟨rfl, B09.out.trans (hb9.mono B09.out.size)⟩

theorem treeBounds_int (w : World) (dp wi by_ : Int) (d : 0 ≤ dp ∧ dp ≤ 255) (e : 0 ≤ wi ∧ wi ≤ 65535) (f : 0 ≤ by_ ∧ by_ ≤ 65535) : Calls Try.prog 8 #[.int .u8 dp, .int .u16 wi, .int .u16 by_] w (TruePost w) :=
  treeBounds_any w dp wi by_ d.1 d.2 e.1 e.2 f.1 f.2

set_option maxRecDepth 100000 in
theorem treeBounds_lifted (os : Os) (started : os.Started) (H : Type) (enc : TypeId × Value → H) :
    ReturnsInHanded {} Try.checked os 8 .any (Rows.treeBoundsSpec.pre6 enc Try.prog Try.f8 Rows.treeBoundsRow.domain false) (Rows.treeBoundsSpec.post enc Try.prog Try.f8 false true false false) := by
  refine lift_law (C := Try.checked) (tb := 4) own started (by kernel_rfl) Try.func8
    (ChangeSpec.witness6 (enc := enc) (C := Try.checked) false ⟨#[], #[.int .u8 0, .int .u16 0, .int .u16 0], []⟩ 8 (by kernel_rfl) (by kernel_rfl) (by kernel_rfl) (by kernel_rfl)) laidOut (by kernel_rfl) rfl Try.underlying4 rfl ?_ ?_
  · rintro ds hl
    match ds, hl with
    | [_, _, _], _ => exact ⟨rfl, rfl, rfl⟩
  · intro W base args ds p hval0 hA hlt hsz
    have hval : ∀ (j : Nat) t v, Try.f8.params[j]? = some t → args[j]? = some v → Value.okWide Try.prog W .any base t v := hval0
    clear hval0
    rw [Try.params8] at hA hsz hval
    obtain ⟨v0, vs0, d0, ds0, p0, q0, hargs, rfl, rfl, h0, r0⟩ := trodAll_cons hA
    obtain ⟨v1, vs1, d1, ds1, p1, q1, rfl, rfl, rfl, h1, r1⟩ := trodAll_cons r0
    obtain ⟨v2, vs2, d2, ds2, p2, q2, rfl, rfl, rfl, h2, r2⟩ := trodAll_cons r1
    obtain ⟨rfl, rfl, rfl⟩ := trodAll_nil r2
    obtain rfl : args = #[v0, v1, v2] := by cases args; simp_all
    have hlt0 : ∀ x ∈ p0, x.block < W.heap.size := fun x hx => hlt x (by simp [hx])
    have hlt1 : ∀ x ∈ p1, x.block < W.heap.size := fun x hx => hlt x (by simp [hx])
    have hlt2 : ∀ x ∈ p2, x.block < W.heap.size := fun x hx => hlt x (by simp [hx])
    have hv0 : Value.okWide Try.prog W .any base 5 v0 := hval 0 _ _ rfl rfl
    have g0 : DataW.Trod enc Try.prog W 0 (fun _ => true) true 5 v0 d0 p0 := h0
    have hv1 : Value.okWide Try.prog W .any base 53 v1 := hval 1 _ _ rfl rfl
    have g1 : DataW.Trod enc Try.prog W 0 (fun _ => true) true 53 v1 d1 p1 := h1
    have hv2 : Value.okWide Try.prog W .any base 53 v2 := hval 2 _ _ rfl rfl
    have g2 : DataW.Trod enc Try.prog W 0 (fun _ => true) true 53 v2 d2 p2 := h2
    obtain ⟨n0, rfl, hn0⟩ := arg_uint8 hv0 g0
    obtain ⟨n1, rfl, hn1⟩ := arg_uint16 hv1 g1
    obtain ⟨n2, rfl, hn2⟩ := arg_uint16 hv2 g2
    exact treeBounds_int W n0 n1 n2 hn0 hn1 hn2

set_option maxRecDepth 100000 in
theorem treeBounds_holds : Rows.TreeBoundsSaid :=
  OpenClaim.holds_of_wide 8 Try.f8 rfl rfl rfl rfl rfl rfl rfl ⟨rfl, rfl, rfl, rfl, rfl⟩ rfl rfl rfl rfl rfl (by kernel_rfl) Try.func8 (by kernel_rfl)
    (of_decide_eq_true (by kernel_rfl)) (by unfold Func.isWrapper; first | (rw [if_pos (by decide +kernel)]; kernel_rfl) | (rw [if_neg (by decide +kernel)]; exact ⟨rfl, rfl⟩))
    (fun os started H enc _ => treeBounds_lifted os started H enc)
#print axioms treeBounds_holds
end Go.Proofs.Ytkjfeakbhfkldaa
