/- Shifting: ShiftOut. -/
import Derived.Test.YtkjfeakbhfkldaaMhM
import Derived.Test.YtkjfeakbhfkldaaTreeArg2
import Derived.Test.YtkjfeakbhfkldaaLaw
import Derived.BigQuiet
namespace Go.Proofs.Ytkjfeakbhfkldaa
open Go.RowKit

theorem leaf_out {w : World} {B : Nat} {h : Hd} {a : Option Addr} {l : Nat} (t : TreeV w B h .nil a l) : ∀ (W : World) (B' : Nat), TreeV W B' h .nil a l := fun _ _ => ⟨t.len, t.max, t.ok, trivial⟩
/-- Where the lines ahead of a line end, when some are taken out. -/
def gN (at_ n r : Int) : Int := if r ≤ at_ then r else if r < at_ + n then at_ else r - n
theorem gN_kept {at_ n i : Int} (_ : 1 ≤ n) : (i < at_ → gN at_ n i = i ∧ gN at_ n (i + 1) = i + 1) ∧ (at_ + n ≤ i → gN at_ n i = i - n ∧ gN at_ n (i + 1) = i - n + 1) ∧ (¬ i < at_ → ¬ at_ + n ≤ i → gN at_ n (i + 1) = gN at_ n i) := by
  unfold gN; refine ⟨fun _ => ?_, fun _ => ?_, fun _ _ => ?_⟩ <;> (repeat' split) <;> omega
theorem gN_nonneg {at_ n i : Int} (_ : 0 ≤ at_) (_ : 0 ≤ i) : 0 ≤ gN at_ n i := by
  unfold gN; (repeat' split) <;> omega
theorem gN_zero {at_ n l h : Int} (_ : l ≤ h) (_ : 1 ≤ n) (e : gN at_ n (h + 1) - gN at_ n l = 0) : at_ ≤ l ∧ l < at_ + n ∧ at_ ≤ h ∧ h < at_ + n := by
  unfold gN at e; (repeat' split at e) <;> omega
theorem fine_leaf {h : Hd} (e : h.text = []) : Fine h .nil := by
  simp [Fine, Trees.nodes, Trees.deep, Trees.bytes, Hd.bytes, e]
theorem place_row {r : Int} : placeB ⟨r, 0, false, false⟩ = decide (0 ≤ r ∧ r < 65536) := by
  rw [Bool.eq_iff_iff]; simp [placeB]
theorem may_ref {r : Int} (h : 0 ≤ r ∧ r ≤ 65535) : mayE (refH r 0) .nil = 0 := by
  have p : placeB ⟨r, 0, false, false⟩ = true := by rw [place_row]; simp; omega
  have g : treeFits (refH r 0) .nil = true := by
    simp [treeFits, allFits, fitsV, fitsB, refH, Trees.len, RefT.zero, p]
  rw [mayE, if_pos (fine_leaf rfl), if_pos g]
theorem may_rng {a b : Int} (ha : 0 ≤ a ∧ a ≤ 65535) (hb : 0 ≤ b ∧ b ≤ 65535) : mayE (rngH12 a b) .nil = 0 := by
  have p : placeB ⟨a, 0, false, false⟩ = true := by rw [place_row]; simp; omega
  have q : placeB ⟨b, 0, false, false⟩ = true := by rw [place_row]; simp; omega
  have g : treeFits (rngH12 a b) .nil = true := by
    simp [treeFits, allFits, fitsV, fitsB, rngH12, Trees.len, p, q]
  rw [mayE, if_pos (fine_leaf rfl), if_pos g]
theorem err_rows {at_ n : Int} {h : Hd} (e : mayE h .nil = 0) (_ : 0 ≤ at_ ∧ at_ ≤ 65535) : shErr ⟨2, 0, 0, at_, -n⟩ h .nil = 0 := by
  simp [shErr, e]; omega
theorem out_iff {at_ n x : Int} (_ : 1 ≤ n ∧ n ≤ 65536) : outP at_ (-n) x 65536 ↔ at_ ≤ x ∧ x < at_ + n := by
  unfold outP goneN; split <;> omega
theorem gone_n {n : Int} (_ : 1 ≤ n ∧ n ≤ 65536) : goneN (-n) 65536 = n := by unfold goneN; split <;> omega
theorem line_g {at_ n x : Int} (hn : 1 ≤ n ∧ n ≤ 65536) : lineN at_ (-n) x 65536 = if x < at_ then x else x - n := by
  rw [lineN, gone_n hn]; simp; omega
theorem mv_ref {m : Mv} {r : RefT} : mvH m ⟨5, 0, 0, [], r, ⟨0, 0, false, false⟩, 0⟩ = (match mv1 m r with | some r' => ⟨5, 0, 0, [], r', ⟨0, 0, false, false⟩, 0⟩ | none => lostH) := rfl
theorem mv_rng {m : Mv} {r t : RefT} : mvH m ⟨6, 0, 0, [], r, t, 0⟩ = (match mv2 m r t with | some (r', t') => ⟨6, 0, 0, [], r', t', 0⟩ | none => lostH) := rfl
theorem mv1_rows (at_ n a : Int) : mv1 ⟨2, 0, 0, at_, -n⟩ ⟨a, 0, false, false⟩ = if outP at_ (-n) a 65536 then none else if placeB ⟨lineN at_ (-n) a 65536, 0, false, false⟩ then some ⟨lineN at_ (-n) a 65536, 0, false, false⟩ else none := rfl
theorem mv2_rows (at_ n a b : Int) : mv2 ⟨2, 0, 0, at_, -n⟩ ⟨a, 0, false, false⟩ ⟨b, 0, false, false⟩ = (match endsN at_ (-n) a b 65536 with
    | none => none
    | some (x, y) => if placeB ⟨x, 0, false, false⟩ && placeB ⟨y, 0, false, false⟩ then some (⟨x, 0, false, false⟩, ⟨y, 0, false, false⟩) else none) := rfl
theorem sgl {a at_ n : Int} (ha : 0 ≤ a ∧ a ≤ 65535) (hn : 1 ≤ n ∧ n ≤ 65536) (ht : 0 ≤ at_) : mvH ⟨2, 0, 0, at_, -n⟩ (refH a 0) = if a < at_ then refH a 0 else if at_ + n ≤ a then refH (a - n) 0 else lostH := by
  have o := out_iff (at_ := at_) (x := a) hn
  rw [refH, mv_ref, mv1_rows, line_g hn, place_row]
  by_cases c1 : a < at_
  · rw [if_neg (by rw [o]; omega), if_pos c1, if_pos c1, if_pos (by simp; omega)]
  · rw [if_neg c1, if_neg c1]
    by_cases c2 : at_ + n ≤ a
    · rw [if_neg (by rw [o]; omega), if_pos c2, if_pos (by simp; omega)]; rfl
    · rw [if_pos (by rw [o]; omega), if_neg c2]
theorem dbl_lost {a b at_ n : Int} (hn : 1 ≤ n ∧ n ≤ 65536) (h : (at_ ≤ a ∧ a < at_ + n) ∧ (at_ ≤ b ∧ b < at_ + n)) : mvH ⟨2, 0, 0, at_, -n⟩ (rngH12 a b) = lostH := by
  have o1 := out_iff (at_ := at_) (x := a) hn
  have o2 := out_iff (at_ := at_) (x := b) hn
  rw [rngH12, mv_rng, mv2_rows, endsN, if_pos ⟨o1.2 h.1, o2.2 h.2⟩]
theorem dbl_some {a b at_ n : Int} (_ : 0 ≤ a ∧ a ≤ 65535) (_ : 0 ≤ b ∧ b ≤ 65535) (_ : 0 ≤ at_ ∧ at_ ≤ 65535) (hn : 1 ≤ n ∧ n ≤ 65536) (h : ¬ ((at_ ≤ a ∧ a < at_ + n) ∧ (at_ ≤ b ∧ b < at_ + n))) : ∃ x y, mvH ⟨2, 0, 0, at_, -n⟩ (rngH12 a b) = rngH12 x y ∧ (a ≤ b → x = gN at_ n a ∧ y = gN at_ n (b + 1) - 1) ∧ (b < a → y = gN at_ n b ∧ x = gN at_ n (a + 1) - 1) := by
  have o1 := out_iff (at_ := at_) (x := a) hn
  have o2 := out_iff (at_ := at_) (x := b) hn
  have h' : ¬ (outP at_ (-n) a 65536 ∧ outP at_ (-n) b 65536) := by rw [o1, o2]; exact h
  refine ⟨lineN at_ (-n) (nearN at_ (-n) a b 65536) 65536, lineN at_ (-n) (nearN at_ (-n) b a 65536) 65536, ?_, ?_, ?_⟩
  · rw [rngH12, mv_rng, mv2_rows, endsN, if_neg h']
    simp only [place_row]
    rw [if_pos]
    · rfl
    · simp only [line_g hn, nearN, o1, o2, gone_n hn, Bool.and_eq_true, decide_eq_true_eq]
      (repeat' split) <;> omega
  · intro ab
    simp only [line_g hn, nearN, o1, o2, gone_n hn, gN]
    (repeat' split) <;> omega
  · intro ab
    simp only [line_g hn, nearN, o1, o2, gone_n hn, gN]
    (repeat' split) <;> omega

set_option maxRecDepth 100000 in
set_option maxHeartbeats 4000000 in
theorem shOut_bad (w : World) (a b at_ n : Int) (h : ¬ ((0 ≤ a ∧ a ≤ 65535) ∧ (0 ≤ b ∧ b ≤ 65535) ∧ (0 ≤ at_ ∧ at_ ≤ 65535) ∧ (1 ≤ n ∧ n ≤ 65536))) : Calls Try.prog 13 #[.int .i64 a, .int .i64 b, .int .i64 at_, .int .i64 n] w (TruePost w) := by
  have BB := Lib.hid (Below.refl w.heap.size w)
  go_enter Try.func13, Try.ntmps13
  go_wp2_with fail
  refine (lawBegun_any _).mono ?_
  rintro e w1 ⟨rfl, b1⟩
  have BB := Lib.hid (BB.out.trans (b1.mono BB.out.size))
  clear b1
  by_cases k1 : a < 0
  · go_wp2
    go_ret
    exact ⟨rfl, BB.out⟩
  · by_cases k2 : 65535 < a
    · go_wp2
      go_ret
      exact ⟨rfl, BB.out⟩
    · by_cases k3 : b < 0
      · go_wp2
        go_ret
        exact ⟨rfl, BB.out⟩
      · by_cases k4 : 65535 < b
        · go_wp2
          go_ret
          exact ⟨rfl, BB.out⟩
        · by_cases k5 : at_ < 0
          · go_wp2
            go_ret
            exact ⟨rfl, BB.out⟩
          · by_cases k6 : 65535 < at_
            · go_wp2
              go_ret
              exact ⟨rfl, BB.out⟩
            · by_cases k7 : n < 1
              · go_wp2
                go_ret
                exact ⟨rfl, BB.out⟩
              · by_cases k8 : 65536 < n
                · go_wp2
                  go_ret
                  exact ⟨rfl, BB.out⟩
                · omega

set_option maxRecDepth 100000 in
set_option maxHeartbeats 4000000 in
theorem shOut_lo (w : World) (a b at_ n : Int) (ha : 0 ≤ a ∧ a ≤ 65535) (hb : 0 ≤ b ∧ b ≤ 65535) (ht : 0 ≤ at_ ∧ at_ ≤ 65535) (hn : 1 ≤ n ∧ n ≤ 65536) (hc : a < at_) : Calls Try.prog 13 #[.int .i64 a, .int .i64 b, .int .i64 at_, .int .i64 n] w (TruePost w) := by
  obtain ⟨hd, hhd⟩ : ∃ hd, mvH ⟨2, 0, 0, at_, -n⟩ (rngH12 a b) = hd := ⟨_, rfl⟩
  have cS : ∀ W, Calls Try.prog 43 #[.agg #[.int .i64 5, .int .i64 0, .int .i64 0, .string ⟨#[]⟩, .int .i64 a, .int .i64 0, .bool false, .bool false, .int .i64 0, .int .i64 0, .bool false, .bool false, .int .i64 0, .slice none 0 0], .int .i64 at_, .int .i64 (-n)] W (fun e w' => Below W.heap.size W w' ∧ ∃ xa xl xc, e = .returned (.tuple #[.agg #[.int .i64 5, .int .i64 0, .int .i64 0, .string ⟨#[]⟩, .int .i64 a, .int .i64 0, .bool false, .bool false, .int .i64 0, .int .i64 0, .bool false, .bool false, .int .i64 0, .slice xa xl xc], .int .i64 0]) ∧ TreeV w' w'.heap.size (refH a 0) .nil xa xl) :=
    fun W => (shRows_any (refH a 0) .nil at_ (-n) W W.heap.size none 0 0 (Nat.le_refl _) (leafV (ref_ok (by simp only [I64]; omega) (by simp [I64]))) (by simp only [I64]; omega) (by simp only [I64]; omega)).mono fun e w' q => (q.tree (ref_ok (by simp only [I64]; omega) (by simp [I64]))).good (h' := (refH a 0)) (ks' := .nil) (err_rows (may_ref ha) ht) (by rw [sgl ha hn ht.1, if_pos hc]) rfl
  have cD : ∀ W, Calls Try.prog 43 #[.agg #[.int .i64 6, .int .i64 0, .int .i64 0, .string ⟨#[]⟩, .int .i64 a, .int .i64 0, .bool false, .bool false, .int .i64 b, .int .i64 0, .bool false, .bool false, .int .i64 0, .slice none 0 0], .int .i64 at_, .int .i64 (-n)] W (fun e w' => Below W.heap.size W w' ∧ ∃ xa xl xc, e = .returned (.tuple #[.agg #[.int .i64 hd.kind, .int .i64 hd.op, .int .i64 hd.num, .string ⟨hd.text.toArray⟩, .int .i64 hd.ref.row, .int .i64 hd.ref.col, .bool hd.ref.pr, .bool hd.ref.pc, .int .i64 hd.to.row, .int .i64 hd.to.col, .bool hd.to.pr, .bool hd.to.pc, .int .i64 hd.fn, .slice xa xl xc], .int .i64 0]) ∧ TreeV w' w'.heap.size hd .nil xa xl) :=
    fun W => (shRows_any (rngH12 a b) .nil at_ (-n) W W.heap.size none 0 0 (Nat.le_refl _) (leafV (rng12_ok (by simp only [I64]; omega) (by simp only [I64]; omega))) (by simp only [I64]; omega) (by simp only [I64]; omega)).mono fun e w' q => (q.tree (rng12_ok (by simp only [I64]; omega) (by simp only [I64]; omega))).good (h' := hd) (ks' := .nil) (err_rows (may_rng ha hb) ht) hhd rfl
  have CS := Lib.hid cS; have CD := Lib.hid cD; have HHD := Lib.hid hhd
  clear cS cD hhd
  have BB := Lib.hid (Below.refl w.heap.size w)
  go_enter Try.func13, Try.ntmps13
  go_wp2_with fail
  refine (lawBegun_any _).mono ?_
  rintro e w1 ⟨rfl, b1⟩
  have BB := Lib.hid (BB.out.trans (b1.mono BB.out.size))
  clear b1
  go_wp2_with fail
  refine (lawRef_any _ a 0).mono ?_
  rintro e w2 ⟨rfl, b2⟩
  have BB := Lib.hid (BB.out.trans (b2.mono BB.out.size))
  clear b2
  go_wp2_with fail
  refine (CS.out _).mono ?_
  rintro e w3 ⟨b3, xa, xl, xc, rfl, tx⟩
  have TX := Lib.hid (leaf_out tx)
  have BB := Lib.hid ((BB.out.trans (b3.mono BB.out.size)).alloc (Nat.le_trans BB.out.size b3.size) (.cells #[.int .i64 5, .int .i64 0, .int .i64 0, .string ⟨#[]⟩, .int .i64 a, .int .i64 0, .bool false, .bool false, .int .i64 0, .int .i64 0, .bool false, .bool false, .int .i64 0, .slice xa xl xc] 29))
  have GX := Lib.hid (heap_alloc_new w3 (.cells #[.int .i64 5, .int .i64 0, .int .i64 0, .string ⟨#[]⟩, .int .i64 a, .int .i64 0, .bool false, .bool false, .int .i64 0, .int .i64 0, .bool false, .bool false, .int .i64 0, .slice xa xl xc] 29))
  clear b3 tx
  go_wp2_with fail
  refine (CD.out _).mono ?_
  rintro e w4 ⟨b4, ya, yl, yc, rfl, ty⟩
  have gx := (Below.heap_alloc w4 (.cells #[.int .i64 hd.kind, .int .i64 hd.op, .int .i64 hd.num, .string ⟨hd.text.toArray⟩, .int .i64 hd.ref.row, .int .i64 hd.ref.col, .bool hd.ref.pr, .bool hd.ref.pc, .int .i64 hd.to.row, .int .i64 hd.to.col, .bool hd.to.pr, .bool hd.to.pc, .int .i64 hd.fn, .slice ya yl yc] 29) _ (Nat.lt_of_lt_of_le (lt_of_block GX.out) b4.size)).trans ((b4.block _ (lt_of_block GX.out)).trans GX.out)
  have gy := heap_alloc_new w4 (.cells #[.int .i64 hd.kind, .int .i64 hd.op, .int .i64 hd.num, .string ⟨hd.text.toArray⟩, .int .i64 hd.ref.row, .int .i64 hd.ref.col, .bool hd.ref.pr, .bool hd.ref.pc, .int .i64 hd.to.row, .int .i64 hd.to.col, .bool hd.to.pr, .bool hd.to.pc, .int .i64 hd.fn, .slice ya yl yc] 29)
  have BB := Lib.hid ((BB.out.trans (b4.mono BB.out.size)).alloc (Nat.le_trans BB.out.size b4.size) (.cells #[.int .i64 hd.kind, .int .i64 hd.op, .int .i64 hd.num, .string ⟨hd.text.toArray⟩, .int .i64 hd.ref.row, .int .i64 hd.ref.col, .bool hd.ref.pr, .bool hd.ref.pc, .int .i64 hd.to.row, .int .i64 hd.to.col, .bool hd.to.pr, .bool hd.to.pc, .int .i64 hd.fn, .slice ya yl yc] 29))
  have GX := Lib.hid gx; have GY := Lib.hid gy
  clear b4 gx gy ty CS CD
  go_wp2_with fail
  have gx := GX.out; have gy := GY.out; have bb := BB.out
  clear GX GY BB
  generalize w4.alloc (.cells #[.int .i64 hd.kind, .int .i64 hd.op, .int .i64 hd.num, .string ⟨hd.text.toArray⟩, .int .i64 hd.ref.row, .int .i64 hd.ref.col, .bool hd.ref.pr, .bool hd.ref.pc, .int .i64 hd.to.row, .int .i64 hd.to.col, .bool hd.to.pr, .bool hd.to.pc, .int .i64 hd.fn, .slice ya yl yc] 29) = w5 at gx gy bb ⊢
  generalize w3.heap.size = Nx at gx ⊢
  generalize w4.heap.size = Ny at gy ⊢
  have GX := Lib.hid gx; have GY := Lib.hid gy; have BB := Lib.hid bb
  clear gx gy bb
  have hst : ∀ W, Below w5.heap.size w5 W → ((W.cell? ⟨Nx, 0, none⟩ = some (.int .i64 5) ∧ W.cell? ⟨Nx, 1, none⟩ = some (.int .i64 0) ∧ W.cell? ⟨Nx, 2, none⟩ = some (.int .i64 0) ∧ W.cell? ⟨Nx, 3, none⟩ = some (.string ⟨#[]⟩) ∧ W.cell? ⟨Nx, 4, none⟩ = some (.int .i64 a) ∧ W.cell? ⟨Nx, 5, none⟩ = some (.int .i64 0) ∧ W.cell? ⟨Nx, 6, none⟩ = some (.bool false) ∧ W.cell? ⟨Nx, 7, none⟩ = some (.bool false) ∧ W.cell? ⟨Nx, 8, none⟩ = some (.int .i64 0) ∧ W.cell? ⟨Nx, 9, none⟩ = some (.int .i64 0) ∧ W.cell? ⟨Nx, 10, none⟩ = some (.bool false) ∧ W.cell? ⟨Nx, 11, none⟩ = some (.bool false) ∧ W.cell? ⟨Nx, 12, none⟩ = some (.int .i64 0) ∧ W.cell? ⟨Nx, 13, none⟩ = some (.slice xa xl xc)) ∧ Below w5.heap.size w5 W) := fun W b => by
    refine ⟨?_, b⟩
    have k := cells_of_block ((b.block _ (lt_of_block GX.out)).trans GX.out)
    simp [k]
  have cE : ∀ W, ((W.cell? ⟨Nx, 0, none⟩ = some (.int .i64 5) ∧ W.cell? ⟨Nx, 1, none⟩ = some (.int .i64 0) ∧ W.cell? ⟨Nx, 2, none⟩ = some (.int .i64 0) ∧ W.cell? ⟨Nx, 3, none⟩ = some (.string ⟨#[]⟩) ∧ W.cell? ⟨Nx, 4, none⟩ = some (.int .i64 a) ∧ W.cell? ⟨Nx, 5, none⟩ = some (.int .i64 0) ∧ W.cell? ⟨Nx, 6, none⟩ = some (.bool false) ∧ W.cell? ⟨Nx, 7, none⟩ = some (.bool false) ∧ W.cell? ⟨Nx, 8, none⟩ = some (.int .i64 0) ∧ W.cell? ⟨Nx, 9, none⟩ = some (.int .i64 0) ∧ W.cell? ⟨Nx, 10, none⟩ = some (.bool false) ∧ W.cell? ⟨Nx, 11, none⟩ = some (.bool false) ∧ W.cell? ⟨Nx, 12, none⟩ = some (.int .i64 0) ∧ W.cell? ⟨Nx, 13, none⟩ = some (.slice xa xl xc)) ∧ Below w5.heap.size w5 W) → Calls Try.prog 34 #[.agg #[.int .i64 5, .int .i64 0, .int .i64 0, .string ⟨#[]⟩, .int .i64 a, .int .i64 0, .bool false, .bool false, .int .i64 0, .int .i64 0, .bool false, .bool false, .int .i64 0, .slice xa xl xc], .agg #[.int .i64 5, .int .i64 0, .int .i64 0, .string ⟨#[]⟩, .int .i64 a, .int .i64 0, .bool false, .bool false, .int .i64 0, .int .i64 0, .bool false, .bool false, .int .i64 0, .slice none 0 0]] W (fun e w' => e = .returned (.bool true) ∧ ((w'.cell? ⟨Nx, 0, none⟩ = some (.int .i64 5) ∧ w'.cell? ⟨Nx, 1, none⟩ = some (.int .i64 0) ∧ w'.cell? ⟨Nx, 2, none⟩ = some (.int .i64 0) ∧ w'.cell? ⟨Nx, 3, none⟩ = some (.string ⟨#[]⟩) ∧ w'.cell? ⟨Nx, 4, none⟩ = some (.int .i64 a) ∧ w'.cell? ⟨Nx, 5, none⟩ = some (.int .i64 0) ∧ w'.cell? ⟨Nx, 6, none⟩ = some (.bool false) ∧ w'.cell? ⟨Nx, 7, none⟩ = some (.bool false) ∧ w'.cell? ⟨Nx, 8, none⟩ = some (.int .i64 0) ∧ w'.cell? ⟨Nx, 9, none⟩ = some (.int .i64 0) ∧ w'.cell? ⟨Nx, 10, none⟩ = some (.bool false) ∧ w'.cell? ⟨Nx, 11, none⟩ = some (.bool false) ∧ w'.cell? ⟨Nx, 12, none⟩ = some (.int .i64 0) ∧ w'.cell? ⟨Nx, 13, none⟩ = some (.slice xa xl xc)) ∧ Below w5.heap.size w5 w')) :=
    fun W h => (lawEq_yes (refH a 0) (refH a 0) .nil .nil ⟨rfl, rfl⟩ W W.heap.size W.heap.size xa none xl xc 0 0 (Nat.le_refl _) (Nat.le_refl _) (TX.out _ _) (leafV (TX.out W W.heap.size).ok)).mono fun e w' q => ⟨q.1, hst _ (h.2.trans (q.2.mono h.2.size))⟩
  skip
  have cRF : ∀ W, ((W.cell? ⟨Nx, 0, none⟩ = some (.int .i64 5) ∧ W.cell? ⟨Nx, 1, none⟩ = some (.int .i64 0) ∧ W.cell? ⟨Nx, 2, none⟩ = some (.int .i64 0) ∧ W.cell? ⟨Nx, 3, none⟩ = some (.string ⟨#[]⟩) ∧ W.cell? ⟨Nx, 4, none⟩ = some (.int .i64 a) ∧ W.cell? ⟨Nx, 5, none⟩ = some (.int .i64 0) ∧ W.cell? ⟨Nx, 6, none⟩ = some (.bool false) ∧ W.cell? ⟨Nx, 7, none⟩ = some (.bool false) ∧ W.cell? ⟨Nx, 8, none⟩ = some (.int .i64 0) ∧ W.cell? ⟨Nx, 9, none⟩ = some (.int .i64 0) ∧ W.cell? ⟨Nx, 10, none⟩ = some (.bool false) ∧ W.cell? ⟨Nx, 11, none⟩ = some (.bool false) ∧ W.cell? ⟨Nx, 12, none⟩ = some (.int .i64 0) ∧ W.cell? ⟨Nx, 13, none⟩ = some (.slice xa xl xc)) ∧ Below w5.heap.size w5 W) → Calls Try.prog 41 #[.int .i64 a, .int .i64 0] W (fun e w' => e = .returned (.agg #[.int .i64 5, .int .i64 0, .int .i64 0, .string ⟨#[]⟩, .int .i64 a, .int .i64 0, .bool false, .bool false, .int .i64 0, .int .i64 0, .bool false, .bool false, .int .i64 0, .slice none 0 0]) ∧ ((w'.cell? ⟨Nx, 0, none⟩ = some (.int .i64 5) ∧ w'.cell? ⟨Nx, 1, none⟩ = some (.int .i64 0) ∧ w'.cell? ⟨Nx, 2, none⟩ = some (.int .i64 0) ∧ w'.cell? ⟨Nx, 3, none⟩ = some (.string ⟨#[]⟩) ∧ w'.cell? ⟨Nx, 4, none⟩ = some (.int .i64 a) ∧ w'.cell? ⟨Nx, 5, none⟩ = some (.int .i64 0) ∧ w'.cell? ⟨Nx, 6, none⟩ = some (.bool false) ∧ w'.cell? ⟨Nx, 7, none⟩ = some (.bool false) ∧ w'.cell? ⟨Nx, 8, none⟩ = some (.int .i64 0) ∧ w'.cell? ⟨Nx, 9, none⟩ = some (.int .i64 0) ∧ w'.cell? ⟨Nx, 10, none⟩ = some (.bool false) ∧ w'.cell? ⟨Nx, 11, none⟩ = some (.bool false) ∧ w'.cell? ⟨Nx, 12, none⟩ = some (.int .i64 0) ∧ w'.cell? ⟨Nx, 13, none⟩ = some (.slice xa xl xc)) ∧ Below w5.heap.size w5 w')) :=
    fun W h => by
      exact (lawRef_any W a 0).mono fun e w' q => ⟨q.1, hst _ (h.2.trans (q.2.mono h.2.size))⟩
  have CE := Lib.hid cE; have CRF := Lib.hid cRF; have HST := Lib.hid hst
  clear cE cRF hst
  have hd0 := HST.out _ (Below.refl _ w5)
  have hd1 := HST.out _ (Below.refl _ w5).drew
  go_wp2_with fail
  go_region_held3 (fun W => ((W.cell? ⟨Nx, 0, none⟩ = some (.int .i64 5) ∧ W.cell? ⟨Nx, 1, none⟩ = some (.int .i64 0) ∧ W.cell? ⟨Nx, 2, none⟩ = some (.int .i64 0) ∧ W.cell? ⟨Nx, 3, none⟩ = some (.string ⟨#[]⟩) ∧ W.cell? ⟨Nx, 4, none⟩ = some (.int .i64 a) ∧ W.cell? ⟨Nx, 5, none⟩ = some (.int .i64 0) ∧ W.cell? ⟨Nx, 6, none⟩ = some (.bool false) ∧ W.cell? ⟨Nx, 7, none⟩ = some (.bool false) ∧ W.cell? ⟨Nx, 8, none⟩ = some (.int .i64 0) ∧ W.cell? ⟨Nx, 9, none⟩ = some (.int .i64 0) ∧ W.cell? ⟨Nx, 10, none⟩ = some (.bool false) ∧ W.cell? ⟨Nx, 11, none⟩ = some (.bool false) ∧ W.cell? ⟨Nx, 12, none⟩ = some (.int .i64 0) ∧ W.cell? ⟨Nx, 13, none⟩ = some (.slice xa xl xc)) ∧ Below w5.heap.size w5 W)) (first | with_reducible assumption | with_reducible exact hd0 | with_reducible exact hd1 | exact hS') (first
        | (go_at_call 41
           with_reducible refine (CRF.out _ (by assumption)).mono ?_
           rintro e w' ⟨rfl, hS'⟩)
        | (go_at_call 34
           with_reducible refine (CE.out _ (by assumption)).mono ?_
           rintro e w' ⟨rfl, hS'⟩))
  all_goals
    have gy := (hS'.2.block _ (lt_of_block GY.out)).trans GY.out
    have BB := Lib.hid (BB.out.trans (hS'.2.mono BB.out.size))
    have cy := cells_of_block gy
    clear hS' hd0 hd1 GX GY CE CRF HST TX gy
    by_cases ab : a ≤ b
    · go_wp2_with fail
      go_loopw [13, 14, 15, 16, 17] (fun f l c r _ W => ∃ i F L C : Int, f = .int .i64 F ∧ l = .int .i64 L ∧ c = .int .i64 C ∧ r = .int .i64 i ∧ a ≤ i ∧ i ≤ b + 1 ∧ W = w' ∧ (-1 ≤ F ∧ F ≤ 65536) ∧ (0 ≤ C ∧ C ≤ i) ∧ (-1 ≤ L ∧ L ≤ 65536) ∧ Hid (C = gN at_ n i - gN at_ n a ∧ (C = 0 → F = -1 ∧ L = -1) ∧ (0 < C → F = gN at_ n a ∧ L = gN at_ n i - 1))) (fun _ _ _ r _ _ => (65537 - intOf r).toNat)
      case atStart => exact ⟨a, -1, -1, 0, rfl, rfl, rfl, rfl, by omega, by omega, rfl, by omega, by omega, by omega, Lib.hid (by omega)⟩
      case round =>
        obtain ⟨i, F, L, C, rfl, rfl, rfl, rfl, hlo, hhi, rfl, hF, hC, hL, hG⟩ := hrel
        have kp := gN_kept (at_ := at_) (i := i) hn.1
        have gl := gN_nonneg (n := n) (i := a) ht.1 (by omega)
        by_cases hx : i ≤ b
        · by_cases c1 : i < at_
          · by_cases f0 : F < 0
            · go_wp2
              all_goals exact ⟨⟨i + 1, i, i, (C + 1), rfl, rfl, rfl, rfl, by omega, by omega, by first | rfl | trivial, by omega, by omega, by omega, Lib.hid (by have g := hG.out; omega)⟩, by simp [intOf]; omega⟩
            · go_wp2
              all_goals exact ⟨⟨i + 1, F, i, (C + 1), rfl, rfl, rfl, rfl, by omega, by omega, by first | rfl | trivial, by omega, by omega, by omega, Lib.hid (by have g := hG.out; omega)⟩, by simp [intOf]; omega⟩
          · by_cases c2 : at_ + n ≤ i
            · by_cases f0 : F < 0
              · go_wp2
                all_goals exact ⟨⟨i + 1, (i - n), (i - n), (C + 1), rfl, rfl, rfl, rfl, by omega, by omega, by first | rfl | trivial, by omega, by omega, by omega, Lib.hid (by have g := hG.out; omega)⟩, by simp [intOf]; omega⟩
              · go_wp2
                all_goals exact ⟨⟨i + 1, F, (i - n), (C + 1), rfl, rfl, rfl, rfl, by omega, by omega, by first | rfl | trivial, by omega, by omega, by omega, Lib.hid (by have g := hG.out; omega)⟩, by simp [intOf]; omega⟩
            · go_wp2
              all_goals exact ⟨⟨i + 1, F, L, C, rfl, rfl, rfl, rfl, by omega, by omega, by first | rfl | trivial, by omega, by omega, by omega, Lib.hid (by have g := hG.out; omega)⟩, by simp [intOf]; omega⟩
        · obtain rfl : i = b + 1 := by omega
          have zr := fun e => gN_zero (at_ := at_) (n := n) (l := a) (h := b) (by omega) hn.1 e
          by_cases bo : (at_ ≤ a ∧ a < at_ + n) ∧ (at_ ≤ b ∧ b < at_ + n)
          · exact absurd bo.1 (by omega)
          · obtain ⟨x, y, eh, e1, e2⟩ := dbl_some ha hb ht hn bo
            have eh : hd = rngH12 x y := HHD.out.symm.trans eh
            subst eh
            have g := hG.out
            have z : ¬ C = 0 := fun h => by have := zr (by omega); omega
            have hx : x = F ∧ y = L := by
              have := e1 ab
              omega
            have hl : L - F + 1 = C := by omega
            obtain ⟨rfl, rfl⟩ := hx
            have y0 := cy 0
            have y4 := cy 4
            have y8 := cy 8
            simp [rngH12] at y0 y4 y8
            clear hG zr HHD cy g e1 e2 kp gl
            by_cases p1 : at_ ≤ a
            · by_cases p2 : a < at_ + n
              · by_cases p3 : at_ ≤ b
                · by_cases p4 : b < at_ + n
                  · exact absurd ⟨⟨p1, p2⟩, p3, p4⟩ bo
                  · clear bo
                    go_wp2
                    all_goals
                      go_ret
                      first | exact ⟨rfl, BB.out⟩ | exact ⟨ret_bool (by simp), BB.out⟩
                · clear bo
                  go_wp2
                  all_goals
                    go_ret
                    first | exact ⟨rfl, BB.out⟩ | exact ⟨ret_bool (by simp), BB.out⟩
              · clear bo
                go_wp2
                all_goals
                  go_ret
                  first | exact ⟨rfl, BB.out⟩ | exact ⟨ret_bool (by simp), BB.out⟩
            · clear bo
              go_wp2
              all_goals
                go_ret
                first | exact ⟨rfl, BB.out⟩ | exact ⟨ret_bool (by simp), BB.out⟩
    · go_wp2_with fail
      go_loopw [13, 14, 15, 16, 17] (fun f l c r _ W => ∃ i F L C : Int, f = .int .i64 F ∧ l = .int .i64 L ∧ c = .int .i64 C ∧ r = .int .i64 i ∧ b ≤ i ∧ i ≤ a + 1 ∧ W = w' ∧ (-1 ≤ F ∧ F ≤ 65536) ∧ (0 ≤ C ∧ C ≤ i) ∧ (-1 ≤ L ∧ L ≤ 65536) ∧ Hid (C = gN at_ n i - gN at_ n b ∧ (C = 0 → F = -1 ∧ L = -1) ∧ (0 < C → F = gN at_ n b ∧ L = gN at_ n i - 1))) (fun _ _ _ r _ _ => (65537 - intOf r).toNat)
      case atStart => exact ⟨b, -1, -1, 0, rfl, rfl, rfl, rfl, by omega, by omega, rfl, by omega, by omega, by omega, Lib.hid (by omega)⟩
      case round =>
        obtain ⟨i, F, L, C, rfl, rfl, rfl, rfl, hlo, hhi, rfl, hF, hC, hL, hG⟩ := hrel
        have kp := gN_kept (at_ := at_) (i := i) hn.1
        have gl := gN_nonneg (n := n) (i := b) ht.1 (by omega)
        by_cases hx : i ≤ a
        · by_cases c1 : i < at_
          · by_cases f0 : F < 0
            · go_wp2
              all_goals exact ⟨⟨i + 1, i, i, (C + 1), rfl, rfl, rfl, rfl, by omega, by omega, by first | rfl | trivial, by omega, by omega, by omega, Lib.hid (by have g := hG.out; omega)⟩, by simp [intOf]; omega⟩
            · go_wp2
              all_goals exact ⟨⟨i + 1, F, i, (C + 1), rfl, rfl, rfl, rfl, by omega, by omega, by first | rfl | trivial, by omega, by omega, by omega, Lib.hid (by have g := hG.out; omega)⟩, by simp [intOf]; omega⟩
          · by_cases c2 : at_ + n ≤ i
            · by_cases f0 : F < 0
              · go_wp2
                all_goals exact ⟨⟨i + 1, (i - n), (i - n), (C + 1), rfl, rfl, rfl, rfl, by omega, by omega, by first | rfl | trivial, by omega, by omega, by omega, Lib.hid (by have g := hG.out; omega)⟩, by simp [intOf]; omega⟩
              · go_wp2
                all_goals exact ⟨⟨i + 1, F, (i - n), (C + 1), rfl, rfl, rfl, rfl, by omega, by omega, by first | rfl | trivial, by omega, by omega, by omega, Lib.hid (by have g := hG.out; omega)⟩, by simp [intOf]; omega⟩
            · go_wp2
              all_goals exact ⟨⟨i + 1, F, L, C, rfl, rfl, rfl, rfl, by omega, by omega, by first | rfl | trivial, by omega, by omega, by omega, Lib.hid (by have g := hG.out; omega)⟩, by simp [intOf]; omega⟩
        · obtain rfl : i = a + 1 := by omega
          have zr := fun e => gN_zero (at_ := at_) (n := n) (l := b) (h := a) (by omega) hn.1 e
          by_cases bo : (at_ ≤ a ∧ a < at_ + n) ∧ (at_ ≤ b ∧ b < at_ + n)
          · exact absurd bo.1 (by omega)
          · obtain ⟨x, y, eh, e1, e2⟩ := dbl_some ha hb ht hn bo
            have eh : hd = rngH12 x y := HHD.out.symm.trans eh
            subst eh
            have g := hG.out
            have z : ¬ C = 0 := fun h => by have := zr (by omega); omega
            have hx : y = F ∧ x = L := by
              have := e2 (by omega)
              omega
            have hl : L - F + 1 = C := by omega
            obtain ⟨rfl, rfl⟩ := hx
            have y0 := cy 0
            have y4 := cy 4
            have y8 := cy 8
            simp [rngH12] at y0 y4 y8
            clear hG zr HHD cy g e1 e2 kp gl
            by_cases p1 : at_ ≤ a
            · by_cases p2 : a < at_ + n
              · by_cases p3 : at_ ≤ b
                · by_cases p4 : b < at_ + n
                  · exact absurd ⟨⟨p1, p2⟩, p3, p4⟩ bo
                  · clear bo
                    go_wp2
                    all_goals
                      go_ret
                      first | exact ⟨rfl, BB.out⟩ | exact ⟨ret_bool (by simp), BB.out⟩
                · clear bo
                  go_wp2
                  all_goals
                    go_ret
                    first | exact ⟨rfl, BB.out⟩ | exact ⟨ret_bool (by simp), BB.out⟩
              · clear bo
                go_wp2
                all_goals
                  go_ret
                  first | exact ⟨rfl, BB.out⟩ | exact ⟨ret_bool (by simp), BB.out⟩
            · clear bo
              go_wp2
              all_goals
                go_ret
                first | exact ⟨rfl, BB.out⟩ | exact ⟨ret_bool (by simp), BB.out⟩

set_option maxRecDepth 100000 in
set_option maxHeartbeats 4000000 in
theorem shOut_hi (w : World) (a b at_ n : Int) (ha : 0 ≤ a ∧ a ≤ 65535) (hb : 0 ≤ b ∧ b ≤ 65535) (ht : 0 ≤ at_ ∧ at_ ≤ 65535) (hn : 1 ≤ n ∧ n ≤ 65536) (hc : at_ + n ≤ a) : Calls Try.prog 13 #[.int .i64 a, .int .i64 b, .int .i64 at_, .int .i64 n] w (TruePost w) := by
  obtain ⟨hd, hhd⟩ : ∃ hd, mvH ⟨2, 0, 0, at_, -n⟩ (rngH12 a b) = hd := ⟨_, rfl⟩
  have cS : ∀ W, Calls Try.prog 43 #[.agg #[.int .i64 5, .int .i64 0, .int .i64 0, .string ⟨#[]⟩, .int .i64 a, .int .i64 0, .bool false, .bool false, .int .i64 0, .int .i64 0, .bool false, .bool false, .int .i64 0, .slice none 0 0], .int .i64 at_, .int .i64 (-n)] W (fun e w' => Below W.heap.size W w' ∧ ∃ xa xl xc, e = .returned (.tuple #[.agg #[.int .i64 5, .int .i64 0, .int .i64 0, .string ⟨#[]⟩, .int .i64 (a - n), .int .i64 0, .bool false, .bool false, .int .i64 0, .int .i64 0, .bool false, .bool false, .int .i64 0, .slice xa xl xc], .int .i64 0]) ∧ TreeV w' w'.heap.size (refH (a - n) 0) .nil xa xl) :=
    fun W => (shRows_any (refH a 0) .nil at_ (-n) W W.heap.size none 0 0 (Nat.le_refl _) (leafV (ref_ok (by simp only [I64]; omega) (by simp [I64]))) (by simp only [I64]; omega) (by simp only [I64]; omega)).mono fun e w' q => (q.tree (ref_ok (by simp only [I64]; omega) (by simp [I64]))).good (h' := (refH (a - n) 0)) (ks' := .nil) (err_rows (may_ref ha) ht) (by rw [sgl ha hn ht.1, if_neg (by omega), if_pos hc]) rfl
  have cD : ∀ W, Calls Try.prog 43 #[.agg #[.int .i64 6, .int .i64 0, .int .i64 0, .string ⟨#[]⟩, .int .i64 a, .int .i64 0, .bool false, .bool false, .int .i64 b, .int .i64 0, .bool false, .bool false, .int .i64 0, .slice none 0 0], .int .i64 at_, .int .i64 (-n)] W (fun e w' => Below W.heap.size W w' ∧ ∃ xa xl xc, e = .returned (.tuple #[.agg #[.int .i64 hd.kind, .int .i64 hd.op, .int .i64 hd.num, .string ⟨hd.text.toArray⟩, .int .i64 hd.ref.row, .int .i64 hd.ref.col, .bool hd.ref.pr, .bool hd.ref.pc, .int .i64 hd.to.row, .int .i64 hd.to.col, .bool hd.to.pr, .bool hd.to.pc, .int .i64 hd.fn, .slice xa xl xc], .int .i64 0]) ∧ TreeV w' w'.heap.size hd .nil xa xl) :=
    fun W => (shRows_any (rngH12 a b) .nil at_ (-n) W W.heap.size none 0 0 (Nat.le_refl _) (leafV (rng12_ok (by simp only [I64]; omega) (by simp only [I64]; omega))) (by simp only [I64]; omega) (by simp only [I64]; omega)).mono fun e w' q => (q.tree (rng12_ok (by simp only [I64]; omega) (by simp only [I64]; omega))).good (h' := hd) (ks' := .nil) (err_rows (may_rng ha hb) ht) hhd rfl
  have CS := Lib.hid cS; have CD := Lib.hid cD; have HHD := Lib.hid hhd
  clear cS cD hhd
  have BB := Lib.hid (Below.refl w.heap.size w)
  go_enter Try.func13, Try.ntmps13
  go_wp2_with fail
  refine (lawBegun_any _).mono ?_
  rintro e w1 ⟨rfl, b1⟩
  have BB := Lib.hid (BB.out.trans (b1.mono BB.out.size))
  clear b1
  go_wp2_with fail
  refine (lawRef_any _ a 0).mono ?_
  rintro e w2 ⟨rfl, b2⟩
  have BB := Lib.hid (BB.out.trans (b2.mono BB.out.size))
  clear b2
  go_wp2_with fail
  refine (CS.out _).mono ?_
  rintro e w3 ⟨b3, xa, xl, xc, rfl, tx⟩
  have TX := Lib.hid (leaf_out tx)
  have BB := Lib.hid ((BB.out.trans (b3.mono BB.out.size)).alloc (Nat.le_trans BB.out.size b3.size) (.cells #[.int .i64 5, .int .i64 0, .int .i64 0, .string ⟨#[]⟩, .int .i64 (a - n), .int .i64 0, .bool false, .bool false, .int .i64 0, .int .i64 0, .bool false, .bool false, .int .i64 0, .slice xa xl xc] 29))
  have GX := Lib.hid (heap_alloc_new w3 (.cells #[.int .i64 5, .int .i64 0, .int .i64 0, .string ⟨#[]⟩, .int .i64 (a - n), .int .i64 0, .bool false, .bool false, .int .i64 0, .int .i64 0, .bool false, .bool false, .int .i64 0, .slice xa xl xc] 29))
  clear b3 tx
  go_wp2_with fail
  refine (CD.out _).mono ?_
  rintro e w4 ⟨b4, ya, yl, yc, rfl, ty⟩
  have gx := (Below.heap_alloc w4 (.cells #[.int .i64 hd.kind, .int .i64 hd.op, .int .i64 hd.num, .string ⟨hd.text.toArray⟩, .int .i64 hd.ref.row, .int .i64 hd.ref.col, .bool hd.ref.pr, .bool hd.ref.pc, .int .i64 hd.to.row, .int .i64 hd.to.col, .bool hd.to.pr, .bool hd.to.pc, .int .i64 hd.fn, .slice ya yl yc] 29) _ (Nat.lt_of_lt_of_le (lt_of_block GX.out) b4.size)).trans ((b4.block _ (lt_of_block GX.out)).trans GX.out)
  have gy := heap_alloc_new w4 (.cells #[.int .i64 hd.kind, .int .i64 hd.op, .int .i64 hd.num, .string ⟨hd.text.toArray⟩, .int .i64 hd.ref.row, .int .i64 hd.ref.col, .bool hd.ref.pr, .bool hd.ref.pc, .int .i64 hd.to.row, .int .i64 hd.to.col, .bool hd.to.pr, .bool hd.to.pc, .int .i64 hd.fn, .slice ya yl yc] 29)
  have BB := Lib.hid ((BB.out.trans (b4.mono BB.out.size)).alloc (Nat.le_trans BB.out.size b4.size) (.cells #[.int .i64 hd.kind, .int .i64 hd.op, .int .i64 hd.num, .string ⟨hd.text.toArray⟩, .int .i64 hd.ref.row, .int .i64 hd.ref.col, .bool hd.ref.pr, .bool hd.ref.pc, .int .i64 hd.to.row, .int .i64 hd.to.col, .bool hd.to.pr, .bool hd.to.pc, .int .i64 hd.fn, .slice ya yl yc] 29))
  have GX := Lib.hid gx; have GY := Lib.hid gy
  clear b4 gx gy ty CS CD
  go_wp2_with fail
  have gx := GX.out; have gy := GY.out; have bb := BB.out
  clear GX GY BB
  generalize w4.alloc (.cells #[.int .i64 hd.kind, .int .i64 hd.op, .int .i64 hd.num, .string ⟨hd.text.toArray⟩, .int .i64 hd.ref.row, .int .i64 hd.ref.col, .bool hd.ref.pr, .bool hd.ref.pc, .int .i64 hd.to.row, .int .i64 hd.to.col, .bool hd.to.pr, .bool hd.to.pc, .int .i64 hd.fn, .slice ya yl yc] 29) = w5 at gx gy bb ⊢
  generalize w3.heap.size = Nx at gx ⊢
  generalize w4.heap.size = Ny at gy ⊢
  have GX := Lib.hid gx; have GY := Lib.hid gy; have BB := Lib.hid bb
  clear gx gy bb
  have hst : ∀ W, Below w5.heap.size w5 W → ((W.cell? ⟨Nx, 0, none⟩ = some (.int .i64 5) ∧ W.cell? ⟨Nx, 1, none⟩ = some (.int .i64 0) ∧ W.cell? ⟨Nx, 2, none⟩ = some (.int .i64 0) ∧ W.cell? ⟨Nx, 3, none⟩ = some (.string ⟨#[]⟩) ∧ W.cell? ⟨Nx, 4, none⟩ = some (.int .i64 (a - n)) ∧ W.cell? ⟨Nx, 5, none⟩ = some (.int .i64 0) ∧ W.cell? ⟨Nx, 6, none⟩ = some (.bool false) ∧ W.cell? ⟨Nx, 7, none⟩ = some (.bool false) ∧ W.cell? ⟨Nx, 8, none⟩ = some (.int .i64 0) ∧ W.cell? ⟨Nx, 9, none⟩ = some (.int .i64 0) ∧ W.cell? ⟨Nx, 10, none⟩ = some (.bool false) ∧ W.cell? ⟨Nx, 11, none⟩ = some (.bool false) ∧ W.cell? ⟨Nx, 12, none⟩ = some (.int .i64 0) ∧ W.cell? ⟨Nx, 13, none⟩ = some (.slice xa xl xc)) ∧ Below w5.heap.size w5 W) := fun W b => by
    refine ⟨?_, b⟩
    have k := cells_of_block ((b.block _ (lt_of_block GX.out)).trans GX.out)
    simp [k]
  have cE : ∀ W, ((W.cell? ⟨Nx, 0, none⟩ = some (.int .i64 5) ∧ W.cell? ⟨Nx, 1, none⟩ = some (.int .i64 0) ∧ W.cell? ⟨Nx, 2, none⟩ = some (.int .i64 0) ∧ W.cell? ⟨Nx, 3, none⟩ = some (.string ⟨#[]⟩) ∧ W.cell? ⟨Nx, 4, none⟩ = some (.int .i64 (a - n)) ∧ W.cell? ⟨Nx, 5, none⟩ = some (.int .i64 0) ∧ W.cell? ⟨Nx, 6, none⟩ = some (.bool false) ∧ W.cell? ⟨Nx, 7, none⟩ = some (.bool false) ∧ W.cell? ⟨Nx, 8, none⟩ = some (.int .i64 0) ∧ W.cell? ⟨Nx, 9, none⟩ = some (.int .i64 0) ∧ W.cell? ⟨Nx, 10, none⟩ = some (.bool false) ∧ W.cell? ⟨Nx, 11, none⟩ = some (.bool false) ∧ W.cell? ⟨Nx, 12, none⟩ = some (.int .i64 0) ∧ W.cell? ⟨Nx, 13, none⟩ = some (.slice xa xl xc)) ∧ Below w5.heap.size w5 W) → Calls Try.prog 34 #[.agg #[.int .i64 5, .int .i64 0, .int .i64 0, .string ⟨#[]⟩, .int .i64 (a - n), .int .i64 0, .bool false, .bool false, .int .i64 0, .int .i64 0, .bool false, .bool false, .int .i64 0, .slice xa xl xc], .agg #[.int .i64 5, .int .i64 0, .int .i64 0, .string ⟨#[]⟩, .int .i64 (a - n), .int .i64 0, .bool false, .bool false, .int .i64 0, .int .i64 0, .bool false, .bool false, .int .i64 0, .slice none 0 0]] W (fun e w' => e = .returned (.bool true) ∧ ((w'.cell? ⟨Nx, 0, none⟩ = some (.int .i64 5) ∧ w'.cell? ⟨Nx, 1, none⟩ = some (.int .i64 0) ∧ w'.cell? ⟨Nx, 2, none⟩ = some (.int .i64 0) ∧ w'.cell? ⟨Nx, 3, none⟩ = some (.string ⟨#[]⟩) ∧ w'.cell? ⟨Nx, 4, none⟩ = some (.int .i64 (a - n)) ∧ w'.cell? ⟨Nx, 5, none⟩ = some (.int .i64 0) ∧ w'.cell? ⟨Nx, 6, none⟩ = some (.bool false) ∧ w'.cell? ⟨Nx, 7, none⟩ = some (.bool false) ∧ w'.cell? ⟨Nx, 8, none⟩ = some (.int .i64 0) ∧ w'.cell? ⟨Nx, 9, none⟩ = some (.int .i64 0) ∧ w'.cell? ⟨Nx, 10, none⟩ = some (.bool false) ∧ w'.cell? ⟨Nx, 11, none⟩ = some (.bool false) ∧ w'.cell? ⟨Nx, 12, none⟩ = some (.int .i64 0) ∧ w'.cell? ⟨Nx, 13, none⟩ = some (.slice xa xl xc)) ∧ Below w5.heap.size w5 w')) :=
    fun W h => (lawEq_yes (refH (a - n) 0) (refH (a - n) 0) .nil .nil ⟨rfl, rfl⟩ W W.heap.size W.heap.size xa none xl xc 0 0 (Nat.le_refl _) (Nat.le_refl _) (TX.out _ _) (leafV (TX.out W W.heap.size).ok)).mono fun e w' q => ⟨q.1, hst _ (h.2.trans (q.2.mono h.2.size))⟩
  have ew : IntKind.i64.wrap (a - n) = a - n := by rw [IntKind.wrap_i64]; omega
  have cRF : ∀ W, ((W.cell? ⟨Nx, 0, none⟩ = some (.int .i64 5) ∧ W.cell? ⟨Nx, 1, none⟩ = some (.int .i64 0) ∧ W.cell? ⟨Nx, 2, none⟩ = some (.int .i64 0) ∧ W.cell? ⟨Nx, 3, none⟩ = some (.string ⟨#[]⟩) ∧ W.cell? ⟨Nx, 4, none⟩ = some (.int .i64 (a - n)) ∧ W.cell? ⟨Nx, 5, none⟩ = some (.int .i64 0) ∧ W.cell? ⟨Nx, 6, none⟩ = some (.bool false) ∧ W.cell? ⟨Nx, 7, none⟩ = some (.bool false) ∧ W.cell? ⟨Nx, 8, none⟩ = some (.int .i64 0) ∧ W.cell? ⟨Nx, 9, none⟩ = some (.int .i64 0) ∧ W.cell? ⟨Nx, 10, none⟩ = some (.bool false) ∧ W.cell? ⟨Nx, 11, none⟩ = some (.bool false) ∧ W.cell? ⟨Nx, 12, none⟩ = some (.int .i64 0) ∧ W.cell? ⟨Nx, 13, none⟩ = some (.slice xa xl xc)) ∧ Below w5.heap.size w5 W) → Calls Try.prog 41 #[.int .i64 (a - n), .int .i64 0] W (fun e w' => e = .returned (.agg #[.int .i64 5, .int .i64 0, .int .i64 0, .string ⟨#[]⟩, .int .i64 (a - n), .int .i64 0, .bool false, .bool false, .int .i64 0, .int .i64 0, .bool false, .bool false, .int .i64 0, .slice none 0 0]) ∧ ((w'.cell? ⟨Nx, 0, none⟩ = some (.int .i64 5) ∧ w'.cell? ⟨Nx, 1, none⟩ = some (.int .i64 0) ∧ w'.cell? ⟨Nx, 2, none⟩ = some (.int .i64 0) ∧ w'.cell? ⟨Nx, 3, none⟩ = some (.string ⟨#[]⟩) ∧ w'.cell? ⟨Nx, 4, none⟩ = some (.int .i64 (a - n)) ∧ w'.cell? ⟨Nx, 5, none⟩ = some (.int .i64 0) ∧ w'.cell? ⟨Nx, 6, none⟩ = some (.bool false) ∧ w'.cell? ⟨Nx, 7, none⟩ = some (.bool false) ∧ w'.cell? ⟨Nx, 8, none⟩ = some (.int .i64 0) ∧ w'.cell? ⟨Nx, 9, none⟩ = some (.int .i64 0) ∧ w'.cell? ⟨Nx, 10, none⟩ = some (.bool false) ∧ w'.cell? ⟨Nx, 11, none⟩ = some (.bool false) ∧ w'.cell? ⟨Nx, 12, none⟩ = some (.int .i64 0) ∧ w'.cell? ⟨Nx, 13, none⟩ = some (.slice xa xl xc)) ∧ Below w5.heap.size w5 w')) :=
    fun W h => by
      exact (lawRef_any W (a - n) 0).mono fun e w' q => ⟨q.1, hst _ (h.2.trans (q.2.mono h.2.size))⟩
  have CE := Lib.hid cE; have CRF := Lib.hid cRF; have HST := Lib.hid hst
  clear cE cRF hst
  have hd0 := HST.out _ (Below.refl _ w5)
  have hd1 := HST.out _ (Below.refl _ w5).drew
  go_wp2_with fail
  go_region_held3 (fun W => ((W.cell? ⟨Nx, 0, none⟩ = some (.int .i64 5) ∧ W.cell? ⟨Nx, 1, none⟩ = some (.int .i64 0) ∧ W.cell? ⟨Nx, 2, none⟩ = some (.int .i64 0) ∧ W.cell? ⟨Nx, 3, none⟩ = some (.string ⟨#[]⟩) ∧ W.cell? ⟨Nx, 4, none⟩ = some (.int .i64 (a - n)) ∧ W.cell? ⟨Nx, 5, none⟩ = some (.int .i64 0) ∧ W.cell? ⟨Nx, 6, none⟩ = some (.bool false) ∧ W.cell? ⟨Nx, 7, none⟩ = some (.bool false) ∧ W.cell? ⟨Nx, 8, none⟩ = some (.int .i64 0) ∧ W.cell? ⟨Nx, 9, none⟩ = some (.int .i64 0) ∧ W.cell? ⟨Nx, 10, none⟩ = some (.bool false) ∧ W.cell? ⟨Nx, 11, none⟩ = some (.bool false) ∧ W.cell? ⟨Nx, 12, none⟩ = some (.int .i64 0) ∧ W.cell? ⟨Nx, 13, none⟩ = some (.slice xa xl xc)) ∧ Below w5.heap.size w5 W)) (first | with_reducible assumption | with_reducible exact hd0 | with_reducible exact hd1 | exact hS') (first
        | (go_at_call 41
           with_reducible refine (CRF.out _ (by assumption)).mono ?_
           rintro e w' ⟨rfl, hS'⟩)
        | (go_at_call 34
           with_reducible refine (CE.out _ (by assumption)).mono ?_
           rintro e w' ⟨rfl, hS'⟩))
  all_goals
    have gy := (hS'.2.block _ (lt_of_block GY.out)).trans GY.out
    have BB := Lib.hid (BB.out.trans (hS'.2.mono BB.out.size))
    have cy := cells_of_block gy
    clear hS' hd0 hd1 GX GY CE CRF HST TX gy
    by_cases ab : a ≤ b
    · go_wp2_with fail
      go_loopw [13, 14, 15, 16, 17] (fun f l c r _ W => ∃ i F L C : Int, f = .int .i64 F ∧ l = .int .i64 L ∧ c = .int .i64 C ∧ r = .int .i64 i ∧ a ≤ i ∧ i ≤ b + 1 ∧ W = w' ∧ (-1 ≤ F ∧ F ≤ 65536) ∧ (0 ≤ C ∧ C ≤ i) ∧ (-1 ≤ L ∧ L ≤ 65536) ∧ Hid (C = gN at_ n i - gN at_ n a ∧ (C = 0 → F = -1 ∧ L = -1) ∧ (0 < C → F = gN at_ n a ∧ L = gN at_ n i - 1))) (fun _ _ _ r _ _ => (65537 - intOf r).toNat)
      case atStart => exact ⟨a, -1, -1, 0, rfl, rfl, rfl, rfl, by omega, by omega, rfl, by omega, by omega, by omega, Lib.hid (by omega)⟩
      case round =>
        obtain ⟨i, F, L, C, rfl, rfl, rfl, rfl, hlo, hhi, rfl, hF, hC, hL, hG⟩ := hrel
        have kp := gN_kept (at_ := at_) (i := i) hn.1
        have gl := gN_nonneg (n := n) (i := a) ht.1 (by omega)
        by_cases hx : i ≤ b
        · by_cases c1 : i < at_
          · by_cases f0 : F < 0
            · go_wp2
              all_goals exact ⟨⟨i + 1, i, i, (C + 1), rfl, rfl, rfl, rfl, by omega, by omega, by first | rfl | trivial, by omega, by omega, by omega, Lib.hid (by have g := hG.out; omega)⟩, by simp [intOf]; omega⟩
            · go_wp2
              all_goals exact ⟨⟨i + 1, F, i, (C + 1), rfl, rfl, rfl, rfl, by omega, by omega, by first | rfl | trivial, by omega, by omega, by omega, Lib.hid (by have g := hG.out; omega)⟩, by simp [intOf]; omega⟩
          · by_cases c2 : at_ + n ≤ i
            · by_cases f0 : F < 0
              · go_wp2
                all_goals exact ⟨⟨i + 1, (i - n), (i - n), (C + 1), rfl, rfl, rfl, rfl, by omega, by omega, by first | rfl | trivial, by omega, by omega, by omega, Lib.hid (by have g := hG.out; omega)⟩, by simp [intOf]; omega⟩
              · go_wp2
                all_goals exact ⟨⟨i + 1, F, (i - n), (C + 1), rfl, rfl, rfl, rfl, by omega, by omega, by first | rfl | trivial, by omega, by omega, by omega, Lib.hid (by have g := hG.out; omega)⟩, by simp [intOf]; omega⟩
            · go_wp2
              all_goals exact ⟨⟨i + 1, F, L, C, rfl, rfl, rfl, rfl, by omega, by omega, by first | rfl | trivial, by omega, by omega, by omega, Lib.hid (by have g := hG.out; omega)⟩, by simp [intOf]; omega⟩
        · obtain rfl : i = b + 1 := by omega
          have zr := fun e => gN_zero (at_ := at_) (n := n) (l := a) (h := b) (by omega) hn.1 e
          by_cases bo : (at_ ≤ a ∧ a < at_ + n) ∧ (at_ ≤ b ∧ b < at_ + n)
          · exact absurd bo.1 (by omega)
          · obtain ⟨x, y, eh, e1, e2⟩ := dbl_some ha hb ht hn bo
            have eh : hd = rngH12 x y := HHD.out.symm.trans eh
            subst eh
            have g := hG.out
            have z : ¬ C = 0 := fun h => by have := zr (by omega); omega
            have hx : x = F ∧ y = L := by
              have := e1 ab
              omega
            have hl : L - F + 1 = C := by omega
            obtain ⟨rfl, rfl⟩ := hx
            have y0 := cy 0
            have y4 := cy 4
            have y8 := cy 8
            simp [rngH12] at y0 y4 y8
            clear hG zr HHD cy g e1 e2 kp gl
            by_cases p1 : at_ ≤ a
            · by_cases p2 : a < at_ + n
              · by_cases p3 : at_ ≤ b
                · by_cases p4 : b < at_ + n
                  · exact absurd ⟨⟨p1, p2⟩, p3, p4⟩ bo
                  · clear bo
                    go_wp2
                    all_goals
                      go_ret
                      first | exact ⟨rfl, BB.out⟩ | exact ⟨ret_bool (by simp), BB.out⟩
                · clear bo
                  go_wp2
                  all_goals
                    go_ret
                    first | exact ⟨rfl, BB.out⟩ | exact ⟨ret_bool (by simp), BB.out⟩
              · clear bo
                go_wp2
                all_goals
                  go_ret
                  first | exact ⟨rfl, BB.out⟩ | exact ⟨ret_bool (by simp), BB.out⟩
            · clear bo
              go_wp2
              all_goals
                go_ret
                first | exact ⟨rfl, BB.out⟩ | exact ⟨ret_bool (by simp), BB.out⟩
    · go_wp2_with fail
      go_loopw [13, 14, 15, 16, 17] (fun f l c r _ W => ∃ i F L C : Int, f = .int .i64 F ∧ l = .int .i64 L ∧ c = .int .i64 C ∧ r = .int .i64 i ∧ b ≤ i ∧ i ≤ a + 1 ∧ W = w' ∧ (-1 ≤ F ∧ F ≤ 65536) ∧ (0 ≤ C ∧ C ≤ i) ∧ (-1 ≤ L ∧ L ≤ 65536) ∧ Hid (C = gN at_ n i - gN at_ n b ∧ (C = 0 → F = -1 ∧ L = -1) ∧ (0 < C → F = gN at_ n b ∧ L = gN at_ n i - 1))) (fun _ _ _ r _ _ => (65537 - intOf r).toNat)
      case atStart => exact ⟨b, -1, -1, 0, rfl, rfl, rfl, rfl, by omega, by omega, rfl, by omega, by omega, by omega, Lib.hid (by omega)⟩
      case round =>
        obtain ⟨i, F, L, C, rfl, rfl, rfl, rfl, hlo, hhi, rfl, hF, hC, hL, hG⟩ := hrel
        have kp := gN_kept (at_ := at_) (i := i) hn.1
        have gl := gN_nonneg (n := n) (i := b) ht.1 (by omega)
        by_cases hx : i ≤ a
        · by_cases c1 : i < at_
          · by_cases f0 : F < 0
            · go_wp2
              all_goals exact ⟨⟨i + 1, i, i, (C + 1), rfl, rfl, rfl, rfl, by omega, by omega, by first | rfl | trivial, by omega, by omega, by omega, Lib.hid (by have g := hG.out; omega)⟩, by simp [intOf]; omega⟩
            · go_wp2
              all_goals exact ⟨⟨i + 1, F, i, (C + 1), rfl, rfl, rfl, rfl, by omega, by omega, by first | rfl | trivial, by omega, by omega, by omega, Lib.hid (by have g := hG.out; omega)⟩, by simp [intOf]; omega⟩
          · by_cases c2 : at_ + n ≤ i
            · by_cases f0 : F < 0
              · go_wp2
                all_goals exact ⟨⟨i + 1, (i - n), (i - n), (C + 1), rfl, rfl, rfl, rfl, by omega, by omega, by first | rfl | trivial, by omega, by omega, by omega, Lib.hid (by have g := hG.out; omega)⟩, by simp [intOf]; omega⟩
              · go_wp2
                all_goals exact ⟨⟨i + 1, F, (i - n), (C + 1), rfl, rfl, rfl, rfl, by omega, by omega, by first | rfl | trivial, by omega, by omega, by omega, Lib.hid (by have g := hG.out; omega)⟩, by simp [intOf]; omega⟩
            · go_wp2
              all_goals exact ⟨⟨i + 1, F, L, C, rfl, rfl, rfl, rfl, by omega, by omega, by first | rfl | trivial, by omega, by omega, by omega, Lib.hid (by have g := hG.out; omega)⟩, by simp [intOf]; omega⟩
        · obtain rfl : i = a + 1 := by omega
          have zr := fun e => gN_zero (at_ := at_) (n := n) (l := b) (h := a) (by omega) hn.1 e
          by_cases bo : (at_ ≤ a ∧ a < at_ + n) ∧ (at_ ≤ b ∧ b < at_ + n)
          · exact absurd bo.1 (by omega)
          · obtain ⟨x, y, eh, e1, e2⟩ := dbl_some ha hb ht hn bo
            have eh : hd = rngH12 x y := HHD.out.symm.trans eh
            subst eh
            have g := hG.out
            have z : ¬ C = 0 := fun h => by have := zr (by omega); omega
            have hx : y = F ∧ x = L := by
              have := e2 (by omega)
              omega
            have hl : L - F + 1 = C := by omega
            obtain ⟨rfl, rfl⟩ := hx
            have y0 := cy 0
            have y4 := cy 4
            have y8 := cy 8
            simp [rngH12] at y0 y4 y8
            clear hG zr HHD cy g e1 e2 kp gl
            by_cases p1 : at_ ≤ a
            · by_cases p2 : a < at_ + n
              · by_cases p3 : at_ ≤ b
                · by_cases p4 : b < at_ + n
                  · exact absurd ⟨⟨p1, p2⟩, p3, p4⟩ bo
                  · clear bo
                    go_wp2
                    all_goals
                      go_ret
                      first | exact ⟨rfl, BB.out⟩ | exact ⟨ret_bool (by simp), BB.out⟩
                · clear bo
                  go_wp2
                  all_goals
                    go_ret
                    first | exact ⟨rfl, BB.out⟩ | exact ⟨ret_bool (by simp), BB.out⟩
              · clear bo
                go_wp2
                all_goals
                  go_ret
                  first | exact ⟨rfl, BB.out⟩ | exact ⟨ret_bool (by simp), BB.out⟩
            · clear bo
              go_wp2
              all_goals
                go_ret
                first | exact ⟨rfl, BB.out⟩ | exact ⟨ret_bool (by simp), BB.out⟩

set_option maxRecDepth 100000 in
set_option maxHeartbeats 4000000 in
theorem shOut_in (w : World) (a b at_ n : Int) (ha : 0 ≤ a ∧ a ≤ 65535) (hb : 0 ≤ b ∧ b ≤ 65535) (ht : 0 ≤ at_ ∧ at_ ≤ 65535) (hn : 1 ≤ n ∧ n ≤ 65536) (hc : at_ ≤ a ∧ a < at_ + n) : Calls Try.prog 13 #[.int .i64 a, .int .i64 b, .int .i64 at_, .int .i64 n] w (TruePost w) := by
  obtain ⟨hd, hhd⟩ : ∃ hd, mvH ⟨2, 0, 0, at_, -n⟩ (rngH12 a b) = hd := ⟨_, rfl⟩
  have cS : ∀ W, Calls Try.prog 43 #[.agg #[.int .i64 5, .int .i64 0, .int .i64 0, .string ⟨#[]⟩, .int .i64 a, .int .i64 0, .bool false, .bool false, .int .i64 0, .int .i64 0, .bool false, .bool false, .int .i64 0, .slice none 0 0], .int .i64 at_, .int .i64 (-n)] W (fun e w' => Below W.heap.size W w' ∧ ∃ xa xl xc, e = .returned (.tuple #[.agg #[.int .i64 4, .int .i64 0, .int .i64 3, .string ⟨#[]⟩, .int .i64 0, .int .i64 0, .bool false, .bool false, .int .i64 0, .int .i64 0, .bool false, .bool false, .int .i64 0, .slice xa xl xc], .int .i64 0]) ∧ TreeV w' w'.heap.size lostH .nil xa xl) :=
    fun W => (shRows_any (refH a 0) .nil at_ (-n) W W.heap.size none 0 0 (Nat.le_refl _) (leafV (ref_ok (by simp only [I64]; omega) (by simp [I64]))) (by simp only [I64]; omega) (by simp only [I64]; omega)).mono fun e w' q => (q.tree (ref_ok (by simp only [I64]; omega) (by simp [I64]))).good (h' := lostH) (ks' := .nil) (err_rows (may_ref ha) ht) (by rw [sgl ha hn ht.1, if_neg (by omega), if_neg (by omega)]) rfl
  have cD : ∀ W, Calls Try.prog 43 #[.agg #[.int .i64 6, .int .i64 0, .int .i64 0, .string ⟨#[]⟩, .int .i64 a, .int .i64 0, .bool false, .bool false, .int .i64 b, .int .i64 0, .bool false, .bool false, .int .i64 0, .slice none 0 0], .int .i64 at_, .int .i64 (-n)] W (fun e w' => Below W.heap.size W w' ∧ ∃ xa xl xc, e = .returned (.tuple #[.agg #[.int .i64 hd.kind, .int .i64 hd.op, .int .i64 hd.num, .string ⟨hd.text.toArray⟩, .int .i64 hd.ref.row, .int .i64 hd.ref.col, .bool hd.ref.pr, .bool hd.ref.pc, .int .i64 hd.to.row, .int .i64 hd.to.col, .bool hd.to.pr, .bool hd.to.pc, .int .i64 hd.fn, .slice xa xl xc], .int .i64 0]) ∧ TreeV w' w'.heap.size hd .nil xa xl) :=
    fun W => (shRows_any (rngH12 a b) .nil at_ (-n) W W.heap.size none 0 0 (Nat.le_refl _) (leafV (rng12_ok (by simp only [I64]; omega) (by simp only [I64]; omega))) (by simp only [I64]; omega) (by simp only [I64]; omega)).mono fun e w' q => (q.tree (rng12_ok (by simp only [I64]; omega) (by simp only [I64]; omega))).good (h' := hd) (ks' := .nil) (err_rows (may_rng ha hb) ht) hhd rfl
  have CS := Lib.hid cS; have CD := Lib.hid cD; have HHD := Lib.hid hhd
  clear cS cD hhd
  have BB := Lib.hid (Below.refl w.heap.size w)
  go_enter Try.func13, Try.ntmps13
  go_wp2_with fail
  refine (lawBegun_any _).mono ?_
  rintro e w1 ⟨rfl, b1⟩
  have BB := Lib.hid (BB.out.trans (b1.mono BB.out.size))
  clear b1
  go_wp2_with fail
  refine (lawRef_any _ a 0).mono ?_
  rintro e w2 ⟨rfl, b2⟩
  have BB := Lib.hid (BB.out.trans (b2.mono BB.out.size))
  clear b2
  go_wp2_with fail
  refine (CS.out _).mono ?_
  rintro e w3 ⟨b3, xa, xl, xc, rfl, tx⟩
  have TX := Lib.hid (leaf_out tx)
  have BB := Lib.hid ((BB.out.trans (b3.mono BB.out.size)).alloc (Nat.le_trans BB.out.size b3.size) (.cells #[.int .i64 4, .int .i64 0, .int .i64 3, .string ⟨#[]⟩, .int .i64 0, .int .i64 0, .bool false, .bool false, .int .i64 0, .int .i64 0, .bool false, .bool false, .int .i64 0, .slice xa xl xc] 29))
  have GX := Lib.hid (heap_alloc_new w3 (.cells #[.int .i64 4, .int .i64 0, .int .i64 3, .string ⟨#[]⟩, .int .i64 0, .int .i64 0, .bool false, .bool false, .int .i64 0, .int .i64 0, .bool false, .bool false, .int .i64 0, .slice xa xl xc] 29))
  clear b3 tx
  go_wp2_with fail
  refine (CD.out _).mono ?_
  rintro e w4 ⟨b4, ya, yl, yc, rfl, ty⟩
  have gx := (Below.heap_alloc w4 (.cells #[.int .i64 hd.kind, .int .i64 hd.op, .int .i64 hd.num, .string ⟨hd.text.toArray⟩, .int .i64 hd.ref.row, .int .i64 hd.ref.col, .bool hd.ref.pr, .bool hd.ref.pc, .int .i64 hd.to.row, .int .i64 hd.to.col, .bool hd.to.pr, .bool hd.to.pc, .int .i64 hd.fn, .slice ya yl yc] 29) _ (Nat.lt_of_lt_of_le (lt_of_block GX.out) b4.size)).trans ((b4.block _ (lt_of_block GX.out)).trans GX.out)
  have gy := heap_alloc_new w4 (.cells #[.int .i64 hd.kind, .int .i64 hd.op, .int .i64 hd.num, .string ⟨hd.text.toArray⟩, .int .i64 hd.ref.row, .int .i64 hd.ref.col, .bool hd.ref.pr, .bool hd.ref.pc, .int .i64 hd.to.row, .int .i64 hd.to.col, .bool hd.to.pr, .bool hd.to.pc, .int .i64 hd.fn, .slice ya yl yc] 29)
  have BB := Lib.hid ((BB.out.trans (b4.mono BB.out.size)).alloc (Nat.le_trans BB.out.size b4.size) (.cells #[.int .i64 hd.kind, .int .i64 hd.op, .int .i64 hd.num, .string ⟨hd.text.toArray⟩, .int .i64 hd.ref.row, .int .i64 hd.ref.col, .bool hd.ref.pr, .bool hd.ref.pc, .int .i64 hd.to.row, .int .i64 hd.to.col, .bool hd.to.pr, .bool hd.to.pc, .int .i64 hd.fn, .slice ya yl yc] 29))
  have GX := Lib.hid gx; have GY := Lib.hid gy
  clear b4 gx gy ty CS CD
  have cx := cells_of_block GX.out
  have cy := cells_of_block GY.out
  clear GX GY TX
  by_cases ab : a ≤ b
  · go_wp2_with fail
    clear cx
    generalize w4.alloc (.cells #[.int .i64 hd.kind, .int .i64 hd.op, .int .i64 hd.num, .string ⟨hd.text.toArray⟩, .int .i64 hd.ref.row, .int .i64 hd.ref.col, .bool hd.ref.pr, .bool hd.ref.pc, .int .i64 hd.to.row, .int .i64 hd.to.col, .bool hd.to.pr, .bool hd.to.pc, .int .i64 hd.fn, .slice ya yl yc] 29) = w5 at cy BB ⊢
    generalize w4.heap.size = Ny at cy ⊢
    go_loopw [13, 14, 15, 16, 17] (fun f l c r _ W => ∃ i F L C : Int, f = .int .i64 F ∧ l = .int .i64 L ∧ c = .int .i64 C ∧ r = .int .i64 i ∧ a ≤ i ∧ i ≤ b + 1 ∧ W = w5 ∧ (-1 ≤ F ∧ F ≤ 65536) ∧ (0 ≤ C ∧ C ≤ i) ∧ (-1 ≤ L ∧ L ≤ 65536) ∧ Hid (C = gN at_ n i - gN at_ n a ∧ (C = 0 → F = -1 ∧ L = -1) ∧ (0 < C → F = gN at_ n a ∧ L = gN at_ n i - 1))) (fun _ _ _ r _ _ => (65537 - intOf r).toNat)
    case atStart => exact ⟨a, -1, -1, 0, rfl, rfl, rfl, rfl, by omega, by omega, rfl, by omega, by omega, by omega, Lib.hid (by omega)⟩
    case round =>
      obtain ⟨i, F, L, C, rfl, rfl, rfl, rfl, hlo, hhi, rfl, hF, hC, hL, hG⟩ := hrel
      have kp := gN_kept (at_ := at_) (i := i) hn.1
      have gl := gN_nonneg (n := n) (i := a) ht.1 (by omega)
      by_cases hx : i ≤ b
      · by_cases c1 : i < at_
        · by_cases f0 : F < 0
          · go_wp2
            all_goals exact ⟨⟨i + 1, i, i, (C + 1), rfl, rfl, rfl, rfl, by omega, by omega, by first | rfl | trivial, by omega, by omega, by omega, Lib.hid (by have g := hG.out; omega)⟩, by simp [intOf]; omega⟩
          · go_wp2
            all_goals exact ⟨⟨i + 1, F, i, (C + 1), rfl, rfl, rfl, rfl, by omega, by omega, by first | rfl | trivial, by omega, by omega, by omega, Lib.hid (by have g := hG.out; omega)⟩, by simp [intOf]; omega⟩
        · by_cases c2 : at_ + n ≤ i
          · by_cases f0 : F < 0
            · go_wp2
              all_goals exact ⟨⟨i + 1, (i - n), (i - n), (C + 1), rfl, rfl, rfl, rfl, by omega, by omega, by first | rfl | trivial, by omega, by omega, by omega, Lib.hid (by have g := hG.out; omega)⟩, by simp [intOf]; omega⟩
            · go_wp2
              all_goals exact ⟨⟨i + 1, F, (i - n), (C + 1), rfl, rfl, rfl, rfl, by omega, by omega, by first | rfl | trivial, by omega, by omega, by omega, Lib.hid (by have g := hG.out; omega)⟩, by simp [intOf]; omega⟩
          · go_wp2
            all_goals exact ⟨⟨i + 1, F, L, C, rfl, rfl, rfl, rfl, by omega, by omega, by first | rfl | trivial, by omega, by omega, by omega, Lib.hid (by have g := hG.out; omega)⟩, by simp [intOf]; omega⟩
      · obtain rfl : i = b + 1 := by omega
        have zr := fun e => gN_zero (at_ := at_) (n := n) (l := a) (h := b) (by omega) hn.1 e
        by_cases bo : (at_ ≤ a ∧ a < at_ + n) ∧ (at_ ≤ b ∧ b < at_ + n)
        · have eh : hd = lostH := HHD.out.symm.trans (dbl_lost hn bo)
          subst eh
          have y0 := cy 0
          have y2 := cy 2
          simp [lostH] at y0 y2
          obtain ⟨⟨p1, p2⟩, p3, p4⟩ := bo
          clear hG zr HHD cy kp gl
          by_cases z : C = 0
          · go_wp2
            all_goals
              go_ret
              first | exact ⟨rfl, BB.out⟩ | exact ⟨ret_bool (by simp), BB.out⟩
          · go_wp2
            all_goals
              go_ret
              first | exact ⟨rfl, BB.out⟩ | exact ⟨ret_bool (by simp), BB.out⟩
        · obtain ⟨x, y, eh, e1, e2⟩ := dbl_some ha hb ht hn bo
          have eh : hd = rngH12 x y := HHD.out.symm.trans eh
          subst eh
          have g := hG.out
          have z : ¬ C = 0 := fun h => by have := zr (by omega); omega
          have hx : x = F ∧ y = L := by
            have := e1 ab
            omega
          have hl : L - F + 1 = C := by omega
          obtain ⟨rfl, rfl⟩ := hx
          have y0 := cy 0
          have y4 := cy 4
          have y8 := cy 8
          simp [rngH12] at y0 y4 y8
          clear hG zr HHD cy g e1 e2 kp gl
          by_cases p1 : at_ ≤ a
          · by_cases p2 : a < at_ + n
            · by_cases p3 : at_ ≤ b
              · by_cases p4 : b < at_ + n
                · exact absurd ⟨⟨p1, p2⟩, p3, p4⟩ bo
                · clear bo
                  go_wp2
                  all_goals
                    go_ret
                    first | exact ⟨rfl, BB.out⟩ | exact ⟨ret_bool (by simp), BB.out⟩
              · clear bo
                go_wp2
                all_goals
                  go_ret
                  first | exact ⟨rfl, BB.out⟩ | exact ⟨ret_bool (by simp), BB.out⟩
            · clear bo
              go_wp2
              all_goals
                go_ret
                first | exact ⟨rfl, BB.out⟩ | exact ⟨ret_bool (by simp), BB.out⟩
          · clear bo
            go_wp2
            all_goals
              go_ret
              first | exact ⟨rfl, BB.out⟩ | exact ⟨ret_bool (by simp), BB.out⟩
  · go_wp2_with fail
    clear cx
    generalize w4.alloc (.cells #[.int .i64 hd.kind, .int .i64 hd.op, .int .i64 hd.num, .string ⟨hd.text.toArray⟩, .int .i64 hd.ref.row, .int .i64 hd.ref.col, .bool hd.ref.pr, .bool hd.ref.pc, .int .i64 hd.to.row, .int .i64 hd.to.col, .bool hd.to.pr, .bool hd.to.pc, .int .i64 hd.fn, .slice ya yl yc] 29) = w5 at cy BB ⊢
    generalize w4.heap.size = Ny at cy ⊢
    go_loopw [13, 14, 15, 16, 17] (fun f l c r _ W => ∃ i F L C : Int, f = .int .i64 F ∧ l = .int .i64 L ∧ c = .int .i64 C ∧ r = .int .i64 i ∧ b ≤ i ∧ i ≤ a + 1 ∧ W = w5 ∧ (-1 ≤ F ∧ F ≤ 65536) ∧ (0 ≤ C ∧ C ≤ i) ∧ (-1 ≤ L ∧ L ≤ 65536) ∧ Hid (C = gN at_ n i - gN at_ n b ∧ (C = 0 → F = -1 ∧ L = -1) ∧ (0 < C → F = gN at_ n b ∧ L = gN at_ n i - 1))) (fun _ _ _ r _ _ => (65537 - intOf r).toNat)
    case atStart => exact ⟨b, -1, -1, 0, rfl, rfl, rfl, rfl, by omega, by omega, rfl, by omega, by omega, by omega, Lib.hid (by omega)⟩
    case round =>
      obtain ⟨i, F, L, C, rfl, rfl, rfl, rfl, hlo, hhi, rfl, hF, hC, hL, hG⟩ := hrel
      have kp := gN_kept (at_ := at_) (i := i) hn.1
      have gl := gN_nonneg (n := n) (i := b) ht.1 (by omega)
      by_cases hx : i ≤ a
      · by_cases c1 : i < at_
        · by_cases f0 : F < 0
          · go_wp2
            all_goals exact ⟨⟨i + 1, i, i, (C + 1), rfl, rfl, rfl, rfl, by omega, by omega, by first | rfl | trivial, by omega, by omega, by omega, Lib.hid (by have g := hG.out; omega)⟩, by simp [intOf]; omega⟩
          · go_wp2
            all_goals exact ⟨⟨i + 1, F, i, (C + 1), rfl, rfl, rfl, rfl, by omega, by omega, by first | rfl | trivial, by omega, by omega, by omega, Lib.hid (by have g := hG.out; omega)⟩, by simp [intOf]; omega⟩
        · by_cases c2 : at_ + n ≤ i
          · by_cases f0 : F < 0
            · go_wp2
              all_goals exact ⟨⟨i + 1, (i - n), (i - n), (C + 1), rfl, rfl, rfl, rfl, by omega, by omega, by first | rfl | trivial, by omega, by omega, by omega, Lib.hid (by have g := hG.out; omega)⟩, by simp [intOf]; omega⟩
            · go_wp2
              all_goals exact ⟨⟨i + 1, F, (i - n), (C + 1), rfl, rfl, rfl, rfl, by omega, by omega, by first | rfl | trivial, by omega, by omega, by omega, Lib.hid (by have g := hG.out; omega)⟩, by simp [intOf]; omega⟩
          · go_wp2
            all_goals exact ⟨⟨i + 1, F, L, C, rfl, rfl, rfl, rfl, by omega, by omega, by first | rfl | trivial, by omega, by omega, by omega, Lib.hid (by have g := hG.out; omega)⟩, by simp [intOf]; omega⟩
      · obtain rfl : i = a + 1 := by omega
        have zr := fun e => gN_zero (at_ := at_) (n := n) (l := b) (h := a) (by omega) hn.1 e
        by_cases bo : (at_ ≤ a ∧ a < at_ + n) ∧ (at_ ≤ b ∧ b < at_ + n)
        · have eh : hd = lostH := HHD.out.symm.trans (dbl_lost hn bo)
          subst eh
          have y0 := cy 0
          have y2 := cy 2
          simp [lostH] at y0 y2
          obtain ⟨⟨p1, p2⟩, p3, p4⟩ := bo
          clear hG zr HHD cy kp gl
          by_cases z : C = 0
          · go_wp2
            all_goals
              go_ret
              first | exact ⟨rfl, BB.out⟩ | exact ⟨ret_bool (by simp), BB.out⟩
          · go_wp2
            all_goals
              go_ret
              first | exact ⟨rfl, BB.out⟩ | exact ⟨ret_bool (by simp), BB.out⟩
        · obtain ⟨x, y, eh, e1, e2⟩ := dbl_some ha hb ht hn bo
          have eh : hd = rngH12 x y := HHD.out.symm.trans eh
          subst eh
          have g := hG.out
          have z : ¬ C = 0 := fun h => by have := zr (by omega); omega
          have hx : y = F ∧ x = L := by
            have := e2 (by omega)
            omega
          have hl : L - F + 1 = C := by omega
          obtain ⟨rfl, rfl⟩ := hx
          have y0 := cy 0
          have y4 := cy 4
          have y8 := cy 8
          simp [rngH12] at y0 y4 y8
          clear hG zr HHD cy g e1 e2 kp gl
          by_cases p1 : at_ ≤ a
          · by_cases p2 : a < at_ + n
            · by_cases p3 : at_ ≤ b
              · by_cases p4 : b < at_ + n
                · exact absurd ⟨⟨p1, p2⟩, p3, p4⟩ bo
                · clear bo
                  go_wp2
                  all_goals
                    go_ret
                    first | exact ⟨rfl, BB.out⟩ | exact ⟨ret_bool (by simp), BB.out⟩
              · clear bo
                go_wp2
                all_goals
                  go_ret
                  first | exact ⟨rfl, BB.out⟩ | exact ⟨ret_bool (by simp), BB.out⟩
            · clear bo
              go_wp2
              all_goals
                go_ret
                first | exact ⟨rfl, BB.out⟩ | exact ⟨ret_bool (by simp), BB.out⟩
          · clear bo
            go_wp2
            all_goals
              go_ret
              first | exact ⟨rfl, BB.out⟩ | exact ⟨ret_bool (by simp), BB.out⟩

/-END-/
theorem shOut_any (w : World) (a b at_ n : Int) : Calls Try.prog 13 #[.int .i64 a, .int .i64 b, .int .i64 at_, .int .i64 n] w (TruePost w) := by
  by_cases h : (0 ≤ a ∧ a ≤ 65535) ∧ (0 ≤ b ∧ b ≤ 65535) ∧ (0 ≤ at_ ∧ at_ ≤ 65535) ∧ (1 ≤ n ∧ n ≤ 65536)
  · obtain ⟨ha, hb, ht, hn⟩ := h
    by_cases c1 : a < at_
    · exact shOut_lo w a b at_ n ha hb ht hn c1
    · by_cases c2 : at_ + n ≤ a
      · exact shOut_hi w a b at_ n ha hb ht hn c2
      · exact shOut_in w a b at_ n ha hb ht hn ⟨by omega, by omega⟩
  · exact shOut_bad w a b at_ n h

open Go.ChangeShapes Go.WideShapes Go.ChangeAt
set_option maxRecDepth 100000 in
theorem shiftOut_lifted (os : Os) (started : os.Started) (H : Type) (enc : TypeId × Value → H) :
    ReturnsInHanded {} Try.checked os 13 .any (Rows.shiftOutSpec.pre6 enc Try.prog Try.f13 Rows.shiftOutRow.domain false) (Rows.shiftOutSpec.post enc Try.prog Try.f13 false true false false) := by
  refine lift_law (C := Try.checked) (tb := 4) own started (by kernel_rfl) Try.func13
    (ChangeSpec.witness6 (enc := enc) (C := Try.checked) false ⟨#[], #[.int .i64 0, .int .i64 0, .int .i64 0, .int .i64 0], []⟩ 8 (by kernel_rfl) (by kernel_rfl) (by kernel_rfl) (by kernel_rfl)) laidOut (by kernel_rfl) rfl Try.underlying4 rfl ?_ ?_
  · rintro ds hl
    match ds, hl with
    | [_, _, _, _], _ => exact ⟨rfl, rfl, rfl⟩
  · intro W base args ds p hval0 hA hlt hsz
    have hval : ∀ (j : Nat) t v, Try.f13.params[j]? = some t → args[j]? = some v → Value.okWide Try.prog W .any base t v := hval0
    clear hval0
    rw [Try.params13] at hA hsz hval
    obtain ⟨v0, vs0, d0, ds0, p0, q0, hargs, rfl, rfl, h0, r0⟩ := trodAll_cons hA
    obtain ⟨v1, vs1, d1, ds1, p1, q1, rfl, rfl, rfl, h1, r1⟩ := trodAll_cons r0
    obtain ⟨v2, vs2, d2, ds2, p2, q2, rfl, rfl, rfl, h2, r2⟩ := trodAll_cons r1
    obtain ⟨v3, vs3, d3, ds3, p3, q3, rfl, rfl, rfl, h3, r3⟩ := trodAll_cons r2
    obtain ⟨rfl, rfl, rfl⟩ := trodAll_nil r3
    obtain rfl : args = #[v0, v1, v2, v3] := by cases args; simp_all
    have hlt0 : ∀ x ∈ p0, x.block < W.heap.size := fun x hx => hlt x (by simp [hx])
    have hlt1 : ∀ x ∈ p1, x.block < W.heap.size := fun x hx => hlt x (by simp [hx])
    have hlt2 : ∀ x ∈ p2, x.block < W.heap.size := fun x hx => hlt x (by simp [hx])
    have hlt3 : ∀ x ∈ p3, x.block < W.heap.size := fun x hx => hlt x (by simp [hx])
    have hv0 : Value.okWide Try.prog W .any base 3 v0 := hval 0 _ _ rfl rfl
    have g0 : DataW.Trod enc Try.prog W 0 (fun _ => true) true 3 v0 d0 p0 := h0
    obtain ⟨n0, rfl, -⟩ := arg_int hv0 g0
    have hv1 : Value.okWide Try.prog W .any base 3 v1 := hval 1 _ _ rfl rfl
    have g1 : DataW.Trod enc Try.prog W 0 (fun _ => true) true 3 v1 d1 p1 := h1
    obtain ⟨n1, rfl, -⟩ := arg_int hv1 g1
    have hv2 : Value.okWide Try.prog W .any base 3 v2 := hval 2 _ _ rfl rfl
    have g2 : DataW.Trod enc Try.prog W 0 (fun _ => true) true 3 v2 d2 p2 := h2
    obtain ⟨n2, rfl, -⟩ := arg_int hv2 g2
    have hv3 : Value.okWide Try.prog W .any base 3 v3 := hval 3 _ _ rfl rfl
    have g3 : DataW.Trod enc Try.prog W 0 (fun _ => true) true 3 v3 d3 p3 := h3
    obtain ⟨n3, rfl, -⟩ := arg_int hv3 g3
    exact shOut_any W n0 n1 n2 n3

set_option maxRecDepth 100000 in
theorem shiftOut_holds : Rows.ShiftOutSaid :=
  OpenClaim.holds_of_wide 13 Try.f13 rfl rfl rfl rfl rfl rfl rfl ⟨rfl, rfl, rfl, rfl, rfl⟩ rfl rfl rfl rfl rfl (by kernel_rfl) Try.func13 (by kernel_rfl)
    (of_decide_eq_true (by kernel_rfl)) (by unfold Func.isWrapper; first | (rw [if_pos (by decide +kernel)]; kernel_rfl) | (rw [if_neg (by decide +kernel)]; exact ⟨rfl, rfl⟩))
    (fun os started H enc _ => shiftOut_lifted os started H enc)
#print axioms shiftOut_holds
end Go.Proofs.Ytkjfeakbhfkldaa
