/- Shifting: the reference's Paste, Rows and Cols. -/
import Derived.Test.YtkjfeakbhfkldaaMhC
import Derived.Test.YtkjfeakbhfkldaaTreeF
namespace Go.Proofs.Ytkjfeakbhfkldaa
open Go.RowKit

theorem mayE_fine {h : Hd} {ks : Trees} (e : mayE h ks = 0) : Fine h ks := by
  unfold mayE at e
  by_cases f : Fine h ks
  · exact f
  · simp [f] at e
theorem may_fits {h : Hd} {ks : Trees} (e : mayE h ks = 0) : treeFits h ks = true := by
  have f := mayE_fine e
  simp only [mayE, f, if_true] at e
  by_cases q : treeFits h ks = true
  · exact q
  · simp [q] at e
/-- The error of a shift. -/
def shErr (m : Mv) (h : Hd) (ks : Trees) : Int := if mayE h ks ≠ 0 then mayE h ks else if (m.what = 2 ∧ (m.at_ < 0 ∨ 65536 ≤ m.at_)) ∨ (m.what = 3 ∧ (m.at_ < 0 ∨ 702 ≤ m.at_)) then 1 else 0
/-- What a shift hands back. -/
def ShPost (m : Mv) (h : Hd) (ks : Trees) (w : World) (e : Ending) (w' : World) : Prop :=
  Below w.heap.size w w' ∧ ((shErr m h ks = 0 ∧ ∃ xa xl xc, e = .returned (.tuple #[.agg #[.int .i64 (mvH m h).kind, .int .i64 (mvH m h).op, .int .i64 (mvH m h).num, .string ⟨(mvH m h).text.toArray⟩, .int .i64 (mvH m h).ref.row, .int .i64 (mvH m h).ref.col, .bool (mvH m h).ref.pr, .bool (mvH m h).ref.pc, .int .i64 (mvH m h).to.row, .int .i64 (mvH m h).to.col, .bool (mvH m h).to.pr, .bool (mvH m h).to.pc, .int .i64 (mvH m h).fn, .slice xa xl xc], .int .i64 0]) ∧ TreeV w' w'.heap.size (mvH m h) (mvK m ks) xa xl) ∨
    (shErr m h ks ≠ 0 ∧ e = .returned (.tuple #[.agg #[.int .i64 0, .int .i64 0, .int .i64 0, .string ⟨#[]⟩, .int .i64 0, .int .i64 0, .bool false, .bool false, .int .i64 0, .int .i64 0, .bool false, .bool false, .int .i64 0, .slice none 0 0], .int .i64 (shErr m h ks)])))
/-- The same, and where the tree lies: in what the argument's tree may lie in, or in new blocks. -/
def ShXPost (m : Mv) (h : Hd) (ks : Trees) (B : Nat) (w : World) (e : Ending) (w' : World) : Prop :=
  Below w.heap.size w w' ∧ ((shErr m h ks = 0 ∧ ∃ xa xl xc, e = .returned (.tuple #[.agg #[.int .i64 (mvH m h).kind, .int .i64 (mvH m h).op, .int .i64 (mvH m h).num, .string ⟨(mvH m h).text.toArray⟩, .int .i64 (mvH m h).ref.row, .int .i64 (mvH m h).ref.col, .bool (mvH m h).ref.pr, .bool (mvH m h).ref.pc, .int .i64 (mvH m h).to.row, .int .i64 (mvH m h).to.col, .bool (mvH m h).to.pr, .bool (mvH m h).to.pc, .int .i64 (mvH m h).fn, .slice xa xl xc], .int .i64 0]) ∧ TreeX w' (OkR w B w') (mvH m h) (mvK m ks) xa xl) ∨
    (shErr m h ks ≠ 0 ∧ e = .returned (.tuple #[.agg #[.int .i64 0, .int .i64 0, .int .i64 0, .string ⟨#[]⟩, .int .i64 0, .int .i64 0, .bool false, .bool false, .int .i64 0, .int .i64 0, .bool false, .bool false, .int .i64 0, .slice none 0 0], .int .i64 (shErr m h ks)])))
theorem OkR.to {w w' : World} {B : Nat} (hB : B ≤ w.heap.size) (hs : w.heap.size ≤ w'.heap.size) : ∀ b, OkR w B w' b → b < w'.heap.size := fun b h => by
  rcases h with q | q <;> omega
theorem ShXPost.weak {m : Mv} {h : Hd} {ks : Trees} {B : Nat} {w w' : World} {e : Ending} (hB : B ≤ w.heap.size) (p : ShXPost m h ks B w e w') : ShPost m h ks w e w' := by
  rcases p with ⟨b, ⟨s, xa, xl, xc, he, t⟩ | q⟩
  · exact ⟨b, .inl ⟨s, xa, xl, xc, he, t.to (OkR.to hB b.size)⟩⟩
  · exact ⟨b, .inr q⟩

set_option maxRecDepth 100000 in
set_option maxHeartbeats 4000000 in
theorem shRefPaste_x (nd : Hd) (ks : Trees) (x y : Int) (w : World) (B : Nat) (ka : Option Addr) (kl kc : Nat) (hB : B ≤ w.heap.size) (tv : TreeV w B nd ks ka kl) (hx : I64 x) (hy : I64 y) : Calls Try.prog 65 #[.agg #[.int .i64 nd.kind, .int .i64 nd.op, .int .i64 nd.num, .string ⟨nd.text.toArray⟩, .int .i64 nd.ref.row, .int .i64 nd.ref.col, .bool nd.ref.pr, .bool nd.ref.pc, .int .i64 nd.to.row, .int .i64 nd.to.col, .bool nd.to.pr, .bool nd.to.pc, .int .i64 nd.fn, .slice ka kl kc], .int .i64 x, .int .i64 y] w (ShXPost ⟨1, x, y, 0, 0⟩ nd ks B w) := by
  have HX := Lib.hid hx; have HY := Lib.hid hy
  have b0 := ext_alloc (ext_alloc (Below.refl _ w) (.cells #[.int .i64 nd.kind, .int .i64 nd.op, .int .i64 nd.num, .string ⟨nd.text.toArray⟩, .int .i64 nd.ref.row, .int .i64 nd.ref.col, .bool nd.ref.pr, .bool nd.ref.pc, .int .i64 nd.to.row, .int .i64 nd.to.col, .bool nd.to.pr, .bool nd.to.pc, .int .i64 nd.fn, .slice ka kl kc] 29)) (.cells #[.int .i64 0, .int .i64 0, .int .i64 0, .string ⟨#[]⟩, .int .i64 0, .int .i64 0, .bool false, .bool false, .int .i64 0, .int .i64 0, .bool false, .bool false, .int .i64 0, .slice none 0 0] 29)
  have T0 := Lib.hid (tv.kept (b0.mono hB) (Nat.le_refl _))
  have B0 := Lib.hid b0
  have OK := Lib.hid tv.ok
  clear tv b0 hx hy
  go_enter Try.func65, Try.ntmps65
  go_wp2_with fail
  refine (refMay_any nd ks _ B ka kl kc (by simp; omega) T0.out).mono ?_
  rintro e w2 ⟨rfl, b2⟩
  obtain ⟨zb, cb, cb'⟩ := kept_block2 b2
  obtain ⟨fb, fb'⟩ := kept_free2 b2
  have B2 := Lib.hid (B0.out.trans (b2.mono B0.out.size))
  have T2 := Lib.hid (T0.out.kept (b2.mono (by simp; omega)) (Nat.le_refl _))
  clear b2 T0
  by_cases q : mayE nd ks = 0
  · have Q := Lib.hid q
    have q1 : (mayE nd ks != 0) = false := by simp [q]
    have q2 : (mayE nd ks == 0) = true := by simp [q]
    have se : shErr ⟨1, x, y, 0, 0⟩ nd ks = 0 := by simp [shErr, q]
    have SE := Lib.hid se
    have mok : Mv.ok ⟨1, x, y, 0, 0⟩ := ⟨.inl rfl, HX.out, HY.out, by simp [I64], fun h => by simp at h, fun h => by simp at h⟩
    have MOK := Lib.hid mok
    clear q se mok
    have F0 := Lib.hid (fine_nodes (mayE_fine Q.out))
    have TF := Lib.hid (may_fits Q.out)
    have hh : B ≤ w2.heap.size := by have := B2.out.size; omega
    go_wp2_with fail
    refine (refAllM_any ⟨1, x, y, 0, 0⟩ MOK.out nd ks w2 B ka kl kc hh T2.out TF.out F0.out).mono ?_
    rintro e w3 ⟨xa, xl, xc, rfl, b3, t3⟩
    have b4 := B2.out.trans (b3.mono B2.out.size)
    have c3 : ∀ o, w3.cell? ⟨w.heap.size + 1, o, none⟩ = _ := fun o => (b3.cell (p := ⟨w.heap.size + 1, o, none⟩) (by simp; omega)).trans (cb' o)
    have f3 : ∀ o, w3.frozen? ⟨w.heap.size + 1, o, none⟩ = false := fun o => (b3.frozen (p := ⟨w.heap.size + 1, o, none⟩) (by simp; omega)).trans (fb' o)
    have B4 := Lib.hid b4
    have T3 := Lib.hid t3
    have hs3 := b3.size
    clear cb cb' fb fb' b3 b4 t3
    go_wp2
    refine bodyPost_ret (v := .tuple #[.agg #[.int .i64 (mvH ⟨1, x, y, 0, 0⟩ nd).kind, .int .i64 (mvH ⟨1, x, y, 0, 0⟩ nd).op, .int .i64 (mvH ⟨1, x, y, 0, 0⟩ nd).num, .string ⟨(mvH ⟨1, x, y, 0, 0⟩ nd).text.toArray⟩, .int .i64 (mvH ⟨1, x, y, 0, 0⟩ nd).ref.row, .int .i64 (mvH ⟨1, x, y, 0, 0⟩ nd).ref.col, .bool (mvH ⟨1, x, y, 0, 0⟩ nd).ref.pr, .bool (mvH ⟨1, x, y, 0, 0⟩ nd).ref.pc, .int .i64 (mvH ⟨1, x, y, 0, 0⟩ nd).to.row, .int .i64 (mvH ⟨1, x, y, 0, 0⟩ nd).to.col, .bool (mvH ⟨1, x, y, 0, 0⟩ nd).to.pr, .bool (mvH ⟨1, x, y, 0, 0⟩ nd).to.pc, .int .i64 (mvH ⟨1, x, y, 0, 0⟩ nd).fn, .slice xa xl xc], .int .i64 0]) (by simp [results, Try.results65, go_sem, c3]) rfl ?_
    refine ⟨?_, .inl ⟨SE.out, xa, xl, xc, rfl, ?_⟩⟩
    · repeat (refine Below.setCell ?_ (by simp; try omega) _)
      exact B4.out
    · have hs2 := B2.out.size
      refine T3.out.kept fun b hb => ⟨?_, ?_⟩
      · rcases hb with r | r
        · exact .inl r
        · exact .inr ⟨by omega, by simpa [World.setCell] using r.2⟩
      · have hne : b ≠ w.heap.size + 1 := by rcases hb with r | r <;> omega
        repeat rw [Below.heap_setCell _ _ _ _ (by simpa using hne)]
  · have q1 : (mayE nd ks != 0) = true := by simp [q]
    have q2 : (mayE nd ks == 0) = false := by simp [q]
    have se : shErr ⟨1, x, y, 0, 0⟩ nd ks = mayE nd ks := by simp [shErr, q]
    have SE := Lib.hid se
    have Q := Lib.hid q
    clear q se
    go_wp2
    refine bodyPost_ret (v := .tuple #[.agg #[.int .i64 0, .int .i64 0, .int .i64 0, .string ⟨#[]⟩, .int .i64 0, .int .i64 0, .bool false, .bool false, .int .i64 0, .int .i64 0, .bool false, .bool false, .int .i64 0, .slice none 0 0], .int .i64 (mayE nd ks)]) (by simp [results, Try.results65, go_sem, cb']) rfl ?_
    refine ⟨?_, .inr ⟨by rw [SE.out]; exact Q.out, by rw [SE.out]⟩⟩
    repeat (refine Below.setCell ?_ (by simp; try omega) _)
    exact B2.out
theorem shRefPaste_any (nd : Hd) (ks : Trees) (x y : Int) (w : World) (B : Nat) (ka : Option Addr) (kl kc : Nat) (hB : B ≤ w.heap.size) (tv : TreeV w B nd ks ka kl) (hx : I64 x) (hy : I64 y) : Calls Try.prog 65 #[.agg #[.int .i64 nd.kind, .int .i64 nd.op, .int .i64 nd.num, .string ⟨nd.text.toArray⟩, .int .i64 nd.ref.row, .int .i64 nd.ref.col, .bool nd.ref.pr, .bool nd.ref.pc, .int .i64 nd.to.row, .int .i64 nd.to.col, .bool nd.to.pr, .bool nd.to.pc, .int .i64 nd.fn, .slice ka kl kc], .int .i64 x, .int .i64 y] w (ShPost ⟨1, x, y, 0, 0⟩ nd ks w) :=
  (shRefPaste_x nd ks x y w B ka kl kc hB tv hx hy).mono fun _ _ p => p.weak hB

set_option maxRecDepth 100000 in
set_option maxHeartbeats 4000000 in
theorem shRefRows_x (nd : Hd) (ks : Trees) (x y : Int) (w : World) (B : Nat) (ka : Option Addr) (kl kc : Nat) (hB : B ≤ w.heap.size) (tv : TreeV w B nd ks ka kl) (hx : I64 x) (hy : I64 y) : Calls Try.prog 66 #[.agg #[.int .i64 nd.kind, .int .i64 nd.op, .int .i64 nd.num, .string ⟨nd.text.toArray⟩, .int .i64 nd.ref.row, .int .i64 nd.ref.col, .bool nd.ref.pr, .bool nd.ref.pc, .int .i64 nd.to.row, .int .i64 nd.to.col, .bool nd.to.pr, .bool nd.to.pc, .int .i64 nd.fn, .slice ka kl kc], .int .i64 x, .int .i64 y] w (ShXPost ⟨2, 0, 0, x, y⟩ nd ks B w) := by
  have HX := Lib.hid hx; have HY := Lib.hid hy
  have b0 := ext_alloc (ext_alloc (Below.refl _ w) (.cells #[.int .i64 nd.kind, .int .i64 nd.op, .int .i64 nd.num, .string ⟨nd.text.toArray⟩, .int .i64 nd.ref.row, .int .i64 nd.ref.col, .bool nd.ref.pr, .bool nd.ref.pc, .int .i64 nd.to.row, .int .i64 nd.to.col, .bool nd.to.pr, .bool nd.to.pc, .int .i64 nd.fn, .slice ka kl kc] 29)) (.cells #[.int .i64 0, .int .i64 0, .int .i64 0, .string ⟨#[]⟩, .int .i64 0, .int .i64 0, .bool false, .bool false, .int .i64 0, .int .i64 0, .bool false, .bool false, .int .i64 0, .slice none 0 0] 29)
  have T0 := Lib.hid (tv.kept (b0.mono hB) (Nat.le_refl _))
  have B0 := Lib.hid b0
  have OK := Lib.hid tv.ok
  clear tv b0 hx hy
  go_enter Try.func66, Try.ntmps66
  go_wp2_with fail
  refine (refMay_any nd ks _ B ka kl kc (by simp; omega) T0.out).mono ?_
  rintro e w2 ⟨rfl, b2⟩
  obtain ⟨zb, cb, cb'⟩ := kept_block2 b2
  obtain ⟨fb, fb'⟩ := kept_free2 b2
  have B2 := Lib.hid (B0.out.trans (b2.mono B0.out.size))
  have T2 := Lib.hid (T0.out.kept (b2.mono (by simp; omega)) (Nat.le_refl _))
  clear b2 T0
  by_cases q : mayE nd ks = 0
  · have Q := Lib.hid q
    have q1 : (mayE nd ks != 0) = false := by simp [q]
    have q2 : (mayE nd ks == 0) = true := by simp [q]
    by_cases r : 0 ≤ x ∧ x < 65536
    · have se : shErr ⟨2, 0, 0, x, y⟩ nd ks = 0 := by simp [shErr, q]; omega
      have SE := Lib.hid se
      have mok : Mv.ok ⟨2, 0, 0, x, y⟩ := ⟨by simp, by simp [I64], by simp [I64], HY.out, fun _ => r, fun h => by simp at h⟩
      have MOK := Lib.hid mok
      obtain ⟨r1, r2⟩ := r
      have r1' : ¬ x < 0 := by omega
      have r2' : ¬ 65536 ≤ x := by omega
      clear q se mok
      have F0 := Lib.hid (fine_nodes (mayE_fine Q.out))
      have TF := Lib.hid (may_fits Q.out)
      have hh : B ≤ w2.heap.size := by have := B2.out.size; omega
      go_wp2_with fail
      refine (refAllM_any ⟨2, 0, 0, x, y⟩ MOK.out nd ks w2 B ka kl kc hh T2.out TF.out F0.out).mono ?_
      rintro e w3 ⟨xa, xl, xc, rfl, b3, t3⟩
      have b4 := B2.out.trans (b3.mono B2.out.size)
      have c3 : ∀ o, w3.cell? ⟨w.heap.size + 1, o, none⟩ = _ := fun o => (b3.cell (p := ⟨w.heap.size + 1, o, none⟩) (by simp; omega)).trans (cb' o)
      have f3 : ∀ o, w3.frozen? ⟨w.heap.size + 1, o, none⟩ = false := fun o => (b3.frozen (p := ⟨w.heap.size + 1, o, none⟩) (by simp; omega)).trans (fb' o)
      have B4 := Lib.hid b4
      have T3 := Lib.hid t3
      have hs3 := b3.size
      clear cb cb' fb fb' b3 b4 t3
      go_wp2
      refine bodyPost_ret (v := .tuple #[.agg #[.int .i64 (mvH ⟨2, 0, 0, x, y⟩ nd).kind, .int .i64 (mvH ⟨2, 0, 0, x, y⟩ nd).op, .int .i64 (mvH ⟨2, 0, 0, x, y⟩ nd).num, .string ⟨(mvH ⟨2, 0, 0, x, y⟩ nd).text.toArray⟩, .int .i64 (mvH ⟨2, 0, 0, x, y⟩ nd).ref.row, .int .i64 (mvH ⟨2, 0, 0, x, y⟩ nd).ref.col, .bool (mvH ⟨2, 0, 0, x, y⟩ nd).ref.pr, .bool (mvH ⟨2, 0, 0, x, y⟩ nd).ref.pc, .int .i64 (mvH ⟨2, 0, 0, x, y⟩ nd).to.row, .int .i64 (mvH ⟨2, 0, 0, x, y⟩ nd).to.col, .bool (mvH ⟨2, 0, 0, x, y⟩ nd).to.pr, .bool (mvH ⟨2, 0, 0, x, y⟩ nd).to.pc, .int .i64 (mvH ⟨2, 0, 0, x, y⟩ nd).fn, .slice xa xl xc], .int .i64 0]) (by simp [results, Try.results66, go_sem, c3]) rfl ?_
      refine ⟨?_, .inl ⟨SE.out, xa, xl, xc, rfl, ?_⟩⟩
      · repeat (refine Below.setCell ?_ (by simp; try omega) _)
        exact B4.out
      · have hs2 := B2.out.size
        refine T3.out.kept fun b hb => ⟨?_, ?_⟩
        · rcases hb with r | r
          · exact .inl r
          · exact .inr ⟨by omega, by simpa [World.setCell] using r.2⟩
        · have hne : b ≠ w.heap.size + 1 := by rcases hb with r | r <;> omega
          repeat rw [Below.heap_setCell _ _ _ _ (by simpa using hne)]
    · have se : shErr ⟨2, 0, 0, x, y⟩ nd ks = 1 := by simp [shErr, q]; omega
      have SE := Lib.hid se
      clear q se
      by_cases r1 : x < 0
      · clear r
        go_wp2
        refine bodyPost_ret (v := .tuple #[.agg #[.int .i64 0, .int .i64 0, .int .i64 0, .string ⟨#[]⟩, .int .i64 0, .int .i64 0, .bool false, .bool false, .int .i64 0, .int .i64 0, .bool false, .bool false, .int .i64 0, .slice none 0 0], .int .i64 1]) (by simp [results, Try.results66, go_sem, cb']) rfl ?_
        refine ⟨?_, .inr ⟨by rw [SE.out]; decide, by rw [SE.out]⟩⟩
        repeat (refine Below.setCell ?_ (by simp; try omega) _)
        exact B2.out
      · have r2 : 65536 ≤ x := by omega
        clear r
        go_wp2
        refine bodyPost_ret (v := .tuple #[.agg #[.int .i64 0, .int .i64 0, .int .i64 0, .string ⟨#[]⟩, .int .i64 0, .int .i64 0, .bool false, .bool false, .int .i64 0, .int .i64 0, .bool false, .bool false, .int .i64 0, .slice none 0 0], .int .i64 1]) (by simp [results, Try.results66, go_sem, cb']) rfl ?_
        refine ⟨?_, .inr ⟨by rw [SE.out]; decide, by rw [SE.out]⟩⟩
        repeat (refine Below.setCell ?_ (by simp; try omega) _)
        exact B2.out
  · have q1 : (mayE nd ks != 0) = true := by simp [q]
    have q2 : (mayE nd ks == 0) = false := by simp [q]
    have se : shErr ⟨2, 0, 0, x, y⟩ nd ks = mayE nd ks := by simp [shErr, q]
    have SE := Lib.hid se
    have Q := Lib.hid q
    clear q se
    go_wp2
    refine bodyPost_ret (v := .tuple #[.agg #[.int .i64 0, .int .i64 0, .int .i64 0, .string ⟨#[]⟩, .int .i64 0, .int .i64 0, .bool false, .bool false, .int .i64 0, .int .i64 0, .bool false, .bool false, .int .i64 0, .slice none 0 0], .int .i64 (mayE nd ks)]) (by simp [results, Try.results66, go_sem, cb']) rfl ?_
    refine ⟨?_, .inr ⟨by rw [SE.out]; exact Q.out, by rw [SE.out]⟩⟩
    repeat (refine Below.setCell ?_ (by simp; try omega) _)
    exact B2.out
theorem shRefRows_any (nd : Hd) (ks : Trees) (x y : Int) (w : World) (B : Nat) (ka : Option Addr) (kl kc : Nat) (hB : B ≤ w.heap.size) (tv : TreeV w B nd ks ka kl) (hx : I64 x) (hy : I64 y) : Calls Try.prog 66 #[.agg #[.int .i64 nd.kind, .int .i64 nd.op, .int .i64 nd.num, .string ⟨nd.text.toArray⟩, .int .i64 nd.ref.row, .int .i64 nd.ref.col, .bool nd.ref.pr, .bool nd.ref.pc, .int .i64 nd.to.row, .int .i64 nd.to.col, .bool nd.to.pr, .bool nd.to.pc, .int .i64 nd.fn, .slice ka kl kc], .int .i64 x, .int .i64 y] w (ShPost ⟨2, 0, 0, x, y⟩ nd ks w) :=
  (shRefRows_x nd ks x y w B ka kl kc hB tv hx hy).mono fun _ _ p => p.weak hB

set_option maxRecDepth 100000 in
set_option maxHeartbeats 4000000 in
theorem shRefCols_x (nd : Hd) (ks : Trees) (x y : Int) (w : World) (B : Nat) (ka : Option Addr) (kl kc : Nat) (hB : B ≤ w.heap.size) (tv : TreeV w B nd ks ka kl) (hx : I64 x) (hy : I64 y) : Calls Try.prog 67 #[.agg #[.int .i64 nd.kind, .int .i64 nd.op, .int .i64 nd.num, .string ⟨nd.text.toArray⟩, .int .i64 nd.ref.row, .int .i64 nd.ref.col, .bool nd.ref.pr, .bool nd.ref.pc, .int .i64 nd.to.row, .int .i64 nd.to.col, .bool nd.to.pr, .bool nd.to.pc, .int .i64 nd.fn, .slice ka kl kc], .int .i64 x, .int .i64 y] w (ShXPost ⟨3, 0, 0, x, y⟩ nd ks B w) := by
  have HX := Lib.hid hx; have HY := Lib.hid hy
  have b0 := ext_alloc (ext_alloc (Below.refl _ w) (.cells #[.int .i64 nd.kind, .int .i64 nd.op, .int .i64 nd.num, .string ⟨nd.text.toArray⟩, .int .i64 nd.ref.row, .int .i64 nd.ref.col, .bool nd.ref.pr, .bool nd.ref.pc, .int .i64 nd.to.row, .int .i64 nd.to.col, .bool nd.to.pr, .bool nd.to.pc, .int .i64 nd.fn, .slice ka kl kc] 29)) (.cells #[.int .i64 0, .int .i64 0, .int .i64 0, .string ⟨#[]⟩, .int .i64 0, .int .i64 0, .bool false, .bool false, .int .i64 0, .int .i64 0, .bool false, .bool false, .int .i64 0, .slice none 0 0] 29)
  have T0 := Lib.hid (tv.kept (b0.mono hB) (Nat.le_refl _))
  have B0 := Lib.hid b0
  have OK := Lib.hid tv.ok
  clear tv b0 hx hy
  go_enter Try.func67, Try.ntmps67
  go_wp2_with fail
  refine (refMay_any nd ks _ B ka kl kc (by simp; omega) T0.out).mono ?_
  rintro e w2 ⟨rfl, b2⟩
  obtain ⟨zb, cb, cb'⟩ := kept_block2 b2
  obtain ⟨fb, fb'⟩ := kept_free2 b2
  have B2 := Lib.hid (B0.out.trans (b2.mono B0.out.size))
  have T2 := Lib.hid (T0.out.kept (b2.mono (by simp; omega)) (Nat.le_refl _))
  clear b2 T0
  by_cases q : mayE nd ks = 0
  · have Q := Lib.hid q
    have q1 : (mayE nd ks != 0) = false := by simp [q]
    have q2 : (mayE nd ks == 0) = true := by simp [q]
    by_cases r : 0 ≤ x ∧ x < 702
    · have se : shErr ⟨3, 0, 0, x, y⟩ nd ks = 0 := by simp [shErr, q]; omega
      have SE := Lib.hid se
      have mok : Mv.ok ⟨3, 0, 0, x, y⟩ := ⟨by simp, by simp [I64], by simp [I64], HY.out, fun h => by simp at h, fun _ => r⟩
      have MOK := Lib.hid mok
      obtain ⟨r1, r2⟩ := r
      have r1' : ¬ x < 0 := by omega
      have r2' : ¬ 702 ≤ x := by omega
      clear q se mok
      have F0 := Lib.hid (fine_nodes (mayE_fine Q.out))
      have TF := Lib.hid (may_fits Q.out)
      have hh : B ≤ w2.heap.size := by have := B2.out.size; omega
      go_wp2_with fail
      refine (refAllM_any ⟨3, 0, 0, x, y⟩ MOK.out nd ks w2 B ka kl kc hh T2.out TF.out F0.out).mono ?_
      rintro e w3 ⟨xa, xl, xc, rfl, b3, t3⟩
      have b4 := B2.out.trans (b3.mono B2.out.size)
      have c3 : ∀ o, w3.cell? ⟨w.heap.size + 1, o, none⟩ = _ := fun o => (b3.cell (p := ⟨w.heap.size + 1, o, none⟩) (by simp; omega)).trans (cb' o)
      have f3 : ∀ o, w3.frozen? ⟨w.heap.size + 1, o, none⟩ = false := fun o => (b3.frozen (p := ⟨w.heap.size + 1, o, none⟩) (by simp; omega)).trans (fb' o)
      have B4 := Lib.hid b4
      have T3 := Lib.hid t3
      have hs3 := b3.size
      clear cb cb' fb fb' b3 b4 t3
      go_wp2
      refine bodyPost_ret (v := .tuple #[.agg #[.int .i64 (mvH ⟨3, 0, 0, x, y⟩ nd).kind, .int .i64 (mvH ⟨3, 0, 0, x, y⟩ nd).op, .int .i64 (mvH ⟨3, 0, 0, x, y⟩ nd).num, .string ⟨(mvH ⟨3, 0, 0, x, y⟩ nd).text.toArray⟩, .int .i64 (mvH ⟨3, 0, 0, x, y⟩ nd).ref.row, .int .i64 (mvH ⟨3, 0, 0, x, y⟩ nd).ref.col, .bool (mvH ⟨3, 0, 0, x, y⟩ nd).ref.pr, .bool (mvH ⟨3, 0, 0, x, y⟩ nd).ref.pc, .int .i64 (mvH ⟨3, 0, 0, x, y⟩ nd).to.row, .int .i64 (mvH ⟨3, 0, 0, x, y⟩ nd).to.col, .bool (mvH ⟨3, 0, 0, x, y⟩ nd).to.pr, .bool (mvH ⟨3, 0, 0, x, y⟩ nd).to.pc, .int .i64 (mvH ⟨3, 0, 0, x, y⟩ nd).fn, .slice xa xl xc], .int .i64 0]) (by simp [results, Try.results67, go_sem, c3]) rfl ?_
      refine ⟨?_, .inl ⟨SE.out, xa, xl, xc, rfl, ?_⟩⟩
      · repeat (refine Below.setCell ?_ (by simp; try omega) _)
        exact B4.out
      · have hs2 := B2.out.size
        refine T3.out.kept fun b hb => ⟨?_, ?_⟩
        · rcases hb with r | r
          · exact .inl r
          · exact .inr ⟨by omega, by simpa [World.setCell] using r.2⟩
        · have hne : b ≠ w.heap.size + 1 := by rcases hb with r | r <;> omega
          repeat rw [Below.heap_setCell _ _ _ _ (by simpa using hne)]
    · have se : shErr ⟨3, 0, 0, x, y⟩ nd ks = 1 := by simp [shErr, q]; omega
      have SE := Lib.hid se
      clear q se
      by_cases r1 : x < 0
      · clear r
        go_wp2
        refine bodyPost_ret (v := .tuple #[.agg #[.int .i64 0, .int .i64 0, .int .i64 0, .string ⟨#[]⟩, .int .i64 0, .int .i64 0, .bool false, .bool false, .int .i64 0, .int .i64 0, .bool false, .bool false, .int .i64 0, .slice none 0 0], .int .i64 1]) (by simp [results, Try.results67, go_sem, cb']) rfl ?_
        refine ⟨?_, .inr ⟨by rw [SE.out]; decide, by rw [SE.out]⟩⟩
        repeat (refine Below.setCell ?_ (by simp; try omega) _)
        exact B2.out
      · have r2 : 702 ≤ x := by omega
        clear r
        go_wp2
        refine bodyPost_ret (v := .tuple #[.agg #[.int .i64 0, .int .i64 0, .int .i64 0, .string ⟨#[]⟩, .int .i64 0, .int .i64 0, .bool false, .bool false, .int .i64 0, .int .i64 0, .bool false, .bool false, .int .i64 0, .slice none 0 0], .int .i64 1]) (by simp [results, Try.results67, go_sem, cb']) rfl ?_
        refine ⟨?_, .inr ⟨by rw [SE.out]; decide, by rw [SE.out]⟩⟩
        repeat (refine Below.setCell ?_ (by simp; try omega) _)
        exact B2.out
  · have q1 : (mayE nd ks != 0) = true := by simp [q]
    have q2 : (mayE nd ks == 0) = false := by simp [q]
    have se : shErr ⟨3, 0, 0, x, y⟩ nd ks = mayE nd ks := by simp [shErr, q]
    have SE := Lib.hid se
    have Q := Lib.hid q
    clear q se
    go_wp2
    refine bodyPost_ret (v := .tuple #[.agg #[.int .i64 0, .int .i64 0, .int .i64 0, .string ⟨#[]⟩, .int .i64 0, .int .i64 0, .bool false, .bool false, .int .i64 0, .int .i64 0, .bool false, .bool false, .int .i64 0, .slice none 0 0], .int .i64 (mayE nd ks)]) (by simp [results, Try.results67, go_sem, cb']) rfl ?_
    refine ⟨?_, .inr ⟨by rw [SE.out]; exact Q.out, by rw [SE.out]⟩⟩
    repeat (refine Below.setCell ?_ (by simp; try omega) _)
    exact B2.out
theorem shRefCols_any (nd : Hd) (ks : Trees) (x y : Int) (w : World) (B : Nat) (ka : Option Addr) (kl kc : Nat) (hB : B ≤ w.heap.size) (tv : TreeV w B nd ks ka kl) (hx : I64 x) (hy : I64 y) : Calls Try.prog 67 #[.agg #[.int .i64 nd.kind, .int .i64 nd.op, .int .i64 nd.num, .string ⟨nd.text.toArray⟩, .int .i64 nd.ref.row, .int .i64 nd.ref.col, .bool nd.ref.pr, .bool nd.ref.pc, .int .i64 nd.to.row, .int .i64 nd.to.col, .bool nd.to.pr, .bool nd.to.pc, .int .i64 nd.fn, .slice ka kl kc], .int .i64 x, .int .i64 y] w (ShPost ⟨3, 0, 0, x, y⟩ nd ks w) :=
  (shRefCols_x nd ks x y w B ka kl kc hB tv hx hy).mono fun _ _ p => p.weak hB
end Go.Proofs.Ytkjfeakbhfkldaa
