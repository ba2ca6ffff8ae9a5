/- TreeTurned: a copy is the same; with one field more set it is not. -/
import Derived.Test.YtkjfeakbhfkldaaTreeL0
import Derived.Test.YtkjfeakbhfkldaaTreeBg
import Derived.Test.YtkjfeakbhfkldaaTreeArg
import Derived.Test.YtkjfeakbhfkldaaLaw
namespace Go.Proofs.Ytkjfeakbhfkldaa
open Go.ChangeShapes Go.WideShapes Go.ChangeAt Go.RowKit

theorem wrap_ne {a n : Int} (h1 : -9223372036854775808 ≤ n) (h2 : n ≤ 9223372036854775807) (h0 : n ≠ 0) : wrap64 (a + n) ≠ a := by
  unfold wrap64; omega
theorem wrap_ok (a : Int) : I64 (wrap64 a) := by unfold I64 wrap64; omega
theorem sameV_ne {h h' : Hd} {ks : Trees} (ne : h ≠ h') : sameV h h' ks ks = false ∧ sameV h' h ks ks = false := by simp [sameV, sameB, ne, ne.symm]
theorem fits_of {h : Hd} {ks : Trees} (e : mayE h ks = 0) : fitsV h ks.len = true := by
  have f := mayE_fine e
  simp only [mayE, f, if_true] at e
  by_cases q : treeFits h ks = true
  · simp only [treeFits, Bool.and_eq_true] at q; exact q.1
  · simp [q] at e
theorem not_fits {h : Hd} {ks : Trees} (e : fitsV h ks.len = false) : mayE h ks = 22 ∨ mayE h ks = 2 := by
  by_cases f : Fine h ks
  · left; simp [mayE, f, treeFits, e]
  · right; simp [mayE, f]
theorem text_small {h : Hd} {ks : Trees} (e : mayE h ks = 0) : h.text.length ≤ 16384 := by
  have f := mayE_fine e
  have q := fits_of e
  by_cases k : h.kind = 2
  · have := f.2.2; simp only [Hd.bytes, k, if_true] at this; omega
  · simp [fitsV, fitsB, k] at q; simp [q]
section
variable {nd : Hd} {ks : Trees} {n : Int}
theorem turned_ne0 (_ : nd.ok) (h1 : -9223372036854775808 ≤ n) (h2 : n ≤ 9223372036854775807) (h0 : n ≠ 0) : sameV nd { nd with op := wrap64 (nd.op + n) } ks ks = false ∧ sameV { nd with op := wrap64 (nd.op + n) } nd ks ks = false := sameV_ne fun e => wrap_ne h1 h2 h0 (congrArg Hd.op e).symm
theorem turned_ne1 (_ : nd.ok) (h1 : -9223372036854775808 ≤ n) (h2 : n ≤ 9223372036854775807) (h0 : n ≠ 0) : sameV nd { nd with num := wrap64 (nd.num + n) } ks ks = false ∧ sameV { nd with num := wrap64 (nd.num + n) } nd ks ks = false := sameV_ne fun e => wrap_ne h1 h2 h0 (congrArg Hd.num e).symm
theorem turned_ne2 (_ : nd.ok) (_ : -9223372036854775808 ≤ n) (_ : n ≤ 9223372036854775807) (_ : n ≠ 0) : sameV nd { nd with text := nd.text ++ [63] } ks ks = false ∧ sameV { nd with text := nd.text ++ [63] } nd ks ks = false := sameV_ne fun e => by have := congrArg (fun h => h.text.length) e; simp at this
theorem turned_ne3 (_ : nd.ok) (h1 : -9223372036854775808 ≤ n) (h2 : n ≤ 9223372036854775807) (h0 : n ≠ 0) : sameV nd { nd with ref := { nd.ref with row := wrap64 (nd.ref.row + n) } } ks ks = false ∧ sameV { nd with ref := { nd.ref with row := wrap64 (nd.ref.row + n) } } nd ks ks = false := sameV_ne fun e => wrap_ne h1 h2 h0 (congrArg (fun h => h.ref.row) e).symm
theorem turned_ne4 (_ : nd.ok) (_ : -9223372036854775808 ≤ n) (_ : n ≤ 9223372036854775807) (_ : n ≠ 0) : sameV nd { nd with to := { nd.to with pc := !nd.to.pc } } ks ks = false ∧ sameV { nd with to := { nd.to with pc := !nd.to.pc } } nd ks ks = false := sameV_ne fun e => by have := congrArg (fun h => h.to.pc) e; simp at this
theorem turned_ok0 (ok : nd.ok) (_ : mayE nd ks = 0) : Hd.ok { nd with op := wrap64 (nd.op + n) } := ⟨ok.text, ok.kind, wrap_ok _, ok.num, ok.rrow, ok.rcol, ok.trow, ok.tcol, ok.fn⟩
theorem turned_ok1 (ok : nd.ok) (_ : mayE nd ks = 0) : Hd.ok { nd with num := wrap64 (nd.num + n) } := ⟨ok.text, ok.kind, ok.op, wrap_ok _, ok.rrow, ok.rcol, ok.trow, ok.tcol, ok.fn⟩
theorem turned_ok2 (ok : nd.ok) (e : mayE nd ks = 0) : Hd.ok { nd with text := nd.text ++ [63] } := ⟨by have := text_small e; simp; omega, ok.kind, ok.op, ok.num, ok.rrow, ok.rcol, ok.trow, ok.tcol, ok.fn⟩
theorem turned_ok3 (ok : nd.ok) (_ : mayE nd ks = 0) : Hd.ok { nd with ref := { nd.ref with row := wrap64 (nd.ref.row + n) } } := ⟨ok.text, ok.kind, ok.op, ok.num, wrap_ok _, ok.rcol, ok.trow, ok.tcol, ok.fn⟩
theorem turned_ok4 (ok : nd.ok) (_ : mayE nd ks = 0) : Hd.ok { nd with to := { nd.to with pc := !nd.to.pc } } := ⟨ok.text, ok.kind, ok.op, ok.num, ok.rrow, ok.rcol, ok.trow, ok.tcol, ok.fn⟩
theorem wrap_self {n : Int} (h1 : -9223372036854775808 ≤ n) (h2 : n ≤ 9223372036854775807) : wrap64 (0 + n) = n := by unfold wrap64; omega
theorem turned_bad0 (e : mayE nd ks = 0) (h1 : -9223372036854775808 ≤ n) (h2 : n ≤ 9223372036854775807) (h0 : n ≠ 0) (k7 : nd.kind ≠ 7) (k8 : nd.kind ≠ 8) : mayE { nd with op := wrap64 (nd.op + n) } ks = 22 ∨ mayE { nd with op := wrap64 (nd.op + n) } ks = 2 := by
  refine not_fits ?_
  have q := fits_of e
  have o : nd.op = 0 := by simp [fitsV, fitsB, k7, k8] at q; exact q.1.1.1.1.1.1
  rw [o, wrap_self h1 h2]
  simp [fitsV, fitsB, k7, k8, h0]
theorem turned_bad1 (e : mayE nd ks = 0) (h1 : -9223372036854775808 ≤ n) (h2 : n ≤ 9223372036854775807) (h0 : n ≠ 0) (k1 : nd.kind ≠ 1) (k4 : nd.kind ≠ 4) (k3 : nd.kind ≠ 3) : mayE { nd with num := wrap64 (nd.num + n) } ks = 22 ∨ mayE { nd with num := wrap64 (nd.num + n) } ks = 2 := by
  refine not_fits ?_
  have q := fits_of e
  have o : nd.num = 0 := by
    simp only [fitsV, fitsB, k1, k3, k4, if_false, Bool.and_eq_true, decide_eq_true_eq] at q
    exact q.1.1.1.1.1.2
  rw [o, wrap_self h1 h2]
  simp [fitsV, fitsB, k1, k3, k4, h0]
theorem turned_bad2 (_ : mayE nd ks = 0) (_ : -9223372036854775808 ≤ n) (_ : n ≤ 9223372036854775807) (_ : n ≠ 0) (k2 : nd.kind ≠ 2) : mayE { nd with text := nd.text ++ [63] } ks = 22 ∨ mayE { nd with text := nd.text ++ [63] } ks = 2 := by
  refine not_fits ?_
  simp [fitsV, fitsB, k2]
theorem turned_bad3 (e : mayE nd ks = 0) (h1 : -9223372036854775808 ≤ n) (h2 : n ≤ 9223372036854775807) (h0 : n ≠ 0) (k5 : nd.kind ≠ 5) (k6 : nd.kind ≠ 6) : mayE { nd with ref := { nd.ref with row := wrap64 (nd.ref.row + n) } } ks = 22 ∨ mayE { nd with ref := { nd.ref with row := wrap64 (nd.ref.row + n) } } ks = 2 := by
  refine not_fits ?_
  have q := fits_of e
  have o : nd.ref = .zero := by
    simp only [fitsV, fitsB, k5, k6, or_self, if_false, Bool.and_eq_true, decide_eq_true_eq] at q
    exact q.1.1.1.2
  rw [o]
  simp only [RefT.zero, wrap_self h1 h2]
  simp [fitsV, fitsB, k5, k6, h0, RefT.zero]
theorem turned_bad4 (e : mayE nd ks = 0) (_ : -9223372036854775808 ≤ n) (_ : n ≤ 9223372036854775807) (_ : n ≠ 0) (k6 : nd.kind ≠ 6) : mayE { nd with to := { nd.to with pc := !nd.to.pc } } ks = 22 ∨ mayE { nd with to := { nd.to with pc := !nd.to.pc } } ks = 2 := by
  refine not_fits ?_
  have q := fits_of e
  have o : nd.to = .zero := by
    simp only [fitsV, fitsB, k6, if_false, Bool.and_eq_true, decide_eq_true_eq] at q
    exact q.1.1.2
  rw [o]
  simp [fitsV, fitsB, k6, RefT.zero]
end

set_option maxRecDepth 100000 in
set_option maxHeartbeats 2000000 in
theorem lawOwn_any (nd : Hd) (ks : Trees) (w : World) (B : Nat) (ka : Option Addr) (kl kc : Nat) (hB : B ≤ w.heap.size) (tv : TreeV w B nd ks ka kl) (hn : ks.nodes ≤ 100000) :
    Calls Try.prog 29 #[.agg #[.int .i64 nd.kind, .int .i64 nd.op, .int .i64 nd.num, .string ⟨nd.text.toArray⟩, .int .i64 nd.ref.row, .int .i64 nd.ref.col, .bool nd.ref.pr, .bool nd.ref.pc, .int .i64 nd.to.row, .int .i64 nd.to.col, .bool nd.to.pr, .bool nd.to.pc, .int .i64 nd.fn, .slice ka kl kc]] w (OwnPost nd ks w) := by
  have b0 := ext_alloc (ext_alloc (Below.refl _ w) (.cells #[.int .i64 nd.kind, .int .i64 nd.op, .int .i64 nd.num, .string ⟨nd.text.toArray⟩, .int .i64 nd.ref.row, .int .i64 nd.ref.col, .bool nd.ref.pr, .bool nd.ref.pc, .int .i64 nd.to.row, .int .i64 nd.to.col, .bool nd.to.pr, .bool nd.to.pc, .int .i64 nd.fn, .slice ka kl kc] 29)) (.cells #[.int .i64 0, .int .i64 0, .int .i64 0, .string ⟨#[]⟩, .int .i64 0, .int .i64 0, .bool false, .bool false, .int .i64 0, .int .i64 0, .bool false, .bool false, .int .i64 0, .slice none 0 0] 29)
  have T0 := Lib.hid (tv.kept (b0.mono hB) (Nat.le_refl _))
  have B0 := Lib.hid b0
  clear tv b0
  go_enter Try.func29, Try.ntmps29
  go_wp2_with fail
  refine (refOwn_any nd ks _ B ka kl kc (by simp; omega) T0.out hn).mono ?_
  rintro e w2 ⟨ua, ul, uc, F, rfl, b2, f2⟩
  obtain ⟨fb, -⟩ := kept_block2 b2
  have fr := (kept_free2 b2).2
  have hb2 : w2.heap[w.heap.size + 1]? = some (.cells #[.int .i64 0, .int .i64 0, .int .i64 0, .string ⟨#[]⟩, .int .i64 0, .int .i64 0, .bool false, .bool false, .int .i64 0, .int .i64 0, .bool false, .bool false, .int .i64 0, .slice none 0 0] 29 (0, 0)) := (b2.block _ (by simp)).trans (heap_alloc2_new _ _ _)
  have c2 := cells_of_block hb2
  have B2 := Lib.hid (B0.out.trans (b2.mono (by simp; omega)))
  have F2 := Lib.hid f2; have H2 := Lib.hid hb2
  clear b2 f2 hb2
  have hz2 : w.heap.size + 1 < w2.heap.size := fb
  clear fb
  go_wp2
  change bodyPost _ _ _ _ _ (World.setCells w2 (w.heap.size + 1) 0 [.int .i64 nd.kind, .int .i64 nd.op, .int .i64 nd.num, .string ⟨nd.text.toArray⟩, .int .i64 nd.ref.row, .int .i64 nd.ref.col, .bool nd.ref.pr, .bool nd.ref.pc, .int .i64 nd.to.row, .int .i64 nd.to.col, .bool nd.to.pr, .bool nd.to.pc, .int .i64 nd.fn, .slice ua ul uc])
  have hx := setCells_all (vs := [.int .i64 nd.kind, .int .i64 nd.op, .int .i64 nd.num, .string ⟨nd.text.toArray⟩, .int .i64 nd.ref.row, .int .i64 nd.ref.col, .bool nd.ref.pr, .bool nd.ref.pc, .int .i64 nd.to.row, .int .i64 nd.to.col, .bool nd.to.pr, .bool nd.to.pc, .int .i64 nd.fn, .slice ua ul uc]) H2.out rfl
  have hz := setCells_size [.int .i64 nd.kind, .int .i64 nd.op, .int .i64 nd.num, .string ⟨nd.text.toArray⟩, .int .i64 nd.ref.row, .int .i64 nd.ref.col, .bool nd.ref.pr, .bool nd.ref.pc, .int .i64 nd.to.row, .int .i64 nd.to.col, .bool nd.to.pr, .bool nd.to.pc, .int .i64 nd.fn, .slice ua ul uc] 0 (w.heap.size + 1) w2
  have hb := setCells_below (Nat.le_succ w.heap.size) [.int .i64 nd.kind, .int .i64 nd.op, .int .i64 nd.num, .string ⟨nd.text.toArray⟩, .int .i64 nd.ref.row, .int .i64 nd.ref.col, .bool nd.ref.pr, .bool nd.ref.pc, .int .i64 nd.to.row, .int .i64 nd.to.col, .bool nd.to.pr, .bool nd.to.pc, .int .i64 nd.fn, .slice ua ul uc] 0 B2.out
  have hk : ∀ k, k ≠ w.heap.size + 1 → _ := fun k hk => setCells_other hk [.int .i64 nd.kind, .int .i64 nd.op, .int .i64 nd.num, .string ⟨nd.text.toArray⟩, .int .i64 nd.ref.row, .int .i64 nd.ref.col, .bool nd.ref.pr, .bool nd.ref.pc, .int .i64 nd.to.row, .int .i64 nd.to.col, .bool nd.to.pr, .bool nd.to.pc, .int .i64 nd.fn, .slice ua ul uc] 0 w2
  generalize hW : World.setCells w2 (w.heap.size + 1) 0 [.int .i64 nd.kind, .int .i64 nd.op, .int .i64 nd.num, .string ⟨nd.text.toArray⟩, .int .i64 nd.ref.row, .int .i64 nd.ref.col, .bool nd.ref.pr, .bool nd.ref.pc, .int .i64 nd.to.row, .int .i64 nd.to.col, .bool nd.to.pr, .bool nd.to.pc, .int .i64 nd.fn, .slice ua ul uc] = w3 at *
  clear hW c2 fr
  have c3 := cells_of_block hx
  refine bodyPost_ret (v := .agg #[.int .i64 nd.kind, .int .i64 nd.op, .int .i64 nd.num, .string ⟨nd.text.toArray⟩, .int .i64 nd.ref.row, .int .i64 nd.ref.col, .bool nd.ref.pr, .bool nd.ref.pc, .int .i64 nd.to.row, .int .i64 nd.to.col, .bool nd.to.pr, .bool nd.to.pc, .int .i64 nd.fn, .slice ua ul uc]) (by simp [results, Try.results29, go_sem, c3]) rfl ?_
  exact ⟨ua, ul, uc, F, rfl, hb, F2.out.sets (fun b hb => hk b (by simp at hb; omega)) (by simp; omega) (by omega)⟩

set_option maxRecDepth 100000 in
set_option maxHeartbeats 4000000 in
theorem turned_not (w : World) (nd : Hd) (ks : Trees) (ka : Option Addr) (kl kc : Nat) (wh n : Int) (tv : TreeV w w.heap.size nd ks ka kl) (h : mayE nd ks ≠ 0 ∨ n = 0) :
    Calls Try.prog 7 #[.agg #[.int .i64 nd.kind, .int .i64 nd.op, .int .i64 nd.num, .string ⟨nd.text.toArray⟩, .int .i64 nd.ref.row, .int .i64 nd.ref.col, .bool nd.ref.pr, .bool nd.ref.pc, .int .i64 nd.to.row, .int .i64 nd.to.col, .bool nd.to.pr, .bool nd.to.pc, .int .i64 nd.fn, .slice ka kl kc], .int .u8 wh, .int .i64 n] w (TruePost w) := by
  have b0 := ext_alloc (Below.refl _ w) (.cells #[.int .i64 nd.kind, .int .i64 nd.op, .int .i64 nd.num, .string ⟨nd.text.toArray⟩, .int .i64 nd.ref.row, .int .i64 nd.ref.col, .bool nd.ref.pr, .bool nd.ref.pc, .int .i64 nd.to.row, .int .i64 nd.to.col, .bool nd.to.pr, .bool nd.to.pc, .int .i64 nd.fn, .slice ka kl kc] 29)
  have p0 : PlR w w.heap.size (.cells #[.int .i64 nd.kind, .int .i64 nd.op, .int .i64 nd.num, .string ⟨nd.text.toArray⟩, .int .i64 nd.ref.row, .int .i64 nd.ref.col, .bool nd.ref.pr, .bool nd.ref.pc, .int .i64 nd.to.row, .int .i64 nd.to.col, .bool nd.to.pr, .bool nd.to.pc, .int .i64 nd.fn, .slice ka kl kc] 29) nd nd ks ks ka ka kl kl (w.alloc (.cells #[.int .i64 nd.kind, .int .i64 nd.op, .int .i64 nd.num, .string ⟨nd.text.toArray⟩, .int .i64 nd.ref.row, .int .i64 nd.ref.col, .bool nd.ref.pr, .bool nd.ref.pc, .int .i64 nd.to.row, .int .i64 nd.to.col, .bool nd.to.pr, .bool nd.to.pc, .int .i64 nd.fn, .slice ka kl kc] 29)) :=
    ⟨Nat.le_refl _, heap_alloc_new _ _, b0, tv.kept b0 (Nat.le_refl _), tv.kept b0 (Nat.le_refl _)⟩
  have P0 := Lib.hid p0
  have HH := Lib.hid h; clear h
  have OK := Lib.hid tv.ok
  clear b0 p0 tv
  go_enter Try.func7, Try.ntmps7
  go_wp2_with fail
  refine (begun_any _).mono ?_
  rintro e w1 ⟨rfl, b1⟩
  obtain ⟨c1, p1⟩ := P0.out.step b1
  have P1 := Lib.hid p1
  clear b1 p1
  go_wp2_with fail
  have cM : Calls Try.prog 23 #[.agg #[.int .i64 nd.kind, .int .i64 nd.op, .int .i64 nd.num, .string ⟨nd.text.toArray⟩, .int .i64 nd.ref.row, .int .i64 nd.ref.col, .bool nd.ref.pr, .bool nd.ref.pc, .int .i64 nd.to.row, .int .i64 nd.to.col, .bool nd.to.pr, .bool nd.to.pc, .int .i64 nd.fn, .slice ka kl kc]] w1 (fun e w' => e = .returned (.int .i64 (mayE nd ks)) ∧ Below w1.heap.size w1 w') := (may_any nd ks w1 _ ka kl kc P1.out.le P1.out.t).mono fun e w' q => ⟨by have := q.1; exact this, q.2⟩
  refine cM.mono ?_
  rintro e w2 ⟨rfl, b2⟩
  obtain ⟨c2, p2⟩ := P1.out.step b2
  have P2 := Lib.hid p2
  clear b2 p2 cM c1
  have P2b := Lib.hid P2.out.bel
  by_cases q : mayE nd ks = 0
  · have q1 : (mayE nd ks != 0) = false := by simp [q]
    have q2 : (mayE nd ks == 0) = true := by simp [q]
    have q3 : (n == 0) = true := by rcases HH.out with h | h; exact absurd q h; simp [h]
    have Q := Lib.hid q
    clear q c2
    go_wp2
    go_ret
    exact ⟨rfl, P2b.out⟩
  · have q1 : (mayE nd ks != 0) = true := by simp [q]
    have q2 : (mayE nd ks == 0) = false := by simp [q]
    have Q := Lib.hid q
    clear q c2
    go_wp2
    go_ret
    exact ⟨rfl, P2b.out⟩
end Go.Proofs.Ytkjfeakbhfkldaa
