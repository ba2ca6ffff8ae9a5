/- Shifting: the reference's nodes that are references. -/
import Derived.Test.YtkjfeakbhfkldaaMhA
namespace Go.Proofs.Ytkjfeakbhfkldaa
open Go.RowKit

set_option maxRecDepth 100000 in
set_option maxHeartbeats 4000000 in
theorem refSingle1_y (m : Mv) (nd : Hd) (ka : Option Addr) (kc : Nat) (w : World) (ok : m.ok) (hk : nd.kind = 5) (hw : m.what = 1) (hp : placeB nd.ref = true) (hq : placeB (pasteR m.dr m.dc nd.ref) = true) : Calls Try.prog 92 #[.agg #[.int .i64 m.what, .int .i64 m.dr, .int .i64 m.dc, .int .i64 m.at_, .int .i64 m.n], .agg #[.int .i64 nd.kind, .int .i64 nd.op, .int .i64 nd.num, .string ⟨nd.text.toArray⟩, .int .i64 nd.ref.row, .int .i64 nd.ref.col, .bool nd.ref.pr, .bool nd.ref.pc, .int .i64 nd.to.row, .int .i64 nd.to.col, .bool nd.to.pr, .bool nd.to.pc, .int .i64 nd.fn, .slice ka 0 kc]] w (fun e w' => ∃ xa xc, e = .returned (.agg #[.int .i64 (mvH m nd).kind, .int .i64 (mvH m nd).op, .int .i64 (mvH m nd).num, .string ⟨(mvH m nd).text.toArray⟩, .int .i64 (mvH m nd).ref.row, .int .i64 (mvH m nd).ref.col, .bool (mvH m nd).ref.pr, .bool (mvH m nd).ref.pc, .int .i64 (mvH m nd).to.row, .int .i64 (mvH m nd).to.col, .bool (mvH m nd).to.pr, .bool (mvH m nd).to.pc, .int .i64 (mvH m nd).fn, .slice xa 0 xc]) ∧ Below w.heap.size w w') := by
  have hm : mvH m nd = { nd with ref := pasteR m.dr m.dc nd.ref } := by simp [mvH, mv1, hk, hw, hq]
  have HM := Lib.hid hm
  have hw1 : (m.what == 1) = true := by simp [hw]
  have cO : ∀ W, Calls Try.prog 100 #[.agg #[.int .i64 (pasteR m.dr m.dc nd.ref).row, .int .i64 (pasteR m.dr m.dc nd.ref).col, .bool (pasteR m.dr m.dc nd.ref).pr, .bool (pasteR m.dr m.dc nd.ref).pc]] W (fun e w' => e = .returned (.bool true) ∧ Below W.heap.size W w') := fun W => (refOn_any (pasteR m.dr m.dc nd.ref) W).mono fun e w' q => ⟨by have := q.1; rw [hq] at this; exact this, q.2⟩
  clear hm hw hq hk
  have OK := Lib.hid ok; clear ok
  have P0 := Lib.hid (Bx3.new w (.cells #[.int .i64 m.what, .int .i64 m.dr, .int .i64 m.dc, .int .i64 m.at_, .int .i64 m.n] 112) (.cells #[.int .i64 nd.kind, .int .i64 nd.op, .int .i64 nd.num, .string ⟨nd.text.toArray⟩, .int .i64 nd.ref.row, .int .i64 nd.ref.col, .bool nd.ref.pr, .bool nd.ref.pc, .int .i64 nd.to.row, .int .i64 nd.to.col, .bool nd.to.pr, .bool nd.to.pc, .int .i64 nd.fn, .slice ka 0 kc] 29) (.cells #[.int .i64 0, .int .i64 0, .int .i64 0, .string ⟨#[]⟩, .int .i64 0, .int .i64 0, .bool false, .bool false, .int .i64 0, .int .i64 0, .bool false, .bool false, .int .i64 0, .slice none 0 0] 29))
  go_enter Try.func92, Try.ntmps92
  go_wp2_with fail
  refine (refRef_any m nd.ref _ OK.out hp).mono ?_
  rintro e w1 ⟨rfl, b1⟩
  have p1 := P0.out.step b1
  clear b1
  have c0 := cells_of_block p1.b0
  have c1 := cells_of_block p1.b1
  have f1 := frees_of_block p1.b1
  have c2 := cells_of_block p1.b2
  have f2 := frees_of_block p1.b2
  have P1 := Lib.hid p1
  have Q1 := Lib.hid p1.bel
  clear P1
  have P1 := Lib.hid ((((p1.set1 4 (.int .i64 (pasteR m.dr m.dc nd.ref).row) rfl).set1 5 (.int .i64 (pasteR m.dr m.dc nd.ref).col) rfl).set1 6 (.bool (pasteR m.dr m.dc nd.ref).pr) rfl).set1 7 (.bool (pasteR m.dr m.dc nd.ref).pc) rfl)
  clear p1
  go_wp2_with fail
  refine (cO _).mono ?_
  rintro e w2 ⟨rfl, b2⟩
  have p2 := P1.out.step b2
  clear b2
  clear c0 c1 f1 c2 f2
  have c0 := cells_of_block p2.b0
  have c1 := cells_of_block p2.b1
  have f1 := frees_of_block p2.b1
  have c2 := cells_of_block p2.b2
  have f2 := frees_of_block p2.b2
  have P2 := Lib.hid p2
  go_wp2
  refine bodyPost_ret (v := .agg #[.int .i64 nd.kind, .int .i64 nd.op, .int .i64 nd.num, .string ⟨nd.text.toArray⟩, .int .i64 (pasteR m.dr m.dc nd.ref).row, .int .i64 (pasteR m.dr m.dc nd.ref).col, .bool (pasteR m.dr m.dc nd.ref).pr, .bool (pasteR m.dr m.dc nd.ref).pc, .int .i64 nd.to.row, .int .i64 nd.to.col, .bool nd.to.pr, .bool nd.to.pc, .int .i64 nd.fn, .slice ka 0 kc]) (by simp [results, Try.results92, go_sem, c2]) rfl ?_
  refine ⟨ka, kc, by rw [HM.out], ?_⟩
  repeat (refine Below.setCell ?_ (by simp; try omega) _)
  exact P2.out.bel

set_option maxRecDepth 100000 in
set_option maxHeartbeats 4000000 in
theorem refSingle1_n (m : Mv) (nd : Hd) (ka : Option Addr) (kc : Nat) (w : World) (ok : m.ok) (hk : nd.kind = 5) (hw : m.what = 1) (hp : placeB nd.ref = true) (hq : placeB (pasteR m.dr m.dc nd.ref) = false) : Calls Try.prog 92 #[.agg #[.int .i64 m.what, .int .i64 m.dr, .int .i64 m.dc, .int .i64 m.at_, .int .i64 m.n], .agg #[.int .i64 nd.kind, .int .i64 nd.op, .int .i64 nd.num, .string ⟨nd.text.toArray⟩, .int .i64 nd.ref.row, .int .i64 nd.ref.col, .bool nd.ref.pr, .bool nd.ref.pc, .int .i64 nd.to.row, .int .i64 nd.to.col, .bool nd.to.pr, .bool nd.to.pc, .int .i64 nd.fn, .slice ka 0 kc]] w (fun e w' => ∃ xa xc, e = .returned (.agg #[.int .i64 (mvH m nd).kind, .int .i64 (mvH m nd).op, .int .i64 (mvH m nd).num, .string ⟨(mvH m nd).text.toArray⟩, .int .i64 (mvH m nd).ref.row, .int .i64 (mvH m nd).ref.col, .bool (mvH m nd).ref.pr, .bool (mvH m nd).ref.pc, .int .i64 (mvH m nd).to.row, .int .i64 (mvH m nd).to.col, .bool (mvH m nd).to.pr, .bool (mvH m nd).to.pc, .int .i64 (mvH m nd).fn, .slice xa 0 xc]) ∧ Below w.heap.size w w') := by
  have hm : mvH m nd = lostH := by simp [mvH, mv1, hk, hw, hq]
  have HM := Lib.hid hm
  have hw1 : (m.what == 1) = true := by simp [hw]
  have cO : ∀ W, Calls Try.prog 100 #[.agg #[.int .i64 (pasteR m.dr m.dc nd.ref).row, .int .i64 (pasteR m.dr m.dc nd.ref).col, .bool (pasteR m.dr m.dc nd.ref).pr, .bool (pasteR m.dr m.dc nd.ref).pc]] W (fun e w' => e = .returned (.bool false) ∧ Below W.heap.size W w') := fun W => (refOn_any (pasteR m.dr m.dc nd.ref) W).mono fun e w' q => ⟨by have := q.1; rw [hq] at this; exact this, q.2⟩
  clear hm hw hq hk
  have OK := Lib.hid ok; clear ok
  have P0 := Lib.hid (Bx3.new w (.cells #[.int .i64 m.what, .int .i64 m.dr, .int .i64 m.dc, .int .i64 m.at_, .int .i64 m.n] 112) (.cells #[.int .i64 nd.kind, .int .i64 nd.op, .int .i64 nd.num, .string ⟨nd.text.toArray⟩, .int .i64 nd.ref.row, .int .i64 nd.ref.col, .bool nd.ref.pr, .bool nd.ref.pc, .int .i64 nd.to.row, .int .i64 nd.to.col, .bool nd.to.pr, .bool nd.to.pc, .int .i64 nd.fn, .slice ka 0 kc] 29) (.cells #[.int .i64 0, .int .i64 0, .int .i64 0, .string ⟨#[]⟩, .int .i64 0, .int .i64 0, .bool false, .bool false, .int .i64 0, .int .i64 0, .bool false, .bool false, .int .i64 0, .slice none 0 0] 29))
  go_enter Try.func92, Try.ntmps92
  go_wp2_with fail
  refine (refRef_any m nd.ref _ OK.out hp).mono ?_
  rintro e w1 ⟨rfl, b1⟩
  have p1 := P0.out.step b1
  clear b1
  have c0 := cells_of_block p1.b0
  have c1 := cells_of_block p1.b1
  have f1 := frees_of_block p1.b1
  have c2 := cells_of_block p1.b2
  have f2 := frees_of_block p1.b2
  have P1 := Lib.hid p1
  have Q1 := Lib.hid p1.bel
  clear P1
  have P1 := Lib.hid ((((p1.set1 4 (.int .i64 (pasteR m.dr m.dc nd.ref).row) rfl).set1 5 (.int .i64 (pasteR m.dr m.dc nd.ref).col) rfl).set1 6 (.bool (pasteR m.dr m.dc nd.ref).pr) rfl).set1 7 (.bool (pasteR m.dr m.dc nd.ref).pc) rfl)
  clear p1
  go_wp2_with fail
  refine (cO _).mono ?_
  rintro e w2 ⟨rfl, b2⟩
  have p2 := P1.out.step b2
  clear b2
  clear c0 c1 f1 c2 f2
  have c0 := cells_of_block p2.b0
  have c1 := cells_of_block p2.b1
  have f1 := frees_of_block p2.b1
  have c2 := cells_of_block p2.b2
  have f2 := frees_of_block p2.b2
  have P2 := Lib.hid p2
  go_wp2_with fail
  refine (refLost_any _).mono ?_
  rintro e w3 ⟨rfl, b3⟩
  have p3 := P2.out.step b3
  clear b3
  clear c0 c1 f1 c2 f2
  have c0 := cells_of_block p3.b0
  have c1 := cells_of_block p3.b1
  have f1 := frees_of_block p3.b1
  have c2 := cells_of_block p3.b2
  have f2 := frees_of_block p3.b2
  have P3 := Lib.hid p3
  go_wp2
  refine bodyPost_ret (v := .agg #[.int .i64 4, .int .i64 0, .int .i64 3, .string ⟨#[]⟩, .int .i64 0, .int .i64 0, .bool false, .bool false, .int .i64 0, .int .i64 0, .bool false, .bool false, .int .i64 0, .slice none 0 0]) (by simp [results, Try.results92, go_sem, c2]) rfl ?_
  refine ⟨none, 0, by rw [HM.out]; rfl, ?_⟩
  repeat (refine Below.setCell ?_ (by simp; try omega) _)
  exact P3.out.bel

set_option maxRecDepth 100000 in
set_option maxHeartbeats 4000000 in
theorem refSingle2_o (m : Mv) (nd : Hd) (ka : Option Addr) (kc : Nat) (w : World) (ok : m.ok) (hk : nd.kind = 5) (hw : m.what = 2) (hu : outP m.at_ m.n nd.ref.row 65536) : Calls Try.prog 92 #[.agg #[.int .i64 m.what, .int .i64 m.dr, .int .i64 m.dc, .int .i64 m.at_, .int .i64 m.n], .agg #[.int .i64 nd.kind, .int .i64 nd.op, .int .i64 nd.num, .string ⟨nd.text.toArray⟩, .int .i64 nd.ref.row, .int .i64 nd.ref.col, .bool nd.ref.pr, .bool nd.ref.pc, .int .i64 nd.to.row, .int .i64 nd.to.col, .bool nd.to.pr, .bool nd.to.pc, .int .i64 nd.fn, .slice ka 0 kc]] w (fun e w' => ∃ xa xc, e = .returned (.agg #[.int .i64 (mvH m nd).kind, .int .i64 (mvH m nd).op, .int .i64 (mvH m nd).num, .string ⟨(mvH m nd).text.toArray⟩, .int .i64 (mvH m nd).ref.row, .int .i64 (mvH m nd).ref.col, .bool (mvH m nd).ref.pr, .bool (mvH m nd).ref.pc, .int .i64 (mvH m nd).to.row, .int .i64 (mvH m nd).to.col, .bool (mvH m nd).to.pr, .bool (mvH m nd).to.pc, .int .i64 (mvH m nd).fn, .slice xa 0 xc]) ∧ Below w.heap.size w w') := by
  have hm : mvH m nd = lostH := by simp [mvH, mv1, hk, hw, hu]
  have HM := Lib.hid hm
  have hw1 : (m.what == 1) = false := by simp [hw]
  have hw2 : (m.what == 2) = true := by simp [hw]
  have cU : ∀ W, Calls Try.prog 97 #[.agg #[.int .i64 m.what, .int .i64 m.dr, .int .i64 m.dc, .int .i64 m.at_, .int .i64 m.n], .int .i64 nd.ref.row, .int .i64 65536] W (fun e w' => e = .returned (.bool true) ∧ Below W.heap.size W w') := fun W => (refOut_any m.what m.dr m.dc m.at_ m.n nd.ref.row 65536 W (by omega) ok.n (ok.rows hw)).mono fun e w' q => ⟨by have := q.1; rw [decide_eq_true hu] at this; exact this, q.2⟩
  clear hm hw hu hk
  have OK := Lib.hid ok; clear ok
  have P0 := Lib.hid (Bx3.new w (.cells #[.int .i64 m.what, .int .i64 m.dr, .int .i64 m.dc, .int .i64 m.at_, .int .i64 m.n] 112) (.cells #[.int .i64 nd.kind, .int .i64 nd.op, .int .i64 nd.num, .string ⟨nd.text.toArray⟩, .int .i64 nd.ref.row, .int .i64 nd.ref.col, .bool nd.ref.pr, .bool nd.ref.pc, .int .i64 nd.to.row, .int .i64 nd.to.col, .bool nd.to.pr, .bool nd.to.pc, .int .i64 nd.fn, .slice ka 0 kc] 29) (.cells #[.int .i64 0, .int .i64 0, .int .i64 0, .string ⟨#[]⟩, .int .i64 0, .int .i64 0, .bool false, .bool false, .int .i64 0, .int .i64 0, .bool false, .bool false, .int .i64 0, .slice none 0 0] 29))
  go_enter Try.func92, Try.ntmps92
  go_wp2_with fail
  refine (cU _).mono ?_
  rintro e w1 ⟨rfl, b1⟩
  have p1 := P0.out.step b1
  clear b1
  have c0 := cells_of_block p1.b0
  have c1 := cells_of_block p1.b1
  have f1 := frees_of_block p1.b1
  have c2 := cells_of_block p1.b2
  have f2 := frees_of_block p1.b2
  have P1 := Lib.hid p1
  go_wp2_with fail
  refine (refLost_any _).mono ?_
  rintro e w2 ⟨rfl, b2⟩
  have p2 := P1.out.step b2
  clear b2
  clear c0 c1 f1 c2 f2
  have c0 := cells_of_block p2.b0
  have c1 := cells_of_block p2.b1
  have f1 := frees_of_block p2.b1
  have c2 := cells_of_block p2.b2
  have f2 := frees_of_block p2.b2
  have P2 := Lib.hid p2
  go_wp2
  refine bodyPost_ret (v := .agg #[.int .i64 4, .int .i64 0, .int .i64 3, .string ⟨#[]⟩, .int .i64 0, .int .i64 0, .bool false, .bool false, .int .i64 0, .int .i64 0, .bool false, .bool false, .int .i64 0, .slice none 0 0]) (by simp [results, Try.results92, go_sem, c2]) rfl ?_
  refine ⟨none, 0, by rw [HM.out]; rfl, ?_⟩
  repeat (refine Below.setCell ?_ (by simp; try omega) _)
  exact P2.out.bel

set_option maxRecDepth 100000 in
set_option maxHeartbeats 4000000 in
theorem refSingle2_y (m : Mv) (nd : Hd) (ka : Option Addr) (kc : Nat) (w : World) (ok : m.ok) (hk : nd.kind = 5) (hw : m.what = 2) (hp : placeB nd.ref = true) (hu : ¬ outP m.at_ m.n nd.ref.row 65536) (hq : placeB { nd.ref with row := (lineN m.at_ m.n nd.ref.row 65536) } = true) : Calls Try.prog 92 #[.agg #[.int .i64 m.what, .int .i64 m.dr, .int .i64 m.dc, .int .i64 m.at_, .int .i64 m.n], .agg #[.int .i64 nd.kind, .int .i64 nd.op, .int .i64 nd.num, .string ⟨nd.text.toArray⟩, .int .i64 nd.ref.row, .int .i64 nd.ref.col, .bool nd.ref.pr, .bool nd.ref.pc, .int .i64 nd.to.row, .int .i64 nd.to.col, .bool nd.to.pr, .bool nd.to.pc, .int .i64 nd.fn, .slice ka 0 kc]] w (fun e w' => ∃ xa xc, e = .returned (.agg #[.int .i64 (mvH m nd).kind, .int .i64 (mvH m nd).op, .int .i64 (mvH m nd).num, .string ⟨(mvH m nd).text.toArray⟩, .int .i64 (mvH m nd).ref.row, .int .i64 (mvH m nd).ref.col, .bool (mvH m nd).ref.pr, .bool (mvH m nd).ref.pc, .int .i64 (mvH m nd).to.row, .int .i64 (mvH m nd).to.col, .bool (mvH m nd).to.pr, .bool (mvH m nd).to.pc, .int .i64 (mvH m nd).fn, .slice xa 0 xc]) ∧ Below w.heap.size w w') := by
  have hm : mvH m nd = { nd with ref := { nd.ref with row := (lineN m.at_ m.n nd.ref.row 65536) } } := by simp [mvH, mv1, hk, hw, hu, hq]
  have HM := Lib.hid hm
  have hw1 : (m.what == 1) = false := by simp [hw]
  have hw2 : (m.what == 2) = true := by simp [hw]
  have cU : ∀ W, Calls Try.prog 97 #[.agg #[.int .i64 m.what, .int .i64 m.dr, .int .i64 m.dc, .int .i64 m.at_, .int .i64 m.n], .int .i64 nd.ref.row, .int .i64 65536] W (fun e w' => e = .returned (.bool false) ∧ Below W.heap.size W w') := fun W => (refOut_any m.what m.dr m.dc m.at_ m.n nd.ref.row 65536 W (by omega) ok.n (ok.rows hw)).mono fun e w' q => ⟨by have := q.1; rw [decide_eq_false hu] at this; exact this, q.2⟩
  have cL : ∀ W, Calls Try.prog 99 #[.agg #[.int .i64 m.what, .int .i64 m.dr, .int .i64 m.dc, .int .i64 m.at_, .int .i64 m.n], .int .i64 nd.ref.row, .int .i64 65536] W (IntPost (lineN m.at_ m.n nd.ref.row 65536) W) := fun W => refLine_any m.what m.dr m.dc m.at_ m.n nd.ref.row 65536 W (by omega) ok.n (by have := (place_on hp).1; omega) (fun _ => (place_on hp).1)
  have cO : ∀ W, Calls Try.prog 100 #[.agg #[.int .i64 (lineN m.at_ m.n nd.ref.row 65536), .int .i64 nd.ref.col, .bool nd.ref.pr, .bool nd.ref.pc]] W (fun e w' => e = .returned (.bool true) ∧ Below W.heap.size W w') := fun W => (refOn_any { nd.ref with row := (lineN m.at_ m.n nd.ref.row 65536) } W).mono fun e w' q => ⟨by have := q.1; rw [hq] at this; exact this, q.2⟩
  clear hm hw hq hk hu hp
  have OK := Lib.hid ok; clear ok
  have P0 := Lib.hid (Bx3.new w (.cells #[.int .i64 m.what, .int .i64 m.dr, .int .i64 m.dc, .int .i64 m.at_, .int .i64 m.n] 112) (.cells #[.int .i64 nd.kind, .int .i64 nd.op, .int .i64 nd.num, .string ⟨nd.text.toArray⟩, .int .i64 nd.ref.row, .int .i64 nd.ref.col, .bool nd.ref.pr, .bool nd.ref.pc, .int .i64 nd.to.row, .int .i64 nd.to.col, .bool nd.to.pr, .bool nd.to.pc, .int .i64 nd.fn, .slice ka 0 kc] 29) (.cells #[.int .i64 0, .int .i64 0, .int .i64 0, .string ⟨#[]⟩, .int .i64 0, .int .i64 0, .bool false, .bool false, .int .i64 0, .int .i64 0, .bool false, .bool false, .int .i64 0, .slice none 0 0] 29))
  go_enter Try.func92, Try.ntmps92
  go_wp2_with fail
  refine (cU _).mono ?_
  rintro e w1 ⟨rfl, b1⟩
  have p1 := P0.out.step b1
  clear b1
  have c0 := cells_of_block p1.b0
  have c1 := cells_of_block p1.b1
  have f1 := frees_of_block p1.b1
  have c2 := cells_of_block p1.b2
  have f2 := frees_of_block p1.b2
  have P1 := Lib.hid p1
  go_wp2_with fail
  refine (cL _).mono ?_
  rintro e w2 ⟨rfl, b2⟩
  have p2 := P1.out.step b2
  clear b2
  clear c0 c1 f1 c2 f2
  have c0 := cells_of_block p2.b0
  have c1 := cells_of_block p2.b1
  have f1 := frees_of_block p2.b1
  have c2 := cells_of_block p2.b2
  have f2 := frees_of_block p2.b2
  have P2 := Lib.hid p2
  have Q2 := Lib.hid p2.bel
  clear P2
  have P2 := Lib.hid (p2.set1 4 (.int .i64 (lineN m.at_ m.n nd.ref.row 65536)) rfl)
  clear p2
  go_wp2_with fail
  refine (cO _).mono ?_
  rintro e w3 ⟨rfl, b3⟩
  have p3 := P2.out.step b3
  clear b3
  clear c0 c1 f1 c2 f2
  have c0 := cells_of_block p3.b0
  have c1 := cells_of_block p3.b1
  have f1 := frees_of_block p3.b1
  have c2 := cells_of_block p3.b2
  have f2 := frees_of_block p3.b2
  have P3 := Lib.hid p3
  go_wp2
  refine bodyPost_ret (v := .agg #[.int .i64 nd.kind, .int .i64 nd.op, .int .i64 nd.num, .string ⟨nd.text.toArray⟩, .int .i64 (lineN m.at_ m.n nd.ref.row 65536), .int .i64 nd.ref.col, .bool nd.ref.pr, .bool nd.ref.pc, .int .i64 nd.to.row, .int .i64 nd.to.col, .bool nd.to.pr, .bool nd.to.pc, .int .i64 nd.fn, .slice ka 0 kc]) (by simp [results, Try.results92, go_sem, c2]) rfl ?_
  refine ⟨ka, kc, by rw [HM.out], ?_⟩
  repeat (refine Below.setCell ?_ (by simp; try omega) _)
  exact P3.out.bel

set_option maxRecDepth 100000 in
set_option maxHeartbeats 4000000 in
theorem refSingle2_n (m : Mv) (nd : Hd) (ka : Option Addr) (kc : Nat) (w : World) (ok : m.ok) (hk : nd.kind = 5) (hw : m.what = 2) (hp : placeB nd.ref = true) (hu : ¬ outP m.at_ m.n nd.ref.row 65536) (hq : placeB { nd.ref with row := (lineN m.at_ m.n nd.ref.row 65536) } = false) : Calls Try.prog 92 #[.agg #[.int .i64 m.what, .int .i64 m.dr, .int .i64 m.dc, .int .i64 m.at_, .int .i64 m.n], .agg #[.int .i64 nd.kind, .int .i64 nd.op, .int .i64 nd.num, .string ⟨nd.text.toArray⟩, .int .i64 nd.ref.row, .int .i64 nd.ref.col, .bool nd.ref.pr, .bool nd.ref.pc, .int .i64 nd.to.row, .int .i64 nd.to.col, .bool nd.to.pr, .bool nd.to.pc, .int .i64 nd.fn, .slice ka 0 kc]] w (fun e w' => ∃ xa xc, e = .returned (.agg #[.int .i64 (mvH m nd).kind, .int .i64 (mvH m nd).op, .int .i64 (mvH m nd).num, .string ⟨(mvH m nd).text.toArray⟩, .int .i64 (mvH m nd).ref.row, .int .i64 (mvH m nd).ref.col, .bool (mvH m nd).ref.pr, .bool (mvH m nd).ref.pc, .int .i64 (mvH m nd).to.row, .int .i64 (mvH m nd).to.col, .bool (mvH m nd).to.pr, .bool (mvH m nd).to.pc, .int .i64 (mvH m nd).fn, .slice xa 0 xc]) ∧ Below w.heap.size w w') := by
  have hm : mvH m nd = lostH := by simp [mvH, mv1, hk, hw, hu, hq]
  have HM := Lib.hid hm
  have hw1 : (m.what == 1) = false := by simp [hw]
  have hw2 : (m.what == 2) = true := by simp [hw]
  have cU : ∀ W, Calls Try.prog 97 #[.agg #[.int .i64 m.what, .int .i64 m.dr, .int .i64 m.dc, .int .i64 m.at_, .int .i64 m.n], .int .i64 nd.ref.row, .int .i64 65536] W (fun e w' => e = .returned (.bool false) ∧ Below W.heap.size W w') := fun W => (refOut_any m.what m.dr m.dc m.at_ m.n nd.ref.row 65536 W (by omega) ok.n (ok.rows hw)).mono fun e w' q => ⟨by have := q.1; rw [decide_eq_false hu] at this; exact this, q.2⟩
  have cL : ∀ W, Calls Try.prog 99 #[.agg #[.int .i64 m.what, .int .i64 m.dr, .int .i64 m.dc, .int .i64 m.at_, .int .i64 m.n], .int .i64 nd.ref.row, .int .i64 65536] W (IntPost (lineN m.at_ m.n nd.ref.row 65536) W) := fun W => refLine_any m.what m.dr m.dc m.at_ m.n nd.ref.row 65536 W (by omega) ok.n (by have := (place_on hp).1; omega) (fun _ => (place_on hp).1)
  have cO : ∀ W, Calls Try.prog 100 #[.agg #[.int .i64 (lineN m.at_ m.n nd.ref.row 65536), .int .i64 nd.ref.col, .bool nd.ref.pr, .bool nd.ref.pc]] W (fun e w' => e = .returned (.bool false) ∧ Below W.heap.size W w') := fun W => (refOn_any { nd.ref with row := (lineN m.at_ m.n nd.ref.row 65536) } W).mono fun e w' q => ⟨by have := q.1; rw [hq] at this; exact this, q.2⟩
  clear hm hw hq hk hu hp
  have OK := Lib.hid ok; clear ok
  have P0 := Lib.hid (Bx3.new w (.cells #[.int .i64 m.what, .int .i64 m.dr, .int .i64 m.dc, .int .i64 m.at_, .int .i64 m.n] 112) (.cells #[.int .i64 nd.kind, .int .i64 nd.op, .int .i64 nd.num, .string ⟨nd.text.toArray⟩, .int .i64 nd.ref.row, .int .i64 nd.ref.col, .bool nd.ref.pr, .bool nd.ref.pc, .int .i64 nd.to.row, .int .i64 nd.to.col, .bool nd.to.pr, .bool nd.to.pc, .int .i64 nd.fn, .slice ka 0 kc] 29) (.cells #[.int .i64 0, .int .i64 0, .int .i64 0, .string ⟨#[]⟩, .int .i64 0, .int .i64 0, .bool false, .bool false, .int .i64 0, .int .i64 0, .bool false, .bool false, .int .i64 0, .slice none 0 0] 29))
  go_enter Try.func92, Try.ntmps92
  go_wp2_with fail
  refine (cU _).mono ?_
  rintro e w1 ⟨rfl, b1⟩
  have p1 := P0.out.step b1
  clear b1
  have c0 := cells_of_block p1.b0
  have c1 := cells_of_block p1.b1
  have f1 := frees_of_block p1.b1
  have c2 := cells_of_block p1.b2
  have f2 := frees_of_block p1.b2
  have P1 := Lib.hid p1
  go_wp2_with fail
  refine (cL _).mono ?_
  rintro e w2 ⟨rfl, b2⟩
  have p2 := P1.out.step b2
  clear b2
  clear c0 c1 f1 c2 f2
  have c0 := cells_of_block p2.b0
  have c1 := cells_of_block p2.b1
  have f1 := frees_of_block p2.b1
  have c2 := cells_of_block p2.b2
  have f2 := frees_of_block p2.b2
  have P2 := Lib.hid p2
  have Q2 := Lib.hid p2.bel
  clear P2
  have P2 := Lib.hid (p2.set1 4 (.int .i64 (lineN m.at_ m.n nd.ref.row 65536)) rfl)
  clear p2
  go_wp2_with fail
  refine (cO _).mono ?_
  rintro e w3 ⟨rfl, b3⟩
  have p3 := P2.out.step b3
  clear b3
  clear c0 c1 f1 c2 f2
  have c0 := cells_of_block p3.b0
  have c1 := cells_of_block p3.b1
  have f1 := frees_of_block p3.b1
  have c2 := cells_of_block p3.b2
  have f2 := frees_of_block p3.b2
  have P3 := Lib.hid p3
  go_wp2_with fail
  refine (refLost_any _).mono ?_
  rintro e w4 ⟨rfl, b4⟩
  have p4 := P3.out.step b4
  clear b4
  clear c0 c1 f1 c2 f2
  have c0 := cells_of_block p4.b0
  have c1 := cells_of_block p4.b1
  have f1 := frees_of_block p4.b1
  have c2 := cells_of_block p4.b2
  have f2 := frees_of_block p4.b2
  have P4 := Lib.hid p4
  go_wp2
  refine bodyPost_ret (v := .agg #[.int .i64 4, .int .i64 0, .int .i64 3, .string ⟨#[]⟩, .int .i64 0, .int .i64 0, .bool false, .bool false, .int .i64 0, .int .i64 0, .bool false, .bool false, .int .i64 0, .slice none 0 0]) (by simp [results, Try.results92, go_sem, c2]) rfl ?_
  refine ⟨none, 0, by rw [HM.out]; rfl, ?_⟩
  repeat (refine Below.setCell ?_ (by simp; try omega) _)
  exact P4.out.bel

set_option maxRecDepth 100000 in
set_option maxHeartbeats 4000000 in
theorem refSingle3_o (m : Mv) (nd : Hd) (ka : Option Addr) (kc : Nat) (w : World) (ok : m.ok) (hk : nd.kind = 5) (hw : m.what = 3) (hu : outP m.at_ m.n nd.ref.col 702) : Calls Try.prog 92 #[.agg #[.int .i64 m.what, .int .i64 m.dr, .int .i64 m.dc, .int .i64 m.at_, .int .i64 m.n], .agg #[.int .i64 nd.kind, .int .i64 nd.op, .int .i64 nd.num, .string ⟨nd.text.toArray⟩, .int .i64 nd.ref.row, .int .i64 nd.ref.col, .bool nd.ref.pr, .bool nd.ref.pc, .int .i64 nd.to.row, .int .i64 nd.to.col, .bool nd.to.pr, .bool nd.to.pc, .int .i64 nd.fn, .slice ka 0 kc]] w (fun e w' => ∃ xa xc, e = .returned (.agg #[.int .i64 (mvH m nd).kind, .int .i64 (mvH m nd).op, .int .i64 (mvH m nd).num, .string ⟨(mvH m nd).text.toArray⟩, .int .i64 (mvH m nd).ref.row, .int .i64 (mvH m nd).ref.col, .bool (mvH m nd).ref.pr, .bool (mvH m nd).ref.pc, .int .i64 (mvH m nd).to.row, .int .i64 (mvH m nd).to.col, .bool (mvH m nd).to.pr, .bool (mvH m nd).to.pc, .int .i64 (mvH m nd).fn, .slice xa 0 xc]) ∧ Below w.heap.size w w') := by
  have hm : mvH m nd = lostH := by simp [mvH, mv1, hk, hw, hu]
  have HM := Lib.hid hm
  have hw1 : (m.what == 1) = false := by simp [hw]
  have hw2 : (m.what == 2) = false := by simp [hw]
  have hw3 : (m.what == 3) = true := by simp [hw]
  have cU : ∀ W, Calls Try.prog 97 #[.agg #[.int .i64 m.what, .int .i64 m.dr, .int .i64 m.dc, .int .i64 m.at_, .int .i64 m.n], .int .i64 nd.ref.col, .int .i64 702] W (fun e w' => e = .returned (.bool true) ∧ Below W.heap.size W w') := fun W => (refOut_any m.what m.dr m.dc m.at_ m.n nd.ref.col 702 W (by omega) ok.n (ok.cols hw)).mono fun e w' q => ⟨by have := q.1; rw [decide_eq_true hu] at this; exact this, q.2⟩
  clear hm hw hu hk
  have OK := Lib.hid ok; clear ok
  have P0 := Lib.hid (Bx3.new w (.cells #[.int .i64 m.what, .int .i64 m.dr, .int .i64 m.dc, .int .i64 m.at_, .int .i64 m.n] 112) (.cells #[.int .i64 nd.kind, .int .i64 nd.op, .int .i64 nd.num, .string ⟨nd.text.toArray⟩, .int .i64 nd.ref.row, .int .i64 nd.ref.col, .bool nd.ref.pr, .bool nd.ref.pc, .int .i64 nd.to.row, .int .i64 nd.to.col, .bool nd.to.pr, .bool nd.to.pc, .int .i64 nd.fn, .slice ka 0 kc] 29) (.cells #[.int .i64 0, .int .i64 0, .int .i64 0, .string ⟨#[]⟩, .int .i64 0, .int .i64 0, .bool false, .bool false, .int .i64 0, .int .i64 0, .bool false, .bool false, .int .i64 0, .slice none 0 0] 29))
  go_enter Try.func92, Try.ntmps92
  go_wp2_with fail
  refine (cU _).mono ?_
  rintro e w1 ⟨rfl, b1⟩
  have p1 := P0.out.step b1
  clear b1
  have c0 := cells_of_block p1.b0
  have c1 := cells_of_block p1.b1
  have f1 := frees_of_block p1.b1
  have c2 := cells_of_block p1.b2
  have f2 := frees_of_block p1.b2
  have P1 := Lib.hid p1
  go_wp2_with fail
  refine (refLost_any _).mono ?_
  rintro e w2 ⟨rfl, b2⟩
  have p2 := P1.out.step b2
  clear b2
  clear c0 c1 f1 c2 f2
  have c0 := cells_of_block p2.b0
  have c1 := cells_of_block p2.b1
  have f1 := frees_of_block p2.b1
  have c2 := cells_of_block p2.b2
  have f2 := frees_of_block p2.b2
  have P2 := Lib.hid p2
  go_wp2
  refine bodyPost_ret (v := .agg #[.int .i64 4, .int .i64 0, .int .i64 3, .string ⟨#[]⟩, .int .i64 0, .int .i64 0, .bool false, .bool false, .int .i64 0, .int .i64 0, .bool false, .bool false, .int .i64 0, .slice none 0 0]) (by simp [results, Try.results92, go_sem, c2]) rfl ?_
  refine ⟨none, 0, by rw [HM.out]; rfl, ?_⟩
  repeat (refine Below.setCell ?_ (by simp; try omega) _)
  exact P2.out.bel

set_option maxRecDepth 100000 in
set_option maxHeartbeats 4000000 in
theorem refSingle3_y (m : Mv) (nd : Hd) (ka : Option Addr) (kc : Nat) (w : World) (ok : m.ok) (hk : nd.kind = 5) (hw : m.what = 3) (hp : placeB nd.ref = true) (hu : ¬ outP m.at_ m.n nd.ref.col 702) (hq : placeB { nd.ref with col := (lineN m.at_ m.n nd.ref.col 702) } = true) : Calls Try.prog 92 #[.agg #[.int .i64 m.what, .int .i64 m.dr, .int .i64 m.dc, .int .i64 m.at_, .int .i64 m.n], .agg #[.int .i64 nd.kind, .int .i64 nd.op, .int .i64 nd.num, .string ⟨nd.text.toArray⟩, .int .i64 nd.ref.row, .int .i64 nd.ref.col, .bool nd.ref.pr, .bool nd.ref.pc, .int .i64 nd.to.row, .int .i64 nd.to.col, .bool nd.to.pr, .bool nd.to.pc, .int .i64 nd.fn, .slice ka 0 kc]] w (fun e w' => ∃ xa xc, e = .returned (.agg #[.int .i64 (mvH m nd).kind, .int .i64 (mvH m nd).op, .int .i64 (mvH m nd).num, .string ⟨(mvH m nd).text.toArray⟩, .int .i64 (mvH m nd).ref.row, .int .i64 (mvH m nd).ref.col, .bool (mvH m nd).ref.pr, .bool (mvH m nd).ref.pc, .int .i64 (mvH m nd).to.row, .int .i64 (mvH m nd).to.col, .bool (mvH m nd).to.pr, .bool (mvH m nd).to.pc, .int .i64 (mvH m nd).fn, .slice xa 0 xc]) ∧ Below w.heap.size w w') := by
  have hm : mvH m nd = { nd with ref := { nd.ref with col := (lineN m.at_ m.n nd.ref.col 702) } } := by simp [mvH, mv1, hk, hw, hu, hq]
  have HM := Lib.hid hm
  have hw1 : (m.what == 1) = false := by simp [hw]
  have hw2 : (m.what == 2) = false := by simp [hw]
  have hw3 : (m.what == 3) = true := by simp [hw]
  have cU : ∀ W, Calls Try.prog 97 #[.agg #[.int .i64 m.what, .int .i64 m.dr, .int .i64 m.dc, .int .i64 m.at_, .int .i64 m.n], .int .i64 nd.ref.col, .int .i64 702] W (fun e w' => e = .returned (.bool false) ∧ Below W.heap.size W w') := fun W => (refOut_any m.what m.dr m.dc m.at_ m.n nd.ref.col 702 W (by omega) ok.n (ok.cols hw)).mono fun e w' q => ⟨by have := q.1; rw [decide_eq_false hu] at this; exact this, q.2⟩
  have cL : ∀ W, Calls Try.prog 99 #[.agg #[.int .i64 m.what, .int .i64 m.dr, .int .i64 m.dc, .int .i64 m.at_, .int .i64 m.n], .int .i64 nd.ref.col, .int .i64 702] W (IntPost (lineN m.at_ m.n nd.ref.col 702) W) := fun W => refLine_any m.what m.dr m.dc m.at_ m.n nd.ref.col 702 W (by omega) ok.n (by have := (place_on hp).2; omega) (fun _ => (place_on hp).2)
  have cO : ∀ W, Calls Try.prog 100 #[.agg #[.int .i64 nd.ref.row, .int .i64 (lineN m.at_ m.n nd.ref.col 702), .bool nd.ref.pr, .bool nd.ref.pc]] W (fun e w' => e = .returned (.bool true) ∧ Below W.heap.size W w') := fun W => (refOn_any { nd.ref with col := (lineN m.at_ m.n nd.ref.col 702) } W).mono fun e w' q => ⟨by have := q.1; rw [hq] at this; exact this, q.2⟩
  clear hm hw hq hk hu hp
  have OK := Lib.hid ok; clear ok
  have P0 := Lib.hid (Bx3.new w (.cells #[.int .i64 m.what, .int .i64 m.dr, .int .i64 m.dc, .int .i64 m.at_, .int .i64 m.n] 112) (.cells #[.int .i64 nd.kind, .int .i64 nd.op, .int .i64 nd.num, .string ⟨nd.text.toArray⟩, .int .i64 nd.ref.row, .int .i64 nd.ref.col, .bool nd.ref.pr, .bool nd.ref.pc, .int .i64 nd.to.row, .int .i64 nd.to.col, .bool nd.to.pr, .bool nd.to.pc, .int .i64 nd.fn, .slice ka 0 kc] 29) (.cells #[.int .i64 0, .int .i64 0, .int .i64 0, .string ⟨#[]⟩, .int .i64 0, .int .i64 0, .bool false, .bool false, .int .i64 0, .int .i64 0, .bool false, .bool false, .int .i64 0, .slice none 0 0] 29))
  go_enter Try.func92, Try.ntmps92
  go_wp2_with fail
  refine (cU _).mono ?_
  rintro e w1 ⟨rfl, b1⟩
  have p1 := P0.out.step b1
  clear b1
  have c0 := cells_of_block p1.b0
  have c1 := cells_of_block p1.b1
  have f1 := frees_of_block p1.b1
  have c2 := cells_of_block p1.b2
  have f2 := frees_of_block p1.b2
  have P1 := Lib.hid p1
  go_wp2_with fail
  refine (cL _).mono ?_
  rintro e w2 ⟨rfl, b2⟩
  have p2 := P1.out.step b2
  clear b2
  clear c0 c1 f1 c2 f2
  have c0 := cells_of_block p2.b0
  have c1 := cells_of_block p2.b1
  have f1 := frees_of_block p2.b1
  have c2 := cells_of_block p2.b2
  have f2 := frees_of_block p2.b2
  have P2 := Lib.hid p2
  have Q2 := Lib.hid p2.bel
  clear P2
  have P2 := Lib.hid (p2.set1 5 (.int .i64 (lineN m.at_ m.n nd.ref.col 702)) rfl)
  clear p2
  go_wp2_with fail
  refine (cO _).mono ?_
  rintro e w3 ⟨rfl, b3⟩
  have p3 := P2.out.step b3
  clear b3
  clear c0 c1 f1 c2 f2
  have c0 := cells_of_block p3.b0
  have c1 := cells_of_block p3.b1
  have f1 := frees_of_block p3.b1
  have c2 := cells_of_block p3.b2
  have f2 := frees_of_block p3.b2
  have P3 := Lib.hid p3
  go_wp2
  refine bodyPost_ret (v := .agg #[.int .i64 nd.kind, .int .i64 nd.op, .int .i64 nd.num, .string ⟨nd.text.toArray⟩, .int .i64 nd.ref.row, .int .i64 (lineN m.at_ m.n nd.ref.col 702), .bool nd.ref.pr, .bool nd.ref.pc, .int .i64 nd.to.row, .int .i64 nd.to.col, .bool nd.to.pr, .bool nd.to.pc, .int .i64 nd.fn, .slice ka 0 kc]) (by simp [results, Try.results92, go_sem, c2]) rfl ?_
  refine ⟨ka, kc, by rw [HM.out], ?_⟩
  repeat (refine Below.setCell ?_ (by simp; try omega) _)
  exact P3.out.bel

set_option maxRecDepth 100000 in
set_option maxHeartbeats 4000000 in
theorem refSingle3_n (m : Mv) (nd : Hd) (ka : Option Addr) (kc : Nat) (w : World) (ok : m.ok) (hk : nd.kind = 5) (hw : m.what = 3) (hp : placeB nd.ref = true) (hu : ¬ outP m.at_ m.n nd.ref.col 702) (hq : placeB { nd.ref with col := (lineN m.at_ m.n nd.ref.col 702) } = false) : Calls Try.prog 92 #[.agg #[.int .i64 m.what, .int .i64 m.dr, .int .i64 m.dc, .int .i64 m.at_, .int .i64 m.n], .agg #[.int .i64 nd.kind, .int .i64 nd.op, .int .i64 nd.num, .string ⟨nd.text.toArray⟩, .int .i64 nd.ref.row, .int .i64 nd.ref.col, .bool nd.ref.pr, .bool nd.ref.pc, .int .i64 nd.to.row, .int .i64 nd.to.col, .bool nd.to.pr, .bool nd.to.pc, .int .i64 nd.fn, .slice ka 0 kc]] w (fun e w' => ∃ xa xc, e = .returned (.agg #[.int .i64 (mvH m nd).kind, .int .i64 (mvH m nd).op, .int .i64 (mvH m nd).num, .string ⟨(mvH m nd).text.toArray⟩, .int .i64 (mvH m nd).ref.row, .int .i64 (mvH m nd).ref.col, .bool (mvH m nd).ref.pr, .bool (mvH m nd).ref.pc, .int .i64 (mvH m nd).to.row, .int .i64 (mvH m nd).to.col, .bool (mvH m nd).to.pr, .bool (mvH m nd).to.pc, .int .i64 (mvH m nd).fn, .slice xa 0 xc]) ∧ Below w.heap.size w w') := by
  have hm : mvH m nd = lostH := by simp [mvH, mv1, hk, hw, hu, hq]
  have HM := Lib.hid hm
  have hw1 : (m.what == 1) = false := by simp [hw]
  have hw2 : (m.what == 2) = false := by simp [hw]
  have hw3 : (m.what == 3) = true := by simp [hw]
  have cU : ∀ W, Calls Try.prog 97 #[.agg #[.int .i64 m.what, .int .i64 m.dr, .int .i64 m.dc, .int .i64 m.at_, .int .i64 m.n], .int .i64 nd.ref.col, .int .i64 702] W (fun e w' => e = .returned (.bool false) ∧ Below W.heap.size W w') := fun W => (refOut_any m.what m.dr m.dc m.at_ m.n nd.ref.col 702 W (by omega) ok.n (ok.cols hw)).mono fun e w' q => ⟨by have := q.1; rw [decide_eq_false hu] at this; exact this, q.2⟩
  have cL : ∀ W, Calls Try.prog 99 #[.agg #[.int .i64 m.what, .int .i64 m.dr, .int .i64 m.dc, .int .i64 m.at_, .int .i64 m.n], .int .i64 nd.ref.col, .int .i64 702] W (IntPost (lineN m.at_ m.n nd.ref.col 702) W) := fun W => refLine_any m.what m.dr m.dc m.at_ m.n nd.ref.col 702 W (by omega) ok.n (by have := (place_on hp).2; omega) (fun _ => (place_on hp).2)
  have cO : ∀ W, Calls Try.prog 100 #[.agg #[.int .i64 nd.ref.row, .int .i64 (lineN m.at_ m.n nd.ref.col 702), .bool nd.ref.pr, .bool nd.ref.pc]] W (fun e w' => e = .returned (.bool false) ∧ Below W.heap.size W w') := fun W => (refOn_any { nd.ref with col := (lineN m.at_ m.n nd.ref.col 702) } W).mono fun e w' q => ⟨by have := q.1; rw [hq] at this; exact this, q.2⟩
  clear hm hw hq hk hu hp
  have OK := Lib.hid ok; clear ok
  have P0 := Lib.hid (Bx3.new w (.cells #[.int .i64 m.what, .int .i64 m.dr, .int .i64 m.dc, .int .i64 m.at_, .int .i64 m.n] 112) (.cells #[.int .i64 nd.kind, .int .i64 nd.op, .int .i64 nd.num, .string ⟨nd.text.toArray⟩, .int .i64 nd.ref.row, .int .i64 nd.ref.col, .bool nd.ref.pr, .bool nd.ref.pc, .int .i64 nd.to.row, .int .i64 nd.to.col, .bool nd.to.pr, .bool nd.to.pc, .int .i64 nd.fn, .slice ka 0 kc] 29) (.cells #[.int .i64 0, .int .i64 0, .int .i64 0, .string ⟨#[]⟩, .int .i64 0, .int .i64 0, .bool false, .bool false, .int .i64 0, .int .i64 0, .bool false, .bool false, .int .i64 0, .slice none 0 0] 29))
  go_enter Try.func92, Try.ntmps92
  go_wp2_with fail
  refine (cU _).mono ?_
  rintro e w1 ⟨rfl, b1⟩
  have p1 := P0.out.step b1
  clear b1
  have c0 := cells_of_block p1.b0
  have c1 := cells_of_block p1.b1
  have f1 := frees_of_block p1.b1
  have c2 := cells_of_block p1.b2
  have f2 := frees_of_block p1.b2
  have P1 := Lib.hid p1
  go_wp2_with fail
  refine (cL _).mono ?_
  rintro e w2 ⟨rfl, b2⟩
  have p2 := P1.out.step b2
  clear b2
  clear c0 c1 f1 c2 f2
  have c0 := cells_of_block p2.b0
  have c1 := cells_of_block p2.b1
  have f1 := frees_of_block p2.b1
  have c2 := cells_of_block p2.b2
  have f2 := frees_of_block p2.b2
  have P2 := Lib.hid p2
  have Q2 := Lib.hid p2.bel
  clear P2
  have P2 := Lib.hid (p2.set1 5 (.int .i64 (lineN m.at_ m.n nd.ref.col 702)) rfl)
  clear p2
  go_wp2_with fail
  refine (cO _).mono ?_
  rintro e w3 ⟨rfl, b3⟩
  have p3 := P2.out.step b3
  clear b3
  clear c0 c1 f1 c2 f2
  have c0 := cells_of_block p3.b0
  have c1 := cells_of_block p3.b1
  have f1 := frees_of_block p3.b1
  have c2 := cells_of_block p3.b2
  have f2 := frees_of_block p3.b2
  have P3 := Lib.hid p3
  go_wp2_with fail
  refine (refLost_any _).mono ?_
  rintro e w4 ⟨rfl, b4⟩
  have p4 := P3.out.step b4
  clear b4
  clear c0 c1 f1 c2 f2
  have c0 := cells_of_block p4.b0
  have c1 := cells_of_block p4.b1
  have f1 := frees_of_block p4.b1
  have c2 := cells_of_block p4.b2
  have f2 := frees_of_block p4.b2
  have P4 := Lib.hid p4
  go_wp2
  refine bodyPost_ret (v := .agg #[.int .i64 4, .int .i64 0, .int .i64 3, .string ⟨#[]⟩, .int .i64 0, .int .i64 0, .bool false, .bool false, .int .i64 0, .int .i64 0, .bool false, .bool false, .int .i64 0, .slice none 0 0]) (by simp [results, Try.results92, go_sem, c2]) rfl ?_
  refine ⟨none, 0, by rw [HM.out]; rfl, ?_⟩
  repeat (refine Below.setCell ?_ (by simp; try omega) _)
  exact P4.out.bel

theorem refSingle_any (m : Mv) (nd : Hd) (ka : Option Addr) (kc : Nat) (w : World) (ok : m.ok) (hk : nd.kind = 5) (hp : placeB nd.ref = true) : Calls Try.prog 92 #[.agg #[.int .i64 m.what, .int .i64 m.dr, .int .i64 m.dc, .int .i64 m.at_, .int .i64 m.n], .agg #[.int .i64 nd.kind, .int .i64 nd.op, .int .i64 nd.num, .string ⟨nd.text.toArray⟩, .int .i64 nd.ref.row, .int .i64 nd.ref.col, .bool nd.ref.pr, .bool nd.ref.pc, .int .i64 nd.to.row, .int .i64 nd.to.col, .bool nd.to.pr, .bool nd.to.pc, .int .i64 nd.fn, .slice ka 0 kc]] w (fun e w' => ∃ xa xc, e = .returned (.agg #[.int .i64 (mvH m nd).kind, .int .i64 (mvH m nd).op, .int .i64 (mvH m nd).num, .string ⟨(mvH m nd).text.toArray⟩, .int .i64 (mvH m nd).ref.row, .int .i64 (mvH m nd).ref.col, .bool (mvH m nd).ref.pr, .bool (mvH m nd).ref.pc, .int .i64 (mvH m nd).to.row, .int .i64 (mvH m nd).to.col, .bool (mvH m nd).to.pr, .bool (mvH m nd).to.pc, .int .i64 (mvH m nd).fn, .slice xa 0 xc]) ∧ Below w.heap.size w w') := by
  rcases ok.what with hw | hw | hw
  · cases hq : placeB (pasteR m.dr m.dc nd.ref)
    · exact refSingle1_n m nd ka kc w ok hk hw hp hq
    · exact refSingle1_y m nd ka kc w ok hk hw hp hq
  · by_cases hu : outP m.at_ m.n nd.ref.row 65536
    · exact refSingle2_o m nd ka kc w ok hk hw hu
    · cases hq : placeB { nd.ref with row := lineN m.at_ m.n nd.ref.row 65536 }
      · exact refSingle2_n m nd ka kc w ok hk hw hp hu hq
      · exact refSingle2_y m nd ka kc w ok hk hw hp hu hq
  · by_cases hu : outP m.at_ m.n nd.ref.col 702
    · exact refSingle3_o m nd ka kc w ok hk hw hu
    · cases hq : placeB { nd.ref with col := lineN m.at_ m.n nd.ref.col 702 }
      · exact refSingle3_n m nd ka kc w ok hk hw hp hu hq
      · exact refSingle3_y m nd ka kc w ok hk hw hp hu hq
end Go.Proofs.Ytkjfeakbhfkldaa
/- Shifting: the reference's nodes that are ranges. -/
namespace Go.Proofs.Ytkjfeakbhfkldaa
open Go.RowKit

set_option maxRecDepth 100000 in
set_option maxHeartbeats 4000000 in
theorem refDouble1_y (m : Mv) (nd : Hd) (ka : Option Addr) (kc : Nat) (w : World) (ok : m.ok) (hk : nd.kind = 6) (hw : m.what = 1) (hp : placeB nd.ref = true) (hp2 : placeB nd.to = true) (hq : placeB (pasteR m.dr m.dc nd.ref) = true) (hq2 : placeB (pasteR m.dr m.dc nd.to) = true) : Calls Try.prog 93 #[.agg #[.int .i64 m.what, .int .i64 m.dr, .int .i64 m.dc, .int .i64 m.at_, .int .i64 m.n], .agg #[.int .i64 nd.kind, .int .i64 nd.op, .int .i64 nd.num, .string ⟨nd.text.toArray⟩, .int .i64 nd.ref.row, .int .i64 nd.ref.col, .bool nd.ref.pr, .bool nd.ref.pc, .int .i64 nd.to.row, .int .i64 nd.to.col, .bool nd.to.pr, .bool nd.to.pc, .int .i64 nd.fn, .slice ka 0 kc]] w (fun e w' => ∃ xa xc, e = .returned (.agg #[.int .i64 (mvH m nd).kind, .int .i64 (mvH m nd).op, .int .i64 (mvH m nd).num, .string ⟨(mvH m nd).text.toArray⟩, .int .i64 (mvH m nd).ref.row, .int .i64 (mvH m nd).ref.col, .bool (mvH m nd).ref.pr, .bool (mvH m nd).ref.pc, .int .i64 (mvH m nd).to.row, .int .i64 (mvH m nd).to.col, .bool (mvH m nd).to.pr, .bool (mvH m nd).to.pc, .int .i64 (mvH m nd).fn, .slice xa 0 xc]) ∧ Below w.heap.size w w') := by
  have hm : mvH m nd = { nd with ref := pasteR m.dr m.dc nd.ref, to := pasteR m.dr m.dc nd.to } := by simp [mvH, mv2, hk, hw, hq, hq2]
  have HM := Lib.hid hm
  have hw1 : (m.what == 1) = true := by simp [hw]
  have cO : ∀ W, Calls Try.prog 100 #[.agg #[.int .i64 (pasteR m.dr m.dc nd.ref).row, .int .i64 (pasteR m.dr m.dc nd.ref).col, .bool (pasteR m.dr m.dc nd.ref).pr, .bool (pasteR m.dr m.dc nd.ref).pc]] W (fun e w' => e = .returned (.bool true) ∧ Below W.heap.size W w') := fun W => (refOn_any (pasteR m.dr m.dc nd.ref) W).mono fun e w' q => ⟨by have := q.1; rw [hq] at this; exact this, q.2⟩
  have cT : ∀ W, Calls Try.prog 100 #[.agg #[.int .i64 (pasteR m.dr m.dc nd.to).row, .int .i64 (pasteR m.dr m.dc nd.to).col, .bool (pasteR m.dr m.dc nd.to).pr, .bool (pasteR m.dr m.dc nd.to).pc]] W (fun e w' => e = .returned (.bool true) ∧ Below W.heap.size W w') := fun W => (refOn_any (pasteR m.dr m.dc nd.to) W).mono fun e w' q => ⟨by have := q.1; rw [hq2] at this; exact this, q.2⟩
  clear hm hw hq hk hq2
  have OK := Lib.hid ok; clear ok
  have P0 := Lib.hid (Bx3.new w (.cells #[.int .i64 m.what, .int .i64 m.dr, .int .i64 m.dc, .int .i64 m.at_, .int .i64 m.n] 112) (.cells #[.int .i64 nd.kind, .int .i64 nd.op, .int .i64 nd.num, .string ⟨nd.text.toArray⟩, .int .i64 nd.ref.row, .int .i64 nd.ref.col, .bool nd.ref.pr, .bool nd.ref.pc, .int .i64 nd.to.row, .int .i64 nd.to.col, .bool nd.to.pr, .bool nd.to.pc, .int .i64 nd.fn, .slice ka 0 kc] 29) (.cells #[.int .i64 0, .int .i64 0, .int .i64 0, .string ⟨#[]⟩, .int .i64 0, .int .i64 0, .bool false, .bool false, .int .i64 0, .int .i64 0, .bool false, .bool false, .int .i64 0, .slice none 0 0] 29))
  go_enter Try.func93, Try.ntmps93
  go_wp2_with fail
  refine (refRef_any m nd.ref _ OK.out hp).mono ?_
  rintro e w1 ⟨rfl, b1⟩
  have p1 := P0.out.step b1
  clear b1
  have c0 := cells_of_block p1.b0
  have c1 := cells_of_block p1.b1
  have f1 := frees_of_block p1.b1
  have c2 := cells_of_block p1.b2
  have f2 := frees_of_block p1.b2
  have P1 := Lib.hid p1
  have Q1 := Lib.hid p1.bel
  clear P1
  have P1 := Lib.hid ((((p1.set1 4 (.int .i64 (pasteR m.dr m.dc nd.ref).row) rfl).set1 5 (.int .i64 (pasteR m.dr m.dc nd.ref).col) rfl).set1 6 (.bool (pasteR m.dr m.dc nd.ref).pr) rfl).set1 7 (.bool (pasteR m.dr m.dc nd.ref).pc) rfl)
  clear p1
  go_wp2_with fail
  refine (refRef_any m nd.to _ OK.out hp2).mono ?_
  rintro e w2 ⟨rfl, b2⟩
  have p2 := P1.out.step b2
  clear b2
  clear c0 c1 f1 c2 f2
  have c0 := cells_of_block p2.b0
  have c1 := cells_of_block p2.b1
  have f1 := frees_of_block p2.b1
  have c2 := cells_of_block p2.b2
  have f2 := frees_of_block p2.b2
  have P2 := Lib.hid p2
  have Q2 := Lib.hid p2.bel
  clear P2
  have P2 := Lib.hid ((((p2.set1 8 (.int .i64 (pasteR m.dr m.dc nd.to).row) rfl).set1 9 (.int .i64 (pasteR m.dr m.dc nd.to).col) rfl).set1 10 (.bool (pasteR m.dr m.dc nd.to).pr) rfl).set1 11 (.bool (pasteR m.dr m.dc nd.to).pc) rfl)
  clear p2
  go_wp2_with fail
  refine (cO _).mono ?_
  rintro e w3 ⟨rfl, b3⟩
  have p3 := P2.out.step b3
  clear b3
  clear c0 c1 f1 c2 f2
  have c0 := cells_of_block p3.b0
  have c1 := cells_of_block p3.b1
  have f1 := frees_of_block p3.b1
  have c2 := cells_of_block p3.b2
  have f2 := frees_of_block p3.b2
  have P3 := Lib.hid p3
  go_wp2_with fail
  refine (cT _).mono ?_
  rintro e w4 ⟨rfl, b4⟩
  have p4 := P3.out.step b4
  clear b4
  clear c0 c1 f1 c2 f2
  have c0 := cells_of_block p4.b0
  have c1 := cells_of_block p4.b1
  have f1 := frees_of_block p4.b1
  have c2 := cells_of_block p4.b2
  have f2 := frees_of_block p4.b2
  have P4 := Lib.hid p4
  go_wp2
  refine bodyPost_ret (v := .agg #[.int .i64 nd.kind, .int .i64 nd.op, .int .i64 nd.num, .string ⟨nd.text.toArray⟩, .int .i64 (pasteR m.dr m.dc nd.ref).row, .int .i64 (pasteR m.dr m.dc nd.ref).col, .bool (pasteR m.dr m.dc nd.ref).pr, .bool (pasteR m.dr m.dc nd.ref).pc, .int .i64 (pasteR m.dr m.dc nd.to).row, .int .i64 (pasteR m.dr m.dc nd.to).col, .bool (pasteR m.dr m.dc nd.to).pr, .bool (pasteR m.dr m.dc nd.to).pc, .int .i64 nd.fn, .slice ka 0 kc]) (by simp [results, Try.results93, go_sem, c2]) rfl ?_
  refine ⟨ka, kc, by rw [HM.out], ?_⟩
  repeat (refine Below.setCell ?_ (by simp; try omega) _)
  exact P4.out.bel

set_option maxRecDepth 100000 in
set_option maxHeartbeats 4000000 in
theorem refDouble1_m (m : Mv) (nd : Hd) (ka : Option Addr) (kc : Nat) (w : World) (ok : m.ok) (hk : nd.kind = 6) (hw : m.what = 1) (hp : placeB nd.ref = true) (hp2 : placeB nd.to = true) (hq : placeB (pasteR m.dr m.dc nd.ref) = true) (hq2 : placeB (pasteR m.dr m.dc nd.to) = false) : Calls Try.prog 93 #[.agg #[.int .i64 m.what, .int .i64 m.dr, .int .i64 m.dc, .int .i64 m.at_, .int .i64 m.n], .agg #[.int .i64 nd.kind, .int .i64 nd.op, .int .i64 nd.num, .string ⟨nd.text.toArray⟩, .int .i64 nd.ref.row, .int .i64 nd.ref.col, .bool nd.ref.pr, .bool nd.ref.pc, .int .i64 nd.to.row, .int .i64 nd.to.col, .bool nd.to.pr, .bool nd.to.pc, .int .i64 nd.fn, .slice ka 0 kc]] w (fun e w' => ∃ xa xc, e = .returned (.agg #[.int .i64 (mvH m nd).kind, .int .i64 (mvH m nd).op, .int .i64 (mvH m nd).num, .string ⟨(mvH m nd).text.toArray⟩, .int .i64 (mvH m nd).ref.row, .int .i64 (mvH m nd).ref.col, .bool (mvH m nd).ref.pr, .bool (mvH m nd).ref.pc, .int .i64 (mvH m nd).to.row, .int .i64 (mvH m nd).to.col, .bool (mvH m nd).to.pr, .bool (mvH m nd).to.pc, .int .i64 (mvH m nd).fn, .slice xa 0 xc]) ∧ Below w.heap.size w w') := by
  have hm : mvH m nd = lostH := by simp [mvH, mv2, hk, hw, hq, hq2]
  have HM := Lib.hid hm
  have hw1 : (m.what == 1) = true := by simp [hw]
  have cO : ∀ W, Calls Try.prog 100 #[.agg #[.int .i64 (pasteR m.dr m.dc nd.ref).row, .int .i64 (pasteR m.dr m.dc nd.ref).col, .bool (pasteR m.dr m.dc nd.ref).pr, .bool (pasteR m.dr m.dc nd.ref).pc]] W (fun e w' => e = .returned (.bool true) ∧ Below W.heap.size W w') := fun W => (refOn_any (pasteR m.dr m.dc nd.ref) W).mono fun e w' q => ⟨by have := q.1; rw [hq] at this; exact this, q.2⟩
  have cT : ∀ W, Calls Try.prog 100 #[.agg #[.int .i64 (pasteR m.dr m.dc nd.to).row, .int .i64 (pasteR m.dr m.dc nd.to).col, .bool (pasteR m.dr m.dc nd.to).pr, .bool (pasteR m.dr m.dc nd.to).pc]] W (fun e w' => e = .returned (.bool false) ∧ Below W.heap.size W w') := fun W => (refOn_any (pasteR m.dr m.dc nd.to) W).mono fun e w' q => ⟨by have := q.1; rw [hq2] at this; exact this, q.2⟩
  clear hm hw hq hk hq2
  have OK := Lib.hid ok; clear ok
  have P0 := Lib.hid (Bx3.new w (.cells #[.int .i64 m.what, .int .i64 m.dr, .int .i64 m.dc, .int .i64 m.at_, .int .i64 m.n] 112) (.cells #[.int .i64 nd.kind, .int .i64 nd.op, .int .i64 nd.num, .string ⟨nd.text.toArray⟩, .int .i64 nd.ref.row, .int .i64 nd.ref.col, .bool nd.ref.pr, .bool nd.ref.pc, .int .i64 nd.to.row, .int .i64 nd.to.col, .bool nd.to.pr, .bool nd.to.pc, .int .i64 nd.fn, .slice ka 0 kc] 29) (.cells #[.int .i64 0, .int .i64 0, .int .i64 0, .string ⟨#[]⟩, .int .i64 0, .int .i64 0, .bool false, .bool false, .int .i64 0, .int .i64 0, .bool false, .bool false, .int .i64 0, .slice none 0 0] 29))
  go_enter Try.func93, Try.ntmps93
  go_wp2_with fail
  refine (refRef_any m nd.ref _ OK.out hp).mono ?_
  rintro e w1 ⟨rfl, b1⟩
  have p1 := P0.out.step b1
  clear b1
  have c0 := cells_of_block p1.b0
  have c1 := cells_of_block p1.b1
  have f1 := frees_of_block p1.b1
  have c2 := cells_of_block p1.b2
  have f2 := frees_of_block p1.b2
  have P1 := Lib.hid p1
  have Q1 := Lib.hid p1.bel
  clear P1
  have P1 := Lib.hid ((((p1.set1 4 (.int .i64 (pasteR m.dr m.dc nd.ref).row) rfl).set1 5 (.int .i64 (pasteR m.dr m.dc nd.ref).col) rfl).set1 6 (.bool (pasteR m.dr m.dc nd.ref).pr) rfl).set1 7 (.bool (pasteR m.dr m.dc nd.ref).pc) rfl)
  clear p1
  go_wp2_with fail
  refine (refRef_any m nd.to _ OK.out hp2).mono ?_
  rintro e w2 ⟨rfl, b2⟩
  have p2 := P1.out.step b2
  clear b2
  clear c0 c1 f1 c2 f2
  have c0 := cells_of_block p2.b0
  have c1 := cells_of_block p2.b1
  have f1 := frees_of_block p2.b1
  have c2 := cells_of_block p2.b2
  have f2 := frees_of_block p2.b2
  have P2 := Lib.hid p2
  have Q2 := Lib.hid p2.bel
  clear P2
  have P2 := Lib.hid ((((p2.set1 8 (.int .i64 (pasteR m.dr m.dc nd.to).row) rfl).set1 9 (.int .i64 (pasteR m.dr m.dc nd.to).col) rfl).set1 10 (.bool (pasteR m.dr m.dc nd.to).pr) rfl).set1 11 (.bool (pasteR m.dr m.dc nd.to).pc) rfl)
  clear p2
  go_wp2_with fail
  refine (cO _).mono ?_
  rintro e w3 ⟨rfl, b3⟩
  have p3 := P2.out.step b3
  clear b3
  clear c0 c1 f1 c2 f2
  have c0 := cells_of_block p3.b0
  have c1 := cells_of_block p3.b1
  have f1 := frees_of_block p3.b1
  have c2 := cells_of_block p3.b2
  have f2 := frees_of_block p3.b2
  have P3 := Lib.hid p3
  go_wp2_with fail
  refine (cT _).mono ?_
  rintro e w4 ⟨rfl, b4⟩
  have p4 := P3.out.step b4
  clear b4
  clear c0 c1 f1 c2 f2
  have c0 := cells_of_block p4.b0
  have c1 := cells_of_block p4.b1
  have f1 := frees_of_block p4.b1
  have c2 := cells_of_block p4.b2
  have f2 := frees_of_block p4.b2
  have P4 := Lib.hid p4
  go_wp2_with fail
  refine (refLost_any _).mono ?_
  rintro e w5 ⟨rfl, b5⟩
  have p5 := P4.out.step b5
  clear b5
  clear c0 c1 f1 c2 f2
  have c0 := cells_of_block p5.b0
  have c1 := cells_of_block p5.b1
  have f1 := frees_of_block p5.b1
  have c2 := cells_of_block p5.b2
  have f2 := frees_of_block p5.b2
  have P5 := Lib.hid p5
  go_wp2
  refine bodyPost_ret (v := .agg #[.int .i64 4, .int .i64 0, .int .i64 3, .string ⟨#[]⟩, .int .i64 0, .int .i64 0, .bool false, .bool false, .int .i64 0, .int .i64 0, .bool false, .bool false, .int .i64 0, .slice none 0 0]) (by simp [results, Try.results93, go_sem, c2]) rfl ?_
  refine ⟨none, 0, by rw [HM.out]; rfl, ?_⟩
  repeat (refine Below.setCell ?_ (by simp; try omega) _)
  exact P5.out.bel

set_option maxRecDepth 100000 in
set_option maxHeartbeats 4000000 in
theorem refDouble1_n (m : Mv) (nd : Hd) (ka : Option Addr) (kc : Nat) (w : World) (ok : m.ok) (hk : nd.kind = 6) (hw : m.what = 1) (hp : placeB nd.ref = true) (hp2 : placeB nd.to = true) (hq : placeB (pasteR m.dr m.dc nd.ref) = false) : Calls Try.prog 93 #[.agg #[.int .i64 m.what, .int .i64 m.dr, .int .i64 m.dc, .int .i64 m.at_, .int .i64 m.n], .agg #[.int .i64 nd.kind, .int .i64 nd.op, .int .i64 nd.num, .string ⟨nd.text.toArray⟩, .int .i64 nd.ref.row, .int .i64 nd.ref.col, .bool nd.ref.pr, .bool nd.ref.pc, .int .i64 nd.to.row, .int .i64 nd.to.col, .bool nd.to.pr, .bool nd.to.pc, .int .i64 nd.fn, .slice ka 0 kc]] w (fun e w' => ∃ xa xc, e = .returned (.agg #[.int .i64 (mvH m nd).kind, .int .i64 (mvH m nd).op, .int .i64 (mvH m nd).num, .string ⟨(mvH m nd).text.toArray⟩, .int .i64 (mvH m nd).ref.row, .int .i64 (mvH m nd).ref.col, .bool (mvH m nd).ref.pr, .bool (mvH m nd).ref.pc, .int .i64 (mvH m nd).to.row, .int .i64 (mvH m nd).to.col, .bool (mvH m nd).to.pr, .bool (mvH m nd).to.pc, .int .i64 (mvH m nd).fn, .slice xa 0 xc]) ∧ Below w.heap.size w w') := by
  have hm : mvH m nd = lostH := by simp [mvH, mv2, hk, hw, hq]
  have HM := Lib.hid hm
  have hw1 : (m.what == 1) = true := by simp [hw]
  have cO : ∀ W, Calls Try.prog 100 #[.agg #[.int .i64 (pasteR m.dr m.dc nd.ref).row, .int .i64 (pasteR m.dr m.dc nd.ref).col, .bool (pasteR m.dr m.dc nd.ref).pr, .bool (pasteR m.dr m.dc nd.ref).pc]] W (fun e w' => e = .returned (.bool false) ∧ Below W.heap.size W w') := fun W => (refOn_any (pasteR m.dr m.dc nd.ref) W).mono fun e w' q => ⟨by have := q.1; rw [hq] at this; exact this, q.2⟩
  clear hm hw hq hk
  have OK := Lib.hid ok; clear ok
  have P0 := Lib.hid (Bx3.new w (.cells #[.int .i64 m.what, .int .i64 m.dr, .int .i64 m.dc, .int .i64 m.at_, .int .i64 m.n] 112) (.cells #[.int .i64 nd.kind, .int .i64 nd.op, .int .i64 nd.num, .string ⟨nd.text.toArray⟩, .int .i64 nd.ref.row, .int .i64 nd.ref.col, .bool nd.ref.pr, .bool nd.ref.pc, .int .i64 nd.to.row, .int .i64 nd.to.col, .bool nd.to.pr, .bool nd.to.pc, .int .i64 nd.fn, .slice ka 0 kc] 29) (.cells #[.int .i64 0, .int .i64 0, .int .i64 0, .string ⟨#[]⟩, .int .i64 0, .int .i64 0, .bool false, .bool false, .int .i64 0, .int .i64 0, .bool false, .bool false, .int .i64 0, .slice none 0 0] 29))
  go_enter Try.func93, Try.ntmps93
  go_wp2_with fail
  refine (refRef_any m nd.ref _ OK.out hp).mono ?_
  rintro e w1 ⟨rfl, b1⟩
  have p1 := P0.out.step b1
  clear b1
  have c0 := cells_of_block p1.b0
  have c1 := cells_of_block p1.b1
  have f1 := frees_of_block p1.b1
  have c2 := cells_of_block p1.b2
  have f2 := frees_of_block p1.b2
  have P1 := Lib.hid p1
  have Q1 := Lib.hid p1.bel
  clear P1
  have P1 := Lib.hid ((((p1.set1 4 (.int .i64 (pasteR m.dr m.dc nd.ref).row) rfl).set1 5 (.int .i64 (pasteR m.dr m.dc nd.ref).col) rfl).set1 6 (.bool (pasteR m.dr m.dc nd.ref).pr) rfl).set1 7 (.bool (pasteR m.dr m.dc nd.ref).pc) rfl)
  clear p1
  go_wp2_with fail
  refine (refRef_any m nd.to _ OK.out hp2).mono ?_
  rintro e w2 ⟨rfl, b2⟩
  have p2 := P1.out.step b2
  clear b2
  clear c0 c1 f1 c2 f2
  have c0 := cells_of_block p2.b0
  have c1 := cells_of_block p2.b1
  have f1 := frees_of_block p2.b1
  have c2 := cells_of_block p2.b2
  have f2 := frees_of_block p2.b2
  have P2 := Lib.hid p2
  have Q2 := Lib.hid p2.bel
  clear P2
  have P2 := Lib.hid ((((p2.set1 8 (.int .i64 (pasteR m.dr m.dc nd.to).row) rfl).set1 9 (.int .i64 (pasteR m.dr m.dc nd.to).col) rfl).set1 10 (.bool (pasteR m.dr m.dc nd.to).pr) rfl).set1 11 (.bool (pasteR m.dr m.dc nd.to).pc) rfl)
  clear p2
  go_wp2_with fail
  refine (cO _).mono ?_
  rintro e w3 ⟨rfl, b3⟩
  have p3 := P2.out.step b3
  clear b3
  clear c0 c1 f1 c2 f2
  have c0 := cells_of_block p3.b0
  have c1 := cells_of_block p3.b1
  have f1 := frees_of_block p3.b1
  have c2 := cells_of_block p3.b2
  have f2 := frees_of_block p3.b2
  have P3 := Lib.hid p3
  go_wp2_with fail
  refine (refLost_any _).mono ?_
  rintro e w4 ⟨rfl, b4⟩
  have p4 := P3.out.step b4
  clear b4
  clear c0 c1 f1 c2 f2
  have c0 := cells_of_block p4.b0
  have c1 := cells_of_block p4.b1
  have f1 := frees_of_block p4.b1
  have c2 := cells_of_block p4.b2
  have f2 := frees_of_block p4.b2
  have P4 := Lib.hid p4
  go_wp2
  refine bodyPost_ret (v := .agg #[.int .i64 4, .int .i64 0, .int .i64 3, .string ⟨#[]⟩, .int .i64 0, .int .i64 0, .bool false, .bool false, .int .i64 0, .int .i64 0, .bool false, .bool false, .int .i64 0, .slice none 0 0]) (by simp [results, Try.results93, go_sem, c2]) rfl ?_
  refine ⟨none, 0, by rw [HM.out]; rfl, ?_⟩
  repeat (refine Below.setCell ?_ (by simp; try omega) _)
  exact P4.out.bel

set_option maxRecDepth 100000 in
set_option maxHeartbeats 4000000 in
theorem refDouble2_o (m : Mv) (nd : Hd) (ka : Option Addr) (kc : Nat) (w : World) (ok : m.ok) (hk : nd.kind = 6) (hw : m.what = 2) (hp : placeB nd.ref = true) (hp2 : placeB nd.to = true) (he : endsN m.at_ m.n nd.ref.row nd.to.row 65536 = none) : Calls Try.prog 93 #[.agg #[.int .i64 m.what, .int .i64 m.dr, .int .i64 m.dc, .int .i64 m.at_, .int .i64 m.n], .agg #[.int .i64 nd.kind, .int .i64 nd.op, .int .i64 nd.num, .string ⟨nd.text.toArray⟩, .int .i64 nd.ref.row, .int .i64 nd.ref.col, .bool nd.ref.pr, .bool nd.ref.pc, .int .i64 nd.to.row, .int .i64 nd.to.col, .bool nd.to.pr, .bool nd.to.pc, .int .i64 nd.fn, .slice ka 0 kc]] w (fun e w' => ∃ xa xc, e = .returned (.agg #[.int .i64 (mvH m nd).kind, .int .i64 (mvH m nd).op, .int .i64 (mvH m nd).num, .string ⟨(mvH m nd).text.toArray⟩, .int .i64 (mvH m nd).ref.row, .int .i64 (mvH m nd).ref.col, .bool (mvH m nd).ref.pr, .bool (mvH m nd).ref.pc, .int .i64 (mvH m nd).to.row, .int .i64 (mvH m nd).to.col, .bool (mvH m nd).to.pr, .bool (mvH m nd).to.pc, .int .i64 (mvH m nd).fn, .slice xa 0 xc]) ∧ Below w.heap.size w w') := by
  have hm : mvH m nd = lostH := by simp [mvH, mv2, hk, hw, he]
  have HM := Lib.hid hm
  have hw1 : (m.what == 1) = false := by simp [hw]
  have hw2 : (m.what == 2) = true := by simp [hw]
  have cE : ∀ W, Calls Try.prog 101 #[.agg #[.int .i64 m.what, .int .i64 m.dr, .int .i64 m.dc, .int .i64 m.at_, .int .i64 m.n], .int .i64 nd.ref.row, .int .i64 nd.to.row, .int .i64 65536] W (fun e w' => e = .returned (.tuple #[.int .i64 0, .int .i64 0, .bool false]) ∧ Below W.heap.size W w') := fun W => (refEnds_any m.what m.dr m.dc m.at_ m.n nd.ref.row nd.to.row 65536 W (by omega) ok.n (ok.rows hw) (place_on hp).1 (place_on hp2).1).mono fun e w' q => ⟨by have := q.1; rw [he] at this; exact this, q.2⟩
  clear hm hw hk he hp hp2
  have OK := Lib.hid ok; clear ok
  have P0 := Lib.hid (Bx3.new w (.cells #[.int .i64 m.what, .int .i64 m.dr, .int .i64 m.dc, .int .i64 m.at_, .int .i64 m.n] 112) (.cells #[.int .i64 nd.kind, .int .i64 nd.op, .int .i64 nd.num, .string ⟨nd.text.toArray⟩, .int .i64 nd.ref.row, .int .i64 nd.ref.col, .bool nd.ref.pr, .bool nd.ref.pc, .int .i64 nd.to.row, .int .i64 nd.to.col, .bool nd.to.pr, .bool nd.to.pc, .int .i64 nd.fn, .slice ka 0 kc] 29) (.cells #[.int .i64 0, .int .i64 0, .int .i64 0, .string ⟨#[]⟩, .int .i64 0, .int .i64 0, .bool false, .bool false, .int .i64 0, .int .i64 0, .bool false, .bool false, .int .i64 0, .slice none 0 0] 29))
  go_enter Try.func93, Try.ntmps93
  go_wp2_with fail
  refine (cE _).mono ?_
  rintro e w1 ⟨rfl, b1⟩
  have p1 := P0.out.step b1
  clear b1
  have c0 := cells_of_block p1.b0
  have c1 := cells_of_block p1.b1
  have f1 := frees_of_block p1.b1
  have c2 := cells_of_block p1.b2
  have f2 := frees_of_block p1.b2
  have P1 := Lib.hid p1
  have Q1 := Lib.hid p1.bel
  clear P1
  have P1 := Lib.hid ((p1.set1 4 (.int .i64 0) rfl).set1 8 (.int .i64 0) rfl)
  clear p1
  go_wp2_with fail
  refine (refLost_any _).mono ?_
  rintro e w2 ⟨rfl, b2⟩
  have p2 := P1.out.step b2
  clear b2
  clear c0 c1 f1 c2 f2
  have c0 := cells_of_block p2.b0
  have c1 := cells_of_block p2.b1
  have f1 := frees_of_block p2.b1
  have c2 := cells_of_block p2.b2
  have f2 := frees_of_block p2.b2
  have P2 := Lib.hid p2
  go_wp2
  refine bodyPost_ret (v := .agg #[.int .i64 4, .int .i64 0, .int .i64 3, .string ⟨#[]⟩, .int .i64 0, .int .i64 0, .bool false, .bool false, .int .i64 0, .int .i64 0, .bool false, .bool false, .int .i64 0, .slice none 0 0]) (by simp [results, Try.results93, go_sem, c2]) rfl ?_
  refine ⟨none, 0, by rw [HM.out]; rfl, ?_⟩
  repeat (refine Below.setCell ?_ (by simp; try omega) _)
  exact P2.out.bel

set_option maxRecDepth 100000 in
set_option maxHeartbeats 4000000 in
theorem refDouble2_y (m : Mv) (nd : Hd) (ka : Option Addr) (kc : Nat) (w : World) (ok : m.ok) (hk : nd.kind = 6) (hw : m.what = 2) (hp : placeB nd.ref = true) (hp2 : placeB nd.to = true) (x y : Int) (he : endsN m.at_ m.n nd.ref.row nd.to.row 65536 = some (x, y)) (hq : placeB { nd.ref with row := x } = true) (hq2 : placeB { nd.to with row := y } = true) : Calls Try.prog 93 #[.agg #[.int .i64 m.what, .int .i64 m.dr, .int .i64 m.dc, .int .i64 m.at_, .int .i64 m.n], .agg #[.int .i64 nd.kind, .int .i64 nd.op, .int .i64 nd.num, .string ⟨nd.text.toArray⟩, .int .i64 nd.ref.row, .int .i64 nd.ref.col, .bool nd.ref.pr, .bool nd.ref.pc, .int .i64 nd.to.row, .int .i64 nd.to.col, .bool nd.to.pr, .bool nd.to.pc, .int .i64 nd.fn, .slice ka 0 kc]] w (fun e w' => ∃ xa xc, e = .returned (.agg #[.int .i64 (mvH m nd).kind, .int .i64 (mvH m nd).op, .int .i64 (mvH m nd).num, .string ⟨(mvH m nd).text.toArray⟩, .int .i64 (mvH m nd).ref.row, .int .i64 (mvH m nd).ref.col, .bool (mvH m nd).ref.pr, .bool (mvH m nd).ref.pc, .int .i64 (mvH m nd).to.row, .int .i64 (mvH m nd).to.col, .bool (mvH m nd).to.pr, .bool (mvH m nd).to.pc, .int .i64 (mvH m nd).fn, .slice xa 0 xc]) ∧ Below w.heap.size w w') := by
  have hm : mvH m nd = { nd with ref := { nd.ref with row := x }, to := { nd.to with row := y } } := by simp [mvH, mv2, hk, hw, he, hq, hq2]
  have HM := Lib.hid hm
  have hw1 : (m.what == 1) = false := by simp [hw]
  have hw2 : (m.what == 2) = true := by simp [hw]
  have cE : ∀ W, Calls Try.prog 101 #[.agg #[.int .i64 m.what, .int .i64 m.dr, .int .i64 m.dc, .int .i64 m.at_, .int .i64 m.n], .int .i64 nd.ref.row, .int .i64 nd.to.row, .int .i64 65536] W (fun e w' => e = .returned (.tuple #[.int .i64 x, .int .i64 y, .bool true]) ∧ Below W.heap.size W w') := fun W => (refEnds_any m.what m.dr m.dc m.at_ m.n nd.ref.row nd.to.row 65536 W (by omega) ok.n (ok.rows hw) (place_on hp).1 (place_on hp2).1).mono fun e w' q => ⟨by have := q.1; rw [he] at this; exact this, q.2⟩
  have cO : ∀ W, Calls Try.prog 100 #[.agg #[.int .i64 x, .int .i64 nd.ref.col, .bool nd.ref.pr, .bool nd.ref.pc]] W (fun e w' => e = .returned (.bool true) ∧ Below W.heap.size W w') := fun W => (refOn_any { nd.ref with row := x } W).mono fun e w' q => ⟨by have := q.1; rw [hq] at this; exact this, q.2⟩
  have cT : ∀ W, Calls Try.prog 100 #[.agg #[.int .i64 y, .int .i64 nd.to.col, .bool nd.to.pr, .bool nd.to.pc]] W (fun e w' => e = .returned (.bool true) ∧ Below W.heap.size W w') := fun W => (refOn_any { nd.to with row := y } W).mono fun e w' q => ⟨by have := q.1; rw [hq2] at this; exact this, q.2⟩
  clear hm hw hq hk he hp hp2 hq2
  have OK := Lib.hid ok; clear ok
  have P0 := Lib.hid (Bx3.new w (.cells #[.int .i64 m.what, .int .i64 m.dr, .int .i64 m.dc, .int .i64 m.at_, .int .i64 m.n] 112) (.cells #[.int .i64 nd.kind, .int .i64 nd.op, .int .i64 nd.num, .string ⟨nd.text.toArray⟩, .int .i64 nd.ref.row, .int .i64 nd.ref.col, .bool nd.ref.pr, .bool nd.ref.pc, .int .i64 nd.to.row, .int .i64 nd.to.col, .bool nd.to.pr, .bool nd.to.pc, .int .i64 nd.fn, .slice ka 0 kc] 29) (.cells #[.int .i64 0, .int .i64 0, .int .i64 0, .string ⟨#[]⟩, .int .i64 0, .int .i64 0, .bool false, .bool false, .int .i64 0, .int .i64 0, .bool false, .bool false, .int .i64 0, .slice none 0 0] 29))
  go_enter Try.func93, Try.ntmps93
  go_wp2_with fail
  refine (cE _).mono ?_
  rintro e w1 ⟨rfl, b1⟩
  have p1 := P0.out.step b1
  clear b1
  have c0 := cells_of_block p1.b0
  have c1 := cells_of_block p1.b1
  have f1 := frees_of_block p1.b1
  have c2 := cells_of_block p1.b2
  have f2 := frees_of_block p1.b2
  have P1 := Lib.hid p1
  have Q1 := Lib.hid p1.bel
  clear P1
  have P1 := Lib.hid ((p1.set1 4 (.int .i64 x) rfl).set1 8 (.int .i64 y) rfl)
  clear p1
  go_wp2_with fail
  refine (cO _).mono ?_
  rintro e w2 ⟨rfl, b2⟩
  have p2 := P1.out.step b2
  clear b2
  clear c0 c1 f1 c2 f2
  have c0 := cells_of_block p2.b0
  have c1 := cells_of_block p2.b1
  have f1 := frees_of_block p2.b1
  have c2 := cells_of_block p2.b2
  have f2 := frees_of_block p2.b2
  have P2 := Lib.hid p2
  go_wp2_with fail
  refine (cT _).mono ?_
  rintro e w3 ⟨rfl, b3⟩
  have p3 := P2.out.step b3
  clear b3
  clear c0 c1 f1 c2 f2
  have c0 := cells_of_block p3.b0
  have c1 := cells_of_block p3.b1
  have f1 := frees_of_block p3.b1
  have c2 := cells_of_block p3.b2
  have f2 := frees_of_block p3.b2
  have P3 := Lib.hid p3
  go_wp2
  refine bodyPost_ret (v := .agg #[.int .i64 nd.kind, .int .i64 nd.op, .int .i64 nd.num, .string ⟨nd.text.toArray⟩, .int .i64 x, .int .i64 nd.ref.col, .bool nd.ref.pr, .bool nd.ref.pc, .int .i64 y, .int .i64 nd.to.col, .bool nd.to.pr, .bool nd.to.pc, .int .i64 nd.fn, .slice ka 0 kc]) (by simp [results, Try.results93, go_sem, c2]) rfl ?_
  refine ⟨ka, kc, by rw [HM.out], ?_⟩
  repeat (refine Below.setCell ?_ (by simp; try omega) _)
  exact P3.out.bel

set_option maxRecDepth 100000 in
set_option maxHeartbeats 4000000 in
theorem refDouble2_m (m : Mv) (nd : Hd) (ka : Option Addr) (kc : Nat) (w : World) (ok : m.ok) (hk : nd.kind = 6) (hw : m.what = 2) (hp : placeB nd.ref = true) (hp2 : placeB nd.to = true) (x y : Int) (he : endsN m.at_ m.n nd.ref.row nd.to.row 65536 = some (x, y)) (hq : placeB { nd.ref with row := x } = true) (hq2 : placeB { nd.to with row := y } = false) : Calls Try.prog 93 #[.agg #[.int .i64 m.what, .int .i64 m.dr, .int .i64 m.dc, .int .i64 m.at_, .int .i64 m.n], .agg #[.int .i64 nd.kind, .int .i64 nd.op, .int .i64 nd.num, .string ⟨nd.text.toArray⟩, .int .i64 nd.ref.row, .int .i64 nd.ref.col, .bool nd.ref.pr, .bool nd.ref.pc, .int .i64 nd.to.row, .int .i64 nd.to.col, .bool nd.to.pr, .bool nd.to.pc, .int .i64 nd.fn, .slice ka 0 kc]] w (fun e w' => ∃ xa xc, e = .returned (.agg #[.int .i64 (mvH m nd).kind, .int .i64 (mvH m nd).op, .int .i64 (mvH m nd).num, .string ⟨(mvH m nd).text.toArray⟩, .int .i64 (mvH m nd).ref.row, .int .i64 (mvH m nd).ref.col, .bool (mvH m nd).ref.pr, .bool (mvH m nd).ref.pc, .int .i64 (mvH m nd).to.row, .int .i64 (mvH m nd).to.col, .bool (mvH m nd).to.pr, .bool (mvH m nd).to.pc, .int .i64 (mvH m nd).fn, .slice xa 0 xc]) ∧ Below w.heap.size w w') := by
  have hm : mvH m nd = lostH := by simp [mvH, mv2, hk, hw, he, hq, hq2]
  have HM := Lib.hid hm
  have hw1 : (m.what == 1) = false := by simp [hw]
  have hw2 : (m.what == 2) = true := by simp [hw]
  have cE : ∀ W, Calls Try.prog 101 #[.agg #[.int .i64 m.what, .int .i64 m.dr, .int .i64 m.dc, .int .i64 m.at_, .int .i64 m.n], .int .i64 nd.ref.row, .int .i64 nd.to.row, .int .i64 65536] W (fun e w' => e = .returned (.tuple #[.int .i64 x, .int .i64 y, .bool true]) ∧ Below W.heap.size W w') := fun W => (refEnds_any m.what m.dr m.dc m.at_ m.n nd.ref.row nd.to.row 65536 W (by omega) ok.n (ok.rows hw) (place_on hp).1 (place_on hp2).1).mono fun e w' q => ⟨by have := q.1; rw [he] at this; exact this, q.2⟩
  have cO : ∀ W, Calls Try.prog 100 #[.agg #[.int .i64 x, .int .i64 nd.ref.col, .bool nd.ref.pr, .bool nd.ref.pc]] W (fun e w' => e = .returned (.bool true) ∧ Below W.heap.size W w') := fun W => (refOn_any { nd.ref with row := x } W).mono fun e w' q => ⟨by have := q.1; rw [hq] at this; exact this, q.2⟩
  have cT : ∀ W, Calls Try.prog 100 #[.agg #[.int .i64 y, .int .i64 nd.to.col, .bool nd.to.pr, .bool nd.to.pc]] W (fun e w' => e = .returned (.bool false) ∧ Below W.heap.size W w') := fun W => (refOn_any { nd.to with row := y } W).mono fun e w' q => ⟨by have := q.1; rw [hq2] at this; exact this, q.2⟩
  clear hm hw hq hk he hp hp2 hq2
  have OK := Lib.hid ok; clear ok
  have P0 := Lib.hid (Bx3.new w (.cells #[.int .i64 m.what, .int .i64 m.dr, .int .i64 m.dc, .int .i64 m.at_, .int .i64 m.n] 112) (.cells #[.int .i64 nd.kind, .int .i64 nd.op, .int .i64 nd.num, .string ⟨nd.text.toArray⟩, .int .i64 nd.ref.row, .int .i64 nd.ref.col, .bool nd.ref.pr, .bool nd.ref.pc, .int .i64 nd.to.row, .int .i64 nd.to.col, .bool nd.to.pr, .bool nd.to.pc, .int .i64 nd.fn, .slice ka 0 kc] 29) (.cells #[.int .i64 0, .int .i64 0, .int .i64 0, .string ⟨#[]⟩, .int .i64 0, .int .i64 0, .bool false, .bool false, .int .i64 0, .int .i64 0, .bool false, .bool false, .int .i64 0, .slice none 0 0] 29))
  go_enter Try.func93, Try.ntmps93
  go_wp2_with fail
  refine (cE _).mono ?_
  rintro e w1 ⟨rfl, b1⟩
  have p1 := P0.out.step b1
  clear b1
  have c0 := cells_of_block p1.b0
  have c1 := cells_of_block p1.b1
  have f1 := frees_of_block p1.b1
  have c2 := cells_of_block p1.b2
  have f2 := frees_of_block p1.b2
  have P1 := Lib.hid p1
  have Q1 := Lib.hid p1.bel
  clear P1
  have P1 := Lib.hid ((p1.set1 4 (.int .i64 x) rfl).set1 8 (.int .i64 y) rfl)
  clear p1
  go_wp2_with fail
  refine (cO _).mono ?_
  rintro e w2 ⟨rfl, b2⟩
  have p2 := P1.out.step b2
  clear b2
  clear c0 c1 f1 c2 f2
  have c0 := cells_of_block p2.b0
  have c1 := cells_of_block p2.b1
  have f1 := frees_of_block p2.b1
  have c2 := cells_of_block p2.b2
  have f2 := frees_of_block p2.b2
  have P2 := Lib.hid p2
  go_wp2_with fail
  refine (cT _).mono ?_
  rintro e w3 ⟨rfl, b3⟩
  have p3 := P2.out.step b3
  clear b3
  clear c0 c1 f1 c2 f2
  have c0 := cells_of_block p3.b0
  have c1 := cells_of_block p3.b1
  have f1 := frees_of_block p3.b1
  have c2 := cells_of_block p3.b2
  have f2 := frees_of_block p3.b2
  have P3 := Lib.hid p3
  go_wp2_with fail
  refine (refLost_any _).mono ?_
  rintro e w4 ⟨rfl, b4⟩
  have p4 := P3.out.step b4
  clear b4
  clear c0 c1 f1 c2 f2
  have c0 := cells_of_block p4.b0
  have c1 := cells_of_block p4.b1
  have f1 := frees_of_block p4.b1
  have c2 := cells_of_block p4.b2
  have f2 := frees_of_block p4.b2
  have P4 := Lib.hid p4
  go_wp2
  refine bodyPost_ret (v := .agg #[.int .i64 4, .int .i64 0, .int .i64 3, .string ⟨#[]⟩, .int .i64 0, .int .i64 0, .bool false, .bool false, .int .i64 0, .int .i64 0, .bool false, .bool false, .int .i64 0, .slice none 0 0]) (by simp [results, Try.results93, go_sem, c2]) rfl ?_
  refine ⟨none, 0, by rw [HM.out]; rfl, ?_⟩
  repeat (refine Below.setCell ?_ (by simp; try omega) _)
  exact P4.out.bel

set_option maxRecDepth 100000 in
set_option maxHeartbeats 4000000 in
theorem refDouble2_n (m : Mv) (nd : Hd) (ka : Option Addr) (kc : Nat) (w : World) (ok : m.ok) (hk : nd.kind = 6) (hw : m.what = 2) (hp : placeB nd.ref = true) (hp2 : placeB nd.to = true) (x y : Int) (he : endsN m.at_ m.n nd.ref.row nd.to.row 65536 = some (x, y)) (hq : placeB { nd.ref with row := x } = false) : Calls Try.prog 93 #[.agg #[.int .i64 m.what, .int .i64 m.dr, .int .i64 m.dc, .int .i64 m.at_, .int .i64 m.n], .agg #[.int .i64 nd.kind, .int .i64 nd.op, .int .i64 nd.num, .string ⟨nd.text.toArray⟩, .int .i64 nd.ref.row, .int .i64 nd.ref.col, .bool nd.ref.pr, .bool nd.ref.pc, .int .i64 nd.to.row, .int .i64 nd.to.col, .bool nd.to.pr, .bool nd.to.pc, .int .i64 nd.fn, .slice ka 0 kc]] w (fun e w' => ∃ xa xc, e = .returned (.agg #[.int .i64 (mvH m nd).kind, .int .i64 (mvH m nd).op, .int .i64 (mvH m nd).num, .string ⟨(mvH m nd).text.toArray⟩, .int .i64 (mvH m nd).ref.row, .int .i64 (mvH m nd).ref.col, .bool (mvH m nd).ref.pr, .bool (mvH m nd).ref.pc, .int .i64 (mvH m nd).to.row, .int .i64 (mvH m nd).to.col, .bool (mvH m nd).to.pr, .bool (mvH m nd).to.pc, .int .i64 (mvH m nd).fn, .slice xa 0 xc]) ∧ Below w.heap.size w w') := by
  have hm : mvH m nd = lostH := by simp [mvH, mv2, hk, hw, he, hq]
  have HM := Lib.hid hm
  have hw1 : (m.what == 1) = false := by simp [hw]
  have hw2 : (m.what == 2) = true := by simp [hw]
  have cE : ∀ W, Calls Try.prog 101 #[.agg #[.int .i64 m.what, .int .i64 m.dr, .int .i64 m.dc, .int .i64 m.at_, .int .i64 m.n], .int .i64 nd.ref.row, .int .i64 nd.to.row, .int .i64 65536] W (fun e w' => e = .returned (.tuple #[.int .i64 x, .int .i64 y, .bool true]) ∧ Below W.heap.size W w') := fun W => (refEnds_any m.what m.dr m.dc m.at_ m.n nd.ref.row nd.to.row 65536 W (by omega) ok.n (ok.rows hw) (place_on hp).1 (place_on hp2).1).mono fun e w' q => ⟨by have := q.1; rw [he] at this; exact this, q.2⟩
  have cO : ∀ W, Calls Try.prog 100 #[.agg #[.int .i64 x, .int .i64 nd.ref.col, .bool nd.ref.pr, .bool nd.ref.pc]] W (fun e w' => e = .returned (.bool false) ∧ Below W.heap.size W w') := fun W => (refOn_any { nd.ref with row := x } W).mono fun e w' q => ⟨by have := q.1; rw [hq] at this; exact this, q.2⟩
  clear hm hw hq hk he hp hp2
  have OK := Lib.hid ok; clear ok
  have P0 := Lib.hid (Bx3.new w (.cells #[.int .i64 m.what, .int .i64 m.dr, .int .i64 m.dc, .int .i64 m.at_, .int .i64 m.n] 112) (.cells #[.int .i64 nd.kind, .int .i64 nd.op, .int .i64 nd.num, .string ⟨nd.text.toArray⟩, .int .i64 nd.ref.row, .int .i64 nd.ref.col, .bool nd.ref.pr, .bool nd.ref.pc, .int .i64 nd.to.row, .int .i64 nd.to.col, .bool nd.to.pr, .bool nd.to.pc, .int .i64 nd.fn, .slice ka 0 kc] 29) (.cells #[.int .i64 0, .int .i64 0, .int .i64 0, .string ⟨#[]⟩, .int .i64 0, .int .i64 0, .bool false, .bool false, .int .i64 0, .int .i64 0, .bool false, .bool false, .int .i64 0, .slice none 0 0] 29))
  go_enter Try.func93, Try.ntmps93
  go_wp2_with fail
  refine (cE _).mono ?_
  rintro e w1 ⟨rfl, b1⟩
  have p1 := P0.out.step b1
  clear b1
  have c0 := cells_of_block p1.b0
  have c1 := cells_of_block p1.b1
  have f1 := frees_of_block p1.b1
  have c2 := cells_of_block p1.b2
  have f2 := frees_of_block p1.b2
  have P1 := Lib.hid p1
  have Q1 := Lib.hid p1.bel
  clear P1
  have P1 := Lib.hid ((p1.set1 4 (.int .i64 x) rfl).set1 8 (.int .i64 y) rfl)
  clear p1
  go_wp2_with fail
  refine (cO _).mono ?_
  rintro e w2 ⟨rfl, b2⟩
  have p2 := P1.out.step b2
  clear b2
  clear c0 c1 f1 c2 f2
  have c0 := cells_of_block p2.b0
  have c1 := cells_of_block p2.b1
  have f1 := frees_of_block p2.b1
  have c2 := cells_of_block p2.b2
  have f2 := frees_of_block p2.b2
  have P2 := Lib.hid p2
  go_wp2_with fail
  refine (refLost_any _).mono ?_
  rintro e w3 ⟨rfl, b3⟩
  have p3 := P2.out.step b3
  clear b3
  clear c0 c1 f1 c2 f2
  have c0 := cells_of_block p3.b0
  have c1 := cells_of_block p3.b1
  have f1 := frees_of_block p3.b1
  have c2 := cells_of_block p3.b2
  have f2 := frees_of_block p3.b2
  have P3 := Lib.hid p3
  go_wp2
  refine bodyPost_ret (v := .agg #[.int .i64 4, .int .i64 0, .int .i64 3, .string ⟨#[]⟩, .int .i64 0, .int .i64 0, .bool false, .bool false, .int .i64 0, .int .i64 0, .bool false, .bool false, .int .i64 0, .slice none 0 0]) (by simp [results, Try.results93, go_sem, c2]) rfl ?_
  refine ⟨none, 0, by rw [HM.out]; rfl, ?_⟩
  repeat (refine Below.setCell ?_ (by simp; try omega) _)
  exact P3.out.bel

set_option maxRecDepth 100000 in
set_option maxHeartbeats 4000000 in
theorem refDouble3_o (m : Mv) (nd : Hd) (ka : Option Addr) (kc : Nat) (w : World) (ok : m.ok) (hk : nd.kind = 6) (hw : m.what = 3) (hp : placeB nd.ref = true) (hp2 : placeB nd.to = true) (he : endsN m.at_ m.n nd.ref.col nd.to.col 702 = none) : Calls Try.prog 93 #[.agg #[.int .i64 m.what, .int .i64 m.dr, .int .i64 m.dc, .int .i64 m.at_, .int .i64 m.n], .agg #[.int .i64 nd.kind, .int .i64 nd.op, .int .i64 nd.num, .string ⟨nd.text.toArray⟩, .int .i64 nd.ref.row, .int .i64 nd.ref.col, .bool nd.ref.pr, .bool nd.ref.pc, .int .i64 nd.to.row, .int .i64 nd.to.col, .bool nd.to.pr, .bool nd.to.pc, .int .i64 nd.fn, .slice ka 0 kc]] w (fun e w' => ∃ xa xc, e = .returned (.agg #[.int .i64 (mvH m nd).kind, .int .i64 (mvH m nd).op, .int .i64 (mvH m nd).num, .string ⟨(mvH m nd).text.toArray⟩, .int .i64 (mvH m nd).ref.row, .int .i64 (mvH m nd).ref.col, .bool (mvH m nd).ref.pr, .bool (mvH m nd).ref.pc, .int .i64 (mvH m nd).to.row, .int .i64 (mvH m nd).to.col, .bool (mvH m nd).to.pr, .bool (mvH m nd).to.pc, .int .i64 (mvH m nd).fn, .slice xa 0 xc]) ∧ Below w.heap.size w w') := by
  have hm : mvH m nd = lostH := by simp [mvH, mv2, hk, hw, he]
  have HM := Lib.hid hm
  have hw1 : (m.what == 1) = false := by simp [hw]
  have hw2 : (m.what == 2) = false := by simp [hw]
  have hw3 : (m.what == 3) = true := by simp [hw]
  have cE : ∀ W, Calls Try.prog 101 #[.agg #[.int .i64 m.what, .int .i64 m.dr, .int .i64 m.dc, .int .i64 m.at_, .int .i64 m.n], .int .i64 nd.ref.col, .int .i64 nd.to.col, .int .i64 702] W (fun e w' => e = .returned (.tuple #[.int .i64 0, .int .i64 0, .bool false]) ∧ Below W.heap.size W w') := fun W => (refEnds_any m.what m.dr m.dc m.at_ m.n nd.ref.col nd.to.col 702 W (by omega) ok.n (ok.cols hw) (place_on hp).2 (place_on hp2).2).mono fun e w' q => ⟨by have := q.1; rw [he] at this; exact this, q.2⟩
  clear hm hw hk he hp hp2
  have OK := Lib.hid ok; clear ok
  have P0 := Lib.hid (Bx3.new w (.cells #[.int .i64 m.what, .int .i64 m.dr, .int .i64 m.dc, .int .i64 m.at_, .int .i64 m.n] 112) (.cells #[.int .i64 nd.kind, .int .i64 nd.op, .int .i64 nd.num, .string ⟨nd.text.toArray⟩, .int .i64 nd.ref.row, .int .i64 nd.ref.col, .bool nd.ref.pr, .bool nd.ref.pc, .int .i64 nd.to.row, .int .i64 nd.to.col, .bool nd.to.pr, .bool nd.to.pc, .int .i64 nd.fn, .slice ka 0 kc] 29) (.cells #[.int .i64 0, .int .i64 0, .int .i64 0, .string ⟨#[]⟩, .int .i64 0, .int .i64 0, .bool false, .bool false, .int .i64 0, .int .i64 0, .bool false, .bool false, .int .i64 0, .slice none 0 0] 29))
  go_enter Try.func93, Try.ntmps93
  go_wp2_with fail
  refine (cE _).mono ?_
  rintro e w1 ⟨rfl, b1⟩
  have p1 := P0.out.step b1
  clear b1
  have c0 := cells_of_block p1.b0
  have c1 := cells_of_block p1.b1
  have f1 := frees_of_block p1.b1
  have c2 := cells_of_block p1.b2
  have f2 := frees_of_block p1.b2
  have P1 := Lib.hid p1
  have Q1 := Lib.hid p1.bel
  clear P1
  have P1 := Lib.hid ((p1.set1 5 (.int .i64 0) rfl).set1 9 (.int .i64 0) rfl)
  clear p1
  go_wp2_with fail
  refine (refLost_any _).mono ?_
  rintro e w2 ⟨rfl, b2⟩
  have p2 := P1.out.step b2
  clear b2
  clear c0 c1 f1 c2 f2
  have c0 := cells_of_block p2.b0
  have c1 := cells_of_block p2.b1
  have f1 := frees_of_block p2.b1
  have c2 := cells_of_block p2.b2
  have f2 := frees_of_block p2.b2
  have P2 := Lib.hid p2
  go_wp2
  refine bodyPost_ret (v := .agg #[.int .i64 4, .int .i64 0, .int .i64 3, .string ⟨#[]⟩, .int .i64 0, .int .i64 0, .bool false, .bool false, .int .i64 0, .int .i64 0, .bool false, .bool false, .int .i64 0, .slice none 0 0]) (by simp [results, Try.results93, go_sem, c2]) rfl ?_
  refine ⟨none, 0, by rw [HM.out]; rfl, ?_⟩
  repeat (refine Below.setCell ?_ (by simp; try omega) _)
  exact P2.out.bel

set_option maxRecDepth 100000 in
set_option maxHeartbeats 4000000 in
theorem refDouble3_y (m : Mv) (nd : Hd) (ka : Option Addr) (kc : Nat) (w : World) (ok : m.ok) (hk : nd.kind = 6) (hw : m.what = 3) (hp : placeB nd.ref = true) (hp2 : placeB nd.to = true) (x y : Int) (he : endsN m.at_ m.n nd.ref.col nd.to.col 702 = some (x, y)) (hq : placeB { nd.ref with col := x } = true) (hq2 : placeB { nd.to with col := y } = true) : Calls Try.prog 93 #[.agg #[.int .i64 m.what, .int .i64 m.dr, .int .i64 m.dc, .int .i64 m.at_, .int .i64 m.n], .agg #[.int .i64 nd.kind, .int .i64 nd.op, .int .i64 nd.num, .string ⟨nd.text.toArray⟩, .int .i64 nd.ref.row, .int .i64 nd.ref.col, .bool nd.ref.pr, .bool nd.ref.pc, .int .i64 nd.to.row, .int .i64 nd.to.col, .bool nd.to.pr, .bool nd.to.pc, .int .i64 nd.fn, .slice ka 0 kc]] w (fun e w' => ∃ xa xc, e = .returned (.agg #[.int .i64 (mvH m nd).kind, .int .i64 (mvH m nd).op, .int .i64 (mvH m nd).num, .string ⟨(mvH m nd).text.toArray⟩, .int .i64 (mvH m nd).ref.row, .int .i64 (mvH m nd).ref.col, .bool (mvH m nd).ref.pr, .bool (mvH m nd).ref.pc, .int .i64 (mvH m nd).to.row, .int .i64 (mvH m nd).to.col, .bool (mvH m nd).to.pr, .bool (mvH m nd).to.pc, .int .i64 (mvH m nd).fn, .slice xa 0 xc]) ∧ Below w.heap.size w w') := by
  have hm : mvH m nd = { nd with ref := { nd.ref with col := x }, to := { nd.to with col := y } } := by simp [mvH, mv2, hk, hw, he, hq, hq2]
  have HM := Lib.hid hm
  have hw1 : (m.what == 1) = false := by simp [hw]
  have hw2 : (m.what == 2) = false := by simp [hw]
  have hw3 : (m.what == 3) = true := by simp [hw]
  have cE : ∀ W, Calls Try.prog 101 #[.agg #[.int .i64 m.what, .int .i64 m.dr, .int .i64 m.dc, .int .i64 m.at_, .int .i64 m.n], .int .i64 nd.ref.col, .int .i64 nd.to.col, .int .i64 702] W (fun e w' => e = .returned (.tuple #[.int .i64 x, .int .i64 y, .bool true]) ∧ Below W.heap.size W w') := fun W => (refEnds_any m.what m.dr m.dc m.at_ m.n nd.ref.col nd.to.col 702 W (by omega) ok.n (ok.cols hw) (place_on hp).2 (place_on hp2).2).mono fun e w' q => ⟨by have := q.1; rw [he] at this; exact this, q.2⟩
  have cO : ∀ W, Calls Try.prog 100 #[.agg #[.int .i64 nd.ref.row, .int .i64 x, .bool nd.ref.pr, .bool nd.ref.pc]] W (fun e w' => e = .returned (.bool true) ∧ Below W.heap.size W w') := fun W => (refOn_any { nd.ref with col := x } W).mono fun e w' q => ⟨by have := q.1; rw [hq] at this; exact this, q.2⟩
  have cT : ∀ W, Calls Try.prog 100 #[.agg #[.int .i64 nd.to.row, .int .i64 y, .bool nd.to.pr, .bool nd.to.pc]] W (fun e w' => e = .returned (.bool true) ∧ Below W.heap.size W w') := fun W => (refOn_any { nd.to with col := y } W).mono fun e w' q => ⟨by have := q.1; rw [hq2] at this; exact this, q.2⟩
  clear hm hw hq hk he hp hp2 hq2
  have OK := Lib.hid ok; clear ok
  have P0 := Lib.hid (Bx3.new w (.cells #[.int .i64 m.what, .int .i64 m.dr, .int .i64 m.dc, .int .i64 m.at_, .int .i64 m.n] 112) (.cells #[.int .i64 nd.kind, .int .i64 nd.op, .int .i64 nd.num, .string ⟨nd.text.toArray⟩, .int .i64 nd.ref.row, .int .i64 nd.ref.col, .bool nd.ref.pr, .bool nd.ref.pc, .int .i64 nd.to.row, .int .i64 nd.to.col, .bool nd.to.pr, .bool nd.to.pc, .int .i64 nd.fn, .slice ka 0 kc] 29) (.cells #[.int .i64 0, .int .i64 0, .int .i64 0, .string ⟨#[]⟩, .int .i64 0, .int .i64 0, .bool false, .bool false, .int .i64 0, .int .i64 0, .bool false, .bool false, .int .i64 0, .slice none 0 0] 29))
  go_enter Try.func93, Try.ntmps93
  go_wp2_with fail
  refine (cE _).mono ?_
  rintro e w1 ⟨rfl, b1⟩
  have p1 := P0.out.step b1
  clear b1
  have c0 := cells_of_block p1.b0
  have c1 := cells_of_block p1.b1
  have f1 := frees_of_block p1.b1
  have c2 := cells_of_block p1.b2
  have f2 := frees_of_block p1.b2
  have P1 := Lib.hid p1
  have Q1 := Lib.hid p1.bel
  clear P1
  have P1 := Lib.hid ((p1.set1 5 (.int .i64 x) rfl).set1 9 (.int .i64 y) rfl)
  clear p1
  go_wp2_with fail
  refine (cO _).mono ?_
  rintro e w2 ⟨rfl, b2⟩
  have p2 := P1.out.step b2
  clear b2
  clear c0 c1 f1 c2 f2
  have c0 := cells_of_block p2.b0
  have c1 := cells_of_block p2.b1
  have f1 := frees_of_block p2.b1
  have c2 := cells_of_block p2.b2
  have f2 := frees_of_block p2.b2
  have P2 := Lib.hid p2
  go_wp2_with fail
  refine (cT _).mono ?_
  rintro e w3 ⟨rfl, b3⟩
  have p3 := P2.out.step b3
  clear b3
  clear c0 c1 f1 c2 f2
  have c0 := cells_of_block p3.b0
  have c1 := cells_of_block p3.b1
  have f1 := frees_of_block p3.b1
  have c2 := cells_of_block p3.b2
  have f2 := frees_of_block p3.b2
  have P3 := Lib.hid p3
  go_wp2
  refine bodyPost_ret (v := .agg #[.int .i64 nd.kind, .int .i64 nd.op, .int .i64 nd.num, .string ⟨nd.text.toArray⟩, .int .i64 nd.ref.row, .int .i64 x, .bool nd.ref.pr, .bool nd.ref.pc, .int .i64 nd.to.row, .int .i64 y, .bool nd.to.pr, .bool nd.to.pc, .int .i64 nd.fn, .slice ka 0 kc]) (by simp [results, Try.results93, go_sem, c2]) rfl ?_
  refine ⟨ka, kc, by rw [HM.out], ?_⟩
  repeat (refine Below.setCell ?_ (by simp; try omega) _)
  exact P3.out.bel

set_option maxRecDepth 100000 in
set_option maxHeartbeats 4000000 in
theorem refDouble3_m (m : Mv) (nd : Hd) (ka : Option Addr) (kc : Nat) (w : World) (ok : m.ok) (hk : nd.kind = 6) (hw : m.what = 3) (hp : placeB nd.ref = true) (hp2 : placeB nd.to = true) (x y : Int) (he : endsN m.at_ m.n nd.ref.col nd.to.col 702 = some (x, y)) (hq : placeB { nd.ref with col := x } = true) (hq2 : placeB { nd.to with col := y } = false) : Calls Try.prog 93 #[.agg #[.int .i64 m.what, .int .i64 m.dr, .int .i64 m.dc, .int .i64 m.at_, .int .i64 m.n], .agg #[.int .i64 nd.kind, .int .i64 nd.op, .int .i64 nd.num, .string ⟨nd.text.toArray⟩, .int .i64 nd.ref.row, .int .i64 nd.ref.col, .bool nd.ref.pr, .bool nd.ref.pc, .int .i64 nd.to.row, .int .i64 nd.to.col, .bool nd.to.pr, .bool nd.to.pc, .int .i64 nd.fn, .slice ka 0 kc]] w (fun e w' => ∃ xa xc, e = .returned (.agg #[.int .i64 (mvH m nd).kind, .int .i64 (mvH m nd).op, .int .i64 (mvH m nd).num, .string ⟨(mvH m nd).text.toArray⟩, .int .i64 (mvH m nd).ref.row, .int .i64 (mvH m nd).ref.col, .bool (mvH m nd).ref.pr, .bool (mvH m nd).ref.pc, .int .i64 (mvH m nd).to.row, .int .i64 (mvH m nd).to.col, .bool (mvH m nd).to.pr, .bool (mvH m nd).to.pc, .int .i64 (mvH m nd).fn, .slice xa 0 xc]) ∧ Below w.heap.size w w') := by
  have hm : mvH m nd = lostH := by simp [mvH, mv2, hk, hw, he, hq, hq2]
  have HM := Lib.hid hm
  have hw1 : (m.what == 1) = false := by simp [hw]
  have hw2 : (m.what == 2) = false := by simp [hw]
  have hw3 : (m.what == 3) = true := by simp [hw]
  have cE : ∀ W, Calls Try.prog 101 #[.agg #[.int .i64 m.what, .int .i64 m.dr, .int .i64 m.dc, .int .i64 m.at_, .int .i64 m.n], .int .i64 nd.ref.col, .int .i64 nd.to.col, .int .i64 702] W (fun e w' => e = .returned (.tuple #[.int .i64 x, .int .i64 y, .bool true]) ∧ Below W.heap.size W w') := fun W => (refEnds_any m.what m.dr m.dc m.at_ m.n nd.ref.col nd.to.col 702 W (by omega) ok.n (ok.cols hw) (place_on hp).2 (place_on hp2).2).mono fun e w' q => ⟨by have := q.1; rw [he] at this; exact this, q.2⟩
  have cO : ∀ W, Calls Try.prog 100 #[.agg #[.int .i64 nd.ref.row, .int .i64 x, .bool nd.ref.pr, .bool nd.ref.pc]] W (fun e w' => e = .returned (.bool true) ∧ Below W.heap.size W w') := fun W => (refOn_any { nd.ref with col := x } W).mono fun e w' q => ⟨by have := q.1; rw [hq] at this; exact this, q.2⟩
  have cT : ∀ W, Calls Try.prog 100 #[.agg #[.int .i64 nd.to.row, .int .i64 y, .bool nd.to.pr, .bool nd.to.pc]] W (fun e w' => e = .returned (.bool false) ∧ Below W.heap.size W w') := fun W => (refOn_any { nd.to with col := y } W).mono fun e w' q => ⟨by have := q.1; rw [hq2] at this; exact this, q.2⟩
  clear hm hw hq hk he hp hp2 hq2
  have OK := Lib.hid ok; clear ok
  have P0 := Lib.hid (Bx3.new w (.cells #[.int .i64 m.what, .int .i64 m.dr, .int .i64 m.dc, .int .i64 m.at_, .int .i64 m.n] 112) (.cells #[.int .i64 nd.kind, .int .i64 nd.op, .int .i64 nd.num, .string ⟨nd.text.toArray⟩, .int .i64 nd.ref.row, .int .i64 nd.ref.col, .bool nd.ref.pr, .bool nd.ref.pc, .int .i64 nd.to.row, .int .i64 nd.to.col, .bool nd.to.pr, .bool nd.to.pc, .int .i64 nd.fn, .slice ka 0 kc] 29) (.cells #[.int .i64 0, .int .i64 0, .int .i64 0, .string ⟨#[]⟩, .int .i64 0, .int .i64 0, .bool false, .bool false, .int .i64 0, .int .i64 0, .bool false, .bool false, .int .i64 0, .slice none 0 0] 29))
  go_enter Try.func93, Try.ntmps93
  go_wp2_with fail
  refine (cE _).mono ?_
  rintro e w1 ⟨rfl, b1⟩
  have p1 := P0.out.step b1
  clear b1
  have c0 := cells_of_block p1.b0
  have c1 := cells_of_block p1.b1
  have f1 := frees_of_block p1.b1
  have c2 := cells_of_block p1.b2
  have f2 := frees_of_block p1.b2
  have P1 := Lib.hid p1
  have Q1 := Lib.hid p1.bel
  clear P1
  have P1 := Lib.hid ((p1.set1 5 (.int .i64 x) rfl).set1 9 (.int .i64 y) rfl)
  clear p1
  go_wp2_with fail
  refine (cO _).mono ?_
  rintro e w2 ⟨rfl, b2⟩
  have p2 := P1.out.step b2
  clear b2
  clear c0 c1 f1 c2 f2
  have c0 := cells_of_block p2.b0
  have c1 := cells_of_block p2.b1
  have f1 := frees_of_block p2.b1
  have c2 := cells_of_block p2.b2
  have f2 := frees_of_block p2.b2
  have P2 := Lib.hid p2
  go_wp2_with fail
  refine (cT _).mono ?_
  rintro e w3 ⟨rfl, b3⟩
  have p3 := P2.out.step b3
  clear b3
  clear c0 c1 f1 c2 f2
  have c0 := cells_of_block p3.b0
  have c1 := cells_of_block p3.b1
  have f1 := frees_of_block p3.b1
  have c2 := cells_of_block p3.b2
  have f2 := frees_of_block p3.b2
  have P3 := Lib.hid p3
  go_wp2_with fail
  refine (refLost_any _).mono ?_
  rintro e w4 ⟨rfl, b4⟩
  have p4 := P3.out.step b4
  clear b4
  clear c0 c1 f1 c2 f2
  have c0 := cells_of_block p4.b0
  have c1 := cells_of_block p4.b1
  have f1 := frees_of_block p4.b1
  have c2 := cells_of_block p4.b2
  have f2 := frees_of_block p4.b2
  have P4 := Lib.hid p4
  go_wp2
  refine bodyPost_ret (v := .agg #[.int .i64 4, .int .i64 0, .int .i64 3, .string ⟨#[]⟩, .int .i64 0, .int .i64 0, .bool false, .bool false, .int .i64 0, .int .i64 0, .bool false, .bool false, .int .i64 0, .slice none 0 0]) (by simp [results, Try.results93, go_sem, c2]) rfl ?_
  refine ⟨none, 0, by rw [HM.out]; rfl, ?_⟩
  repeat (refine Below.setCell ?_ (by simp; try omega) _)
  exact P4.out.bel

set_option maxRecDepth 100000 in
set_option maxHeartbeats 4000000 in
theorem refDouble3_n (m : Mv) (nd : Hd) (ka : Option Addr) (kc : Nat) (w : World) (ok : m.ok) (hk : nd.kind = 6) (hw : m.what = 3) (hp : placeB nd.ref = true) (hp2 : placeB nd.to = true) (x y : Int) (he : endsN m.at_ m.n nd.ref.col nd.to.col 702 = some (x, y)) (hq : placeB { nd.ref with col := x } = false) : Calls Try.prog 93 #[.agg #[.int .i64 m.what, .int .i64 m.dr, .int .i64 m.dc, .int .i64 m.at_, .int .i64 m.n], .agg #[.int .i64 nd.kind, .int .i64 nd.op, .int .i64 nd.num, .string ⟨nd.text.toArray⟩, .int .i64 nd.ref.row, .int .i64 nd.ref.col, .bool nd.ref.pr, .bool nd.ref.pc, .int .i64 nd.to.row, .int .i64 nd.to.col, .bool nd.to.pr, .bool nd.to.pc, .int .i64 nd.fn, .slice ka 0 kc]] w (fun e w' => ∃ xa xc, e = .returned (.agg #[.int .i64 (mvH m nd).kind, .int .i64 (mvH m nd).op, .int .i64 (mvH m nd).num, .string ⟨(mvH m nd).text.toArray⟩, .int .i64 (mvH m nd).ref.row, .int .i64 (mvH m nd).ref.col, .bool (mvH m nd).ref.pr, .bool (mvH m nd).ref.pc, .int .i64 (mvH m nd).to.row, .int .i64 (mvH m nd).to.col, .bool (mvH m nd).to.pr, .bool (mvH m nd).to.pc, .int .i64 (mvH m nd).fn, .slice xa 0 xc]) ∧ Below w.heap.size w w') := by
  have hm : mvH m nd = lostH := by simp [mvH, mv2, hk, hw, he, hq]
  have HM := Lib.hid hm
  have hw1 : (m.what == 1) = false := by simp [hw]
  have hw2 : (m.what == 2) = false := by simp [hw]
  have hw3 : (m.what == 3) = true := by simp [hw]
  have cE : ∀ W, Calls Try.prog 101 #[.agg #[.int .i64 m.what, .int .i64 m.dr, .int .i64 m.dc, .int .i64 m.at_, .int .i64 m.n], .int .i64 nd.ref.col, .int .i64 nd.to.col, .int .i64 702] W (fun e w' => e = .returned (.tuple #[.int .i64 x, .int .i64 y, .bool true]) ∧ Below W.heap.size W w') := fun W => (refEnds_any m.what m.dr m.dc m.at_ m.n nd.ref.col nd.to.col 702 W (by omega) ok.n (ok.cols hw) (place_on hp).2 (place_on hp2).2).mono fun e w' q => ⟨by have := q.1; rw [he] at this; exact this, q.2⟩
  have cO : ∀ W, Calls Try.prog 100 #[.agg #[.int .i64 nd.ref.row, .int .i64 x, .bool nd.ref.pr, .bool nd.ref.pc]] W (fun e w' => e = .returned (.bool false) ∧ Below W.heap.size W w') := fun W => (refOn_any { nd.ref with col := x } W).mono fun e w' q => ⟨by have := q.1; rw [hq] at this; exact this, q.2⟩
  clear hm hw hq hk he hp hp2
  have OK := Lib.hid ok; clear ok
  have P0 := Lib.hid (Bx3.new w (.cells #[.int .i64 m.what, .int .i64 m.dr, .int .i64 m.dc, .int .i64 m.at_, .int .i64 m.n] 112) (.cells #[.int .i64 nd.kind, .int .i64 nd.op, .int .i64 nd.num, .string ⟨nd.text.toArray⟩, .int .i64 nd.ref.row, .int .i64 nd.ref.col, .bool nd.ref.pr, .bool nd.ref.pc, .int .i64 nd.to.row, .int .i64 nd.to.col, .bool nd.to.pr, .bool nd.to.pc, .int .i64 nd.fn, .slice ka 0 kc] 29) (.cells #[.int .i64 0, .int .i64 0, .int .i64 0, .string ⟨#[]⟩, .int .i64 0, .int .i64 0, .bool false, .bool false, .int .i64 0, .int .i64 0, .bool false, .bool false, .int .i64 0, .slice none 0 0] 29))
  go_enter Try.func93, Try.ntmps93
  go_wp2_with fail
  refine (cE _).mono ?_
  rintro e w1 ⟨rfl, b1⟩
  have p1 := P0.out.step b1
  clear b1
  have c0 := cells_of_block p1.b0
  have c1 := cells_of_block p1.b1
  have f1 := frees_of_block p1.b1
  have c2 := cells_of_block p1.b2
  have f2 := frees_of_block p1.b2
  have P1 := Lib.hid p1
  have Q1 := Lib.hid p1.bel
  clear P1
  have P1 := Lib.hid ((p1.set1 5 (.int .i64 x) rfl).set1 9 (.int .i64 y) rfl)
  clear p1
  go_wp2_with fail
  refine (cO _).mono ?_
  rintro e w2 ⟨rfl, b2⟩
  have p2 := P1.out.step b2
  clear b2
  clear c0 c1 f1 c2 f2
  have c0 := cells_of_block p2.b0
  have c1 := cells_of_block p2.b1
  have f1 := frees_of_block p2.b1
  have c2 := cells_of_block p2.b2
  have f2 := frees_of_block p2.b2
  have P2 := Lib.hid p2
  go_wp2_with fail
  refine (refLost_any _).mono ?_
  rintro e w3 ⟨rfl, b3⟩
  have p3 := P2.out.step b3
  clear b3
  clear c0 c1 f1 c2 f2
  have c0 := cells_of_block p3.b0
  have c1 := cells_of_block p3.b1
  have f1 := frees_of_block p3.b1
  have c2 := cells_of_block p3.b2
  have f2 := frees_of_block p3.b2
  have P3 := Lib.hid p3
  go_wp2
  refine bodyPost_ret (v := .agg #[.int .i64 4, .int .i64 0, .int .i64 3, .string ⟨#[]⟩, .int .i64 0, .int .i64 0, .bool false, .bool false, .int .i64 0, .int .i64 0, .bool false, .bool false, .int .i64 0, .slice none 0 0]) (by simp [results, Try.results93, go_sem, c2]) rfl ?_
  refine ⟨none, 0, by rw [HM.out]; rfl, ?_⟩
  repeat (refine Below.setCell ?_ (by simp; try omega) _)
  exact P3.out.bel

theorem refDouble_any (m : Mv) (nd : Hd) (ka : Option Addr) (kc : Nat) (w : World) (ok : m.ok) (hk : nd.kind = 6) (hp : placeB nd.ref = true) (hp2 : placeB nd.to = true) : Calls Try.prog 93 #[.agg #[.int .i64 m.what, .int .i64 m.dr, .int .i64 m.dc, .int .i64 m.at_, .int .i64 m.n], .agg #[.int .i64 nd.kind, .int .i64 nd.op, .int .i64 nd.num, .string ⟨nd.text.toArray⟩, .int .i64 nd.ref.row, .int .i64 nd.ref.col, .bool nd.ref.pr, .bool nd.ref.pc, .int .i64 nd.to.row, .int .i64 nd.to.col, .bool nd.to.pr, .bool nd.to.pc, .int .i64 nd.fn, .slice ka 0 kc]] w (fun e w' => ∃ xa xc, e = .returned (.agg #[.int .i64 (mvH m nd).kind, .int .i64 (mvH m nd).op, .int .i64 (mvH m nd).num, .string ⟨(mvH m nd).text.toArray⟩, .int .i64 (mvH m nd).ref.row, .int .i64 (mvH m nd).ref.col, .bool (mvH m nd).ref.pr, .bool (mvH m nd).ref.pc, .int .i64 (mvH m nd).to.row, .int .i64 (mvH m nd).to.col, .bool (mvH m nd).to.pr, .bool (mvH m nd).to.pc, .int .i64 (mvH m nd).fn, .slice xa 0 xc]) ∧ Below w.heap.size w w') := by
  rcases ok.what with hw | hw | hw
  · cases hq : placeB (pasteR m.dr m.dc nd.ref)
    · exact refDouble1_n m nd ka kc w ok hk hw hp hp2 hq
    · cases hq2 : placeB (pasteR m.dr m.dc nd.to)
      · exact refDouble1_m m nd ka kc w ok hk hw hp hp2 hq hq2
      · exact refDouble1_y m nd ka kc w ok hk hw hp hp2 hq hq2
  · rcases he : endsN m.at_ m.n nd.ref.row nd.to.row 65536 with _ | ⟨x, y⟩
    · exact refDouble2_o m nd ka kc w ok hk hw hp hp2 he
    · cases hq : placeB { nd.ref with row := x }
      · exact refDouble2_n m nd ka kc w ok hk hw hp hp2 x y he hq
      · cases hq2 : placeB { nd.to with row := y }
        · exact refDouble2_m m nd ka kc w ok hk hw hp hp2 x y he hq hq2
        · exact refDouble2_y m nd ka kc w ok hk hw hp hp2 x y he hq hq2
  · rcases he : endsN m.at_ m.n nd.ref.col nd.to.col 702 with _ | ⟨x, y⟩
    · exact refDouble3_o m nd ka kc w ok hk hw hp hp2 he
    · cases hq : placeB { nd.ref with col := x }
      · exact refDouble3_n m nd ka kc w ok hk hw hp hp2 x y he hq
      · cases hq2 : placeB { nd.to with col := y }
        · exact refDouble3_m m nd ka kc w ok hk hw hp hp2 x y he hq hq2
        · exact refDouble3_y m nd ka kc w ok hk hw hp hp2 x y he hq hq2
end Go.Proofs.Ytkjfeakbhfkldaa
