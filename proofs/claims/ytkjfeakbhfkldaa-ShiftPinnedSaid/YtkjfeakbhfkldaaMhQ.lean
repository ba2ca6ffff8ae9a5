/- Shifting: ShiftPinned. -/
import Derived.Test.YtkjfeakbhfkldaaMhM
import Derived.Test.YtkjfeakbhfkldaaTreeArg2
import Derived.Test.YtkjfeakbhfkldaaLaw
import Derived.BigQuiet
namespace Go.Proofs.Ytkjfeakbhfkldaa
open Go.RowKit

def ptH (r : RefT) : Hd := ⟨5, 0, 0, [], r, ⟨0, 0, false, false⟩, 0⟩
theorem pt_ok {r : RefT} (h : I64 r.row ∧ I64 r.col) : (ptH r).ok := ok_nums ⟨by simp [I64], by simp [I64], by simp [I64], h.1, h.2, by simp [I64], by simp [I64], by simp [I64]⟩
theorem may_pt (r : RefT) : mayE (ptH r) .nil = if placeB r = true then 0 else 22 := by
  have f : Fine (ptH r) .nil := of_decide_eq_true rfl
  have g : treeFits (ptH r) .nil = placeB r := by
    simp [treeFits, allFits, fitsV, fitsB, ptH, Trees.len, RefT.zero]
  rw [mayE, if_pos f, g]
theorem mv_pt (dr dc : Int) (r : RefT) : mvH ⟨1, dr, dc, 0, 0⟩ (ptH r) = if placeB (pasteR dr dc r) = true then ptH (pasteR dr dc r) else lostH := by
  by_cases h : placeB (pasteR dr dc r) = true
  · simp [mvH, mv1, ptH, h]
  · simp [mvH, mv1, ptH, h]
theorem err_pt {m : Mv} {r : RefT} (h : placeB r = true) (hm : m.what = 1) : shErr m (ptH r) .nil = 0 := by
  rw [shErr, may_pt, if_pos h]; simp [hm]
set_option maxRecDepth 100000 in
theorem refArg {H : Type} {enc : TypeId × Value → H} {W : World} {base b1 : Nat} {sp : Nat → Bool} {held : Bool} {r : Reach} {v : Value} {d : DataW H} {p : List MemPlace} (hv : Value.okWide Try.prog W r base 26 v) (h : DataW.Trod enc Try.prog W b1 sp held 26 v d p) :
    ∃ r : RefT, v = .agg #[.int .i64 r.row, .int .i64 r.col, .bool r.pr, .bool r.pc] ∧ I64 r.row ∧ I64 r.col := by
  obtain ⟨cs, rfl, -⟩ := Go.WideShapes.okWide_struct Try.underlying26 hv
  obtain ⟨fuel, hf⟩ := h
  obtain ⟨r, e, h1, h2⟩ := ref_of_trod hf
  refine ⟨r, ?_, h1, h2⟩
  have : cs = #[.int .i64 r.row, .int .i64 r.col, .bool r.pr, .bool r.pc] := by
    have e' : cs.toList = [.int .i64 r.row, .int .i64 r.col, .bool r.pr, .bool r.pc] := e
    rw [← Array.toArray_toList (xs := cs), e']
  rw [this]
theorem leaf_any {w : World} {B : Nat} {h : Hd} {a : Option Addr} {l : Nat} (t : TreeV w B h .nil a l) : ∀ (W : World) (B' : Nat), TreeV W B' h .nil a l := fun _ _ => ⟨t.len, t.max, t.ok, trivial⟩
set_option maxRecDepth 100000 in
set_option maxHeartbeats 4000000 in
theorem pinned_may (w : World) (row col dr dc : Int) (pr pc : Bool) (h1 : I64 row) (h2 : I64 col) (hp : placeB ⟨row, col, true, true⟩ = false) : Calls Try.prog 11 #[.agg #[.int .i64 row, .int .i64 col, .bool pr, .bool pc], .int .i64 dr, .int .i64 dc] w (TruePost w) := by
  have cM : ∀ W, Calls Try.prog 23 #[.agg #[.int .i64 5, .int .i64 0, .int .i64 0, .string ⟨#[]⟩, .int .i64 row, .int .i64 col, .bool true, .bool true, .int .i64 0, .int .i64 0, .bool false, .bool false, .int .i64 0, .slice none 0 0]] W (fun e w' => e = .returned (.int .i64 22) ∧ Below W.heap.size W w') :=
    fun W => (may_any (ptH ⟨row, col, true, true⟩) .nil W W.heap.size none 0 0 (Nat.le_refl _) (leafV (pt_ok ⟨h1, h2⟩))).mono fun e w' q => ⟨q.1.trans (by rw [may_pt, hp]; rfl), q.2⟩
  have CM := Lib.hid cM
  clear cM
  have q0 := ext_alloc (Below.refl w.heap.size w) (.cells #[.int .i64 row, .int .i64 col, .bool pr, .bool pc] 26)
  have BB := Lib.hid q0
  have H0 := Lib.hid (heap_alloc_new w (.cells #[.int .i64 row, .int .i64 col, .bool pr, .bool pc] 26))
  clear q0
  go_enter Try.func11, Try.ntmps11
  go_wp2_with fail
  refine (lawBegun_any _).mono ?_
  rintro e w1 ⟨rfl, b1⟩
  have h0 := (b1.block _ (lt_of_block H0.out)).trans H0.out
  have lt0 := lt_of_block h0
  have g1 := block_set (i := 2) h0 (.bool true)
  have g2 := block_set (i := 3) g1 (.bool true)
  have c0 := cells_of_block h0
  have f0 := frees_of_block h0
  have hsz : ((w1.setCell ⟨w.heap.size, 2, none⟩ (.bool true)).setCell ⟨w.heap.size, 3, none⟩ (.bool true)).heap.size = w1.heap.size := by simp [World.setCell]
  have g3 := (Below.heap_alloc _ (.cells #[.int .i64 5, .int .i64 0, .int .i64 0, .string ⟨#[]⟩, .int .i64 row, .int .i64 col, .bool true, .bool true, .int .i64 0, .int .i64 0, .bool false, .bool false, .int .i64 0, .slice none 0 0] 29) _ (lt_of_block g2)).trans g2
  have gt := heap_alloc_new ((w1.setCell ⟨w.heap.size, 2, none⟩ (.bool true)).setCell ⟨w.heap.size, 3, none⟩ (.bool true)) (.cells #[.int .i64 5, .int .i64 0, .int .i64 0, .string ⟨#[]⟩, .int .i64 row, .int .i64 col, .bool true, .bool true, .int .i64 0, .int .i64 0, .bool false, .bool false, .int .i64 0, .slice none 0 0] 29)
  rw [hsz] at gt
  have be : Below w.heap.size w (((w1.setCell ⟨w.heap.size, 2, none⟩ (.bool true)).setCell ⟨w.heap.size, 3, none⟩ (.bool true)).alloc (.cells #[.int .i64 5, .int .i64 0, .int .i64 0, .string ⟨#[]⟩, .int .i64 row, .int .i64 col, .bool true, .bool true, .int .i64 0, .int .i64 0, .bool false, .bool false, .int .i64 0, .slice none 0 0] 29)) := (((BB.out.trans (b1.mono BB.out.size)).setCell (p := ⟨w.heap.size, 2, none⟩) (Nat.le_refl _) _).setCell (p := ⟨w.heap.size, 3, none⟩) (Nat.le_refl _) _).alloc (by rw [hsz]; omega) _
  have G3 := Lib.hid g3; have GT := Lib.hid gt; have BE := Lib.hid be
  clear b1 h0 g1 g2 g3 gt be BB H0 hsz
  go_wp2_with fail
  clear c0 f0
  have g3 := G3.out; have gt := GT.out; have be := BE.out
  clear G3 GT BE
  generalize (((w1.setCell ⟨w.heap.size, 2, none⟩ (.bool true)).setCell ⟨w.heap.size, 3, none⟩ (.bool true)).alloc (.cells #[.int .i64 5, .int .i64 0, .int .i64 0, .string ⟨#[]⟩, .int .i64 row, .int .i64 col, .bool true, .bool true, .int .i64 0, .int .i64 0, .bool false, .bool false, .int .i64 0, .slice none 0 0] 29)) = w2 at g3 gt be ⊢
  have e2 : w1.heap.size = w1.heap.size := rfl
  generalize w1.heap.size = Nt at gt lt0 ⊢
  generalize hN : w.heap.size = N0 at g3 lt0 ⊢
  have hN0 : w.heap.size ≤ N0 := Nat.le_of_eq hN
  have ct := cells_of_block gt
  have G3 := Lib.hid g3; have GT := Lib.hid gt; have BE := Lib.hid be
  clear g3 gt be e2
  refine (CM.out _).mono ?_
  rintro e w3 ⟨rfl, b3⟩
  go_wp2
  go_ret
  exact ⟨rfl, BE.out.trans (b3.mono BE.out.size)⟩

set_option maxRecDepth 100000 in
set_option maxHeartbeats 4000000 in
theorem pinned_off (w : World) (row col dr dc : Int) (pr pc : Bool) (h1 : I64 row) (h2 : I64 col) (hp : placeB ⟨row, col, true, true⟩ = true) (h3 : I64 dr) (h4 : I64 dc) (off : ¬ (0 ≤ row + dr ∧ row + dr < 65536 ∧ 0 ≤ col + dc ∧ col + dc < 702)) : Calls Try.prog 11 #[.agg #[.int .i64 row, .int .i64 col, .bool pr, .bool pc], .int .i64 dr, .int .i64 dc] w (TruePost w) := by
  have hp' : placeB ⟨row, col, false, false⟩ = true := hp
  have pq := place_on hp
  simp only at pq
  have hy : mvH ⟨1, dr, dc, 0, 0⟩ (ptH ⟨row, col, false, false⟩) = lostH := by
    rw [mv_pt, if_neg]
    simp only [pasteR, Bool.false_eq_true, if_false, placeB]
    by_cases a : 0 ≤ row + dr ∧ row + dr < 65536
    · rw [moved_off pq.2.1 pq.2.2 (by omega)]; simp
    · rw [moved_off pq.1.1 pq.1.2 a]; simp
  have cM : ∀ W, Calls Try.prog 23 #[.agg #[.int .i64 5, .int .i64 0, .int .i64 0, .string ⟨#[]⟩, .int .i64 row, .int .i64 col, .bool true, .bool true, .int .i64 0, .int .i64 0, .bool false, .bool false, .int .i64 0, .slice none 0 0]] W (fun e w' => e = .returned (.int .i64 0) ∧ Below W.heap.size W w') :=
    fun W => (may_any (ptH ⟨row, col, true, true⟩) .nil W W.heap.size none 0 0 (Nat.le_refl _) (leafV (pt_ok ⟨h1, h2⟩))).mono fun e w' q => ⟨q.1.trans (by rw [may_pt, hp]; rfl), q.2⟩
  have CM := Lib.hid cM
  clear cM
  have cP : ∀ W, Calls Try.prog 37 #[.agg #[.int .i64 5, .int .i64 0, .int .i64 0, .string ⟨#[]⟩, .int .i64 row, .int .i64 col, .bool true, .bool true, .int .i64 0, .int .i64 0, .bool false, .bool false, .int .i64 0, .slice none 0 0], .int .i64 dr, .int .i64 dc] W (fun e w' => Below W.heap.size W w' ∧ ∃ xa xl xc, e = .returned (.tuple #[.agg #[.int .i64 5, .int .i64 0, .int .i64 0, .string ⟨#[]⟩, .int .i64 row, .int .i64 col, .bool true, .bool true, .int .i64 0, .int .i64 0, .bool false, .bool false, .int .i64 0, .slice xa xl xc], .int .i64 0]) ∧ TreeV w' w'.heap.size (ptH ⟨row, col, true, true⟩) .nil xa xl) :=
    fun W => (shPaste_any (ptH ⟨row, col, true, true⟩) .nil dr dc W W.heap.size none 0 0 (Nat.le_refl _) (leafV (pt_ok ⟨h1, h2⟩)) h3 h4).mono fun e w' q => (q.tree (pt_ok ⟨h1, h2⟩)).good (h' := ptH ⟨row, col, true, true⟩) (ks' := .nil) (err_pt hp rfl) (by rw [mv_pt]; simp only [pasteR, if_true]; rw [hp]; rfl) rfl
  have cU : ∀ W, Calls Try.prog 37 #[.agg #[.int .i64 5, .int .i64 0, .int .i64 0, .string ⟨#[]⟩, .int .i64 row, .int .i64 col, .bool false, .bool false, .int .i64 0, .int .i64 0, .bool false, .bool false, .int .i64 0, .slice none 0 0], .int .i64 dr, .int .i64 dc] W (fun e w' => Below W.heap.size W w' ∧ ∃ xa xl xc, e = .returned (.tuple #[.agg #[.int .i64 4, .int .i64 0, .int .i64 3, .string ⟨#[]⟩, .int .i64 0, .int .i64 0, .bool false, .bool false, .int .i64 0, .int .i64 0, .bool false, .bool false, .int .i64 0, .slice xa xl xc], .int .i64 0]) ∧ TreeV w' w'.heap.size lostH .nil xa xl) :=
    fun W => (shPaste_any (ptH ⟨row, col, false, false⟩) .nil dr dc W W.heap.size none 0 0 (Nat.le_refl _) (leafV (pt_ok ⟨h1, h2⟩)) h3 h4).mono fun e w' q => (q.tree (pt_ok ⟨h1, h2⟩)).good (h' := lostH) (ks' := .nil) (err_pt hp' rfl) hy rfl
  have CP := Lib.hid cP; have CU := Lib.hid cU
  clear cP cU
  have q0 := ext_alloc (Below.refl w.heap.size w) (.cells #[.int .i64 row, .int .i64 col, .bool pr, .bool pc] 26)
  have BB := Lib.hid q0
  have H0 := Lib.hid (heap_alloc_new w (.cells #[.int .i64 row, .int .i64 col, .bool pr, .bool pc] 26))
  clear q0
  go_enter Try.func11, Try.ntmps11
  go_wp2_with fail
  refine (lawBegun_any _).mono ?_
  rintro e w1 ⟨rfl, b1⟩
  have h0 := (b1.block _ (lt_of_block H0.out)).trans H0.out
  have lt0 := lt_of_block h0
  have g1 := block_set (i := 2) h0 (.bool true)
  have g2 := block_set (i := 3) g1 (.bool true)
  have c0 := cells_of_block h0
  have f0 := frees_of_block h0
  have hsz : ((w1.setCell ⟨w.heap.size, 2, none⟩ (.bool true)).setCell ⟨w.heap.size, 3, none⟩ (.bool true)).heap.size = w1.heap.size := by simp [World.setCell]
  have g3 := (Below.heap_alloc _ (.cells #[.int .i64 5, .int .i64 0, .int .i64 0, .string ⟨#[]⟩, .int .i64 row, .int .i64 col, .bool true, .bool true, .int .i64 0, .int .i64 0, .bool false, .bool false, .int .i64 0, .slice none 0 0] 29) _ (lt_of_block g2)).trans g2
  have gt := heap_alloc_new ((w1.setCell ⟨w.heap.size, 2, none⟩ (.bool true)).setCell ⟨w.heap.size, 3, none⟩ (.bool true)) (.cells #[.int .i64 5, .int .i64 0, .int .i64 0, .string ⟨#[]⟩, .int .i64 row, .int .i64 col, .bool true, .bool true, .int .i64 0, .int .i64 0, .bool false, .bool false, .int .i64 0, .slice none 0 0] 29)
  rw [hsz] at gt
  have be : Below w.heap.size w (((w1.setCell ⟨w.heap.size, 2, none⟩ (.bool true)).setCell ⟨w.heap.size, 3, none⟩ (.bool true)).alloc (.cells #[.int .i64 5, .int .i64 0, .int .i64 0, .string ⟨#[]⟩, .int .i64 row, .int .i64 col, .bool true, .bool true, .int .i64 0, .int .i64 0, .bool false, .bool false, .int .i64 0, .slice none 0 0] 29)) := (((BB.out.trans (b1.mono BB.out.size)).setCell (p := ⟨w.heap.size, 2, none⟩) (Nat.le_refl _) _).setCell (p := ⟨w.heap.size, 3, none⟩) (Nat.le_refl _) _).alloc (by rw [hsz]; omega) _
  have G3 := Lib.hid g3; have GT := Lib.hid gt; have BE := Lib.hid be
  clear b1 h0 g1 g2 g3 gt be BB H0 hsz
  go_wp2_with fail
  clear c0 f0
  have g3 := G3.out; have gt := GT.out; have be := BE.out
  clear G3 GT BE
  generalize (((w1.setCell ⟨w.heap.size, 2, none⟩ (.bool true)).setCell ⟨w.heap.size, 3, none⟩ (.bool true)).alloc (.cells #[.int .i64 5, .int .i64 0, .int .i64 0, .string ⟨#[]⟩, .int .i64 row, .int .i64 col, .bool true, .bool true, .int .i64 0, .int .i64 0, .bool false, .bool false, .int .i64 0, .slice none 0 0] 29)) = w2 at g3 gt be ⊢
  have e2 : w1.heap.size = w1.heap.size := rfl
  generalize w1.heap.size = Nt at gt lt0 ⊢
  generalize hN : w.heap.size = N0 at g3 lt0 ⊢
  have hN0 : w.heap.size ≤ N0 := Nat.le_of_eq hN
  have ct := cells_of_block gt
  have G3 := Lib.hid g3; have GT := Lib.hid gt; have BE := Lib.hid be
  clear g3 gt be e2
  refine (CM.out _).mono ?_
  rintro e w3 ⟨rfl, b3⟩
  have GT := Lib.hid ((b3.block _ (lt_of_block GT.out)).trans GT.out)
  have G3 := Lib.hid ((b3.block _ (lt_of_block G3.out)).trans G3.out)
  have BE := Lib.hid (BE.out.trans (b3.mono BE.out.size))
  clear b3 ct
  have ct := cells_of_block GT.out
  go_wp2_with fail
  refine (CP.out _).mono ?_
  rintro e w4 ⟨b4, xa, xl, xc, rfl, tx⟩
  have g0 := (b4.block _ (lt_of_block G3.out)).trans G3.out
  have gt := (b4.block _ (lt_of_block GT.out)).trans GT.out
  have be := BE.out.trans (b4.mono BE.out.size)
  have lt0' := lt_of_block g0
  have ltt := lt_of_block gt
  have c0 := cells_of_block g0
  have f0 := frees_of_block g0
  have g1 := block_set (i := 2) g0 (.bool false)
  have g2 := block_set (i := 3) g1 (.bool false)
  have hne : Nt ≠ N0 := by omega
  have gt := (Below.heap_setCell (w4.setCell ⟨N0, 2, none⟩ (.bool false)) ⟨N0, 3, none⟩ (.bool false) Nt (by simpa using hne)).trans ((Below.heap_setCell w4 ⟨N0, 2, none⟩ (.bool false) Nt (by simpa using hne)).trans gt)
  have hsz : ((w4.setCell ⟨N0, 2, none⟩ (.bool false)).setCell ⟨N0, 3, none⟩ (.bool false)).heap.size = w4.heap.size := by simp [World.setCell]
  have gx := heap_alloc_new ((w4.setCell ⟨N0, 2, none⟩ (.bool false)).setCell ⟨N0, 3, none⟩ (.bool false)) (.cells #[.int .i64 5, .int .i64 0, .int .i64 0, .string ⟨#[]⟩, .int .i64 row, .int .i64 col, .bool true, .bool true, .int .i64 0, .int .i64 0, .bool false, .bool false, .int .i64 0, .slice xa xl xc] 29)
  rw [hsz] at gx
  have hsz2 : (((w4.setCell ⟨N0, 2, none⟩ (.bool false)).setCell ⟨N0, 3, none⟩ (.bool false)).alloc (.cells #[.int .i64 5, .int .i64 0, .int .i64 0, .string ⟨#[]⟩, .int .i64 row, .int .i64 col, .bool true, .bool true, .int .i64 0, .int .i64 0, .bool false, .bool false, .int .i64 0, .slice xa xl xc] 29)).heap.size = w4.heap.size + 1 := by simp [World.setCell]
  have g3 := (Below.heap_alloc ((w4.setCell ⟨N0, 2, none⟩ (.bool false)).setCell ⟨N0, 3, none⟩ (.bool false)) (.cells #[.int .i64 5, .int .i64 0, .int .i64 0, .string ⟨#[]⟩, .int .i64 row, .int .i64 col, .bool true, .bool true, .int .i64 0, .int .i64 0, .bool false, .bool false, .int .i64 0, .slice xa xl xc] 29) _ (lt_of_block g2)).trans g2
  have gt := (Below.heap_alloc ((w4.setCell ⟨N0, 2, none⟩ (.bool false)).setCell ⟨N0, 3, none⟩ (.bool false)) (.cells #[.int .i64 5, .int .i64 0, .int .i64 0, .string ⟨#[]⟩, .int .i64 row, .int .i64 col, .bool true, .bool true, .int .i64 0, .int .i64 0, .bool false, .bool false, .int .i64 0, .slice xa xl xc] 29) _ (lt_of_block gt)).trans gt
  have g3 := (Below.heap_alloc (((w4.setCell ⟨N0, 2, none⟩ (.bool false)).setCell ⟨N0, 3, none⟩ (.bool false)).alloc (.cells #[.int .i64 5, .int .i64 0, .int .i64 0, .string ⟨#[]⟩, .int .i64 row, .int .i64 col, .bool true, .bool true, .int .i64 0, .int .i64 0, .bool false, .bool false, .int .i64 0, .slice xa xl xc] 29)) (.cells #[.int .i64 5, .int .i64 0, .int .i64 0, .string ⟨#[]⟩, .int .i64 row, .int .i64 col, .bool false, .bool false, .int .i64 0, .int .i64 0, .bool false, .bool false, .int .i64 0, .slice none 0 0] 29) _ (lt_of_block g3)).trans g3
  have gt := (Below.heap_alloc (((w4.setCell ⟨N0, 2, none⟩ (.bool false)).setCell ⟨N0, 3, none⟩ (.bool false)).alloc (.cells #[.int .i64 5, .int .i64 0, .int .i64 0, .string ⟨#[]⟩, .int .i64 row, .int .i64 col, .bool true, .bool true, .int .i64 0, .int .i64 0, .bool false, .bool false, .int .i64 0, .slice xa xl xc] 29)) (.cells #[.int .i64 5, .int .i64 0, .int .i64 0, .string ⟨#[]⟩, .int .i64 row, .int .i64 col, .bool false, .bool false, .int .i64 0, .int .i64 0, .bool false, .bool false, .int .i64 0, .slice none 0 0] 29) _ (lt_of_block gt)).trans gt
  have gx := (Below.heap_alloc (((w4.setCell ⟨N0, 2, none⟩ (.bool false)).setCell ⟨N0, 3, none⟩ (.bool false)).alloc (.cells #[.int .i64 5, .int .i64 0, .int .i64 0, .string ⟨#[]⟩, .int .i64 row, .int .i64 col, .bool true, .bool true, .int .i64 0, .int .i64 0, .bool false, .bool false, .int .i64 0, .slice xa xl xc] 29)) (.cells #[.int .i64 5, .int .i64 0, .int .i64 0, .string ⟨#[]⟩, .int .i64 row, .int .i64 col, .bool false, .bool false, .int .i64 0, .int .i64 0, .bool false, .bool false, .int .i64 0, .slice none 0 0] 29) _ (lt_of_block gx)).trans gx
  have gu := heap_alloc_new (((w4.setCell ⟨N0, 2, none⟩ (.bool false)).setCell ⟨N0, 3, none⟩ (.bool false)).alloc (.cells #[.int .i64 5, .int .i64 0, .int .i64 0, .string ⟨#[]⟩, .int .i64 row, .int .i64 col, .bool true, .bool true, .int .i64 0, .int .i64 0, .bool false, .bool false, .int .i64 0, .slice xa xl xc] 29)) (.cells #[.int .i64 5, .int .i64 0, .int .i64 0, .string ⟨#[]⟩, .int .i64 row, .int .i64 col, .bool false, .bool false, .int .i64 0, .int .i64 0, .bool false, .bool false, .int .i64 0, .slice none 0 0] 29)
  rw [hsz2] at gu
  have hle := be.size
  have be := (((be.setCell (p := ⟨N0, 2, none⟩) hN0 (.bool false)).setCell (p := ⟨N0, 3, none⟩) hN0 (.bool false)).alloc (by rw [hsz]; exact hle) (.cells #[.int .i64 5, .int .i64 0, .int .i64 0, .string ⟨#[]⟩, .int .i64 row, .int .i64 col, .bool true, .bool true, .int .i64 0, .int .i64 0, .bool false, .bool false, .int .i64 0, .slice xa xl xc] 29)).alloc (by rw [hsz2]; omega) (.cells #[.int .i64 5, .int .i64 0, .int .i64 0, .string ⟨#[]⟩, .int .i64 row, .int .i64 col, .bool false, .bool false, .int .i64 0, .int .i64 0, .bool false, .bool false, .int .i64 0, .slice none 0 0] 29)
  have G3 := Lib.hid g3; have GT := Lib.hid gt; have BE := Lib.hid be; have GX := Lib.hid gx; have GU := Lib.hid gu; have TX := Lib.hid (leaf_any tx)
  clear g0 g1 g2 g3 gt gx gu be ct b4 tx hsz hsz2
  go_wp2_with fail
  clear c0 f0
  have g3 := G3.out; have gt := GT.out; have be := BE.out; have gx := GX.out; have gu := GU.out
  clear G3 GT BE GX GU
  generalize ((((w4.setCell ⟨N0, 2, none⟩ (.bool false)).setCell ⟨N0, 3, none⟩ (.bool false)).alloc (.cells #[.int .i64 5, .int .i64 0, .int .i64 0, .string ⟨#[]⟩, .int .i64 row, .int .i64 col, .bool true, .bool true, .int .i64 0, .int .i64 0, .bool false, .bool false, .int .i64 0, .slice xa xl xc] 29)).alloc (.cells #[.int .i64 5, .int .i64 0, .int .i64 0, .string ⟨#[]⟩, .int .i64 row, .int .i64 col, .bool false, .bool false, .int .i64 0, .int .i64 0, .bool false, .bool false, .int .i64 0, .slice none 0 0] 29)) = w5 at g3 gt gx gu be ⊢
  generalize w4.heap.size + 1 = Nu at gu ⊢
  generalize w4.heap.size = Nx at gx ⊢
  have G3 := Lib.hid g3; have GT := Lib.hid gt; have BE := Lib.hid be; have GX := Lib.hid gx
  clear g3 gt be gx gu
  refine (CU.out _).mono ?_
  rintro e w6 ⟨b6, ya, yl, yc, rfl, ty⟩
  have TY := Lib.hid (leaf_any ty)
  have GT := Lib.hid ((Below.heap_alloc w6 (.cells #[.int .i64 4, .int .i64 0, .int .i64 3, .string ⟨#[]⟩, .int .i64 0, .int .i64 0, .bool false, .bool false, .int .i64 0, .int .i64 0, .bool false, .bool false, .int .i64 0, .slice ya yl yc] 29) _ (Nat.lt_of_lt_of_le (lt_of_block GT.out) b6.size)).trans ((b6.block _ (lt_of_block GT.out)).trans GT.out))
  have GX := Lib.hid ((Below.heap_alloc w6 (.cells #[.int .i64 4, .int .i64 0, .int .i64 3, .string ⟨#[]⟩, .int .i64 0, .int .i64 0, .bool false, .bool false, .int .i64 0, .int .i64 0, .bool false, .bool false, .int .i64 0, .slice ya yl yc] 29) _ (Nat.lt_of_lt_of_le (lt_of_block GX.out) b6.size)).trans ((b6.block _ (lt_of_block GX.out)).trans GX.out))
  have G3 := Lib.hid ((Below.heap_alloc w6 (.cells #[.int .i64 4, .int .i64 0, .int .i64 3, .string ⟨#[]⟩, .int .i64 0, .int .i64 0, .bool false, .bool false, .int .i64 0, .int .i64 0, .bool false, .bool false, .int .i64 0, .slice ya yl yc] 29) _ (Nat.lt_of_lt_of_le (lt_of_block G3.out) b6.size)).trans ((b6.block _ (lt_of_block G3.out)).trans G3.out))
  have GY := Lib.hid (heap_alloc_new w6 (.cells #[.int .i64 4, .int .i64 0, .int .i64 3, .string ⟨#[]⟩, .int .i64 0, .int .i64 0, .bool false, .bool false, .int .i64 0, .int .i64 0, .bool false, .bool false, .int .i64 0, .slice ya yl yc] 29))
  have BE := Lib.hid ((BE.out.trans (b6.mono BE.out.size)).alloc (Nat.le_trans BE.out.size b6.size) (.cells #[.int .i64 4, .int .i64 0, .int .i64 3, .string ⟨#[]⟩, .int .i64 0, .int .i64 0, .bool false, .bool false, .int .i64 0, .int .i64 0, .bool false, .bool false, .int .i64 0, .slice ya yl yc] 29))
  have cx := cells_of_block GX.out
  have ct := cells_of_block GT.out
  clear b6 ty
  go_wp2_with fail
  refine (lawEq_yes (ptH ⟨row, col, true, true⟩) (ptH ⟨row, col, true, true⟩) .nil .nil ⟨rfl, rfl⟩ (w6.alloc (.cells #[.int .i64 4, .int .i64 0, .int .i64 3, .string ⟨#[]⟩, .int .i64 0, .int .i64 0, .bool false, .bool false, .int .i64 0, .int .i64 0, .bool false, .bool false, .int .i64 0, .slice ya yl yc] 29)) (w6.alloc (.cells #[.int .i64 4, .int .i64 0, .int .i64 3, .string ⟨#[]⟩, .int .i64 0, .int .i64 0, .bool false, .bool false, .int .i64 0, .int .i64 0, .bool false, .bool false, .int .i64 0, .slice ya yl yc] 29)).heap.size (w6.alloc (.cells #[.int .i64 4, .int .i64 0, .int .i64 3, .string ⟨#[]⟩, .int .i64 0, .int .i64 0, .bool false, .bool false, .int .i64 0, .int .i64 0, .bool false, .bool false, .int .i64 0, .slice ya yl yc] 29)).heap.size xa none xl xc 0 0 (Nat.le_refl _) (Nat.le_refl _) (TX.out _ _) (leafV (pt_ok ⟨h1, h2⟩))).mono ?_
  rintro e w7 ⟨rfl, b7⟩
  have gy := (b7.block _ (lt_of_block GY.out)).trans GY.out
  have g0 := (b7.block _ (lt_of_block G3.out)).trans G3.out
  have BE := Lib.hid (BE.out.trans (b7.mono BE.out.size))
  have cy := cells_of_block gy
  have c0 := cells_of_block g0
  have GY := Lib.hid gy
  clear g0 b7 cx ct GT GX G3 gy
  generalize w6.heap.size = Ny at GY cy ⊢
  by_cases k4a : 1099511627776 < dr
  · go_wp2
    go_ret
    first | exact ⟨rfl, BE.out⟩ | exact ⟨rfl, ext_drewN BE.out _⟩
  · by_cases k3a : dr < -1099511627776
    · go_wp2
      go_ret
      first | exact ⟨rfl, BE.out⟩ | exact ⟨rfl, ext_drewN BE.out _⟩
    · by_cases k2a : 1099511627776 < dc
      · go_wp2
        go_ret
        first | exact ⟨rfl, BE.out⟩ | exact ⟨rfl, ext_drewN BE.out _⟩
      · by_cases k1a : dc < -1099511627776
        · go_wp2
          go_ret
          first | exact ⟨rfl, BE.out⟩ | exact ⟨rfl, ext_drewN BE.out _⟩
        · by_cases k4b : row + dr < 0
          · go_wp2_with fail
            go_quiet (fail)
            go_wp2
            go_ret
            first | exact ⟨rfl, BE.out⟩ | exact ⟨rfl, ext_drewN BE.out _⟩
          · by_cases k3b : 65535 < row + dr
            · go_wp2_with fail
              go_quiet (fail)
              go_wp2
              go_ret
              first | exact ⟨rfl, BE.out⟩ | exact ⟨rfl, ext_drewN BE.out _⟩
            · by_cases k2b : col + dc < 0
              · go_wp2_with fail
                go_quiet (fail)
                go_wp2
                go_ret
                first | exact ⟨rfl, BE.out⟩ | exact ⟨rfl, ext_drewN BE.out _⟩
              · by_cases k1b : 701 < col + dc
                · go_wp2_with fail
                  go_quiet (fail)
                  go_wp2
                  go_ret
                  first | exact ⟨rfl, BE.out⟩ | exact ⟨rfl, ext_drewN BE.out _⟩
                · omega

set_option maxRecDepth 100000 in
set_option maxHeartbeats 4000000 in
theorem pinned_in (w : World) (row col dr dc : Int) (pr pc : Bool) (h1 : I64 row) (h2 : I64 col) (hp : placeB ⟨row, col, true, true⟩ = true) (h3 : I64 dr) (h4 : I64 dc) (a : 0 ≤ row + dr ∧ row + dr < 65536) (c : 0 ≤ col + dc ∧ col + dc < 702) : Calls Try.prog 11 #[.agg #[.int .i64 row, .int .i64 col, .bool pr, .bool pc], .int .i64 dr, .int .i64 dc] w (TruePost w) := by
  have hp' : placeB ⟨row, col, false, false⟩ = true := hp
  have pq := place_on hp
  simp only at pq
  have hy : mvH ⟨1, dr, dc, 0, 0⟩ (ptH ⟨row, col, false, false⟩) = ptH ⟨row + dr, col + dc, false, false⟩ := by
    have m1 := moved_on pq.1.1 pq.1.2 a
    have m2 := moved_on pq.2.1 pq.2.2 c
    rw [mv_pt]
    simp only [pasteR, Bool.false_eq_true, if_false, m1, m2]
    rw [if_pos]
    simp [placeB]; omega
  have cM : ∀ W, Calls Try.prog 23 #[.agg #[.int .i64 5, .int .i64 0, .int .i64 0, .string ⟨#[]⟩, .int .i64 row, .int .i64 col, .bool true, .bool true, .int .i64 0, .int .i64 0, .bool false, .bool false, .int .i64 0, .slice none 0 0]] W (fun e w' => e = .returned (.int .i64 0) ∧ Below W.heap.size W w') :=
    fun W => (may_any (ptH ⟨row, col, true, true⟩) .nil W W.heap.size none 0 0 (Nat.le_refl _) (leafV (pt_ok ⟨h1, h2⟩))).mono fun e w' q => ⟨q.1.trans (by rw [may_pt, hp]; rfl), q.2⟩
  have CM := Lib.hid cM
  clear cM
  have cP : ∀ W, Calls Try.prog 37 #[.agg #[.int .i64 5, .int .i64 0, .int .i64 0, .string ⟨#[]⟩, .int .i64 row, .int .i64 col, .bool true, .bool true, .int .i64 0, .int .i64 0, .bool false, .bool false, .int .i64 0, .slice none 0 0], .int .i64 dr, .int .i64 dc] W (fun e w' => Below W.heap.size W w' ∧ ∃ xa xl xc, e = .returned (.tuple #[.agg #[.int .i64 5, .int .i64 0, .int .i64 0, .string ⟨#[]⟩, .int .i64 row, .int .i64 col, .bool true, .bool true, .int .i64 0, .int .i64 0, .bool false, .bool false, .int .i64 0, .slice xa xl xc], .int .i64 0]) ∧ TreeV w' w'.heap.size (ptH ⟨row, col, true, true⟩) .nil xa xl) :=
    fun W => (shPaste_any (ptH ⟨row, col, true, true⟩) .nil dr dc W W.heap.size none 0 0 (Nat.le_refl _) (leafV (pt_ok ⟨h1, h2⟩)) h3 h4).mono fun e w' q => (q.tree (pt_ok ⟨h1, h2⟩)).good (h' := ptH ⟨row, col, true, true⟩) (ks' := .nil) (err_pt hp rfl) (by rw [mv_pt]; simp only [pasteR, if_true]; rw [hp]; rfl) rfl
  have cU : ∀ W, Calls Try.prog 37 #[.agg #[.int .i64 5, .int .i64 0, .int .i64 0, .string ⟨#[]⟩, .int .i64 row, .int .i64 col, .bool false, .bool false, .int .i64 0, .int .i64 0, .bool false, .bool false, .int .i64 0, .slice none 0 0], .int .i64 dr, .int .i64 dc] W (fun e w' => Below W.heap.size W w' ∧ ∃ xa xl xc, e = .returned (.tuple #[.agg #[.int .i64 5, .int .i64 0, .int .i64 0, .string ⟨#[]⟩, .int .i64 (row + dr), .int .i64 (col + dc), .bool false, .bool false, .int .i64 0, .int .i64 0, .bool false, .bool false, .int .i64 0, .slice xa xl xc], .int .i64 0]) ∧ TreeV w' w'.heap.size (ptH ⟨row + dr, col + dc, false, false⟩) .nil xa xl) :=
    fun W => (shPaste_any (ptH ⟨row, col, false, false⟩) .nil dr dc W W.heap.size none 0 0 (Nat.le_refl _) (leafV (pt_ok ⟨h1, h2⟩)) h3 h4).mono fun e w' q => (q.tree (pt_ok ⟨h1, h2⟩)).good (h' := (ptH ⟨row + dr, col + dc, false, false⟩)) (ks' := .nil) (err_pt hp' rfl) hy rfl
  have CP := Lib.hid cP; have CU := Lib.hid cU
  clear cP cU
  have q0 := ext_alloc (Below.refl w.heap.size w) (.cells #[.int .i64 row, .int .i64 col, .bool pr, .bool pc] 26)
  have BB := Lib.hid q0
  have H0 := Lib.hid (heap_alloc_new w (.cells #[.int .i64 row, .int .i64 col, .bool pr, .bool pc] 26))
  clear q0
  go_enter Try.func11, Try.ntmps11
  go_wp2_with fail
  refine (lawBegun_any _).mono ?_
  rintro e w1 ⟨rfl, b1⟩
  have h0 := (b1.block _ (lt_of_block H0.out)).trans H0.out
  have lt0 := lt_of_block h0
  have g1 := block_set (i := 2) h0 (.bool true)
  have g2 := block_set (i := 3) g1 (.bool true)
  have c0 := cells_of_block h0
  have f0 := frees_of_block h0
  have hsz : ((w1.setCell ⟨w.heap.size, 2, none⟩ (.bool true)).setCell ⟨w.heap.size, 3, none⟩ (.bool true)).heap.size = w1.heap.size := by simp [World.setCell]
  have g3 := (Below.heap_alloc _ (.cells #[.int .i64 5, .int .i64 0, .int .i64 0, .string ⟨#[]⟩, .int .i64 row, .int .i64 col, .bool true, .bool true, .int .i64 0, .int .i64 0, .bool false, .bool false, .int .i64 0, .slice none 0 0] 29) _ (lt_of_block g2)).trans g2
  have gt := heap_alloc_new ((w1.setCell ⟨w.heap.size, 2, none⟩ (.bool true)).setCell ⟨w.heap.size, 3, none⟩ (.bool true)) (.cells #[.int .i64 5, .int .i64 0, .int .i64 0, .string ⟨#[]⟩, .int .i64 row, .int .i64 col, .bool true, .bool true, .int .i64 0, .int .i64 0, .bool false, .bool false, .int .i64 0, .slice none 0 0] 29)
  rw [hsz] at gt
  have be : Below w.heap.size w (((w1.setCell ⟨w.heap.size, 2, none⟩ (.bool true)).setCell ⟨w.heap.size, 3, none⟩ (.bool true)).alloc (.cells #[.int .i64 5, .int .i64 0, .int .i64 0, .string ⟨#[]⟩, .int .i64 row, .int .i64 col, .bool true, .bool true, .int .i64 0, .int .i64 0, .bool false, .bool false, .int .i64 0, .slice none 0 0] 29)) := (((BB.out.trans (b1.mono BB.out.size)).setCell (p := ⟨w.heap.size, 2, none⟩) (Nat.le_refl _) _).setCell (p := ⟨w.heap.size, 3, none⟩) (Nat.le_refl _) _).alloc (by rw [hsz]; omega) _
  have G3 := Lib.hid g3; have GT := Lib.hid gt; have BE := Lib.hid be
  clear b1 h0 g1 g2 g3 gt be BB H0 hsz
  go_wp2_with fail
  clear c0 f0
  have g3 := G3.out; have gt := GT.out; have be := BE.out
  clear G3 GT BE
  generalize (((w1.setCell ⟨w.heap.size, 2, none⟩ (.bool true)).setCell ⟨w.heap.size, 3, none⟩ (.bool true)).alloc (.cells #[.int .i64 5, .int .i64 0, .int .i64 0, .string ⟨#[]⟩, .int .i64 row, .int .i64 col, .bool true, .bool true, .int .i64 0, .int .i64 0, .bool false, .bool false, .int .i64 0, .slice none 0 0] 29)) = w2 at g3 gt be ⊢
  have e2 : w1.heap.size = w1.heap.size := rfl
  generalize w1.heap.size = Nt at gt lt0 ⊢
  generalize hN : w.heap.size = N0 at g3 lt0 ⊢
  have hN0 : w.heap.size ≤ N0 := Nat.le_of_eq hN
  have ct := cells_of_block gt
  have G3 := Lib.hid g3; have GT := Lib.hid gt; have BE := Lib.hid be
  clear g3 gt be e2
  refine (CM.out _).mono ?_
  rintro e w3 ⟨rfl, b3⟩
  have GT := Lib.hid ((b3.block _ (lt_of_block GT.out)).trans GT.out)
  have G3 := Lib.hid ((b3.block _ (lt_of_block G3.out)).trans G3.out)
  have BE := Lib.hid (BE.out.trans (b3.mono BE.out.size))
  clear b3 ct
  have ct := cells_of_block GT.out
  go_wp2_with fail
  refine (CP.out _).mono ?_
  rintro e w4 ⟨b4, xa, xl, xc, rfl, tx⟩
  have g0 := (b4.block _ (lt_of_block G3.out)).trans G3.out
  have gt := (b4.block _ (lt_of_block GT.out)).trans GT.out
  have be := BE.out.trans (b4.mono BE.out.size)
  have lt0' := lt_of_block g0
  have ltt := lt_of_block gt
  have c0 := cells_of_block g0
  have f0 := frees_of_block g0
  have g1 := block_set (i := 2) g0 (.bool false)
  have g2 := block_set (i := 3) g1 (.bool false)
  have hne : Nt ≠ N0 := by omega
  have gt := (Below.heap_setCell (w4.setCell ⟨N0, 2, none⟩ (.bool false)) ⟨N0, 3, none⟩ (.bool false) Nt (by simpa using hne)).trans ((Below.heap_setCell w4 ⟨N0, 2, none⟩ (.bool false) Nt (by simpa using hne)).trans gt)
  have hsz : ((w4.setCell ⟨N0, 2, none⟩ (.bool false)).setCell ⟨N0, 3, none⟩ (.bool false)).heap.size = w4.heap.size := by simp [World.setCell]
  have gx := heap_alloc_new ((w4.setCell ⟨N0, 2, none⟩ (.bool false)).setCell ⟨N0, 3, none⟩ (.bool false)) (.cells #[.int .i64 5, .int .i64 0, .int .i64 0, .string ⟨#[]⟩, .int .i64 row, .int .i64 col, .bool true, .bool true, .int .i64 0, .int .i64 0, .bool false, .bool false, .int .i64 0, .slice xa xl xc] 29)
  rw [hsz] at gx
  have hsz2 : (((w4.setCell ⟨N0, 2, none⟩ (.bool false)).setCell ⟨N0, 3, none⟩ (.bool false)).alloc (.cells #[.int .i64 5, .int .i64 0, .int .i64 0, .string ⟨#[]⟩, .int .i64 row, .int .i64 col, .bool true, .bool true, .int .i64 0, .int .i64 0, .bool false, .bool false, .int .i64 0, .slice xa xl xc] 29)).heap.size = w4.heap.size + 1 := by simp [World.setCell]
  have g3 := (Below.heap_alloc ((w4.setCell ⟨N0, 2, none⟩ (.bool false)).setCell ⟨N0, 3, none⟩ (.bool false)) (.cells #[.int .i64 5, .int .i64 0, .int .i64 0, .string ⟨#[]⟩, .int .i64 row, .int .i64 col, .bool true, .bool true, .int .i64 0, .int .i64 0, .bool false, .bool false, .int .i64 0, .slice xa xl xc] 29) _ (lt_of_block g2)).trans g2
  have gt := (Below.heap_alloc ((w4.setCell ⟨N0, 2, none⟩ (.bool false)).setCell ⟨N0, 3, none⟩ (.bool false)) (.cells #[.int .i64 5, .int .i64 0, .int .i64 0, .string ⟨#[]⟩, .int .i64 row, .int .i64 col, .bool true, .bool true, .int .i64 0, .int .i64 0, .bool false, .bool false, .int .i64 0, .slice xa xl xc] 29) _ (lt_of_block gt)).trans gt
  have g3 := (Below.heap_alloc (((w4.setCell ⟨N0, 2, none⟩ (.bool false)).setCell ⟨N0, 3, none⟩ (.bool false)).alloc (.cells #[.int .i64 5, .int .i64 0, .int .i64 0, .string ⟨#[]⟩, .int .i64 row, .int .i64 col, .bool true, .bool true, .int .i64 0, .int .i64 0, .bool false, .bool false, .int .i64 0, .slice xa xl xc] 29)) (.cells #[.int .i64 5, .int .i64 0, .int .i64 0, .string ⟨#[]⟩, .int .i64 row, .int .i64 col, .bool false, .bool false, .int .i64 0, .int .i64 0, .bool false, .bool false, .int .i64 0, .slice none 0 0] 29) _ (lt_of_block g3)).trans g3
  have gt := (Below.heap_alloc (((w4.setCell ⟨N0, 2, none⟩ (.bool false)).setCell ⟨N0, 3, none⟩ (.bool false)).alloc (.cells #[.int .i64 5, .int .i64 0, .int .i64 0, .string ⟨#[]⟩, .int .i64 row, .int .i64 col, .bool true, .bool true, .int .i64 0, .int .i64 0, .bool false, .bool false, .int .i64 0, .slice xa xl xc] 29)) (.cells #[.int .i64 5, .int .i64 0, .int .i64 0, .string ⟨#[]⟩, .int .i64 row, .int .i64 col, .bool false, .bool false, .int .i64 0, .int .i64 0, .bool false, .bool false, .int .i64 0, .slice none 0 0] 29) _ (lt_of_block gt)).trans gt
  have gx := (Below.heap_alloc (((w4.setCell ⟨N0, 2, none⟩ (.bool false)).setCell ⟨N0, 3, none⟩ (.bool false)).alloc (.cells #[.int .i64 5, .int .i64 0, .int .i64 0, .string ⟨#[]⟩, .int .i64 row, .int .i64 col, .bool true, .bool true, .int .i64 0, .int .i64 0, .bool false, .bool false, .int .i64 0, .slice xa xl xc] 29)) (.cells #[.int .i64 5, .int .i64 0, .int .i64 0, .string ⟨#[]⟩, .int .i64 row, .int .i64 col, .bool false, .bool false, .int .i64 0, .int .i64 0, .bool false, .bool false, .int .i64 0, .slice none 0 0] 29) _ (lt_of_block gx)).trans gx
  have gu := heap_alloc_new (((w4.setCell ⟨N0, 2, none⟩ (.bool false)).setCell ⟨N0, 3, none⟩ (.bool false)).alloc (.cells #[.int .i64 5, .int .i64 0, .int .i64 0, .string ⟨#[]⟩, .int .i64 row, .int .i64 col, .bool true, .bool true, .int .i64 0, .int .i64 0, .bool false, .bool false, .int .i64 0, .slice xa xl xc] 29)) (.cells #[.int .i64 5, .int .i64 0, .int .i64 0, .string ⟨#[]⟩, .int .i64 row, .int .i64 col, .bool false, .bool false, .int .i64 0, .int .i64 0, .bool false, .bool false, .int .i64 0, .slice none 0 0] 29)
  rw [hsz2] at gu
  have hle := be.size
  have be := (((be.setCell (p := ⟨N0, 2, none⟩) hN0 (.bool false)).setCell (p := ⟨N0, 3, none⟩) hN0 (.bool false)).alloc (by rw [hsz]; exact hle) (.cells #[.int .i64 5, .int .i64 0, .int .i64 0, .string ⟨#[]⟩, .int .i64 row, .int .i64 col, .bool true, .bool true, .int .i64 0, .int .i64 0, .bool false, .bool false, .int .i64 0, .slice xa xl xc] 29)).alloc (by rw [hsz2]; omega) (.cells #[.int .i64 5, .int .i64 0, .int .i64 0, .string ⟨#[]⟩, .int .i64 row, .int .i64 col, .bool false, .bool false, .int .i64 0, .int .i64 0, .bool false, .bool false, .int .i64 0, .slice none 0 0] 29)
  have G3 := Lib.hid g3; have GT := Lib.hid gt; have BE := Lib.hid be; have GX := Lib.hid gx; have GU := Lib.hid gu; have TX := Lib.hid (leaf_any tx)
  clear g0 g1 g2 g3 gt gx gu be ct b4 tx hsz hsz2
  go_wp2_with fail
  clear c0 f0
  have g3 := G3.out; have gt := GT.out; have be := BE.out; have gx := GX.out; have gu := GU.out
  clear G3 GT BE GX GU
  generalize ((((w4.setCell ⟨N0, 2, none⟩ (.bool false)).setCell ⟨N0, 3, none⟩ (.bool false)).alloc (.cells #[.int .i64 5, .int .i64 0, .int .i64 0, .string ⟨#[]⟩, .int .i64 row, .int .i64 col, .bool true, .bool true, .int .i64 0, .int .i64 0, .bool false, .bool false, .int .i64 0, .slice xa xl xc] 29)).alloc (.cells #[.int .i64 5, .int .i64 0, .int .i64 0, .string ⟨#[]⟩, .int .i64 row, .int .i64 col, .bool false, .bool false, .int .i64 0, .int .i64 0, .bool false, .bool false, .int .i64 0, .slice none 0 0] 29)) = w5 at g3 gt gx gu be ⊢
  generalize w4.heap.size + 1 = Nu at gu ⊢
  generalize w4.heap.size = Nx at gx ⊢
  have G3 := Lib.hid g3; have GT := Lib.hid gt; have BE := Lib.hid be; have GX := Lib.hid gx
  clear g3 gt be gx gu
  refine (CU.out _).mono ?_
  rintro e w6 ⟨b6, ya, yl, yc, rfl, ty⟩
  have TY := Lib.hid (leaf_any ty)
  have GT := Lib.hid ((Below.heap_alloc w6 (.cells #[.int .i64 5, .int .i64 0, .int .i64 0, .string ⟨#[]⟩, .int .i64 (row + dr), .int .i64 (col + dc), .bool false, .bool false, .int .i64 0, .int .i64 0, .bool false, .bool false, .int .i64 0, .slice ya yl yc] 29) _ (Nat.lt_of_lt_of_le (lt_of_block GT.out) b6.size)).trans ((b6.block _ (lt_of_block GT.out)).trans GT.out))
  have GX := Lib.hid ((Below.heap_alloc w6 (.cells #[.int .i64 5, .int .i64 0, .int .i64 0, .string ⟨#[]⟩, .int .i64 (row + dr), .int .i64 (col + dc), .bool false, .bool false, .int .i64 0, .int .i64 0, .bool false, .bool false, .int .i64 0, .slice ya yl yc] 29) _ (Nat.lt_of_lt_of_le (lt_of_block GX.out) b6.size)).trans ((b6.block _ (lt_of_block GX.out)).trans GX.out))
  have G3 := Lib.hid ((Below.heap_alloc w6 (.cells #[.int .i64 5, .int .i64 0, .int .i64 0, .string ⟨#[]⟩, .int .i64 (row + dr), .int .i64 (col + dc), .bool false, .bool false, .int .i64 0, .int .i64 0, .bool false, .bool false, .int .i64 0, .slice ya yl yc] 29) _ (Nat.lt_of_lt_of_le (lt_of_block G3.out) b6.size)).trans ((b6.block _ (lt_of_block G3.out)).trans G3.out))
  have GY := Lib.hid (heap_alloc_new w6 (.cells #[.int .i64 5, .int .i64 0, .int .i64 0, .string ⟨#[]⟩, .int .i64 (row + dr), .int .i64 (col + dc), .bool false, .bool false, .int .i64 0, .int .i64 0, .bool false, .bool false, .int .i64 0, .slice ya yl yc] 29))
  have BE := Lib.hid ((BE.out.trans (b6.mono BE.out.size)).alloc (Nat.le_trans BE.out.size b6.size) (.cells #[.int .i64 5, .int .i64 0, .int .i64 0, .string ⟨#[]⟩, .int .i64 (row + dr), .int .i64 (col + dc), .bool false, .bool false, .int .i64 0, .int .i64 0, .bool false, .bool false, .int .i64 0, .slice ya yl yc] 29))
  have cx := cells_of_block GX.out
  have ct := cells_of_block GT.out
  clear b6 ty
  go_wp2_with fail
  refine (lawEq_yes (ptH ⟨row, col, true, true⟩) (ptH ⟨row, col, true, true⟩) .nil .nil ⟨rfl, rfl⟩ (w6.alloc (.cells #[.int .i64 5, .int .i64 0, .int .i64 0, .string ⟨#[]⟩, .int .i64 (row + dr), .int .i64 (col + dc), .bool false, .bool false, .int .i64 0, .int .i64 0, .bool false, .bool false, .int .i64 0, .slice ya yl yc] 29)) (w6.alloc (.cells #[.int .i64 5, .int .i64 0, .int .i64 0, .string ⟨#[]⟩, .int .i64 (row + dr), .int .i64 (col + dc), .bool false, .bool false, .int .i64 0, .int .i64 0, .bool false, .bool false, .int .i64 0, .slice ya yl yc] 29)).heap.size (w6.alloc (.cells #[.int .i64 5, .int .i64 0, .int .i64 0, .string ⟨#[]⟩, .int .i64 (row + dr), .int .i64 (col + dc), .bool false, .bool false, .int .i64 0, .int .i64 0, .bool false, .bool false, .int .i64 0, .slice ya yl yc] 29)).heap.size xa none xl xc 0 0 (Nat.le_refl _) (Nat.le_refl _) (TX.out _ _) (leafV (pt_ok ⟨h1, h2⟩))).mono ?_
  rintro e w7 ⟨rfl, b7⟩
  have gy := (b7.block _ (lt_of_block GY.out)).trans GY.out
  have g0 := (b7.block _ (lt_of_block G3.out)).trans G3.out
  have BE := Lib.hid (BE.out.trans (b7.mono BE.out.size))
  have cy := cells_of_block gy
  have c0 := cells_of_block g0
  have GY := Lib.hid gy
  clear g0 b7 cx ct GT GX G3 gy
  generalize w6.heap.size = Ny at GY cy ⊢
  have k1 : ¬ 1099511627776 < dr := by omega
  have k2 : ¬ dr < -1099511627776 := by omega
  have k3 : ¬ 1099511627776 < dc := by omega
  have k4 : ¬ dc < -1099511627776 := by omega
  have hst : ∀ W, Below w7.heap.size w7 W → ((W.cell? ⟨Ny, 0, none⟩ = some (.int .i64 5) ∧ W.cell? ⟨Ny, 1, none⟩ = some (.int .i64 0) ∧ W.cell? ⟨Ny, 2, none⟩ = some (.int .i64 0) ∧ W.cell? ⟨Ny, 3, none⟩ = some (.string ⟨#[]⟩) ∧ W.cell? ⟨Ny, 4, none⟩ = some (.int .i64 (row + dr)) ∧ W.cell? ⟨Ny, 5, none⟩ = some (.int .i64 (col + dc)) ∧ W.cell? ⟨Ny, 6, none⟩ = some (.bool false) ∧ W.cell? ⟨Ny, 7, none⟩ = some (.bool false) ∧ W.cell? ⟨Ny, 8, none⟩ = some (.int .i64 0) ∧ W.cell? ⟨Ny, 9, none⟩ = some (.int .i64 0) ∧ W.cell? ⟨Ny, 10, none⟩ = some (.bool false) ∧ W.cell? ⟨Ny, 11, none⟩ = some (.bool false) ∧ W.cell? ⟨Ny, 12, none⟩ = some (.int .i64 0) ∧ W.cell? ⟨Ny, 13, none⟩ = some (.slice ya yl yc)) ∧ Below w7.heap.size w7 W) := fun W b => by
    refine ⟨?_, b⟩
    have k := cells_of_block ((b.block _ (lt_of_block GY.out)).trans GY.out)
    simp [k]
  have HST := Lib.hid hst
  have cE : ∀ W, ((W.cell? ⟨Ny, 0, none⟩ = some (.int .i64 5) ∧ W.cell? ⟨Ny, 1, none⟩ = some (.int .i64 0) ∧ W.cell? ⟨Ny, 2, none⟩ = some (.int .i64 0) ∧ W.cell? ⟨Ny, 3, none⟩ = some (.string ⟨#[]⟩) ∧ W.cell? ⟨Ny, 4, none⟩ = some (.int .i64 (row + dr)) ∧ W.cell? ⟨Ny, 5, none⟩ = some (.int .i64 (col + dc)) ∧ W.cell? ⟨Ny, 6, none⟩ = some (.bool false) ∧ W.cell? ⟨Ny, 7, none⟩ = some (.bool false) ∧ W.cell? ⟨Ny, 8, none⟩ = some (.int .i64 0) ∧ W.cell? ⟨Ny, 9, none⟩ = some (.int .i64 0) ∧ W.cell? ⟨Ny, 10, none⟩ = some (.bool false) ∧ W.cell? ⟨Ny, 11, none⟩ = some (.bool false) ∧ W.cell? ⟨Ny, 12, none⟩ = some (.int .i64 0) ∧ W.cell? ⟨Ny, 13, none⟩ = some (.slice ya yl yc)) ∧ Below w7.heap.size w7 W) → Calls Try.prog 34 #[.agg #[.int .i64 5, .int .i64 0, .int .i64 0, .string ⟨#[]⟩, .int .i64 (row + dr), .int .i64 (col + dc), .bool false, .bool false, .int .i64 0, .int .i64 0, .bool false, .bool false, .int .i64 0, .slice ya yl yc], .agg #[.int .i64 5, .int .i64 0, .int .i64 0, .string ⟨#[]⟩, .int .i64 (row + dr), .int .i64 (col + dc), .bool false, .bool false, .int .i64 0, .int .i64 0, .bool false, .bool false, .int .i64 0, .slice none 0 0]] W (fun e w' => e = .returned (.bool true) ∧ ((w'.cell? ⟨Ny, 0, none⟩ = some (.int .i64 5) ∧ w'.cell? ⟨Ny, 1, none⟩ = some (.int .i64 0) ∧ w'.cell? ⟨Ny, 2, none⟩ = some (.int .i64 0) ∧ w'.cell? ⟨Ny, 3, none⟩ = some (.string ⟨#[]⟩) ∧ w'.cell? ⟨Ny, 4, none⟩ = some (.int .i64 (row + dr)) ∧ w'.cell? ⟨Ny, 5, none⟩ = some (.int .i64 (col + dc)) ∧ w'.cell? ⟨Ny, 6, none⟩ = some (.bool false) ∧ w'.cell? ⟨Ny, 7, none⟩ = some (.bool false) ∧ w'.cell? ⟨Ny, 8, none⟩ = some (.int .i64 0) ∧ w'.cell? ⟨Ny, 9, none⟩ = some (.int .i64 0) ∧ w'.cell? ⟨Ny, 10, none⟩ = some (.bool false) ∧ w'.cell? ⟨Ny, 11, none⟩ = some (.bool false) ∧ w'.cell? ⟨Ny, 12, none⟩ = some (.int .i64 0) ∧ w'.cell? ⟨Ny, 13, none⟩ = some (.slice ya yl yc)) ∧ Below w7.heap.size w7 w')) :=
    fun W h => (lawEq_yes (ptH ⟨row + dr, col + dc, false, false⟩) (ptH ⟨row + dr, col + dc, false, false⟩) .nil .nil ⟨rfl, rfl⟩ W W.heap.size W.heap.size ya none yl yc 0 0 (Nat.le_refl _) (Nat.le_refl _) (TY.out _ _) (leafV (TY.out W W.heap.size).ok)).mono fun e w' q => ⟨q.1, hst _ (h.2.trans (q.2.mono h.2.size))⟩
  have cRF : ∀ W, ((W.cell? ⟨Ny, 0, none⟩ = some (.int .i64 5) ∧ W.cell? ⟨Ny, 1, none⟩ = some (.int .i64 0) ∧ W.cell? ⟨Ny, 2, none⟩ = some (.int .i64 0) ∧ W.cell? ⟨Ny, 3, none⟩ = some (.string ⟨#[]⟩) ∧ W.cell? ⟨Ny, 4, none⟩ = some (.int .i64 (row + dr)) ∧ W.cell? ⟨Ny, 5, none⟩ = some (.int .i64 (col + dc)) ∧ W.cell? ⟨Ny, 6, none⟩ = some (.bool false) ∧ W.cell? ⟨Ny, 7, none⟩ = some (.bool false) ∧ W.cell? ⟨Ny, 8, none⟩ = some (.int .i64 0) ∧ W.cell? ⟨Ny, 9, none⟩ = some (.int .i64 0) ∧ W.cell? ⟨Ny, 10, none⟩ = some (.bool false) ∧ W.cell? ⟨Ny, 11, none⟩ = some (.bool false) ∧ W.cell? ⟨Ny, 12, none⟩ = some (.int .i64 0) ∧ W.cell? ⟨Ny, 13, none⟩ = some (.slice ya yl yc)) ∧ Below w7.heap.size w7 W) → Calls Try.prog 41 #[.int .i64 (row + dr), .int .i64 (col + dc)] W (fun e w' => e = .returned (.agg #[.int .i64 5, .int .i64 0, .int .i64 0, .string ⟨#[]⟩, .int .i64 (row + dr), .int .i64 (col + dc), .bool false, .bool false, .int .i64 0, .int .i64 0, .bool false, .bool false, .int .i64 0, .slice none 0 0]) ∧ ((w'.cell? ⟨Ny, 0, none⟩ = some (.int .i64 5) ∧ w'.cell? ⟨Ny, 1, none⟩ = some (.int .i64 0) ∧ w'.cell? ⟨Ny, 2, none⟩ = some (.int .i64 0) ∧ w'.cell? ⟨Ny, 3, none⟩ = some (.string ⟨#[]⟩) ∧ w'.cell? ⟨Ny, 4, none⟩ = some (.int .i64 (row + dr)) ∧ w'.cell? ⟨Ny, 5, none⟩ = some (.int .i64 (col + dc)) ∧ w'.cell? ⟨Ny, 6, none⟩ = some (.bool false) ∧ w'.cell? ⟨Ny, 7, none⟩ = some (.bool false) ∧ w'.cell? ⟨Ny, 8, none⟩ = some (.int .i64 0) ∧ w'.cell? ⟨Ny, 9, none⟩ = some (.int .i64 0) ∧ w'.cell? ⟨Ny, 10, none⟩ = some (.bool false) ∧ w'.cell? ⟨Ny, 11, none⟩ = some (.bool false) ∧ w'.cell? ⟨Ny, 12, none⟩ = some (.int .i64 0) ∧ w'.cell? ⟨Ny, 13, none⟩ = some (.slice ya yl yc)) ∧ Below w7.heap.size w7 w')) :=
    fun W h => (lawRef_any W (row + dr) (col + dc)).mono fun e w' q => ⟨q.1, hst _ (h.2.trans (q.2.mono h.2.size))⟩
  have CE := Lib.hid cE; have CRF := Lib.hid cRF
  clear cE cRF hst
  go_wp2_with fail
  go_quiet (fail)
  go_wp2_with fail
  have hd0 := HST.out _ (ext_drewN (Below.refl _ w7) nq)
  have hd1 := HST.out _ (ext_drewN (Below.refl _ w7) (nq + 1))
  have hd2 := HST.out _ ((ext_drewN (Below.refl _ w7) nq).drew)
  go_region_held3 (fun W => ((W.cell? ⟨Ny, 0, none⟩ = some (.int .i64 5) ∧ W.cell? ⟨Ny, 1, none⟩ = some (.int .i64 0) ∧ W.cell? ⟨Ny, 2, none⟩ = some (.int .i64 0) ∧ W.cell? ⟨Ny, 3, none⟩ = some (.string ⟨#[]⟩) ∧ W.cell? ⟨Ny, 4, none⟩ = some (.int .i64 (row + dr)) ∧ W.cell? ⟨Ny, 5, none⟩ = some (.int .i64 (col + dc)) ∧ W.cell? ⟨Ny, 6, none⟩ = some (.bool false) ∧ W.cell? ⟨Ny, 7, none⟩ = some (.bool false) ∧ W.cell? ⟨Ny, 8, none⟩ = some (.int .i64 0) ∧ W.cell? ⟨Ny, 9, none⟩ = some (.int .i64 0) ∧ W.cell? ⟨Ny, 10, none⟩ = some (.bool false) ∧ W.cell? ⟨Ny, 11, none⟩ = some (.bool false) ∧ W.cell? ⟨Ny, 12, none⟩ = some (.int .i64 0) ∧ W.cell? ⟨Ny, 13, none⟩ = some (.slice ya yl yc)) ∧ Below w7.heap.size w7 W)) (first | with_reducible assumption | with_reducible exact hd0 | with_reducible exact hd1 | with_reducible exact hd2 | exact hS') (first
        | (go_at_call 41
           with_reducible refine (CRF.out _ (by assumption)).mono ?_
           rintro e w' ⟨rfl, hS'⟩)
        | (go_at_call 34
           with_reducible refine (CE.out _ (by assumption)).mono ?_
           rintro e w' ⟨rfl, hS'⟩))
  all_goals
    have HS := Lib.hid hS'.2
    clear hS' hd0 hd1 hd2
    go_wp2
    go_ret
    exact ⟨rfl, BE.out.trans (HS.out.mono BE.out.size)⟩

set_option maxRecDepth 100000 in
set_option maxHeartbeats 4000000 in
theorem pinned_any (w : World) (r : RefT) (dr dc : Int) (h1 : I64 r.row) (h2 : I64 r.col) (h3 : I64 dr) (h4 : I64 dc) : Calls Try.prog 11 #[.agg #[.int .i64 r.row, .int .i64 r.col, .bool r.pr, .bool r.pc], .int .i64 dr, .int .i64 dc] w (TruePost w) := by
  obtain ⟨row, col, pr, pc⟩ := r
  cases hp : placeB ⟨row, col, true, true⟩
  · exact pinned_may w row col dr dc pr pc h1 h2 hp
  · by_cases off : 0 ≤ row + dr ∧ row + dr < 65536 ∧ 0 ≤ col + dc ∧ col + dc < 702
    · exact pinned_in w row col dr dc pr pc h1 h2 hp h3 h4 ⟨off.1, off.2.1⟩ off.2.2
    · exact pinned_off w row col dr dc pr pc h1 h2 hp h3 h4 off

open Go.ChangeShapes Go.WideShapes Go.ChangeAt
set_option maxRecDepth 100000 in
theorem shiftPinned_lifted (os : Os) (started : os.Started) (H : Type) (enc : TypeId × Value → H) :
    ReturnsInHanded {} Try.checked os 11 .any (Rows.shiftPinnedSpec.pre6 enc Try.prog Try.f11 Rows.shiftPinnedRow.domain false) (Rows.shiftPinnedSpec.post enc Try.prog Try.f11 false true false false) := by
  refine lift_law (C := Try.checked) (tb := 4) own started (by kernel_rfl) Try.func11
    (ChangeSpec.witness6 (enc := enc) (C := Try.checked) false ⟨#[], #[.agg #[.int .i64 0, .int .i64 0, .bool false, .bool false], .int .i64 0, .int .i64 0], []⟩ 8 (by kernel_rfl) (by kernel_rfl) (by kernel_rfl) (by kernel_rfl)) laidOut (by kernel_rfl) rfl Try.underlying4 rfl ?_ ?_
  · rintro ds hl
    match ds, hl with
    | [_, _, _], _ => exact ⟨rfl, rfl, rfl⟩
  · intro W base args ds p hval0 hA hlt hsz
    have hval : ∀ (j : Nat) t v, Try.f11.params[j]? = some t → args[j]? = some v → Value.okWide Try.prog W .any base t v := hval0
    clear hval0
    rw [Try.params11] at hA hsz hval
    obtain ⟨v0, vs0, d0, ds0, p0, q0, hargs, rfl, rfl, h0, r0⟩ := trodAll_cons hA
    obtain ⟨v1, vs1, d1, ds1, p1, q1, rfl, rfl, rfl, h1, r1⟩ := trodAll_cons r0
    obtain ⟨v2, vs2, d2, ds2, p2, q2, rfl, rfl, rfl, h2, r2⟩ := trodAll_cons r1
    obtain ⟨rfl, rfl, rfl⟩ := trodAll_nil r2
    obtain rfl : args = #[v0, v1, v2] := by cases args; simp_all
    have hlt0 : ∀ x ∈ p0, x.block < W.heap.size := fun x hx => hlt x (by simp [hx])
    have hlt1 : ∀ x ∈ p1, x.block < W.heap.size := fun x hx => hlt x (by simp [hx])
    have hlt2 : ∀ x ∈ p2, x.block < W.heap.size := fun x hx => hlt x (by simp [hx])
    have hv0 : Value.okWide Try.prog W .any base 26 v0 := hval 0 _ _ rfl rfl
    have g0 : DataW.Trod enc Try.prog W 0 (fun _ => true) true 26 v0 d0 p0 := h0
    have hv1 : Value.okWide Try.prog W .any base 2 v1 := hval 1 _ _ rfl rfl
    have g1 : DataW.Trod enc Try.prog W 0 (fun _ => true) true 2 v1 d1 p1 := h1
    have hv2 : Value.okWide Try.prog W .any base 2 v2 := hval 2 _ _ rfl rfl
    have g2 : DataW.Trod enc Try.prog W 0 (fun _ => true) true 2 v2 d2 p2 := h2
    obtain ⟨r, rfl, k1, k2⟩ := refArg hv0 g0
    obtain ⟨n1, rfl, hn1⟩ := arg_int64 hv1 g1
    obtain ⟨n2, rfl, hn2⟩ := arg_int64 hv2 g2
    exact pinned_any W r n1 n2 k1 k2 hn1 hn2

set_option maxRecDepth 100000 in
theorem shiftPinned_holds : Rows.ShiftPinnedSaid :=
  OpenClaim.holds_of_wide 11 Try.f11 rfl rfl rfl rfl rfl rfl rfl ⟨rfl, rfl, rfl, rfl, rfl⟩ rfl rfl rfl rfl rfl (by kernel_rfl) Try.func11 (by kernel_rfl)
    (of_decide_eq_true (by kernel_rfl)) (by unfold Func.isWrapper; first | (rw [if_pos (by decide +kernel)]; kernel_rfl) | (rw [if_neg (by decide +kernel)]; exact ⟨rfl, rfl⟩))
    (fun os started H enc _ => shiftPinned_lifted os started H enc)
#print axioms shiftPinned_holds
end Go.Proofs.Ytkjfeakbhfkldaa
