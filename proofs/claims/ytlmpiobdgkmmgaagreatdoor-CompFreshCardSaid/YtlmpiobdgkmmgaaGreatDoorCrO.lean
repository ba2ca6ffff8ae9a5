/- Trees: the reference's Own, law 9's Own, the reference's Eq. -/
import Derived.Test.YtlmpiobdgkmmgaaGreatDoorKcF
import Derived.Deep.AppendLies
import Derived.StillTailTactics
set_option maxRecDepth 1000000
set_option maxHeartbeats 4000000
namespace Go.Proofs.YtlmpiobdgkmmgaaGreatDoor
open Go.RowKit
def OwnPost (h : Hd) (ks : Trees) (w : World) (e : Ending) (w' : World) : Prop :=
 ∃ ka kl kc F, e = .returned (.agg #[.int .i64 h.kind, .int .i64 h.op, .int .i64 h.num, .string ⟨h.text.toArray⟩, .int .i64 h.ref.row, .int .i64 h.ref.col, .bool h.ref.pr, .bool h.ref.pc, .int .i64 h.to.row, .int .i64 h.to.col, .bool h.to.pr, .bool h.to.pc, .int .i64 h.fn, .slice ka kl kc]) ∧ Below w.heap.size w w' ∧ Fresh w' w.heap.size ks (.slice ka kl kc) F
def ROwn (h : Hd) (ks : Trees) : Prop := ∀ (w : World) (B : Nat) (ka : Option Addr) (kl kc : Nat), B ≤ w.heap.size → TreeV w B h ks ka kl → ks.nodes ≤ 100000 →
 Calls Tryz.prog 39 #[.agg #[.int .i64 h.kind, .int .i64 h.op, .int .i64 h.num, .string ⟨h.text.toArray⟩, .int .i64 h.ref.row, .int .i64 h.ref.col, .bool h.ref.pr, .bool h.ref.pc, .int .i64 h.to.row, .int .i64 h.to.col, .bool h.to.pr, .bool h.to.pc, .int .i64 h.fn, .slice ka kl kc]] w (OwnPost h ks w)
def ORel (ks : Trees) (_kl B : Nat) (ka : Option Addr) (b0 : Nat) (w wr : World) (l i : Value) : Prop :=
 ∃ (j : Nat) (dn rest : Trees) (F : List Nat), i = .int .i64 j ∧ j = dn.len ∧ dn.app rest = ks ∧ RowIn wr B rest ka j ∧ AllT ROwn rest ∧ rest.nodes ≤ 100000 ∧ Below w.heap.size w wr ∧ Hid (Fresh wr b0 dn l F)
theorem refOwn_step (nd : Hd) (ks : Trees) (ih : AllT ROwn ks) : ROwn nd ks := by
 intro w B ka kl kc hB tv hn
 obtain ⟨i0, hi, hz0, hz1, hz2⟩ := info_parts infoExpr
 have hm := tv.max
 have hkl : kl ≤ 100000 := by rw [tv.len]; exact Nat.le_trans (len_le_nodes ks) hn
 have HI := Lib.hid ih; clear ih
 have HT := Lib.hid tv; clear tv
 go_enter Tryz.func39, Tryz.ntmps39
 go_wp2_with fail
 go_loopw [3, 4] (fun l i wr => ORel ks kl B ka (w.heap.size + 2) ((w.alloc (.cells #[.int .i64 nd.kind, .int .i64 nd.op, .int .i64 nd.num, .string ⟨nd.text.toArray⟩, .int .i64 nd.ref.row, .int .i64 nd.ref.col, .bool nd.ref.pr, .bool nd.ref.pc, .int .i64 nd.to.row, .int .i64 nd.to.col, .bool nd.to.pr, .bool nd.to.pc, .int .i64 nd.fn, .slice ka kl kc] 34)).alloc (.cells #[.int .i64 0, .int .i64 0, .int .i64 0, .string ⟨#[]⟩, .int .i64 0, .int .i64 0, .bool false, .bool false, .int .i64 0, .int .i64 0, .bool false, .bool false, .int .i64 0, .slice none 0 0] 34)) wr l i) (fun _ i _ => kl - (intOf i).toNat)
 case atStart =>
  exact ⟨0, .nil, ks, [], rfl, rfl, rfl, HT.out.row.kept (((Below.refl _ _).alloc hB _).alloc (by simp; omega) _) (Nat.le_refl _), HI.out, hn, Below.refl _ _, Lib.hid ⟨⟨[], [], [], ⟨rfl, .inl ⟨rfl, rfl, rfl⟩⟩, ⟨rfl, rfl⟩, rfl⟩, List.nodup_nil, by simp, by simp⟩⟩
 case round =>
  obtain ⟨j, dn, rest, F, rfl, hj, happ, hrow, hall, hno, hbel, HF⟩ := hrel
  obtain ⟨zb, cb, cb'⟩ := kept_block2 hbel
  have hlen : kl = j + rest.len := by rw [HT.out.len, ← happ, Trees.app_len, hj]
  have HA := Lib.hid happ; clear happ
  have HJ := Lib.hid hj; clear hj
  have HLen := Lib.hid hlen; 
  by_cases hlt : j < kl
  ·obtain ⟨h', k', r', rfl⟩ := trees_cons (rest := rest) (by omega)
   clear hlen
   obtain ⟨b1, off, ka', kl', kc', rfl, hb1, N1, tv1⟩ := hrow.head
   obtain ⟨hl1, c0, c1, c2, c3, c4, c5, c6, c7, c8, c9, c10, c11, c12, c13, d5, d6, d7, d9, d10, d11⟩ := N1.facts
   clear d5 d6 d7 d9 d10 d11 N1
   have HT1 := Lib.hid tv1; clear tv1
   have HC := Lib.hid (hall.1); have HAll := Lib.hid hall.2; clear hall
   have HRow := Lib.hid hrow.2; clear hrow
   have hno1 : k'.nodes ≤ 100000 := by simp only [Trees.nodes] at hno; omega
   have hno2 : r'.nodes ≤ 100000 := by simp only [Trees.nodes] at hno; omega
   clear hno
   go_wp2_with fail
   refine (HC.out _ B ka' kl' kc' (by omega) HT1.out hno1).mono ?_
   clear c0 c1 c2 c3 c4 c5 c6 c7 c8 c9 c10 c11 c12 c13
   rintro e w2 ⟨ka2, kl2, kc2, F2, rfl, b2, f2⟩
   obtain ⟨⟨cs, G, F', s, o, eF⟩, once, new, lt⟩ := HF.out
   have s2 := s.kept fun b hb => b2.block b (lt b (by rw [eF]; simp [hb]))
   have hown : w2.ownsRow (w.heap.size + 2) 34 14 u3 dn.len cs := s2.owns fun b hb => new b (by rw [eF]; simp [hb])
   have hsz := b2.size
   have hjl : dn.len ≤ 100000 := by have := HJ.out; omega
   have HO := Lib.hid o; have HS := Lib.hid s; have HE := Lib.hid eF; have HOn := Lib.hid once; have HNew := Lib.hid new; have HLt := Lib.hid lt; have HF2 := Lib.hid f2
   clear o s eF once new lt f2 s2 HF
   go_wp2_with (at_builtin; refine wpList_append_own_at _ rfl _ _ 22 rfl (w.heap.size + 2) 34 i0 _ 14 120 Tryz.underlying22 hi hz0 hz1 hz2 rfl (by decide) u3 dn.len cs rfl (hown.alloc _) ⟨w2.heap.size, 0, none⟩ 1 1 (h'.vals (.slice ka2 kl2 kc2)) rfl rfl (World.news_of_block (heap_alloc_new w2 _)) (by simp [Value.oneCell', Hd.vals]) (by unfold maxLen; omega) (by omega) (by simp; omega) ?_)
   intro v' w3 hown3 hgrow _ hloc
   have hb0 : w.heap.size + 2 ≤ wr.heap.size := by omega
   have eG := HS.out.block
   have hEF := HE.out
   rw [eG] at hEF
   have f3 := Fresh.step HO.out (by rw [← hEF]; exact HOn.out) (by rw [← hEF]; exact HNew.out) (by rw [← hEF]; exact HLt.out) b2 HF2.out HT1.out.ok hb0 hgrow hown3 hloc
   have b3 := (hbel.trans (b2.mono hbel.size)).trans ((((Below.refl (w.heap.size + 2) w2).alloc (by omega) _).grown hgrow (by simp; omega) (fun k hk => HNew.out k (by rw [hEF]; simp [mem_ownList.2 hk]))).mono (by simp))
   have F3 := Lib.hid f3
   have B3 := Lib.hid b3
   have hrow3 : RowIn w3 B r' (some ⟨b1, off, none⟩) (j + 1) := HRow.out.kept (((b2.mono (by omega : B ≤ wr.heap.size)).trans ((Below.refl B w2).alloc (by omega) _)).grown hgrow (by simp; omega) (fun k hk => by have := HNew.out k (by rw [hEF]; simp [mem_ownList.2 hk]); omega)) (Nat.le_refl _)
   have HR3 := Lib.hid hrow3
   clear f3 b3 hrow3 hown hown3 hgrow hloc eG hEF cb cb'
   go_wp2
   exact ⟨⟨j + 1, dn.app (.cons h' k' .nil), r', _, by go_num, by rw [Trees.app_len, HJ.out]; rfl, by rw [Trees.app_cons]; exact HA.out, HR3.out, HAll.out, hno2, B3.out, F3⟩, by simp [intOf]; omega⟩
  ·have hz : rest.len = 0 := by omega
   obtain rfl := trees_nil hz
   have happ := HA.out
   rw [Trees.app_nil] at happ
   subst happ
   obtain ⟨fb, fb'⟩ := kept_free2 hbel
   have hsl : ∃ a c, u3 = .slice a dn.len c := by
    obtain ⟨⟨cs, G, F', s, o, eF⟩, -, -, -⟩ := HF.out
    exact s.slice
   obtain ⟨a3, c3, rfl⟩ := hsl
   clear hrow hall
   go_wp2
   refine bodyPost_ret (v := .agg #[.int .i64 nd.kind, .int .i64 nd.op, .int .i64 nd.num, .string ⟨nd.text.toArray⟩, .int .i64 nd.ref.row, .int .i64 nd.ref.col, .bool nd.ref.pr, .bool nd.ref.pc, .int .i64 nd.to.row, .int .i64 nd.to.col, .bool nd.to.pr, .bool nd.to.pc, .int .i64 nd.fn, .slice a3 dn.len c3]) (by simp [results, Tryz.results39, go_sem, cb']) rfl ?_
   obtain ⟨own, once, new, lt⟩ := HF.out
   refine ⟨a3, dn.len, c3, F, rfl, ?_, own.kept (fun b hb => ?_), once, fun b hb => by have := new b hb; omega, fun b hb => by simpa [World.setCell] using lt b hb⟩
   ·repeat (refine Below.setCell ?_ (by simp) _)
    exact (ext_alloc (ext_alloc (Below.refl _ _) _) _).trans (hbel.mono (by simp; omega))
   ·have := new b hb
    repeat rw [Below.heap_setCell _ _ _ _ (by simp; omega)]
theorem refOwn_any (h : Hd) (ks : Trees) : ROwn h ks := refOwn_step h ks (allT refOwn_step ks)
theorem lawOwn_any (nd : Hd) (ks : Trees) (w : World) (B : Nat) (ka : Option Addr) (kl kc : Nat) (hB : B ≤ w.heap.size) (tv : TreeV w B nd ks ka kl) (hn : ks.nodes ≤ 100000) :
 Calls Tryz.prog 13 #[.agg #[.int .i64 nd.kind, .int .i64 nd.op, .int .i64 nd.num, .string ⟨nd.text.toArray⟩, .int .i64 nd.ref.row, .int .i64 nd.ref.col, .bool nd.ref.pr, .bool nd.ref.pc, .int .i64 nd.to.row, .int .i64 nd.to.col, .bool nd.to.pr, .bool nd.to.pc, .int .i64 nd.fn, .slice ka kl kc]] w (OwnPost nd ks w) := by
 have b0 := ext_alloc (ext_alloc (Below.refl _ w) (.cells #[.int .i64 nd.kind, .int .i64 nd.op, .int .i64 nd.num, .string ⟨nd.text.toArray⟩, .int .i64 nd.ref.row, .int .i64 nd.ref.col, .bool nd.ref.pr, .bool nd.ref.pc, .int .i64 nd.to.row, .int .i64 nd.to.col, .bool nd.to.pr, .bool nd.to.pc, .int .i64 nd.fn, .slice ka kl kc] 34)) (.cells #[.int .i64 0, .int .i64 0, .int .i64 0, .string ⟨#[]⟩, .int .i64 0, .int .i64 0, .bool false, .bool false, .int .i64 0, .int .i64 0, .bool false, .bool false, .int .i64 0, .slice none 0 0] 34)
 have T0 := Lib.hid (tv.kept (b0.mono hB) (Nat.le_refl _))
 have B0 := Lib.hid b0
 clear tv b0
 go_enter Tryz.func13, Tryz.ntmps13
 go_wp2_with fail
 refine (refOwn_any nd ks _ B ka kl kc (by simp; omega) T0.out hn).mono ?_
 rintro e w2 ⟨ua, ul, uc, F, rfl, b2, f2⟩
 obtain ⟨fb, -⟩ := kept_block2 b2
 have fr := (kept_free2 b2).2
 have hb2 : w2.heap[w.heap.size + 1]? = some (.cells #[.int .i64 0, .int .i64 0, .int .i64 0, .string ⟨#[]⟩, .int .i64 0, .int .i64 0, .bool false, .bool false, .int .i64 0, .int .i64 0, .bool false, .bool false, .int .i64 0, .slice none 0 0] 34 (0, 0)) := (b2.block _ (by simp)).trans (heap_alloc2_new _ _ _)
 have c2 := cells_of_block hb2
 have B2 := Lib.hid (B0.out.trans (b2.mono (by simp; omega)))
 have F2 := Lib.hid f2; have H2 := Lib.hid hb2
 clear b2 f2 hb2
 have hz2 : w.heap.size + 1 < w2.heap.size := fb
 clear fb
 go_wp2
 change bodyPost _ _ _ _ _ (World.setCells w2 (w.heap.size + 1) 0 [.int .i64 nd.kind, .int .i64 nd.op, .int .i64 nd.num, .string ⟨nd.text.toArray⟩, .int .i64 nd.ref.row, .int .i64 nd.ref.col, .bool nd.ref.pr, .bool nd.ref.pc, .int .i64 nd.to.row, .int .i64 nd.to.col, .bool nd.to.pr, .bool nd.to.pc, .int .i64 nd.fn, .slice ua ul uc])
 have hx := setCells_all (vs := [.int .i64 nd.kind, .int .i64 nd.op, .int .i64 nd.num, .string ⟨nd.text.toArray⟩, .int .i64 nd.ref.row, .int .i64 nd.ref.col, .bool nd.ref.pr, .bool nd.ref.pc, .int .i64 nd.to.row, .int .i64 nd.to.col, .bool nd.to.pr, .bool nd.to.pc, .int .i64 nd.fn, .slice ua ul uc]) H2.out rfl
 have hz := setCells_size [.int .i64 nd.kind, .int .i64 nd.op, .int .i64 nd.num, .string ⟨nd.text.toArray⟩, .int .i64 nd.ref.row, .int .i64 nd.ref.col, .bool nd.ref.pr, .bool nd.ref.pc, .int .i64 nd.to.row, .int .i64 nd.to.col, .bool nd.to.pr, .bool nd.to.pc, .int .i64 nd.fn, .slice ua ul uc] 0 (w.heap.size + 1) w2
 have hb := setCells_below (Nat.le_succ w.heap.size) [.int .i64 nd.kind, .int .i64 nd.op, .int .i64 nd.num, .string ⟨nd.text.toArray⟩, .int .i64 nd.ref.row, .int .i64 nd.ref.col, .bool nd.ref.pr, .bool nd.ref.pc, .int .i64 nd.to.row, .int .i64 nd.to.col, .bool nd.to.pr, .bool nd.to.pc, .int .i64 nd.fn, .slice ua ul uc] 0 B2.out
 have hk : ∀ k, k ≠ w.heap.size + 1 → _ := fun k hk => setCells_other hk [.int .i64 nd.kind, .int .i64 nd.op, .int .i64 nd.num, .string ⟨nd.text.toArray⟩, .int .i64 nd.ref.row, .int .i64 nd.ref.col, .bool nd.ref.pr, .bool nd.ref.pc, .int .i64 nd.to.row, .int .i64 nd.to.col, .bool nd.to.pr, .bool nd.to.pc, .int .i64 nd.fn, .slice ua ul uc] 0 w2
 generalize hW : World.setCells w2 (w.heap.size + 1) 0 [.int .i64 nd.kind, .int .i64 nd.op, .int .i64 nd.num, .string ⟨nd.text.toArray⟩, .int .i64 nd.ref.row, .int .i64 nd.ref.col, .bool nd.ref.pr, .bool nd.ref.pc, .int .i64 nd.to.row, .int .i64 nd.to.col, .bool nd.to.pr, .bool nd.to.pc, .int .i64 nd.fn, .slice ua ul uc] = w3 at *
 clear hW c2 fr
 have c3 := cells_of_block hx
 refine bodyPost_ret (v := .agg #[.int .i64 nd.kind, .int .i64 nd.op, .int .i64 nd.num, .string ⟨nd.text.toArray⟩, .int .i64 nd.ref.row, .int .i64 nd.ref.col, .bool nd.ref.pr, .bool nd.ref.pc, .int .i64 nd.to.row, .int .i64 nd.to.col, .bool nd.to.pr, .bool nd.to.pc, .int .i64 nd.fn, .slice ua ul uc]) (by simp [results, Tryz.results13, go_sem, c3]) rfl ?_
 exact ⟨ua, ul, uc, F, rfl, hb, F2.out.sets (fun b hb => hk b (by simp at hb; omega)) (by simp; omega) (by omega)⟩
end Go.Proofs.YtlmpiobdgkmmgaaGreatDoor
namespace Go.Proofs.YtlmpiobdgkmmgaaGreatDoor
open Go.RowKit
@[go_sem ↓ high] theorem run_neq_ref (a b : Int) (c d : Bool) (a' b' : Int) (c' d' : Bool) (w : World) :
 (binOp .neq 32 (.agg #[.int .i64 a, .int .i64 b, .bool c, .bool d]) (.agg #[.int .i64 a', .int .i64 b', .bool c', .bool d'])).run Tryz.prog w = .ok (.bool (!refEq a b c d a' b' c' d')) w := by
 by_cases h1 : a = a' <;> by_cases h2 : b = b' <;> by_cases h3 : c = c' <;> by_cases h4 : d = d' <;> simp [go_sem, refEq, h1, h2, h3, h4]
def sameB (h h' : Hd) (ks ks' : Trees) : Bool := decide (h = h' ∧ ks = ks')
def EqPost (h h' : Hd) (ks ks' : Trees) (w : World) (e : Ending) (w' : World) : Prop := e = .returned (.bool (sameB h h' ks ks')) ∧ Below w.heap.size w w'
def REq (h : Hd) (ks : Trees) : Prop := ∀ (h' : Hd) (ks' : Trees) (w : World) (B B' : Nat) (ka ka' : Option Addr) (kl kc kl' kc' : Nat), B ≤ w.heap.size → B' ≤ w.heap.size → TreeV w B h ks ka kl → TreeV w B' h' ks' ka' kl' →
 Calls Tryz.prog 15 #[.agg #[.int .i64 h.kind, .int .i64 h.op, .int .i64 h.num, .string ⟨h.text.toArray⟩, .int .i64 h.ref.row, .int .i64 h.ref.col, .bool h.ref.pr, .bool h.ref.pc, .int .i64 h.to.row, .int .i64 h.to.col, .bool h.to.pr, .bool h.to.pc, .int .i64 h.fn, .slice ka kl kc], .agg #[.int .i64 h'.kind, .int .i64 h'.op, .int .i64 h'.num, .string ⟨h'.text.toArray⟩, .int .i64 h'.ref.row, .int .i64 h'.ref.col, .bool h'.ref.pr, .bool h'.ref.pc, .int .i64 h'.to.row, .int .i64 h'.to.col, .bool h'.to.pr, .bool h'.to.pc, .int .i64 h'.fn, .slice ka' kl' kc']] w (EqPost h h' ks ks' w)
def ERel (ks ks' : Trees) (kl B B' : Nat) (ka ka' : Option Addr) (w wr : World) (i : Value) : Prop :=
 ∃ (j : Nat) (rest rest' : Trees), i = .int .i64 j ∧ j + rest.len = kl ∧ rest'.len = rest.len ∧ RowIn wr B rest ka j ∧ RowIn wr B' rest' ka' j ∧ AllT REq rest ∧ Below w.heap.size w wr ∧ Hid (decide (rest = rest') = decide (ks = ks'))
theorem refEq_same (h : Hd) (ks : Trees) (ih : AllT REq ks) (ks' : Trees) (w : World) (B B' : Nat) (ka ka' : Option Addr) (kl kc kc' : Nat) (hB : B ≤ w.heap.size) (hB' : B' ≤ w.heap.size) (tv : TreeV w B h ks ka kl) (tv' : TreeV w B' h ks' ka' kl) :
 Calls Tryz.prog 15 #[.agg #[.int .i64 h.kind, .int .i64 h.op, .int .i64 h.num, .string ⟨h.text.toArray⟩, .int .i64 h.ref.row, .int .i64 h.ref.col, .bool h.ref.pr, .bool h.ref.pc, .int .i64 h.to.row, .int .i64 h.to.col, .bool h.to.pr, .bool h.to.pc, .int .i64 h.fn, .slice ka kl kc], .agg #[.int .i64 h.kind, .int .i64 h.op, .int .i64 h.num, .string ⟨h.text.toArray⟩, .int .i64 h.ref.row, .int .i64 h.ref.col, .bool h.ref.pr, .bool h.ref.pc, .int .i64 h.to.row, .int .i64 h.to.col, .bool h.to.pr, .bool h.to.pc, .int .i64 h.fn, .slice ka' kl kc']] w (EqPost h h ks ks' w) := by
 have hm := tv.max
 have HI := Lib.hid ih; clear ih
 have HT := Lib.hid tv; clear tv
 have HT' := Lib.hid tv'; clear tv'
 have hx : sameB h h ks ks' = decide (ks = ks') := by simp [sameB]
 have HX := Lib.hid hx; clear hx
 have hr : refEq h.ref.row h.ref.col h.ref.pr h.ref.pc h.ref.row h.ref.col h.ref.pr h.ref.pc = true := by simp [refEq]
 have hr' : refEq h.to.row h.to.col h.to.pr h.to.pc h.to.row h.to.col h.to.pr h.to.pc = true := by simp [refEq]
 go_enter Tryz.func15, Tryz.ntmps15
 go_wp2_with fail
 go_loopw [5] (fun i wr => ERel ks ks' kl B B' ka ka' ((w.alloc (.cells #[.int .i64 h.kind, .int .i64 h.op, .int .i64 h.num, .string ⟨h.text.toArray⟩, .int .i64 h.ref.row, .int .i64 h.ref.col, .bool h.ref.pr, .bool h.ref.pc, .int .i64 h.to.row, .int .i64 h.to.col, .bool h.to.pr, .bool h.to.pc, .int .i64 h.fn, .slice ka kl kc] 34)).alloc (.cells #[.int .i64 h.kind, .int .i64 h.op, .int .i64 h.num, .string ⟨h.text.toArray⟩, .int .i64 h.ref.row, .int .i64 h.ref.col, .bool h.ref.pr, .bool h.ref.pc, .int .i64 h.to.row, .int .i64 h.to.col, .bool h.to.pr, .bool h.to.pc, .int .i64 h.fn, .slice ka' kl kc'] 34)) wr i) (fun i _ => kl - (intOf i).toNat)
 case atStart =>
  have b0 := ((Below.refl _ w).alloc hB (.cells #[.int .i64 h.kind, .int .i64 h.op, .int .i64 h.num, .string ⟨h.text.toArray⟩, .int .i64 h.ref.row, .int .i64 h.ref.col, .bool h.ref.pr, .bool h.ref.pc, .int .i64 h.to.row, .int .i64 h.to.col, .bool h.to.pr, .bool h.to.pc, .int .i64 h.fn, .slice ka kl kc] 34)).alloc (by simp; omega) (.cells #[.int .i64 h.kind, .int .i64 h.op, .int .i64 h.num, .string ⟨h.text.toArray⟩, .int .i64 h.ref.row, .int .i64 h.ref.col, .bool h.ref.pr, .bool h.ref.pc, .int .i64 h.to.row, .int .i64 h.to.col, .bool h.to.pr, .bool h.to.pc, .int .i64 h.fn, .slice ka' kl kc'] 34)
  have b0' := ((Below.refl _ w).alloc hB' (.cells #[.int .i64 h.kind, .int .i64 h.op, .int .i64 h.num, .string ⟨h.text.toArray⟩, .int .i64 h.ref.row, .int .i64 h.ref.col, .bool h.ref.pr, .bool h.ref.pc, .int .i64 h.to.row, .int .i64 h.to.col, .bool h.to.pr, .bool h.to.pc, .int .i64 h.fn, .slice ka kl kc] 34)).alloc (by simp; omega) (.cells #[.int .i64 h.kind, .int .i64 h.op, .int .i64 h.num, .string ⟨h.text.toArray⟩, .int .i64 h.ref.row, .int .i64 h.ref.col, .bool h.ref.pr, .bool h.ref.pc, .int .i64 h.to.row, .int .i64 h.to.col, .bool h.to.pr, .bool h.to.pc, .int .i64 h.fn, .slice ka' kl kc'] 34)
  exact ⟨0, ks, ks', rfl, by have := HT.out.len; omega, by rw [← HT.out.len, ← HT'.out.len], HT.out.row.kept b0 (Nat.le_refl _), HT'.out.row.kept b0' (Nat.le_refl _), HI.out, Below.refl _ _, Lib.hid rfl⟩
 case round =>
  obtain ⟨j, rest, rest', rfl, hj, hlen, hrow, hrow', hall, hbel, H1⟩ := hrel
  obtain ⟨zb, cb, cb'⟩ := kept_block2 hbel
  have hsz : w.heap.size + 2 ≤ wr.heap.size := by omega
  by_cases hlt : j < kl
  ·obtain ⟨h1, k1, r1, rfl⟩ := trees_cons (rest := rest) (by omega)
   obtain ⟨h2, k2, r2, rfl⟩ := trees_cons (rest := rest') (by omega)
   obtain ⟨b1, off1, ka1, kl1, kc1, rfl, hb1, N1, tv1⟩ := hrow.head
   obtain ⟨b2, off2, ka2, kl2, kc2, rfl, hb2, N2, tv2⟩ := hrow'.head
   obtain ⟨hl1, c0, c1, c2, c3, c4, c5, c6, c7, c8, c9, c10, c11, c12, c13, d5, d6, d7, d9, d10, d11⟩ := N1.facts
   clear d5 d6 d7 d9 d10 d11 N1
   obtain ⟨hl2, e0, e1, e2, e3, e4, e5, e6, e7, e8, e9, e10, e11, e12, e13, d5, d6, d7, d9, d10, d11⟩ := N2.facts
   clear d5 d6 d7 d9 d10 d11 N2
   have HT1 := Lib.hid tv1; clear tv1
   have HT2 := Lib.hid tv2; clear tv2
   have HC := Lib.hid (hall.1); have HA := Lib.hid hall.2; clear hall
   have HRow := Lib.hid hrow.2; clear hrow
   have HRow' := Lib.hid hrow'.2; clear hrow'
   have HJ := Lib.hid hj; clear hj
   have HLn := Lib.hid hlen; clear hlen
   go_wp2_with fail
   go_still_tail 10, (by kernel_rfl)
   change wpList _ _ _ _ _ wr.drew
   clear c0 c1 c2 c3 c4 c5 c6 c7 c8 c9 c10 c11 c12 c13 e0 e1 e2 e3 e4 e5 e6 e7 e8 e9 e10 e11 e12 e13
   go_wp2_with fail
   refine (HC.out h2 k2 _ B B' ka1 ka2 kl1 kc1 kl2 kc2 (by simp; omega) (by simp; omega) (HT1.out.kept ((Below.refl B _).drew) (Nat.le_refl _)) (HT2.out.kept ((Below.refl B' _).drew) (Nat.le_refl _))).mono ?_
   rintro e w2 ⟨rfl, b2'⟩
   have b3 : Below wr.heap.size wr w2 := ((Below.refl _ wr).drew).trans b2'
   clear b2'
   cases hq : sameB h1 h2 k1 k2
   ·have hz : sameB h h ks ks' = false := by
     rw [HX.out, ← H1.out]
     simp only [sameB, decide_eq_false_iff_not] at hq ⊢
     intro e; apply hq; injection e with e1 e2 e3; exact ⟨e1, e2⟩
    have HZ := Lib.hid hz; clear hz hq
    go_wp2
    go_ret
    exact ⟨ret_bool HZ.out.symm, (ext_alloc (ext_alloc (Below.refl _ _) _) _).trans ((hbel.trans (b3.mono hbel.size)).mono (by simp; omega))⟩
   ·have hz : decide (r1 = r2) = decide (ks = ks') := by
     rw [← H1.out]
     simp only [sameB, decide_eq_true_eq] at hq
     obtain ⟨rfl, rfl⟩ := hq
     simp
    have HZ := Lib.hid hz; clear hz hq
    go_wp2
    exact ⟨⟨j + 1, r1, r2, by go_num, by have := HJ.out; simp only [Trees.len] at this; omega, by have := HLn.out; simp only [Trees.len] at this; omega, HRow.out.kept b3 (by omega), HRow'.out.kept b3 (by omega), HA.out, hbel.trans (b3.mono hbel.size), HZ⟩, by simp [intOf]; omega⟩
  ·have hz : rest.len = 0 := by omega
   have hz' : rest'.len = 0 := by omega
   obtain rfl := trees_nil hz
   obtain rfl := trees_nil hz'
   have hq := H1.out
   have HQ := Lib.hid hq
   clear hq H1 hlen
   go_wp2
   go_ret
   exact ⟨ret_bool (by rw [HX.out, ← HQ.out]; rfl), (ext_alloc (ext_alloc (Below.refl _ _) _) _).trans (hbel.mono (by simp; omega))⟩
theorem refEq_differs (h : Hd) (ks : Trees) (h' : Hd) (ks' : Trees) (w : World) (ka ka' : Option Addr) (kl kc kl' kc' : Nat) (hlen : kl = ks.len) (hlen' : kl' = ks'.len) (hne : ¬ (h = h' ∧ kl = kl')) :
 Calls Tryz.prog 15 #[.agg #[.int .i64 h.kind, .int .i64 h.op, .int .i64 h.num, .string ⟨h.text.toArray⟩, .int .i64 h.ref.row, .int .i64 h.ref.col, .bool h.ref.pr, .bool h.ref.pc, .int .i64 h.to.row, .int .i64 h.to.col, .bool h.to.pr, .bool h.to.pc, .int .i64 h.fn, .slice ka kl kc], .agg #[.int .i64 h'.kind, .int .i64 h'.op, .int .i64 h'.num, .string ⟨h'.text.toArray⟩, .int .i64 h'.ref.row, .int .i64 h'.ref.col, .bool h'.ref.pr, .bool h'.ref.pc, .int .i64 h'.to.row, .int .i64 h'.to.col, .bool h'.to.pr, .bool h'.to.pc, .int .i64 h'.fn, .slice ka' kl' kc']] w (EqPost h h' ks ks' w) := by
 have hx : sameB h h' ks ks' = false := by
  simp only [sameB, decide_eq_false_iff_not]
  rintro ⟨rfl, rfl⟩
  exact hne ⟨rfl, hlen.trans hlen'.symm⟩
 have HX := Lib.hid hx; clear hx
 have HN := Lib.hid hne; clear hne
 clear hlen hlen'
 obtain ⟨kind, op, num, text, ⟨rr, rc, rpr, rpc⟩, ⟨tr, tc, tpr, tpc⟩, fn⟩ := h
 obtain ⟨kind', op', num', text', ⟨rr', rc', rpr', rpc'⟩, ⟨tr', tc', tpr', tpc'⟩, fn'⟩ := h'
 go_enter Tryz.func15, Tryz.ntmps15
 go_wp2_with fail
 all_goals first
  | (go_ret; exact ⟨ret_bool HX.out.symm, ext_alloc (ext_alloc (Below.refl _ _) _) _⟩)
  | (exfalso; have hq : ((kl : Int) != kl') = false := by assumption
     have hn := HN.out; clear HN HX
     have hkl : kl = kl' := by simp at hq; omega
     clear hq
     simp_all [refEq])
theorem refEq_step (h : Hd) (ks : Trees) (ih : AllT REq ks) : REq h ks := by
 intro h' ks' w B B' ka ka' kl kc kl' kc' hB hB' tv tv'
 by_cases hs : h = h' ∧ kl = kl'
 ·obtain ⟨rfl, rfl⟩ := hs
  exact refEq_same h ks ih ks' w B B' ka ka' kl kc kc' hB hB' tv tv'
 ·exact refEq_differs h ks h' ks' w ka ka' kl kc kl' kc' tv.len tv'.len hs
theorem refEq_any (h : Hd) (ks : Trees) : REq h ks := refEq_step h ks (allT refEq_step ks)
end Go.Proofs.YtlmpiobdgkmmgaaGreatDoor
