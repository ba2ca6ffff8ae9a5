/- Code: steps' small functions. -/
import Derived.Test.YtlmpiobdgkmmgaaGreatDoorKdA
set_option maxRecDepth 1000000
set_option maxHeartbeats 16000000
namespace Go.Proofs.YtlmpiobdgkmmgaaGreatDoor
open Go.RowKit Go.Lib
def GdP (W : World) (r : Bool) (e : Ending) (w' : World) : Prop := e = .returned (.bool r) ∧ Below W.heap.size W w'
theorem good1_any {b g o : Nat} {p : PI} {tv : Value} (W : World) (hp : InP W b g o p tv) (hb : b ≤ W.heap.size) {Bc : Nat} {ca : Option Addr} {ck : Nat} {cs : List PV} (hc : W.cell? ⟨Bc, 0, none⟩ = some (.slice ca cs.length ck)) (hl : cs.length ≤ 1000000) : Calls Tryz.prog 71 #[.pointer (some ⟨g, o, none⟩), .pointer (some ⟨Bc, 0, none⟩)] W (GdP W (inB p.a 0 ((cs.length : Int) - 1))) := by
 have c1 := hp.c1; have c2 := hp.c2; have c3 := hp.c3; have c4 := hp.c4
 have HP := Lib.hid hp
 have hgl := hp.lt
 have hg1 : g < W.heap.size := by omega
 clear hp
 obtain ⟨x, hx⟩ : ∃ x, p.a = x := ⟨_, rfl⟩
 obtain ⟨n, hn⟩ : ∃ n, cs.length = n := ⟨_, rfl⟩
 rw [hx] at c1
 rw [hn] at hc hl
 rw [hx, hn]
 go_enter Tryz.func71, Tryz.ntmps71
 go_upto_region 1 with (fail)
 go_quiet (first | (go_at_call 72; with_reducible refine Calls.quiet_of_same (within_any _ _ _ _)))
 generalize hwd : World.drewN _ _ = wd
 have BD : Below W.heap.size W wd := by rw [← hwd]; exact below_dN _ _ _
 clear hwd
 go_wp2
 go_ret
 exact ⟨rfl, BD⟩
theorem good3_any {b g o : Nat} {p : PI} {tv : Value} (W : World) (hp : InP W b g o p tv) (hb : b ≤ W.heap.size) : Calls Tryz.prog 75 #[.pointer (some ⟨g, o, none⟩)] W (GdP W (plcB p.a p.b)) := by
 have c1 := hp.c1; have c2 := hp.c2; have c3 := hp.c3; have c4 := hp.c4
 have HP := Lib.hid hp
 have hgl := hp.lt
 have hg1 : g < W.heap.size := by omega
 clear hp
 obtain ⟨x, hx⟩ : ∃ x, p.a = x := ⟨_, rfl⟩
 obtain ⟨y, hy⟩ : ∃ y, p.b = y := ⟨_, rfl⟩
 rw [hx] at c1
 rw [hy] at c2
 rw [hx, hy]
 go_enter Tryz.func75, Tryz.ntmps75
 go_upto_region 1 with (fail)
 go_still_tail 9, (by kernel_rfl)
 change wpList _ _ _ _ _ W.drew
 have BD : Below W.heap.size W W.drew := (Below.refl _ _).drew
 generalize W.drew = wd at BD ⊢
 go_wp2_with fail
 refine (plc_any x y _).mono ?_
 rintro e w1 ⟨rfl, b2⟩
 go_wp2_with fail
 go_ret
 exact ⟨rfl, ext_trans BD b2⟩
theorem good4_any {b g o : Nat} {p : PI} {tv : Value} (W : World) (hp : InP W b g o p tv) (hb : b ≤ W.heap.size) : Calls Tryz.prog 78 #[.pointer (some ⟨g, o, none⟩)] W (GdP W (smallB p.a p.b p.c p.d)) := by
 have c1 := hp.c1; have c2 := hp.c2; have c3 := hp.c3; have c4 := hp.c4
 have HP := Lib.hid hp
 have hgl := hp.lt
 have hg1 : g < W.heap.size := by omega
 clear hp
 obtain ⟨x, hx⟩ : ∃ x, p.a = x := ⟨_, rfl⟩
 obtain ⟨y, hy⟩ : ∃ y, p.b = y := ⟨_, rfl⟩
 obtain ⟨z, hz⟩ : ∃ z, p.c = z := ⟨_, rfl⟩
 obtain ⟨u, hu⟩ : ∃ u, p.d = u := ⟨_, rfl⟩
 rw [hx] at c1
 rw [hy] at c2
 rw [hz] at c3
 rw [hu] at c4
 rw [hx, hy, hz, hu]
 go_enter Tryz.func78, Tryz.ntmps78
 go_upto_region 1 with (fail)
 go_still_tail 17, (by kernel_rfl)
 change wpList _ _ _ _ _ W.drew
 have BD : Below W.heap.size W W.drew := (Below.refl _ _).drew
 generalize W.drew = wd at BD ⊢
 go_wp2_with fail
 refine (small_any x y z u _).mono ?_
 rintro e w1 ⟨rfl, b2⟩
 go_wp2_with fail
 go_ret
 exact ⟨rfl, ext_trans BD b2⟩
theorem good5_any {b g o : Nat} {p : PI} {tv : Value} (W : World) (hp : InP W b g o p tv) (hb : b ≤ W.heap.size) : Calls Tryz.prog 80 #[.pointer (some ⟨g, o, none⟩)] W (GdP W (inB p.a 1 3)) := by
 have c1 := hp.c1; have c2 := hp.c2; have c3 := hp.c3; have c4 := hp.c4
 have HP := Lib.hid hp
 have hgl := hp.lt
 have hg1 : g < W.heap.size := by omega
 clear hp
 obtain ⟨x, hx⟩ : ∃ x, p.a = x := ⟨_, rfl⟩
 rw [hx] at c1 ⊢
 go_enter Tryz.func80, Tryz.ntmps80
 go_wp2_with fail
 refine (within_any x 1 3 _).mono ?_
 rintro e w1 ⟨rfl, rfl⟩
 go_wp2_with fail
 go_ret
 exact ⟨rfl, Below.refl _ _⟩
theorem good6_any {b g o : Nat} {p : PI} {tv : Value} (W : World) (hp : InP W b g o p tv) (hb : b ≤ W.heap.size) : Calls Tryz.prog 81 #[.pointer (some ⟨g, o, none⟩)] W (GdP W (inB p.a 1 12)) := by
 have c1 := hp.c1; have c2 := hp.c2; have c3 := hp.c3; have c4 := hp.c4
 have HP := Lib.hid hp
 have hgl := hp.lt
 have hg1 : g < W.heap.size := by omega
 clear hp
 obtain ⟨x, hx⟩ : ∃ x, p.a = x := ⟨_, rfl⟩
 rw [hx] at c1 ⊢
 go_enter Tryz.func81, Tryz.ntmps81
 go_wp2_with fail
 refine (within_any x 1 12 _).mono ?_
 rintro e w1 ⟨rfl, rfl⟩
 go_wp2_with fail
 go_ret
 exact ⟨rfl, Below.refl _ _⟩
theorem good7_any {b g o : Nat} {p : PI} {tv : Value} (W : World) (hp : InP W b g o p tv) (hb : b ≤ W.heap.size) : Calls Tryz.prog 82 #[.pointer (some ⟨g, o, none⟩)] W (GdP W (fnOk [1, 2] p)) := by
 have c1 := hp.c1; have c2 := hp.c2; have c3 := hp.c3; have c4 := hp.c4
 have HP := Lib.hid hp
 have hgl := hp.lt
 have hg1 : g < W.heap.size := by omega
 clear hp
 go_enter Tryz.func82, Tryz.ntmps82
 go_wp2_with fail
 have b1 : Below W.heap.size W (W.alloc (.cells #[.int .i64 1, .int .i64 2] 3)) := ext_alloc (Below.refl _ _) _
 refine (fn_any (bl := W.heap.size + 1) [1, 2] _ (HP.out.below b1 hb) (by simp; omega) (InsT.lit W [1, 2] 3 2 rfl (by omega) _ rfl) (by simp) (by simp)).mono ?_
 rintro e w1 ⟨rfl, b2⟩
 go_wp2_with fail
 go_ret
 exact ⟨rfl, ext_trans b1 b2⟩
theorem good8_any {b g o : Nat} {p : PI} {tv : Value} (W : World) (hp : InP W b g o p tv) (hb : b ≤ W.heap.size) : Calls Tryz.prog 86 #[.pointer (some ⟨g, o, none⟩)] W (GdP W (decide (p.a = 47) || decide (p.a = 48))) := by
 have c1 := hp.c1; have c2 := hp.c2; have c3 := hp.c3; have c4 := hp.c4
 have HP := Lib.hid hp
 have hgl := hp.lt
 have hg1 : g < W.heap.size := by omega
 clear hp
 obtain ⟨x, hx⟩ : ∃ x, p.a = x := ⟨_, rfl⟩
 rw [hx] at c1 ⊢
 go_enter Tryz.func86, Tryz.ntmps86
 go_wp2
 all_goals
  go_ret
  refine ⟨retb ?_, Below.refl _ _⟩
  first | rfl | (rw [Bool.eq_iff_iff]; simp; try omega)
theorem good9_any {b g o : Nat} {p : PI} {tv : Value} (W : World) (hp : InP W b g o p tv) (hb : b ≤ W.heap.size) : Calls Tryz.prog 87 #[.pointer (some ⟨g, o, none⟩)] W (GdP W (decide ((infoRow p.a).cls = 4))) := by
 have c1 := hp.c1; have c2 := hp.c2; have c3 := hp.c3; have c4 := hp.c4
 have HP := Lib.hid hp
 have hgl := hp.lt
 have hg1 : g < W.heap.size := by omega
 clear hp
 obtain ⟨nm, hnm⟩ := infoV_eq9 p.a
 obtain ⟨x, hx⟩ : ∃ x, p.a = x := ⟨_, rfl⟩
 rw [hx] at c1 hnm ⊢
 have HNM := Lib.hid hnm
 obtain ⟨cl, hcl⟩ : ∃ cl, (infoRow x).cls = cl := ⟨_, rfl⟩
 rw [hcl] at HNM ⊢
 clear hnm hcl
 go_enter Tryz.func87, Tryz.ntmps87
 go_wp2_with fail
 refine (info_any x _).mono ?_
 rintro e w1 ⟨rfl, b1⟩
 rw [HNM.out]
 go_wp2
 go_ret
 exact ⟨rfl, ext_alloc b1 _⟩
theorem good10_any {b g o : Nat} {p : PI} {tv : Value} (W : World) (hp : InP W b g o p tv) (hb : b ≤ W.heap.size) : Calls Tryz.prog 88 #[.pointer (some ⟨g, o, none⟩)] W (GdP W (inB p.a 2 4)) := by
 have c1 := hp.c1; have c2 := hp.c2; have c3 := hp.c3; have c4 := hp.c4
 have HP := Lib.hid hp
 have hgl := hp.lt
 have hg1 : g < W.heap.size := by omega
 clear hp
 obtain ⟨x, hx⟩ : ∃ x, p.a = x := ⟨_, rfl⟩
 rw [hx] at c1 ⊢
 go_enter Tryz.func88, Tryz.ntmps88
 go_wp2_with fail
 refine (within_any x 2 4 _).mono ?_
 rintro e w1 ⟨rfl, rfl⟩
 go_wp2_with fail
 go_ret
 exact ⟨rfl, Below.refl _ _⟩
theorem good11_any {b g o : Nat} {p : PI} {tv : Value} (W : World) (hp : InP W b g o p tv) (hb : b ≤ W.heap.size) : Calls Tryz.prog 90 #[.pointer (some ⟨g, o, none⟩)] W (GdP W (inB p.a 1 2)) := by
 have c1 := hp.c1; have c2 := hp.c2; have c3 := hp.c3; have c4 := hp.c4
 have HP := Lib.hid hp
 have hgl := hp.lt
 have hg1 : g < W.heap.size := by omega
 clear hp
 obtain ⟨x, hx⟩ : ∃ x, p.a = x := ⟨_, rfl⟩
 rw [hx] at c1 ⊢
 go_enter Tryz.func90, Tryz.ntmps90
 go_wp2_with fail
 refine (within_any x 1 2 _).mono ?_
 rintro e w1 ⟨rfl, rfl⟩
 go_wp2_with fail
 go_ret
 exact ⟨rfl, Below.refl _ _⟩
theorem good12_any {b g o : Nat} {p : PI} {tv : Value} (W : World) (hp : InP W b g o p tv) (hb : b ≤ W.heap.size) : Calls Tryz.prog 91 #[.pointer (some ⟨g, o, none⟩)] W (GdP W (fnOk [6] p)) := by
 have c1 := hp.c1; have c2 := hp.c2; have c3 := hp.c3; have c4 := hp.c4
 have HP := Lib.hid hp
 have hgl := hp.lt
 have hg1 : g < W.heap.size := by omega
 clear hp
 go_enter Tryz.func91, Tryz.ntmps91
 go_wp2_with fail
 have b1 : Below W.heap.size W (W.alloc (.cells #[.int .i64 6] 3)) := ext_alloc (Below.refl _ _) _
 refine (fn_any (bl := W.heap.size + 1) [6] _ (HP.out.below b1 hb) (by simp; omega) (InsT.lit W [6] 3 1 rfl (by omega) _ rfl) (by simp) (by simp)).mono ?_
 rintro e w1 ⟨rfl, b2⟩
 go_wp2_with fail
 go_ret
 exact ⟨rfl, ext_trans b1 b2⟩
theorem goodErr_any {b g o : Nat} {p : PI} {tv : Value} (W : World) (hp : InP W b g o p tv) (hb : b ≤ W.heap.size) : Calls Tryz.prog 111 #[.pointer (some ⟨g, o, none⟩)] W (GdP W (decide (0 ≤ p.b))) := by
 have c1 := hp.c1; have c2 := hp.c2; have c3 := hp.c3; have c4 := hp.c4
 have HP := Lib.hid hp
 have hgl := hp.lt
 have hg1 : g < W.heap.size := by omega
 clear hp
 obtain ⟨x, hx⟩ : ∃ x, p.b = x := ⟨_, rfl⟩
 rw [hx] at c2 ⊢
 go_enter Tryz.func111, Tryz.ntmps111
 go_wp2
 go_ret
 exact ⟨rfl, Below.refl _ _⟩
theorem goodOk_any {b g o : Nat} {p : PI} {tv : Value} (W : World) (hp : InP W b g o p tv) (hb : b ≤ W.heap.size) : Calls Tryz.prog 114 #[.pointer (some ⟨g, o, none⟩)] W (GdP W (decide (p.b = 0) || decide (p.b = 6))) := by
 have c1 := hp.c1; have c2 := hp.c2; have c3 := hp.c3; have c4 := hp.c4
 have HP := Lib.hid hp
 have hgl := hp.lt
 have hg1 : g < W.heap.size := by omega
 clear hp
 obtain ⟨x, hx⟩ : ∃ x, p.b = x := ⟨_, rfl⟩
 rw [hx] at c2 ⊢
 go_enter Tryz.func114, Tryz.ntmps114
 go_wp2
 all_goals
  go_ret
  refine ⟨retb ?_, Below.refl _ _⟩
  first | rfl | (rw [Bool.eq_iff_iff]; simp; try omega)
end Go.Proofs.YtlmpiobdgkmmgaaGreatDoor
namespace Go.Proofs.YtlmpiobdgkmmgaaGreatDoor
open Go.RowKit Go.Lib
def exC (l : List (Int × Value × List Int)) : List Value := l.flatMap fun t => [Value.int .i64 t.1, t.2.1]
def exO (l : List (Int × Value × List Int)) : Exits := l.map fun t => (t.1, t.2.2)
theorem exC_get : ∀ (l : List (Int × Value × List Int)) (i : Nat) (t : Int × Value × List Int), l[i]? = some t → (exC l)[i * 2]? = some (.int .i64 t.1) ∧ (exC l)[i * 2 + 1]? = some t.2.1 := by
 intro l
 induction l with
 | nil => intro i t h; simp at h
 | cons y r ih =>
  intro i t h
  cases i with
  | zero => simp only [List.getElem?_cons_zero, Option.some.injEq] at h; subst h; simp [exC]
  | succ i =>
   have := ih i t (by simpa using h)
   have e : (i + 1) * 2 = i * 2 + 1 + 1 := by omega
   rw [e]
   simpa [exC] using this
theorem ExL.mk_ {Q : Nat → Prop} {w : World} {l : List (Int × Value × List Int)} {v : Value} {g c : Nat} (hv : v = .slice (some ⟨g, 0, none⟩) l.length c) (hq : Q g) (hg : g < w.heap.size) (hc : ∀ (j : Nat) (u : Value), (exC l)[j]? = some u → w.cell? ⟨g, j, none⟩ = some u) (hs : ∀ t ∈ l, St Q w t.2.1 t.2.2) : ExL Q w v (exO l) := by
 refine ⟨_, c, by rw [hv, exO, List.length_map], fun h0 => ⟨g, 0, rfl, hq, hg, fun i x s hx => ?_⟩⟩
 rw [exO, List.getElem?_map, Option.map_eq_some_iff] at hx
 obtain ⟨t, ht, e⟩ := hx
 simp only [Prod.mk.injEq] at e
 obtain ⟨rfl, rfl⟩ := e
 obtain ⟨f0, f1⟩ := exC_get l i t ht
 exact ⟨by rw [Nat.zero_add]; exact hc _ _ f0, t.2.1, by rw [Nat.zero_add]; exact hc _ _ f1, hs t (List.mem_of_getElem? ht)⟩
theorem ExL.lit {Q : Nat → Prop} {w : World} (l : List (Int × Value × List Int)) (T : TypeId) (n : Nat) (hn : n = l.length) (hq : Q w.heap.size) (C : Array Value) (hC : C = (exC l).toArray) (hs : ∀ t ∈ l, St Q w t.2.1 t.2.2) :
 ExL Q (w.alloc (.cells C T)) (.slice (some ⟨w.heap.size, 0, none⟩) n n) (exO l) := by
 subst hn hC
 refine ExL.mk_ rfl hq (by simp) (fun j u hj => ?_) (fun t ht => (hs t ht).below (ext_alloc (Below.refl _ _) _))
 rw [World.cell?_alloc_at _ _ _ _ rfl, List.getElem?_toArray]
 exact hj
theorem StepPost.no {Q : Nat → Prop} {W w' : World} {r : Option Exits} (h : r = none) (b : Below W.heap.size W w') : StepPost Q W r (.returned (.tuple #[.slice none 0 0, .bool false])) w' := ⟨b, by subst h; rfl⟩
theorem StepPost.yes {Q : Nat → Prop} {W w' : World} {r : Option Exits} {l : Exits} {v : Value} (h : r = some l) (b : Below W.heap.size W w') (e : ExL Q w' v l) : StepPost Q W r (.returned (.tuple #[v, .bool true])) w' := ⟨b, by subst h; exact ⟨v, rfl, e⟩⟩
theorem bytes_so (w : World) (lb : ByteArray) (l : List Int) (hl : lb.data.toList.map (fun x => (x.toNat : Int)) = l) : ∃ c, (convert 9 89 (.string lb)).run Tryz.prog w = .ok (.slice (some ⟨w.heap.size, 0, none⟩) lb.size c) (bytesWorld w 96 lb) ∧
 St (fun x => w.heap.size ≤ x) (bytesWorld w 96 lb) (.slice (some ⟨w.heap.size, 0, none⟩) lb.size c) l ∧ Below w.heap.size w (bytesWorld w 96 lb) := by
 have hz : lb.size = l.length := by
  subst hl
  rw [List.length_map, Array.length_toList]
  rfl
 refine ⟨_, Go.Lib.run_convert_string_bytes w _ _ _ lb Tryz.underlying9 Tryz.underlying89 Tryz.underlying96, ?_, ⟨rfl, rfl, rfl, by rw [bytesWorld_size]; omega, fun k hk => bytesWorld_at_old w _ lb k hk⟩⟩
 refine ⟨_, _, by rw [hz], by rw [← hz]; exact grownCap_ge _ _ _ _, fun h0 => ⟨w.heap.size, 0, rfl, Nat.le_refl _, by rw [bytesWorld_size]; omega, fun i x hx => ?_⟩⟩
 have hi := (List.getElem?_eq_some_iff.1 hx).1
 rw [Nat.zero_add, bytesWorld_cell _ _ _ _ (by omega)]
 subst hl
 rw [List.getElem?_map, Option.map_eq_some_iff] at hx
 obtain ⟨y, hy, rfl⟩ := hx
 rw [List.getD_eq_getElem?_getD, hy]
 rfl
theorem cell_lt8 {w : World} {b o : Nat} {v : Value} (h : w.cell? ⟨b, o, none⟩ = some v) : b < w.heap.size := World.block_lt_of_cell? _ _ h
theorem ends_le {s l : List Int} (h : endsS s l = true) : l.length ≤ s.length := by
 unfold endsS at h
 simp only [Bool.and_eq_true, decide_eq_true_eq] at h
 exact h.1
theorem wpList_conv_so {ops : Array Oper} {rest : List Oper} {o : Oper} {a : Act} {Q : Exit → Act → World → Prop} {W : World} (hg : o.guard = none) (x : Operand) (ho : o.op = .convert 9 89 x) (lb : ByteArray) (l : List Int) (hl : lb.data.toList.map (fun x => (x.toNat : Int)) = l) (hx : a.eval x = .string lb)
 (hK : ∀ v' w', St (fun x => W.heap.size ≤ x) w' v' l → Below W.heap.size W w' → wpList Tryz.prog ops Q rest (a.put o.dst v') w') : wpList Tryz.prog ops Q (o :: rest) a W := by
 refine wpList_plain hg fun K hK' => ?_
 obtain ⟨c, hr, h1, h2⟩ := bytes_so W lb l hl
 unfold Oper.wp execOp
 simp only [ho, hx, hr, Sem.run_bind, Sem.run_pure, Result.andThen_ok]
 exact hK' _ _ (hK _ _ h1 h2)
theorem _root_.Go.World.ownsRow.below_ {W w w' : World} {n : Nat} {e : TypeId} {v : Value} {xs : List Value} (h : w.ownsRow W.heap.size e 1 v n xs) (b : Below w.heap.size w w') : w'.ownsRow W.heap.size e 1 v n xs := by
 rcases h.2 with ⟨e1, h0⟩ | ⟨g, cap, cur, e1, hb, hg, r⟩
 ·exact ⟨h.1, .inl ⟨e1, h0⟩⟩
 ·exact ⟨h.1, .inr ⟨g, cap, cur, e1, hb, (b.block g (lt_of_block hg)).trans hg, r⟩⟩
theorem lit1 {w : World} {Q : Nat → Prop} (x : Int) (hq : ∀ y, w.heap.size ≤ y → Q y) : St Q (w.alloc (.cells #[.int .u8 x] 96)) (.slice (some ⟨w.heap.size, 0, none⟩) 1 1) [x] := St.lit w [x] _ 1 rfl (hq _ (Nat.le_refl _)) _ rfl
theorem lit2 {w : World} {Q : Nat → Prop} (x y : Int) (hq : ∀ y, w.heap.size ≤ y → Q y) : St Q (w.alloc (.cells #[.int .u8 x, .int .u8 y] 96)) (.slice (some ⟨w.heap.size, 0, none⟩) 2 2) [x, y] := St.lit w [x, y] _ 2 rfl (hq _ (Nat.le_refl _)) _ rfl
theorem St.form {Q : Nat → Prop} {W : World} {v : Value} {s : List Int} (h : St Q W v s) : ∃ a n k, v = .slice a n k := by
 obtain ⟨a, c, e, -⟩ := h
 exact ⟨_, _, _, e⟩
theorem St.up {Q : Nat → Prop} {W W' w : World} {v : Value} {s : List Int} (h : St (fun x => W'.heap.size ≤ x) w v s) (b : W.heap.size ≤ W'.heap.size) (hQ : ∀ x, W.heap.size ≤ x → Q x) : St Q w v s := h.kept (fun x hx _ => hQ x (Nat.le_trans b hx)) (fun _ _ _ => rfl) (Nat.le_refl _)
theorem step1 {Q : Nat → Prop} {W w : World} {v : Value} {s : List Int} {n m : Int} (hm : m = n + 1) (t : St Q w v s) (hq : Q w.heap.size) (b : Below W.heap.size W w) :
 Below W.heap.size W (w.alloc (.cells #[.int .i64 m, v] 92)) ∧ ExL Q (w.alloc (.cells #[.int .i64 m, v] 92)) (.slice (some ⟨w.heap.size, 0, none⟩) 1 1) [(n + 1, s)] := by
 subst hm
 exact ⟨ext_alloc b _, ExL.lit [(n + 1, v, s)] _ 1 rfl hq _ rfl (fun t ht => by simp at ht; subst ht; exact t)⟩
theorem takes_any {b g o : Nat} {p : PI} {tv v : Value} {Q : Nat → Prop} {s : List Int} (n : Int) (W : World) (hp : InP W b g o p tv) (hb : b ≤ W.heap.size) (hs : St Q W v s) (hQ : ∀ x, W.heap.size ≤ x → Q x) (hsl : s.length ≤ 2000) (hn : 0 ≤ n ∧ n ≤ 100000) {lb : ByteArray} {l more : List Int} {u : Value} {Qm : Nat → Prop} {Bs Bl nl : Nat} (hlb : lb.data.toList.map (fun x => (x.toNat : Int)) = l) (hl : l.length = nl) (hl2 : nl ≤ 10) (hA : W.cell? ⟨Bs, 0, none⟩ = some (.string lb)) (hB : W.cell? ⟨Bl, 0, none⟩ = some u) (hu : St Qm W u more) (hm : more.length ≤ 10) : Calls Tryz.prog 107 #[.pointer (some ⟨g, o, none⟩), .int .i64 n, v, .pointer (some ⟨Bs, 0, none⟩), .pointer (some ⟨Bl, 0, none⟩)] W (StepPost Q W (takesS l more n s)) := by
 have HP := Lib.hid hp; have HS := Lib.hid hs; have HQ := Lib.hid hQ
 have hgl := hp.lt
 have hg1 : g < W.heap.size := by omega
 obtain ⟨hn1, hn2⟩ := hn
 obtain ⟨a, kc, rfl, -⟩ := hs
 obtain ⟨ns, hns⟩ : ∃ ns, s.length = ns := ⟨_, rfl⟩
 rw [hns] at hsl ⊢
 have HN := Lib.hid hns
 clear hp hns hQ
 have hs1 := HS.out
 rw [HN.out] at hs1
 have HL : Hid (l.length = nl) := Lib.hid hl
 clear hl
 go_enter Tryz.func107, Tryz.ntmps107
 have hlz : lb.size = nl := by
  rw [← HL.out, ← hlb, List.length_map, Array.length_toList]
  rfl
 have HLZ := Lib.hid hlz
 have HU := Lib.hid hu; have HM := Lib.hid hm
 have HLT := Lib.hid (And.intro (cell_lt8 hA) (cell_lt8 hB))
 have HA := Lib.hid hA; have HB := Lib.hid hB
 clear hlz hu hm hB
 go_wp2_with (refine wpList_conv_so rfl _ rfl lb l hlb rfl ?_)
 rintro v1 w1 t1 b1
 have T1 := Lib.hid t1; have B1 := Lib.hid b1; have HS1 := Lib.hid (hs1.below b1)
 clear t1 b1 hs1 hA
 go_wp2_with fail
 refine (ends_any w1 (s := s) (l := l) HS1.out T1.out (by rw [HN.out]; omega) (by rw [HL.out]; omega)).mono ?_
 rintro e w' ⟨rfl, rfl⟩
 cases he : endsS s l
 ·have HR : Hid (takesS l more n s = none) := Lib.hid (by unfold takesS; rw [he]; rfl)
  clear he
  go_wp2_with fail
  go_ret2
  exact StepPost.no HR.out B1.out
 ·have hle := ends_le he
  rw [HN.out, HL.out] at hle
  have HR : Hid (takesS l more n s = some [(n + 1, withS s nl more)]) := Lib.hid (by unfold takesS; rw [he, HL.out]; rfl)
  have cA := (B1.out.cell (p := ⟨Bs, 0, none⟩) HLT.out.1).trans HA.out
  have cB := (B1.out.cell (p := ⟨Bl, 0, none⟩) HLT.out.2).trans HB.out
  have hlz := HLZ.out
  clear he
  obtain ⟨zz, hzz⟩ : ∃ zz, lb.size = zz := ⟨_, rfl⟩
  have hz2 : zz = nl := by rw [← hzz]; exact hlz
  clear hlz
  subst hz2
  go_wp2_with fail
  clear hzz
  refine (with_any (s := s) (l := more) zz w' HS1.out (HU.out.below B1.out) (by rw [HN.out]; omega) (by have := HM.out; omega) (by rw [HN.out]; omega)).mono ?_
  rintro e w2 ⟨v2, rfl, t2, b2⟩
  have E := Lib.hid (step1 (Q := Q) (W := W) (n := n) rfl (t2.up B1.out.size HQ.out) (HQ.out _ (by have := B1.out.size; have := b2.size; omega)) (ext_trans B1.out b2))
  obtain ⟨a2, n2, k2, rfl⟩ := t2.form
  clear t2 b2
  go_wp2_with fail
  go_ret2
  exact StepPost.yes HR.out E.out.1 E.out.2
theorem called_any {b g o : Nat} {p : PI} {tv v : Value} {Q : Nat → Prop} {s : List Int} (n : Int) (W : World) (hp : InP W b g o p tv) (hb : b ≤ W.heap.size) (hs : St Q W v s) (hQ : ∀ x, W.heap.size ≤ x → Q x) (hsl : s.length ≤ 2000) (hn : 0 ≤ n ∧ n ≤ 100000) (hlo : 0 ≤ p.b) (hhi : p.b ≤ 1000) : Calls Tryz.prog 84 #[.pointer (some ⟨g, o, none⟩), .int .i64 n, v] W (StepPost Q W (takesS (manyS p.b) [86] n s)) := by
 have HP := Lib.hid hp; have HS := Lib.hid hs; have HQ := Lib.hid hQ
 have hgl := hp.lt
 have hg1 : g < W.heap.size := by omega
 obtain ⟨hn1, hn2⟩ := hn
 obtain ⟨a, kc, rfl, -⟩ := hs
 obtain ⟨ns, hns⟩ : ∃ ns, s.length = ns := ⟨_, rfl⟩
 rw [hns] at hsl ⊢
 have HN := Lib.hid hns
 clear hp hns hQ
 have c2 := HP.out.c2
 obtain ⟨m, hm⟩ : ∃ m : Nat, p.b = (m : Int) := ⟨p.b.toNat, by omega⟩
 rw [hm] at c2 ⊢
 have hm2 : m ≤ 1000 := by omega
 have HC2 := Lib.hid c2
 have hml : (manyS (m : Int)).length = m := by simp [manyS]
 have HML := Lib.hid hml
 clear hm hml hlo hhi
 go_enter Tryz.func84, Tryz.ntmps84
 go_wp2_with fail
 refine (many_any (m : Int) W (by omega)).mono ?_
 rintro e w1 ⟨v1, rfl, o1, b1⟩
 have T1 := Lib.hid (St.ofRow (Q := fun x => W.heap.size ≤ x) o1 fun _ h => h)
 have B1 := Lib.hid b1
 have hs1 := HS.out.below b1
 rw [HN.out] at hs1
 have HS1 := Lib.hid hs1
 have hg3 : g < w1.heap.size := by have := b1.size; omega
 have c2 := (b1.cell (p := ⟨g, o + 2, none⟩) hg1).trans HC2.out
 clear o1 b1 hs1
 go_wp2_with fail
 refine (ends_any w1 (s := s) (l := manyS (m : Int)) HS1.out T1.out (by rw [HN.out]; omega) (by rw [HML.out]; omega)).mono ?_
 rintro e w' ⟨rfl, rfl⟩
 cases he : endsS s (manyS (m : Int))
 ·have HR : Hid (takesS (manyS (m : Int)) [86] n s = none) := Lib.hid (by unfold takesS; rw [he]; rfl)
  clear he
  go_wp2_with fail
  go_ret2
  exact StepPost.no HR.out B1.out
 ·have hle := ends_le he
  rw [HN.out, HML.out] at hle
  have HR : Hid (takesS (manyS (m : Int)) [86] n s = some [(n + 1, withS s m [86])]) := Lib.hid (by unfold takesS; rw [he, HML.out]; rfl)
  clear he
  go_wp2_with fail
  refine (with_any (s := s) (l := [86]) m _ (HS1.out.below (ext_alloc (Below.refl _ _) _)) (lit1 (w := w') (Q := fun _ => True) 86 fun _ _ => trivial) (by rw [HN.out]; omega) (by simp) (by rw [HN.out]; omega)).mono ?_
  rintro e w2 ⟨v2, rfl, t2, b2⟩
  have B2 := ext_trans (ext_alloc B1.out (.cells #[.int .u8 86] 96)) b2
  have E := Lib.hid (step1 (Q := Q) (W := W) (n := n) rfl (t2.up (by have := B1.out.size; simp; omega) HQ.out) (HQ.out _ B2.size) B2)
  obtain ⟨a2, n2, k2, rfl⟩ := t2.form
  clear t2 b2 B2
  go_wp2_with fail
  go_ret2
  exact StepPost.yes HR.out E.out.1 E.out.2
theorem walked_any {b g o : Nat} {p : PI} {tv v : Value} {Q : Nat → Prop} {s : List Int} (n : Int) (W : World) (hp : InP W b g o p tv) (hb : b ≤ W.heap.size) (hs : St Q W v s) (hQ : ∀ x, W.heap.size ≤ x → Q x) (hsl : s.length ≤ 2000) (hn : 0 ≤ n ∧ n ≤ 100000) (hlo : 0 ≤ p.b) : Calls Tryz.prog 92 #[.pointer (some ⟨g, o, none⟩), .int .i64 n, v] W (StepPost Q W (walkS p n s)) := by
 have HP := Lib.hid hp; have HS := Lib.hid hs; have HQ := Lib.hid hQ
 have hgl := hp.lt
 have hg1 : g < W.heap.size := by omega
 obtain ⟨hn1, hn2⟩ := hn
 obtain ⟨a, kc, rfl, -⟩ := hs
 obtain ⟨ns, hns⟩ : ∃ ns, s.length = ns := ⟨_, rfl⟩
 rw [hns] at hsl ⊢
 have HN := Lib.hid hns
 clear hp hns hQ
 have c2 := HP.out.c2
 have HW : ∀ r : Option Exits, (if p.b ≤ (s.length : Int) then some [(n + 1, withS s p.b.toNat [86])] else none) = r → Hid (walkS p n s = r) := fun r h => Lib.hid h
 obtain ⟨m, hm⟩ : ∃ m : Nat, p.b = (m : Int) := ⟨p.b.toNat, by omega⟩
 rw [hm] at c2 HW
 rw [HN.out] at HW
 have hs1 := HS.out
 rw [HN.out] at hs1
 have HS1 := Lib.hid hs1
 clear hm hs1 hlo
 by_cases h : ns < m
 ·have HR := HW none (if_neg (by omega))
  clear HW
  go_enter Tryz.func92, Tryz.ntmps92
  go_wp2_with fail
  go_ret2
  exact StepPost.no HR.out (Below.refl _ _)
 ·have HR := HW (some [(n + 1, withS s m [86])]) (by rw [if_pos (by omega)]; rfl)
  clear HW
  go_enter Tryz.func92, Tryz.ntmps92
  go_wp2_with fail
  refine (with_any (s := s) (l := [86]) m _ (HS1.out.below (ext_alloc (Below.refl _ _) _)) (lit1 (w := W) (Q := fun _ => True) 86 fun _ _ => trivial) (by rw [HN.out]; omega) (by simp) (by rw [HN.out]; omega)).mono ?_
  rintro e w2 ⟨v2, rfl, t2, b2⟩
  have B2 := ext_trans (ext_alloc (Below.refl W.heap.size W) (.cells #[.int .u8 86] 96)) b2
  have E := Lib.hid (step1 (Q := Q) (W := W) (n := n) rfl (t2.up (by simp) HQ.out) (HQ.out _ B2.size) B2)
  obtain ⟨a2, n2, k2, rfl⟩ := t2.form
  clear t2 b2 B2
  go_wp2_with fail
  go_ret2
  exact StepPost.yes HR.out E.out.1 E.out.2
theorem moved_any {b g o : Nat} {p : PI} {tv v : Value} {Q : Nat → Prop} {s : List Int} (n : Int) (W : World) (hp : InP W b g o p tv) (hb : b ≤ W.heap.size) (hs : St Q W v s) (hQ : ∀ x, W.heap.size ≤ x → Q x) (hsl : s.length ≤ 2000) (hn : 0 ≤ n ∧ n ≤ 100000) (hlo : 0 ≤ p.a) (hhi : p.a ≤ 1000) : Calls Tryz.prog 89 #[.pointer (some ⟨g, o, none⟩), .int .i64 n, v] W (StepPost Q W (takesS (65 :: manyS p.a) [65] n s)) := by
 have HP := Lib.hid hp; have HS := Lib.hid hs; have HQ := Lib.hid hQ
 have hgl := hp.lt
 have hg1 : g < W.heap.size := by omega
 obtain ⟨hn1, hn2⟩ := hn
 obtain ⟨a, kc, rfl, -⟩ := hs
 obtain ⟨ns, hns⟩ : ∃ ns, s.length = ns := ⟨_, rfl⟩
 rw [hns] at hsl ⊢
 have HN := Lib.hid hns
 clear hp hns hQ
 have c1 := HP.out.c1
 obtain ⟨m, hm⟩ : ∃ m : Nat, p.a = (m : Int) := ⟨p.a.toNat, by omega⟩
 rw [hm] at c1 ⊢
 have hm2 : m ≤ 1000 := by omega
 have HC1 := Lib.hid c1
 have hml : (65 :: manyS (m : Int)).length = m + 1 := by simp [manyS]
 have HML := Lib.hid hml
 clear hm hml hlo hhi
 have HO0 : Hid (∀ w : World, (w.alloc (.cells #[.int .u8 65] 96)).ownsRow w.heap.size 96 1 (.slice (some ⟨w.heap.size, 0, none⟩) 1 1) 1 (soV [65])) := Lib.hid fun w => ⟨rfl, .inr ⟨_, 1, #[.int .u8 65], rfl, Nat.le_refl _, heap_alloc_new w _, Nat.le_refl _, by unfold maxLen; omega, rfl, rfl⟩⟩
 go_enter Tryz.func89, Tryz.ntmps89
 go_wp2_with fail
 refine (many_any (m : Int) _ (by omega)).mono ?_
 rintro e w1 ⟨v1, rfl, o1, b1⟩
 have T1 := Lib.hid (St.ofRow (Q := fun _ => True) o1 fun _ _ => trivial)
 have O0 := Lib.hid (World.ownsRow.below_ (HO0.out W) b1)
 have B1 := Lib.hid (ext_trans (ext_alloc (Below.refl W.heap.size W) (.cells #[.int .u8 65] 96)) b1)
 have HZ1 := Lib.hid b1.size
 have hg3 : g < w1.heap.size := by have := b1.size; simp at this; omega
 clear o1 b1
 go_wp2_with (at_builtin; refine wpList_append_so (W := w1) rfl _ _ 89 89 96 rfl Tryz.underlying89 Tryz.underlying89 W.heap.size _ 1 (soV [65]) rfl O0.out _ (manyS (m : Int)) rfl T1.out (by have := HML.out; simp at this ⊢; omega) B1.out.size ?_)
 rintro v2 w2 o2 g2 -
 have B2 := Lib.hid (B1.out.grown g2 B1.out.size (fun k hk => (World.ownsRow.lt O0.out k hk).1))
 have T2 := Lib.hid (St.ofRow (Q := fun x => W.heap.size ≤ x) (s := 65 :: manyS (m : Int)) o2 fun _ h => h)
 have hs1 := HS.out.below B2.out
 rw [HN.out] at hs1
 have HS1 := Lib.hid hs1
 have hg4 : g < w2.heap.size := by have := B2.out.size; omega
 have c1 := (B2.out.cell (p := ⟨g, o + 1, none⟩) hg1).trans HC1.out
 clear o2 g2 hs1
 go_wp2_with fail
 refine (ends_any w2 (s := s) (l := 65 :: manyS (m : Int)) HS1.out T2.out (by rw [HN.out]; omega) (by rw [HML.out]; omega)).mono ?_
 rintro e w' ⟨rfl, rfl⟩
 cases he : endsS s (65 :: manyS (m : Int))
 ·have HR : Hid (takesS (65 :: manyS (m : Int)) [65] n s = none) := Lib.hid (by unfold takesS; rw [he]; rfl)
  clear he
  go_wp2_with fail
  go_ret2
  exact StepPost.no HR.out B2.out
 ·have hle := ends_le he
  rw [HN.out, HML.out] at hle
  have HR : Hid (takesS (65 :: manyS (m : Int)) [65] n s = some [(n + 1, withS s (m + 1) [65])]) := Lib.hid (by unfold takesS; rw [he, HML.out]; rfl)
  clear he
  go_wp2_with fail
  refine (with_any (s := s) (l := [65]) (m + 1) _ (HS1.out.below (ext_alloc (Below.refl _ _) _)) (lit1 (w := w') (Q := fun _ => True) 65 fun _ _ => trivial) (by rw [HN.out]; omega) (by simp) (by rw [HN.out]; omega)).mono ?_
  rintro e w3 ⟨v3, rfl, t3, b3⟩
  have B3 := ext_trans (ext_alloc B2.out (.cells #[.int .u8 65] 96)) b3
  have E := Lib.hid (step1 (Q := Q) (W := W) (n := n) rfl (t3.up (by have := B2.out.size; simp; omega) HQ.out) (HQ.out _ B3.size) B3)
  obtain ⟨a3, n3, k3, rfl⟩ := t3.form
  clear t3 b3 B3
  go_wp2_with fail
  go_ret2
  exact StepPost.yes HR.out E.out.1 E.out.2
end Go.Proofs.YtlmpiobdgkmmgaaGreatDoor
namespace Go.Proofs.YtlmpiobdgkmmgaaGreatDoor
open Go.RowKit Go.Lib
theorem wantedC {P : Program} {ops : Array Oper} {o : Oper} {a : Act} {w : World} {K : Act → World → Prop} {Q : Exit → Act → World → Prop} (hw : Region.wanted o (yielded ops a.tmps) = true) (h : Oper.wp P o a w K Q) : if Region.wanted o (yielded ops a.tmps) = true then Oper.wp P o a w K Q else K (a.put o.dst undef) w := by rw [if_pos hw]; exact h
theorem with_lit {Q Q' : Nat → Prop} {v u : Value} {s l : List Int} (n : Nat) (z : Int) (W : World) (hz : z = (n : Int)) (hs : St Q W v s) (hl : St Q' W u l) (h1 : s.length ≤ 400000) (h2 : l.length ≤ 400000) (hn : n ≤ s.length) :
 Calls Tryz.prog 74 #[v, .int .i64 z, u] W fun e w' => ∃ v', e = .returned v' ∧ St (fun g => W.heap.size ≤ g) w' v' (withS s n l) ∧ Below W.heap.size W w' := by
 subst hz
 exact with_any n W hs hl h1 h2 hn
theorem jump_any {b g o : Nat} {p : PI} {tv v : Value} {Q : Nat → Prop} {s : List Int} (n : Int) (W : World) (hp : InP W b g o p tv) (hb : b ≤ W.heap.size) (hs : St Q W v s) (hQ : ∀ x, W.heap.size ≤ x → Q x) (_hsl : s.length ≤ 2000) (hn : 0 ≤ n ∧ n ≤ 100000) : Calls Tryz.prog 118 #[.pointer (some ⟨g, o, none⟩), .int .i64 n, v] W (StepPost Q W (some [(p.a, s)])) := by
 have HP := Lib.hid hp; have HS := Lib.hid hs; have HQ := Lib.hid hQ
 have hgl := hp.lt
 have hg1 : g < W.heap.size := by omega
 obtain ⟨hn1, hn2⟩ := hn
 obtain ⟨a, kc, rfl, -⟩ := hs
 obtain ⟨ns, hns⟩ : ∃ ns, s.length = ns := ⟨_, rfl⟩
 rw [hns] at _hsl ⊢
 have HN := Lib.hid hns
 clear hp hns hQ
 obtain ⟨x, hx⟩ : ∃ x, p.a = x := ⟨_, rfl⟩
 obtain ⟨y, hy⟩ : ∃ y, p.b = y := ⟨_, rfl⟩
 have c1 := HP.out.c1; have c2 := HP.out.c2
 rw [hx] at c1
 rw [hy] at c2
 try rw [hx]
 try rw [hy]
 try rw [hx] at HW
 try rw [hy] at HW
 clear hx hy
 have hs1 := HS.out
 rw [HN.out] at hs1
 have HS := Lib.hid hs1
 clear hs1
 go_enter Tryz.func118, Tryz.ntmps118
 go_wp2_with fail
 go_ret2
 exact StepPost.yes rfl (ext_alloc (Below.refl _ _) _) (ExL.lit [(x, .slice a ns kc, s)] _ 1 rfl (HQ.out _ (Nat.le_refl _)) _ rfl (fun t ht => by simp at ht; subst ht; exact HS.out))
theorem match_any {b g o : Nat} {p : PI} {tv v : Value} {Q : Nat → Prop} {s : List Int} (n : Int) (W : World) (hp : InP W b g o p tv) (hb : b ≤ W.heap.size) (hs : St Q W v s) (hQ : ∀ x, W.heap.size ≤ x → Q x) (hsl : s.length ≤ 2000) (hn : 0 ≤ n ∧ n ≤ 100000) : Calls Tryz.prog 117 #[.pointer (some ⟨g, o, none⟩), .int .i64 n, v] W (StepPost Q W (matchS p n s)) := by
 have HP := Lib.hid hp; have HS := Lib.hid hs; have HQ := Lib.hid hQ
 have hgl := hp.lt
 have hg1 : g < W.heap.size := by omega
 obtain ⟨hn1, hn2⟩ := hn
 obtain ⟨a, kc, rfl, -⟩ := hs
 obtain ⟨ns, hns⟩ : ∃ ns, s.length = ns := ⟨_, rfl⟩
 rw [hns] at hsl ⊢
 have HN := Lib.hid hns
 clear hp hns hQ
 have HW : ∀ r : Option Exits, (if endsS s [86, 86] = true then some [(n + 1, withS s 2 []), (p.a, withS s 1 [])] else none) = r → Hid (matchS p n s = r) := fun r h => Lib.hid h
 try rw [HN.out] at HW
 obtain ⟨x, hx⟩ : ∃ x, p.a = x := ⟨_, rfl⟩
 obtain ⟨y, hy⟩ : ∃ y, p.b = y := ⟨_, rfl⟩
 have c1 := HP.out.c1; have c2 := HP.out.c2
 rw [hx] at c1
 rw [hy] at c2
 try rw [hx]
 try rw [hy]
 try rw [hx] at HW
 try rw [hy] at HW
 clear hx hy
 have hs1 := HS.out
 rw [HN.out] at hs1
 have HS := Lib.hid hs1
 clear hs1
 go_enter Tryz.func117, Tryz.ntmps117
 go_wp2_with fail
 refine (ends_any _ (s := s) (l := [86, 86]) (HS.out.below (ext_alloc (Below.refl W.heap.size W) (.cells #[.int .u8 86, .int .u8 86] 96))) (lit2 (w := W) (Q := fun _ => True) 86 86 fun _ _ => trivial) (by rw [HN.out]; omega) (by simp)).mono ?_
 rintro e w' ⟨rfl, rfl⟩
 have BB := Lib.hid (ext_alloc (Below.refl W.heap.size W) (.cells #[.int .u8 86, .int .u8 86] 96))
 have HS := Lib.hid (HS.out.below (ext_alloc (Below.refl W.heap.size W) (.cells #[.int .u8 86, .int .u8 86] 96)))
 have hgc : g < (W.alloc (.cells #[.int .u8 86, .int .u8 86] 96)).heap.size := by simp; omega
 have hgb : (W.alloc (.cells #[.int .u8 86, .int .u8 86] 96)).heap[g]? = W.heap[g]? := Below.heap_alloc _ _ _ hg1
 generalize W.alloc (.cells #[.int .u8 86, .int .u8 86] 96) = w0 at BB HS hgc hgb ⊢
 have c1 := (World.cell?_of_block (a := ⟨g, o + 1, none⟩) hgb).trans c1
 have c2 := (World.cell?_of_block (a := ⟨g, o + 2, none⟩) hgb).trans c2
 cases he : endsS s [86, 86]
 ·have HR := HW none (by rw [he]; rfl)
  clear HW
  clear he
  go_wp2_with fail
  go_ret2
  exact StepPost.no HR.out BB.out
 ·have hle := ends_le he
  rw [HN.out] at hle
  simp only [List.length_cons, List.length_nil] at hle
  have HR := HW (some [(n + 1, withS s 2 []), (x, withS s 1 [])]) (by rw [he]; rfl)
  clear HW
  clear he hgb
  go_upto_region 3 with (fail)
  refine wp_region_noPanic ?_
  refine wp_region_held_drew (S := fun w => w.heap[g]? = w0.heap[g]?) (by kernel_rfl) rfl (fun hS1 => ?_)
  have HS := Lib.hid (HS.out.below (Below.refl _ w0).drew)
  have BB := Lib.hid (BB.out.drew)
  have hgc : g < w0.drew.heap.size := hgc
  generalize hwd : w0.drew = wd at HS BB hgc hS1 ⊢
  clear hwd
  refine wpV 0 ⟨some 12, .move (.tmp 1), 3, "may.go:186", #[], none⟩ (.int .i64 n) hS1 ?_
  try simp only [Act.put, List.setIfInBounds_toArray, List.set_cons_zero, List.set_cons_succ]
  refine wpT 1 ⟨some 13, .binOp Go.BinOp.add 3 (.tmp 12) (.const (Go.Value.int Go.IntKind.i64 1)) 3, 3, "may.go:186", #[⟨0, .data⟩], none⟩ (.int .i64 (n + 1)) (Or.inl ⟨by rfl, fun W hW => by first | (go_simp; done) | (go_simp; with_reducible rfl) | (go_simp; exact IntWalk.i64_in _ (by omega))⟩) hS1 ?_
  try simp only [Act.put, List.setIfInBounds_toArray, List.set_cons_zero, List.set_cons_succ]
  refine wpV 2 ⟨some 14, .move (.tmp 2), 90, "may.go:186", #[], none⟩ (.slice a ns kc) hS1 ?_
  try simp only [Act.put, List.setIfInBounds_toArray, List.set_cons_zero, List.set_cons_succ]
  refine wpV 5 ⟨some 17, .move (.tmp 0), 80, "may.go:186", #[], none⟩ (.pointer (some ⟨g, o, none⟩)) hS1 ?_
  try simp only [Act.put, List.setIfInBounds_toArray, List.set_cons_zero, List.set_cons_succ]
  refine wpV 6 ⟨some 18, .nilCheck (.tmp 17), 0, "may.go:186", #[⟨5, .data⟩], none⟩ (.pointer (some ⟨g, o, none⟩)) hS1 ?_
  try simp only [Act.put, List.setIfInBounds_toArray, List.set_cons_zero, List.set_cons_succ]
  refine wpV 7 ⟨some 19, .fieldAddr 47 (.tmp 18) 1, 0, "may.go:186", #[⟨6, .data⟩], none⟩ (.pointer (some ⟨g, o + 1, none⟩)) hS1 ?_
  try simp only [Act.put, List.setIfInBounds_toArray, List.set_cons_zero, List.set_cons_succ]
  refine wpT 8 ⟨some 20, .load 3 (.tmp 19), 3, "may.go:186", #[⟨7, .data⟩], none⟩ (.int .i64 x) (Or.inl ⟨by rfl, fun W hW => by have e := (World.cell?_of_block (a := ⟨g, o + 1, none⟩) hW).trans c1; go_simp; done⟩) hS1 ?_
  try simp only [Act.put, List.setIfInBounds_toArray, List.set_cons_zero, List.set_cons_succ]
  refine wpV 9 ⟨some 21, .move (.tmp 2), 90, "may.go:186", #[], none⟩ (.slice a ns kc) hS1 ?_
  try simp only [Act.put, List.setIfInBounds_toArray, List.set_cons_zero, List.set_cons_succ]
  refine wpAnyH_ready (rs := [3]) (by kernel_rfl) (by simp) ?_
  refine AllReadyH.cons (o := ⟨some 15, .call { callee := .value (.func 74), args := #[.tmp 14, .const (Go.Value.int Go.IntKind.i64 2), .const (Go.Value.slice none 0 0)], argTypes := #[90, 3, 89] }, 90, "may.go:186", #[⟨2, .data⟩], none⟩) rfl (fun K hK => ?_) ?_
  ·refine wantedC (by rfl) ?_
   go_simp
   go_at_call 74
   refine (with_lit (s := s) (l := []) 2 _ wd rfl HS.out (St.nil (fun _ => True) _) (by rw [HN.out]; omega) (by simp) (by rw [HN.out]; omega)).mono ?_
   rintro e w1 ⟨v1, rfl, t1, b1⟩
   have T1 := Lib.hid (t1.up BB.out.size HQ.out)
   have HS := Lib.hid (HS.out.below b1)
   have hS2 := (b1.block g hgc).trans hS1
   have hgc : g < w1.heap.size := by have := b1.size; omega
   have BB := Lib.hid (ext_trans BB.out b1)
   obtain ⟨a1, n1, k1, rfl⟩ := t1.form
   clear t1 b1
   refine hK.out _ _ hS2 (fun hS1 => ?_)
   clear hK K
   try simp only [Act.put, List.setIfInBounds_toArray, List.set_cons_zero, List.set_cons_succ]
   refine wpV 4 ⟨some 16, .build 92 #[(0, .tmp 13), (1, .tmp 15)], 92, "may.go:186", #[⟨1, .data⟩, ⟨3, .data⟩], none⟩ (.agg #[.int .i64 (n + 1), .slice a1 n1 k1]) hS1 ?_
   try simp only [Act.put, List.setIfInBounds_toArray, List.set_cons_zero, List.set_cons_succ]
   refine wpAnyH_ready (rs := [10]) (by kernel_rfl) (by simp) ?_
   refine AllReadyH.cons (o := ⟨some 22, .call { callee := .value (.func 74), args := #[.tmp 21, .const (Go.Value.int Go.IntKind.i64 1), .const (Go.Value.slice none 0 0)], argTypes := #[90, 3, 89] }, 90, "may.go:186", #[⟨9, .data⟩, ⟨3, .chain⟩], none⟩) rfl (fun K hK => ?_) ?_
   ·refine wantedC (by rfl) ?_
    go_simp
    go_at_call 74
    refine (with_lit (s := s) (l := []) 1 _ w1 rfl HS.out (St.nil (fun _ => True) _) (by rw [HN.out]; omega) (by simp) (by rw [HN.out]; omega)).mono ?_
    rintro e w2 ⟨v2, rfl, t2, b2⟩
    have T2 := Lib.hid (t2.up BB.out.size HQ.out)
    have HS := Lib.hid (HS.out.below b2)
    have T1 := Lib.hid (T1.out.below b2)
    have hS2 := (b2.block g hgc).trans hS1
    have hgc : g < w2.heap.size := by have := b2.size; omega
    have BB := Lib.hid (ext_trans BB.out b2)
    obtain ⟨a2, n2, k2, rfl⟩ := t2.form
    clear t2 b2
    refine hK.out _ _ hS2 (fun hS1 => ?_)
    clear hK K
    try simp only [Act.put, List.setIfInBounds_toArray, List.set_cons_zero, List.set_cons_succ]
    refine wpV 11 ⟨some 23, .build 92 #[(0, .tmp 20), (1, .tmp 22)], 92, "may.go:186", #[⟨8, .data⟩, ⟨10, .data⟩], none⟩ (.agg #[.int .i64 x, .slice a2 n2 k2]) hS1 ?_
    try simp only [Act.put, List.setIfInBounds_toArray, List.set_cons_zero, List.set_cons_succ]
    refine wpAnyH_ready (rs := [12]) (by kernel_rfl) (by simp) ?_
    refine AllReadyH.cons (o := ⟨some 24, .buildSlice 83 2 #[(0, .tmp 16), (1, .tmp 23)], 83, "may.go:186", #[⟨4, .data⟩, ⟨11, .data⟩], none⟩) rfl (fun K hK => ?_) ?_
    ·refine wantedC (by rfl) ?_
     go_simp
     have E := Lib.hid (ExL.lit [((n + 1), .slice a1 n1 k1, withS s 2 []), (x, .slice a2 n2 k2, withS s 1 [])] 92 2 rfl (HQ.out _ BB.out.size) _ rfl (fun t ht => by
      simp only [List.mem_cons, List.not_mem_nil, or_false] at ht
      rcases ht with rfl | rfl
      ·exact T1.out
      ·exact T2.out))
     have BB := Lib.hid (ext_alloc BB.out (.cells #[.int .i64 (n + 1), .slice a1 n1 k1, .int .i64 x, .slice a2 n2 k2] 92))
     refine hK.out _ _ ((Below.heap_alloc _ _ _ hgc).trans hS1) (fun hS1 => ?_)
     clear hK K
     try simp only [Act.put, List.setIfInBounds_toArray, List.set_cons_zero, List.set_cons_succ]
     refine wpV 13 ⟨some 6, .assign (.tmp 24), 83, "may.go:186", #[⟨12, .data⟩, ⟨10, .chain⟩, ⟨0, .phase⟩, ⟨1, .phase⟩, ⟨2, .phase⟩, ⟨3, .phase⟩, ⟨4, .phase⟩, ⟨5, .phase⟩, ⟨6, .phase⟩, ⟨7, .phase⟩, ⟨8, .phase⟩, ⟨9, .phase⟩, ⟨10, .phase⟩, ⟨11, .phase⟩, ⟨12, .phase⟩], none⟩ (.slice (some ⟨w2.heap.size, 0, none⟩) 2 2) hS1 ?_
     try simp only [Act.put, List.setIfInBounds_toArray, List.set_cons_zero, List.set_cons_succ]
     refine wpV 14 ⟨some 7, .assign (.const (Go.Value.bool true)), 4, "may.go:186", #[⟨13, .chain⟩, ⟨0, .phase⟩, ⟨1, .phase⟩, ⟨2, .phase⟩, ⟨3, .phase⟩, ⟨4, .phase⟩, ⟨5, .phase⟩, ⟨6, .phase⟩, ⟨7, .phase⟩, ⟨8, .phase⟩, ⟨9, .phase⟩, ⟨10, .phase⟩, ⟨11, .phase⟩, ⟨12, .phase⟩, ⟨13, .phase⟩], none⟩ (.bool true) hS1 ?_
     try simp only [Act.put, List.setIfInBounds_toArray, List.set_cons_zero, List.set_cons_succ]
     refine wpAnyH_done (by kernel_rfl) ?_ _
     refine NoPanic.normal ?_
     go_wp2_with fail
     go_ret2
     exact StepPost.yes HR.out BB.out E.out
    exact AllReadyH.nil
   exact AllReadyH.nil
  exact AllReadyH.nil
end Go.Proofs.YtlmpiobdgkmmgaaGreatDoor
