/- The document's own answer for formulas' texts: kinds 7 to 9 and the whole. -/
import Derived.Test.YtnhgeojcelegbaaDoorPaA
import Derived.Deep.DrawnRows
namespace Go.Proofs.YtnhgeojcelegbaaDoor
open Go.RowKit Go.Lib

/-- What from does with a kid. -/
def RxF (base : Nat) (h : Hd) (ks : Trees) : Prop :=
  ∀ (n : Int) (W wa : World) (va v : Value) (l : List UInt8) (ka : Option Addr) (kl kc : Nat), RxW base wa va l v W → TreeV wa base h ks ka kl → l.length + 10 + roomH h ks ≤ 274877906944 → h.bytes + ks.bytes ≤ 16384 → treeFits h ks = true →
    Calls Tryd.prog 78 #[v, .agg #[.int .i64 h.kind, .int .i64 h.op, .int .i64 h.num, .string ⟨h.text.toArray⟩, .int .i64 h.ref.row, .int .i64 h.ref.col, .bool h.ref.pr, .bool h.ref.pc, .int .i64 h.to.row, .int .i64 h.to.col, .bool h.to.pr, .bool h.to.pc, .int .i64 h.fn, (.slice ka kl kc)], .int .i64 n] W (RxP base wa va (l ++ fromL (h, textL h ks) n))
set_option maxRecDepth 100000 in
set_option maxHeartbeats 2000000 in
theorem rx_k8 {base : Nat} (op num : Int) (text : List UInt8) (ref tr : RefT) (fn : Int) (ks : Trees) (A : AllT (RxF base) ks) : RxS base ⟨8, op, num, text, ref, tr, fn⟩ ks := by
  intro W wa va v l ka kl kc P tv hl hy hf
  have hg := good_of (h := ⟨8, op, num, text, ref, tr, fn⟩) (n := ks.len) (by simp only [treeFits, Bool.and_eq_true] at hf; exact hf.1)
  simp only at hg
  have HP0 := Lib.hid P
  have P1 := Lib.hid ((P.below (ext_alloc (Below.refl _ _) (.cells #[.int .i64 8, .int .i64 op, .int .i64 num, .string ⟨text.toArray⟩, .int .i64 ref.row, .int .i64 ref.col, .bool ref.pr, .bool ref.pc, .int .i64 tr.row, .int .i64 tr.col, .bool tr.pr, .bool tr.pc, .int .i64 fn, .slice ka kl kc] 30))).at0)
  have bx : (W.alloc (.cells #[.int .i64 8, .int .i64 op, .int .i64 num, .string ⟨text.toArray⟩, .int .i64 ref.row, .int .i64 ref.col, .bool ref.pr, .bool ref.pc, .int .i64 tr.row, .int .i64 tr.col, .bool tr.pr, .bool tr.pc, .int .i64 fn, .slice ka kl kc] 30)).heap[W.heap.size]? = some (.cells #[.int .i64 8, .int .i64 op, .int .i64 num, .string ⟨text.toArray⟩, .int .i64 ref.row, .int .i64 ref.col, .bool ref.pr, .bool ref.pc, .int .i64 tr.row, .int .i64 tr.col, .bool tr.pr, .bool tr.pc, .int .i64 fn, .slice ka kl kc] 30 (0, 0)) := heap_alloc_new W _
  have tw := (tv.kept P.bel (Nat.le_refl _)).kept (ext_alloc (Below.refl _ W) (.cells #[.int .i64 8, .int .i64 op, .int .i64 num, .string ⟨text.toArray⟩, .int .i64 ref.row, .int .i64 ref.col, .bool ref.pr, .bool ref.pc, .int .i64 tr.row, .int .i64 tr.col, .bool tr.pr, .bool tr.pc, .int .i64 fn, .slice ka kl kc] 30)) P.size
  have back : ∀ l' v' w', RxW base (W.alloc (.cells #[.int .i64 8, .int .i64 op, .int .i64 num, .string ⟨text.toArray⟩, .int .i64 ref.row, .int .i64 ref.col, .bool ref.pr, .bool ref.pc, .int .i64 tr.row, .int .i64 tr.col, .bool tr.pr, .bool tr.pc, .int .i64 fn, .slice ka kl kc] 30)) v l' v' w' → RxW base wa va l' v' w' := fun l' v' w' p => (P.below (ext_alloc (Below.refl _ _) (.cells #[.int .i64 8, .int .i64 op, .int .i64 num, .string ⟨text.toArray⟩, .int .i64 ref.row, .int .i64 ref.col, .bool ref.pr, .bool ref.pc, .int .i64 tr.row, .int .i64 tr.col, .bool tr.pr, .bool tr.pc, .int .i64 fn, .slice ka kl kc] 30))).join p
  have BACK := Lib.hid back
  have TV := Lib.hid tw
  clear P tv tw back
  go_enter Tryd.func33, Tryd.ntmps33
  go_upto_region 1 with (fail)
  generalize W.alloc (.cells #[.int .i64 8, .int .i64 op, .int .i64 num, .string ⟨text.toArray⟩, .int .i64 ref.row, .int .i64 ref.col, .bool ref.pr, .bool ref.pc, .int .i64 tr.row, .int .i64 tr.col, .bool tr.pr, .bool tr.pc, .int .i64 fn, .slice ka kl kc] 30) = W1 at *
  generalize W.heap.size = q at *
  have hq : q < W1.heap.size := (Array.getElem?_eq_some_iff.1 bx).1
  have box : ∀ l' v' w', RxW base W1 v l' v' w' → w'.heap[q]? = some (.cells #[.int .i64 8, .int .i64 op, .int .i64 num, .string ⟨text.toArray⟩, .int .i64 ref.row, .int .i64 ref.col, .bool ref.pr, .bool ref.pc, .int .i64 tr.row, .int .i64 tr.col, .bool tr.pr, .bool tr.pc, .int .i64 fn, .slice ka kl kc] 30 (0, 0)) := fun l' v' w' p => blk_others0 p.oth bx (by decide)
  have BOX := Lib.hid box
  have c0 : W1.cell? ⟨q, 0, none⟩ = some (.int .i64 8) := by simp [World.cell?, bx]
  have c1 : W1.cell? ⟨q, 1, none⟩ = some (.int .i64 op) := by simp [World.cell?, bx]
  clear bx box
  obtain ⟨ho1, ho2, hlen1⟩ := hg.2.2.2.2.1 trivial
  obtain ⟨k, rfl⟩ : ∃ k : Nat, op = k := ⟨op.toNat, by omega⟩
  obtain ⟨hk, kk, gk, gg, rfl⟩ : ∃ hk kk gk gg, ks = .cons hk kk (.cons gk gg .nil) := by
    cases ks with
    | nil => simp [Trees.len] at hlen1
    | cons a b r =>
      cases r with
      | nil => simp [Trees.len] at hlen1
      | cons c d e =>
        cases e with
        | nil => exact ⟨a, b, c, d, rfl⟩
        | cons x y z => simp [Trees.len] at hlen1
  obtain ⟨kb, ko, ja, jl, jc, rfl, hkb, nd1, tv1⟩ := TV.out.row.head
  obtain ⟨kb2, ko2, ja2, jl2, jc2, heq, hkb2, nd2, tv2⟩ := (TV.out.row.2 : RowIn _ _ (.cons gk gg .nil) _ _).head
  simp only [Option.some.injEq, Addr.mk.injEq, and_true] at heq
  obtain ⟨rfl, rfl⟩ := heq
  simp only [Nat.zero_mul, Nat.add_zero] at nd1
  simp only [Nat.zero_add, Nat.one_mul] at nd2
  have hln := TV.out.len
  simp only [treeFits, allFits, Bool.and_eq_true, and_true] at hf
  have hf1 : treeFits hk kk = true := by simp only [treeFits, Bool.and_eq_true]; exact hf.2.1
  have hf2 : treeFits gk gg = true := by simp only [treeFits, Bool.and_eq_true]; exact hf.2.2
  have hop := good_of (h := ⟨8, (k : Int), num, text, ref, tr, fn⟩) (n := (Trees.cons hk kk (.cons gk gg .nil)).len) hf.1
  simp only [Trees.bytes] at hy
  have hy1 : hk.bytes + kk.bytes ≤ 16384 := by omega
  have hy2 : gk.bytes + gg.bytes ≤ 16384 := by omega
  have hr1 : roomH ⟨8, (k : Int), num, text, ref, tr, fn⟩ (.cons hk kk (.cons gk gg .nil)) = 200 + 2 * text.length + roomH hk kk + roomH gk gg := by simp only [roomH, roomT]; omega
  rw [hr1] at hl
  have hlen := textL_room hk kk tv1.ok.num tv1.row.nums
  have hroom : (fromL (hk, textL hk kk) (levN k)).length ≤ roomH hk kk := Nat.le_trans (fromL_len (hk, textL hk kk) _) (by show (textL hk kk).length + 2 ≤ _; omega)
  have fr := fun n W' v' l' (P' : RxW base W1 v l' v' W') (hl' : l'.length + 10 + roomH hk kk ≤ 274877906944) => A.1 n W' W1 v v' l' ja jl jc P' tv1 hl' hy1 hf1
  have FR := Lib.hid fr
  have fr2 := fun n W' v' l' (P' : RxW base W1 v l' v' W') (hl' : l'.length + 10 + roomH gk gg ≤ 274877906944) => A.2.1 n W' W1 v v' l' ja2 jl2 jc2 P' tv2 hl' hy2 hf2
  have FR2 := Lib.hid fr2
  have nf1 := fun l' v' W' (P' : RxW base W1 v l' v' W') => nd1.kept P'.bel hkb
  have NF1 := Lib.hid nf1
  have nf2 := fun l' v' W' (P' : RxW base W1 v l' v' W') => nd2.kept P'.bel hkb
  have NF2 := Lib.hid nf2
  have cl := rxLevel_any ⟨8, (k : Int), num, text, ref, tr, fn⟩ (some ⟨kb, ko, none⟩) kl kc W1 (fun _ => ⟨ho1, ho2⟩)
  have hll : levH ⟨8, (k : Int), num, text, ref, tr, fn⟩ = levN k := by simp [levH]
  rw [hll] at cl
  have CL := Lib.hid cl
  have hj : kl = 2 := by rw [hln]; rfl
  subst hj
  have hsg := signL_len k
  obtain ⟨lv1, lv2⟩ := levN_in k
  have HLL := Lib.hid (show textL ⟨8, (k : Int), num, text, ref, tr, fn⟩ (.cons hk kk (.cons gk gg .nil)) = fromL (hk, textL hk kk) (levN k) ++ signL k ++ fromL (gk, textL gk gg) (levN k + 1) from rfl)
  generalize levN (k : Int) = lv at *
  have hl2 : l.length + 200 + roomH hk kk + roomH gk gg ≤ 274877906944 := by omega
  have bx := BOX.out _ _ _ P1.out
  have BXH := Lib.hid bx
  clear hg hf hy hl fr fr2 nf1 nf2 cl hll hop hr1 hln tv1 tv2 nd1 nd2 hlen bx c1
  go_wp2_with (refine wpList_load_X rfl rfl rfl BXH.out rfl ?_)
  refine CL.out.mono ?_
  rintro e w2 ⟨rfl, b2⟩
  have P2 := Lib.hid (P1.out.below b2)
  have e13 : w2.cell? ⟨q, 13, none⟩ = some (.slice (some ⟨kb, ko, none⟩) 2 kc) := by simp [World.cell?, BOX.out _ _ _ (P1.out.below b2)]
  clear b2 c0
  go_wp2_with (refine wpList_load_nd rfl rfl rfl (NF1.out _ _ _ P2.out) ?_)
  refine (FR.out lv w2 v _ P2.out (by omega)).mono ?_
  rintro e w3 ⟨v3, rfl, P3⟩
  have e1 : w3.cell? ⟨q, 1, none⟩ = some (.int .i64 (k : Int)) := by simp [World.cell?, BOX.out _ _ _ P3]
  have H3 := Lib.hid P3
  clear P3 e13
  go_wp2_with fail
  refine (rxSign_any k w3 ho1 ho2).mono ?_
  rintro e w4 ⟨rfl, b4⟩
  have P4 := Lib.hid (H3.out.below b4)
  clear b4 e1
  go_wp2_with (refine rx_str rfl rfl rfl rfl P4.out (by rw [strB_size]; simp only [List.length_append]; omega) ?_)
  intro v5 w5 P5
  have e13 : w5.cell? ⟨q, 13, none⟩ = some (.slice (some ⟨kb, ko, none⟩) 2 kc) := by simp [World.cell?, BOX.out _ _ _ P5]
  have H5 := Lib.hid P5
  clear P5
  rw [show (strB (signL (k : Int))).data.toList = signL k from rfl] at H5
  go_wp2_with (refine wpList_load_nd rfl rfl rfl (NF2.out _ _ _ H5.out) ?_)
  refine (FR2.out (lv + 1) w5 v5 _ H5.out (by simp only [List.length_append]; omega)).mono ?_
  rintro e w6 ⟨v6, rfl, P6⟩
  have H6 := Lib.hid P6
  clear P6 e13
  go_wp2
  go_ret
  exact ⟨_, rfl, BACK.out _ _ _ (by rw [HLL.out]; simpa using H6.out)⟩
end Go.Proofs.YtnhgeojcelegbaaDoor

namespace Go.Proofs.YtnhgeojcelegbaaDoor
open Go.RowKit Go.Lib

def RKid (base : Nat) (W1 : World) (v : Value) (E : List UInt8) (ka : Option Addr) (kl : Nat) (v0 v15 : Value) (wr : World) : Prop :=
  ∃ (j : Nat) (rest : Trees) (l : List UInt8), v15 = .int .i64 j ∧ j + rest.len = kl ∧ RowIn W1 base rest ka j ∧ AllT (RxS base) rest ∧ Hid (RxW base W1 v l v0 wr) ∧ Hid (l ++ argsL (txs rest) j = E) ∧ l.length + roomT rest ≤ 274877906900 ∧ allFits rest = true ∧ rest.bytes ≤ 16384
set_option maxRecDepth 100000 in
set_option maxHeartbeats 2000000 in
theorem rx_k9 {base : Nat} (op num : Int) (text : List UInt8) (ref tr : RefT) (fn : Int) (ks : Trees) (A : AllT (RxS base) ks) : RxS base ⟨9, op, num, text, ref, tr, fn⟩ ks := by
  intro W wa va v l ka kl kc P tv hl hy hf
  have hg := good_of (h := ⟨9, op, num, text, ref, tr, fn⟩) (n := ks.len) (by simp only [treeFits, Bool.and_eq_true] at hf; exact hf.1)
  simp only at hg
  have HP0 := Lib.hid P
  have P1 := Lib.hid ((P.below (ext_alloc (Below.refl _ _) (.cells #[.int .i64 9, .int .i64 op, .int .i64 num, .string ⟨text.toArray⟩, .int .i64 ref.row, .int .i64 ref.col, .bool ref.pr, .bool ref.pc, .int .i64 tr.row, .int .i64 tr.col, .bool tr.pr, .bool tr.pc, .int .i64 fn, .slice ka kl kc] 30))).at0)
  have bx : (W.alloc (.cells #[.int .i64 9, .int .i64 op, .int .i64 num, .string ⟨text.toArray⟩, .int .i64 ref.row, .int .i64 ref.col, .bool ref.pr, .bool ref.pc, .int .i64 tr.row, .int .i64 tr.col, .bool tr.pr, .bool tr.pc, .int .i64 fn, .slice ka kl kc] 30)).heap[W.heap.size]? = some (.cells #[.int .i64 9, .int .i64 op, .int .i64 num, .string ⟨text.toArray⟩, .int .i64 ref.row, .int .i64 ref.col, .bool ref.pr, .bool ref.pc, .int .i64 tr.row, .int .i64 tr.col, .bool tr.pr, .bool tr.pc, .int .i64 fn, .slice ka kl kc] 30 (0, 0)) := heap_alloc_new W _
  have tw := (tv.kept P.bel (Nat.le_refl _)).kept (ext_alloc (Below.refl _ W) (.cells #[.int .i64 9, .int .i64 op, .int .i64 num, .string ⟨text.toArray⟩, .int .i64 ref.row, .int .i64 ref.col, .bool ref.pr, .bool ref.pc, .int .i64 tr.row, .int .i64 tr.col, .bool tr.pr, .bool tr.pc, .int .i64 fn, .slice ka kl kc] 30)) P.size
  have back : ∀ l' v' w', RxW base (W.alloc (.cells #[.int .i64 9, .int .i64 op, .int .i64 num, .string ⟨text.toArray⟩, .int .i64 ref.row, .int .i64 ref.col, .bool ref.pr, .bool ref.pc, .int .i64 tr.row, .int .i64 tr.col, .bool tr.pr, .bool tr.pc, .int .i64 fn, .slice ka kl kc] 30)) v l' v' w' → RxW base wa va l' v' w' := fun l' v' w' p => (P.below (ext_alloc (Below.refl _ _) (.cells #[.int .i64 9, .int .i64 op, .int .i64 num, .string ⟨text.toArray⟩, .int .i64 ref.row, .int .i64 ref.col, .bool ref.pr, .bool ref.pc, .int .i64 tr.row, .int .i64 tr.col, .bool tr.pr, .bool tr.pc, .int .i64 fn, .slice ka kl kc] 30))).join p
  have BACK := Lib.hid back
  have TV := Lib.hid tw
  clear P tv tw back
  go_enter Tryd.func33, Tryd.ntmps33
  go_upto_region 1 with (fail)
  generalize W.alloc (.cells #[.int .i64 9, .int .i64 op, .int .i64 num, .string ⟨text.toArray⟩, .int .i64 ref.row, .int .i64 ref.col, .bool ref.pr, .bool ref.pc, .int .i64 tr.row, .int .i64 tr.col, .bool tr.pr, .bool tr.pc, .int .i64 fn, .slice ka kl kc] 30) = W1 at *
  generalize W.heap.size = q at *
  have hq : q < W1.heap.size := (Array.getElem?_eq_some_iff.1 bx).1
  have box : ∀ l' v' w', RxW base W1 v l' v' w' → w'.heap[q]? = some (.cells #[.int .i64 9, .int .i64 op, .int .i64 num, .string ⟨text.toArray⟩, .int .i64 ref.row, .int .i64 ref.col, .bool ref.pr, .bool ref.pc, .int .i64 tr.row, .int .i64 tr.col, .bool tr.pr, .bool tr.pc, .int .i64 fn, .slice ka kl kc] 30 (0, 0)) := fun l' v' w' p => blk_others0 p.oth bx (by decide)
  have BOX := Lib.hid box
  have c0 : W1.cell? ⟨q, 0, none⟩ = some (.int .i64 9) := by simp [World.cell?, bx]
  have c12 : W1.cell? ⟨q, 12, none⟩ = some (.int .i64 fn) := by simp [World.cell?, bx]
  have b13 : ∀ l' v' w', RxW base W1 v l' v' w' → w'.cell? ⟨q, 13, none⟩ = some (.slice ka kl kc) := fun l' v' w' p => by simp [World.cell?, box _ _ _ p]
  have B13 := Lib.hid b13
  clear bx box
  simp only [treeFits, Bool.and_eq_true] at hf
  have hal := hf.2
  have hby : ks.bytes ≤ 16384 := by omega
  have hrw : l.length + 200 + roomT ks ≤ 274877906944 := by simp only [roomH] at hl; omega
  have hmax := TV.out.max
  have HLEN := Lib.hid TV.out.len
  have HAL := Lib.hid hal
  have hnl := infoName_len fn
  clear hg hf hy hl b13 hal
  obtain ⟨nm, hnm⟩ : ∃ nm, nm = (infoRow fn).name := ⟨_, rfl⟩
  rw [← hnm] at hnl
  have HLL := Lib.hid (show textL ⟨9, op, num, text, ref, tr, fn⟩ ks = nm ++ [40] ++ argsL (txs ks) 0 ++ [41] from by rw [hnm]; rfl)
  have ci := refInfo_any fn W1
  unfold InfoPost at ci
  rw [infoV_eq, ← hnm] at ci
  have CI := Lib.hid ci
  have sn : (⟨nm.toArray⟩ : ByteArray).size ≤ 30 := by rw [Lib.size_eq]; simpa using hnl
  obtain ⟨s, hs⟩ : ∃ s : ByteArray, s = ⟨nm.toArray⟩ := ⟨_, rfl⟩
  rw [← hs] at sn CI
  have HS := Lib.hid (show s.data.toList = nm by rw [hs])
  generalize (infoRow fn).cls = i1 at CI
  generalize (infoRow fn).min = i2 at CI
  generalize (infoRow fn).max = i3 at CI
  generalize infoErr fn = i4 at CI
  clear ci hnm hs
  go_wp2_with fail
  refine CI.out.mono ?_
  rintro e w2 ⟨rfl, b2⟩
  have P2 := Lib.hid ((P1.out.below b2).below (ext_alloc (Below.refl _ _) (.cells #[.string s, .int .i64 i1, .int .i64 i2, .int .i64 i3] 88)))
  clear b2 c0 c12
  go_wp2_with (refine rx_str rfl rfl rfl rfl P2.out (by omega) ?_)
  intro v3 w3 P3
  rw [HS.out] at P3
  have H3 := Lib.hid P3
  clear P3
  go_wp2_with (refine rx_byte 40 rfl rfl rfl rfl (H3.out.below (ext_alloc (Below.refl _ _) _)) (World.cell?_alloc_at _ _ _ _ rfl) (by first | omega | (simp only [List.length_append]; omega) | (simp only [List.length_append, List.length_cons, List.length_nil]; omega)) ?_)
  intro v4 w4 P4
  have H4 := Lib.hid P4
  have c13 := B13.out _ _ _ P4
  clear P4
  go_wp2_with fail
  clear c13
  go_loopw [0, 15] (fun v0 v15 wr => RKid base W1 v (l ++ (nm ++ [40]) ++ argsL (txs ks) 0) ka kl v0 v15 wr) (fun _ v15 _ => kl - (intOf v15).toNat)
  case atStart => exact ⟨0, ks, _, rfl, (by have := HLEN.out; omega), TV.out.row, A, H4, Lib.hid rfl, (by simp only [List.length_append, List.length_cons, List.length_nil]; omega), HAL.out, hby⟩
  case round =>
    obtain ⟨j, rest, l', rfl, hj, row, al, P5, HE, hM, hfa, hya⟩ := hrel
    have g13 := B13.out _ _ _ P5.out
    by_cases hlt : j < kl
    · cases rest with
      | nil => exact absurd hj (by simp only [Trees.len]; omega)
      | cons hk kk r =>
        obtain ⟨kb, ko, ja, jl, jc, rfl, hkb, nd1, tv1⟩ := row.head
        have hf1 : treeFits hk kk = true := by
          simp only [allFits, Bool.and_eq_true] at hfa
          simp only [treeFits, Bool.and_eq_true]; exact hfa.1
        have hf2 : allFits r = true := by simp only [allFits, Bool.and_eq_true] at hfa; exact hfa.2
        simp only [Trees.bytes] at hya
        simp only [Trees.len] at hj
        have hrm : roomT (.cons hk kk r) = roomH hk kk + roomT r := by simp only [roomT, roomH]
        rw [hrm] at hM
        have hlen := textL_room hk kk tv1.ok.num tv1.row.nums
        have tx := fun W' v' l' (P' : RxW base W1 v l' v' W') (hl' : l'.length + roomH hk kk ≤ 274877906944) => al.1 W' W1 v v' l' ja jl jc P' tv1 hl' (by omega) hf1
        have TX := Lib.hid tx
        have nf := fun l' v' W' (P' : RxW base W1 v l' v' W') => nd1.kept P'.bel hkb
        have NF := Lib.hid nf
        have ROW := Lib.hid row.2; have AL := Lib.hid al.2; have HF2 := Lib.hid hf2
        have hy2 : r.bytes ≤ 16384 := by omega
        clear tx nf row al nd1 tv1 hfa hf1 hya hrm hf2
        by_cases hj0 : 0 < j
        · have hjI : 0 < (j : Int) := by omega
          go_wp2_with (refine rx_byte 44 rfl rfl rfl rfl (P5.out.below (ext_alloc (Below.refl _ _) _)) (World.cell?_alloc_at _ _ _ _ rfl) (by first | omega | (simp only [List.length_append]; omega) | (simp only [List.length_append, List.length_cons, List.length_nil]; omega)) ?_)
          intro v6 w6 P6
          have h13 := B13.out _ _ _ P6
          have H6 := Lib.hid P6
          clear P6 g13
          go_wp2_with (refine wpList_load_nd rfl rfl rfl (NF.out _ _ _ H6.out) ?_)
          refine (TX.out w6 v6 _ H6.out (by first | omega | (simp only [List.length_append]; omega) | (simp only [List.length_append, List.length_cons, List.length_nil]; omega))).mono ?_
          rintro e w7 ⟨v7, rfl, P7⟩
          have H7 := Lib.hid P7
          clear P7 h13
          go_wp2
          go_roundw
          case rel => exact ⟨j + 1, r, _, by go_num, by omega, ROW.out, AL.out, H7, Lib.hid (by rw [← HE.out]; simp [txs, argsL, hj0, textL]), (by simp only [List.length_append, List.length_cons, List.length_nil]; omega), HF2.out, hy2⟩
          case measure => simp [intOf]; omega
        · have hjI : ¬ 0 < (j : Int) := by omega
          go_wp2_with (refine wpList_load_nd rfl rfl rfl (NF.out _ _ _ P5.out) ?_)
          refine (TX.out wr _ _ P5.out (by first | omega | (simp only [List.length_append]; omega) | (simp only [List.length_append, List.length_cons, List.length_nil]; omega))).mono ?_
          rintro e w7 ⟨v7, rfl, P7⟩
          have H7 := Lib.hid P7
          clear P7 g13
          go_wp2
          go_roundw
          case rel => exact ⟨j + 1, r, _, by go_num, by omega, ROW.out, AL.out, H7, Lib.hid (by rw [← HE.out]; simp [txs, argsL, hj0, textL]), (by simp only [List.length_append]; omega), HF2.out, hy2⟩
          case measure => simp [intOf]; omega
    · cases rest with
      | cons hk kk r => exact absurd hj (by simp only [Trees.len]; omega)
      | nil =>
        have hE := HE.out
        simp only [txs, argsL, List.append_nil] at hE
        have HE2 := Lib.hid hE
        clear hE HE row al hfa
        go_wp2_with (refine rx_byte 41 rfl rfl rfl rfl (P5.out.below (ext_alloc (Below.refl _ _) _)) (World.cell?_alloc_at _ _ _ _ rfl) (by first | omega | (simp only [List.length_append]; omega) | (simp only [List.length_append, List.length_cons, List.length_nil]; omega)) ?_)
        intro v6 w6 P6
        have H6 := Lib.hid P6
        clear P6
        go_wp2
        go_ret
        exact ⟨_, rfl, BACK.out _ _ _ (by
          have h := H6.out
          rw [HE2.out] at h
          rw [HLL.out]
          simpa using h)⟩
end Go.Proofs.YtnhgeojcelegbaaDoor

namespace Go.Proofs.YtnhgeojcelegbaaDoor
open Go.RowKit Go.Lib

theorem wanted_wp {P : Program} {ops : Array Oper} {o : Oper} {a : Act} {w : World} {K : Act → World → Prop} {Q : Exit → Act → World → Prop} (hw : Region.wanted o (yielded ops a.tmps) = true) (h : Oper.wp P o a w K Q) : if Region.wanted o (yielded ops a.tmps) = true then Oper.wp P o a w K Q else K (a.put o.dst undef) w := by rw [if_pos hw]; exact h
theorem rx_byteW {o : Oper} {a : Act} {K : Act → World → Prop} {Q : Exit → Act → World → Prop} {base : Nat} {wa w : World} {va : Value} {l : List UInt8} {v : Value} (c : UInt8) (sl x : Operand) {k cap : Nat} (ho : o.op = .call { callee := .builtin .append, args := #[sl, x], argTypes := #[65, 65] }) (hs : a.eval sl = v) (hx : a.eval x = .slice (some ⟨k, 0, none⟩) 1 cap) (P : RxW base wa va l v w) (hc : w.cell? ⟨k, 0, none⟩ = some (.int .u8 c.toNat)) (hl : l.length + 1 ≤ 1099511627776)
    (h : ∀ v' w', RxW base wa va (l ++ [c]) v' w' → K (a.put o.dst v') w') : o.wp Tryd.prog a w K Q := by
  obtain ⟨i0, hi, hz0, hz1, hz2⟩ := info_parts u8_infoP
  obtain ⟨v', w', hr, own, g, -, loc⟩ := run_append_own_at (P := Tryd.prog) w base 65 o.type 5 i0 (.int .u8 0) 1 1 Tryd.underlying65 hi hz0 hz1 hz2 rfl (by decide) v l.length (byteCells l) P.own ⟨k, 0, none⟩ 1 cap [.int .u8 c.toNat] rfl (fun j u hj => by
    match j, hj with
    | 0, hj => simp at hj; subst hj; simpa [Addr.add] using hc) (fun u hu => by simp at hu; subst hu; rfl) (by unfold maxLen; omega) (by omega) P.size
  unfold Oper.wp execOp
  simp only [ho, resolve, invoke, builtin, Sem.run_bind, Sem.run_pure, Result.andThen_ok, List.map_toArray, List.map_cons, List.map_nil, hs, hx, hr]
  refine h v' w' (P.app ?_ g (loc.imp id fun e => ⟨w.heap.size, Nat.le_refl _, e⟩))
  rw [List.length_append, byteCells_append]
  exact own
set_option maxRecDepth 100000 in
set_option maxHeartbeats 2000000 in
theorem rx_k7 {base : Nat} (op num : Int) (text : List UInt8) (ref tr : RefT) (fn : Int) (ks : Trees) (A : AllT (RxF base) ks) : RxS base ⟨7, op, num, text, ref, tr, fn⟩ ks := by
  intro W wa va v l ka kl kc P tv hl hy hf
  have hg := good_of (h := ⟨7, op, num, text, ref, tr, fn⟩) (n := ks.len) (by simp only [treeFits, Bool.and_eq_true] at hf; exact hf.1)
  simp only at hg
  have HP0 := Lib.hid P
  have P1 := Lib.hid ((P.below (ext_alloc (Below.refl _ _) (.cells #[.int .i64 7, .int .i64 op, .int .i64 num, .string ⟨text.toArray⟩, .int .i64 ref.row, .int .i64 ref.col, .bool ref.pr, .bool ref.pc, .int .i64 tr.row, .int .i64 tr.col, .bool tr.pr, .bool tr.pc, .int .i64 fn, .slice ka kl kc] 30))).at0)
  have bx : (W.alloc (.cells #[.int .i64 7, .int .i64 op, .int .i64 num, .string ⟨text.toArray⟩, .int .i64 ref.row, .int .i64 ref.col, .bool ref.pr, .bool ref.pc, .int .i64 tr.row, .int .i64 tr.col, .bool tr.pr, .bool tr.pc, .int .i64 fn, .slice ka kl kc] 30)).heap[W.heap.size]? = some (.cells #[.int .i64 7, .int .i64 op, .int .i64 num, .string ⟨text.toArray⟩, .int .i64 ref.row, .int .i64 ref.col, .bool ref.pr, .bool ref.pc, .int .i64 tr.row, .int .i64 tr.col, .bool tr.pr, .bool tr.pc, .int .i64 fn, .slice ka kl kc] 30 (0, 0)) := heap_alloc_new W _
  have tw := (tv.kept P.bel (Nat.le_refl _)).kept (ext_alloc (Below.refl _ W) (.cells #[.int .i64 7, .int .i64 op, .int .i64 num, .string ⟨text.toArray⟩, .int .i64 ref.row, .int .i64 ref.col, .bool ref.pr, .bool ref.pc, .int .i64 tr.row, .int .i64 tr.col, .bool tr.pr, .bool tr.pc, .int .i64 fn, .slice ka kl kc] 30)) P.size
  have back : ∀ l' v' w', RxW base (W.alloc (.cells #[.int .i64 7, .int .i64 op, .int .i64 num, .string ⟨text.toArray⟩, .int .i64 ref.row, .int .i64 ref.col, .bool ref.pr, .bool ref.pc, .int .i64 tr.row, .int .i64 tr.col, .bool tr.pr, .bool tr.pc, .int .i64 fn, .slice ka kl kc] 30)) v l' v' w' → RxW base wa va l' v' w' := fun l' v' w' p => (P.below (ext_alloc (Below.refl _ _) (.cells #[.int .i64 7, .int .i64 op, .int .i64 num, .string ⟨text.toArray⟩, .int .i64 ref.row, .int .i64 ref.col, .bool ref.pr, .bool ref.pc, .int .i64 tr.row, .int .i64 tr.col, .bool tr.pr, .bool tr.pc, .int .i64 fn, .slice ka kl kc] 30))).join p
  have BACK := Lib.hid back
  have TV := Lib.hid tw
  clear P tv tw back
  go_enter Tryd.func33, Tryd.ntmps33
  go_upto_region 1 with (fail)
  generalize W.alloc (.cells #[.int .i64 7, .int .i64 op, .int .i64 num, .string ⟨text.toArray⟩, .int .i64 ref.row, .int .i64 ref.col, .bool ref.pr, .bool ref.pc, .int .i64 tr.row, .int .i64 tr.col, .bool tr.pr, .bool tr.pc, .int .i64 fn, .slice ka kl kc] 30) = W1 at *
  generalize W.heap.size = q at *
  have hq : q < W1.heap.size := (Array.getElem?_eq_some_iff.1 bx).1
  have box : ∀ l' v' w', RxW base W1 v l' v' w' → w'.heap[q]? = some (.cells #[.int .i64 7, .int .i64 op, .int .i64 num, .string ⟨text.toArray⟩, .int .i64 ref.row, .int .i64 ref.col, .bool ref.pr, .bool ref.pc, .int .i64 tr.row, .int .i64 tr.col, .bool tr.pr, .bool tr.pc, .int .i64 fn, .slice ka kl kc] 30 (0, 0)) := fun l' v' w' p => blk_others0 p.oth bx (by decide)
  have BOX := Lib.hid box
  have c0 : W1.cell? ⟨q, 0, none⟩ = some (.int .i64 7) := by simp [World.cell?, bx]
  have c1 : W1.cell? ⟨q, 1, none⟩ = some (.int .i64 op) := by simp [World.cell?, bx]
  clear bx box
  obtain ⟨ho1, ho2, hlen1⟩ := hg.2.2.2.1 trivial
  obtain ⟨hk, kk, rfl⟩ : ∃ hk kk, ks = .cons hk kk .nil := by
    cases ks with
    | nil => simp [Trees.len] at hlen1
    | cons a b r =>
      cases r with
      | nil => exact ⟨a, b, rfl⟩
      | cons c d e => simp [Trees.len] at hlen1
  obtain ⟨kb, ko, ja, jl, jc, rfl, hkb, nd1, tv1⟩ := TV.out.row.head
  simp only [Nat.zero_mul, Nat.add_zero] at nd1
  have hln := TV.out.len
  have hf1 : treeFits hk kk = true := by
    simp only [treeFits, allFits, Bool.and_eq_true] at hf
    simp only [treeFits, Bool.and_eq_true]
    exact hf.2.1
  have hy1 : hk.bytes + kk.bytes ≤ 16384 := by simp only [Trees.bytes] at hy; omega
  have hr1 : roomH ⟨7, op, num, text, ref, tr, fn⟩ (.cons hk kk .nil) = 200 + 2 * text.length + roomH hk kk := by simp only [roomH, roomT]; omega
  rw [hr1] at hl
  have hlen := textL_room hk kk tv1.ok.num tv1.row.nums
  have hroom : (fromL (hk, textL hk kk) 7).length ≤ roomH hk kk := Nat.le_trans (fromL_len (hk, textL hk kk) 7) (by show (textL hk kk).length + 2 ≤ _; omega)
  have fr := fun n W' v' l' (P' : RxW base W1 v l' v' W') (hl' : l'.length + 10 + roomH hk kk ≤ 274877906944) => A.1 n W' W1 v v' l' ja jl jc P' tv1 hl' hy1 hf1
  have FR := Lib.hid fr
  have HND := Lib.hid nd1
  have hl2 : l.length + 200 + roomH hk kk ≤ 274877906944 := by omega
  have hj : kl = 1 := by rw [hln]; rfl
  subst hj
  have bx := BOX.out _ _ _ P1.out
  have BXH := Lib.hid bx
  have e13 : W1.cell? ⟨q, 13, none⟩ = some (.slice (some ⟨kb, ko, none⟩) 1 kc) := by simp [World.cell?, bx]
  clear hg hf hy hl fr hln hr1 tv1 nd1 hlen bx
  by_cases o1 : op = 1
  · subst o1
    go_upto_region 29 with (fail)
    refine wp_region_noPanic ?_
    refine wp_region_held_drew (S := fun w => Below base W1 w ∧ w.heap[q]? = some (.cells #[.int .i64 7, .int .i64 1, .int .i64 num, .string ⟨text.toArray⟩, .int .i64 ref.row, .int .i64 ref.col, .bool ref.pr, .bool ref.pc, .int .i64 tr.row, .int .i64 tr.col, .bool tr.pr, .bool tr.pc, .int .i64 fn, .slice (some ⟨kb, ko, none⟩) 1 kc] 30 (0, 0))) (by kernel_rfl) ⟨(Below.refl _ _).drew, BXH.out⟩ (fun hS1 => ?_)
    refine wpAnyH_take (i := 0) (oi := { dst := some 109, op := Go.Op.move (Go.Operand.tmp 0), type := 65, pos := "ref.go:87", after := #[], guard := none }) (v := v) rfl (by kernel_rfl) (by kernel_rfl) (by kernel_rfl) (fun _ _ _ h => h) (Or.inl ⟨by rfl, fun W hW => by first | (go_simp; done) | (go_simp; with_reducible rfl)⟩) hS1 ?_
    try simp only [Act.put, List.setIfInBounds_toArray, List.set_cons_zero, List.set_cons_succ]
    refine wpAnyH_take (i := 3) (oi := { dst := some 112, op := Go.Op.fieldAddr 30 (Go.Operand.tmp 3) 7, type := 0, pos := "ref.go:87", after := #[], guard := none }) (v := (.pointer (some ⟨q, 13, none⟩))) rfl (by kernel_rfl) (by kernel_rfl) (by kernel_rfl) (fun _ _ _ h => h) (Or.inl ⟨by rfl, fun W hW => by first | (go_simp; done) | (go_simp; with_reducible rfl)⟩) hS1 ?_
    try simp only [Act.put, List.setIfInBounds_toArray, List.set_cons_zero, List.set_cons_succ]
    refine wpAnyH_take (i := 4) (oi := { dst := some 113, op := Go.Op.load 22 (Go.Operand.tmp 112), type := 22, pos := "ref.go:87", after := #[{ on := 3, ground := Go.Ground.data }], guard := none }) (v := (.slice (some ⟨kb, ko, none⟩) 1 kc)) rfl (by kernel_rfl) (by kernel_rfl) (by kernel_rfl) (fun _ _ _ h => h) (Or.inl ⟨by rfl, fun W hW => by have cc : W.cell? ⟨q, 13, none⟩ = some (.slice (some ⟨kb, ko, none⟩) 1 kc) := (by simp [World.cell?, hW.2]); first | (go_simp; done) | (go_simp; with_reducible rfl)⟩) hS1 ?_
    try simp only [Act.put, List.setIfInBounds_toArray, List.set_cons_zero, List.set_cons_succ]
    refine wpAnyH_take (i := 5) (oi := { dst := some 114, op := Go.Op.indexAddr 22 (Go.Operand.tmp 113) (Go.Operand.const (Go.Value.int Go.IntKind.i64 0)), type := 0, pos := "ref.go:87", after := #[{ on := 4, ground := Go.Ground.data }], guard := none }) (v := (.pointer (some ⟨kb, ko, none⟩))) rfl (by kernel_rfl) (by kernel_rfl) (by kernel_rfl) (fun _ _ _ h => h) (Or.inl ⟨by rfl, fun W hW => by first | (go_simp; done) | (go_simp; with_reducible rfl)⟩) hS1 ?_
    try simp only [Act.put, List.setIfInBounds_toArray, List.set_cons_zero, List.set_cons_succ]
    refine wpAnyH_take (i := 6) (oi := { dst := some 115, op := Go.Op.load 30 (Go.Operand.tmp 114), type := 30, pos := "ref.go:87", after := #[{ on := 5, ground := Go.Ground.data }], guard := none }) (v := (.agg #[.int .i64 hk.kind, .int .i64 hk.op, .int .i64 hk.num, .string ⟨hk.text.toArray⟩, .int .i64 hk.ref.row, .int .i64 hk.ref.col, .bool hk.ref.pr, .bool hk.ref.pc, .int .i64 hk.to.row, .int .i64 hk.to.col, .bool hk.to.pr, .bool hk.to.pc, .int .i64 hk.fn, (.slice ja jl jc)])) rfl (by kernel_rfl) (by kernel_rfl) (by kernel_rfl) (fun _ _ _ h => h) (yieldsIf_load_mid (by rfl) 30 _ rfl kb ko rfl [.int .i64 hk.kind, .int .i64 hk.op, .int .i64 hk.num, .string ⟨hk.text.toArray⟩, .int .i64 hk.ref.row, .int .i64 hk.ref.col, .bool hk.ref.pr, .bool hk.ref.pc, .int .i64 hk.to.row, .int .i64 hk.to.col, .bool hk.to.pr, .bool hk.to.pc, .int .i64 hk.fn, (.slice ja jl jc)] _ (fun w hw => fun j x hx => (HND.out.kept hw.1 hkb).2 j x hx) Tryd.underlying30 rfl infoExprP) hS1 ?_
    try simp only [Act.put, List.setIfInBounds_toArray, List.set_cons_zero, List.set_cons_succ]
    refine wpAnyH_ready (rs := [1]) (by kernel_rfl) (by simp) ?_
    refine AllReadyH.cons (o := { dst := some 110, op := Go.Op.buildSlice 65 1 #[(0, Go.Operand.const (Go.Value.int Go.IntKind.u8 45))], type := 65, pos := "ref.go:87", after := #[], guard := none }) rfl (fun K hK => ?_) AllReadyH.nil
    refine wanted_wp (by rfl) ?_
    go_simp
    refine hK.out _ _ ⟨hS1.1.alloc (show base ≤ W1.heap.size from P1.out.size) _, heap_up _ hS1.2⟩ (fun hS1 => ?_)
    clear hK K
    try simp only [Act.put, List.setIfInBounds_toArray, List.set_cons_zero, List.set_cons_succ]
    refine wpAnyH_ready (rs := [2]) (by kernel_rfl) (by simp) ?_
    refine AllReadyH.cons (o := { dst := some 111, op := Go.Op.call { callee := Go.Callee.builtin Go.Builtin.append, args := #[Go.Operand.tmp 109, Go.Operand.tmp 110], argTypes := #[65, 65] }, type := 65, pos := "ref.go:87", after := #[{ on := 0, ground := Go.Ground.data }, { on := 1, ground := Go.Ground.data }], guard := none }) rfl (fun K hK => ?_) AllReadyH.nil
    refine wanted_wp (by rfl) ?_
    refine rx_byteW 45 (.tmp 109) (.tmp 110) rfl rfl rfl ((P1.out.below (Below.refl _ _).drew).below (ext_alloc (Below.refl _ _) _)) (World.cell?_alloc_at _ _ _ _ rfl) (by omega) ?_
    intro v2 w2 P2
    have bx2 := BOX.out _ _ _ P2
    have H2 := Lib.hid P2
    refine hK.out _ _ ⟨P2.bel, bx2⟩ (fun hS1 => ?_)
    clear hK K P2 bx2
    try simp only [Act.put, List.setIfInBounds_toArray, List.set_cons_zero, List.set_cons_succ]
    refine wpAnyH_ready (rs := [7]) (by kernel_rfl) (by simp) ?_
    refine AllReadyH.cons (o := { dst := some 116, op := Go.Op.call { callee := Go.Callee.value (Go.Operand.func 78), args := #[Go.Operand.tmp 111, Go.Operand.tmp 115, Go.Operand.const (Go.Value.int Go.IntKind.i64 6)], argTypes := #[65, 30, 3] }, type := 65, pos := "ref.go:87", after := #[{ on := 2, ground := Go.Ground.data }, { on := 6, ground := Go.Ground.data }, { on := 2, ground := Go.Ground.chain }], guard := none }) rfl (fun K hK => ?_) AllReadyH.nil
    refine wanted_wp (by rfl) ?_
    go_simp
    go_at_call 78
    refine (FR.out 6 w2 v2 _ H2.out (by simp only [List.length_append, List.length_cons, List.length_nil]; omega)).mono ?_
    rintro e w3 ⟨v3, rfl, P3⟩
    have bx3 := BOX.out _ _ _ P3
    have H3 := Lib.hid P3
    refine hK.out _ _ ⟨P3.bel, bx3⟩ (fun hS1 => ?_)
    clear hK K P3 bx3
    try simp only [Act.put, List.setIfInBounds_toArray, List.set_cons_zero, List.set_cons_succ]
    refine wpAnyH_take (i := 8) (oi := { dst := some 4, op := Go.Op.assign (Go.Operand.tmp 116), type := 65, pos := "ref.go:87", after := #[{ on := 7, ground := Go.Ground.data }, { on := 7, ground := Go.Ground.chain }, { on := 0, ground := Go.Ground.phase }, { on := 1, ground := Go.Ground.phase }, { on := 2, ground := Go.Ground.phase }, { on := 3, ground := Go.Ground.phase }, { on := 4, ground := Go.Ground.phase }, { on := 5, ground := Go.Ground.phase }, { on := 6, ground := Go.Ground.phase }, { on := 7, ground := Go.Ground.phase }], guard := none }) (v := v3) rfl (by kernel_rfl) (by kernel_rfl) (by kernel_rfl) (fun _ _ _ h => h) (Or.inl ⟨by rfl, fun W hW => by first | (go_simp; done) | (go_simp; with_reducible rfl)⟩) hS1 ?_
    try simp only [Act.put, List.setIfInBounds_toArray, List.set_cons_zero, List.set_cons_succ]
    refine wpAnyH_done (by kernel_rfl) ?_ _
    refine NoPanic.normal ?_
    go_wp2
    go_ret
    exact ⟨_, rfl, BACK.out _ _ _ (by
      have h := H3.out
      rw [show textL ⟨7, 1, num, text, ref, tr, fn⟩ (.cons hk kk .nil) = [45] ++ fromL (hk, textL hk kk) 6 from rfl]
      simpa using h)⟩
  · have hb1 : (op == 1) = false := beq_eq_false_iff_ne.2 o1
    by_cases o2 : op = 2
    · subst o2
      go_upto_region 31 with (fail)
      refine wp_region_noPanic ?_
      refine wp_region_held_drew (S := fun w => Below base W1 w ∧ w.heap[q]? = some (.cells #[.int .i64 7, .int .i64 2, .int .i64 num, .string ⟨text.toArray⟩, .int .i64 ref.row, .int .i64 ref.col, .bool ref.pr, .bool ref.pc, .int .i64 tr.row, .int .i64 tr.col, .bool tr.pr, .bool tr.pc, .int .i64 fn, .slice (some ⟨kb, ko, none⟩) 1 kc] 30 (0, 0))) (by kernel_rfl) ⟨(Below.refl _ _).drew, BXH.out⟩ (fun hS1 => ?_)
      refine wpAnyH_take (i := 0) (oi := { dst := some 119, op := Go.Op.move (Go.Operand.tmp 0), type := 65, pos := "ref.go:89", after := #[], guard := none }) (v := v) rfl (by kernel_rfl) (by kernel_rfl) (by kernel_rfl) (fun _ _ _ h => h) (Or.inl ⟨by rfl, fun W hW => by first | (go_simp; done) | (go_simp; with_reducible rfl)⟩) hS1 ?_
      try simp only [Act.put, List.setIfInBounds_toArray, List.set_cons_zero, List.set_cons_succ]
      refine wpAnyH_take (i := 3) (oi := { dst := some 122, op := Go.Op.fieldAddr 30 (Go.Operand.tmp 3) 7, type := 0, pos := "ref.go:89", after := #[], guard := none }) (v := (.pointer (some ⟨q, 13, none⟩))) rfl (by kernel_rfl) (by kernel_rfl) (by kernel_rfl) (fun _ _ _ h => h) (Or.inl ⟨by rfl, fun W hW => by first | (go_simp; done) | (go_simp; with_reducible rfl)⟩) hS1 ?_
      try simp only [Act.put, List.setIfInBounds_toArray, List.set_cons_zero, List.set_cons_succ]
      refine wpAnyH_take (i := 4) (oi := { dst := some 123, op := Go.Op.load 22 (Go.Operand.tmp 122), type := 22, pos := "ref.go:89", after := #[{ on := 3, ground := Go.Ground.data }], guard := none }) (v := (.slice (some ⟨kb, ko, none⟩) 1 kc)) rfl (by kernel_rfl) (by kernel_rfl) (by kernel_rfl) (fun _ _ _ h => h) (Or.inl ⟨by rfl, fun W hW => by have cc : W.cell? ⟨q, 13, none⟩ = some (.slice (some ⟨kb, ko, none⟩) 1 kc) := (by simp [World.cell?, hW.2]); first | (go_simp; done) | (go_simp; with_reducible rfl)⟩) hS1 ?_
      try simp only [Act.put, List.setIfInBounds_toArray, List.set_cons_zero, List.set_cons_succ]
      refine wpAnyH_take (i := 5) (oi := { dst := some 124, op := Go.Op.indexAddr 22 (Go.Operand.tmp 123) (Go.Operand.const (Go.Value.int Go.IntKind.i64 0)), type := 0, pos := "ref.go:89", after := #[{ on := 4, ground := Go.Ground.data }], guard := none }) (v := (.pointer (some ⟨kb, ko, none⟩))) rfl (by kernel_rfl) (by kernel_rfl) (by kernel_rfl) (fun _ _ _ h => h) (Or.inl ⟨by rfl, fun W hW => by first | (go_simp; done) | (go_simp; with_reducible rfl)⟩) hS1 ?_
      try simp only [Act.put, List.setIfInBounds_toArray, List.set_cons_zero, List.set_cons_succ]
      refine wpAnyH_take (i := 6) (oi := { dst := some 125, op := Go.Op.load 30 (Go.Operand.tmp 124), type := 30, pos := "ref.go:89", after := #[{ on := 5, ground := Go.Ground.data }], guard := none }) (v := (.agg #[.int .i64 hk.kind, .int .i64 hk.op, .int .i64 hk.num, .string ⟨hk.text.toArray⟩, .int .i64 hk.ref.row, .int .i64 hk.ref.col, .bool hk.ref.pr, .bool hk.ref.pc, .int .i64 hk.to.row, .int .i64 hk.to.col, .bool hk.to.pr, .bool hk.to.pc, .int .i64 hk.fn, (.slice ja jl jc)])) rfl (by kernel_rfl) (by kernel_rfl) (by kernel_rfl) (fun _ _ _ h => h) (yieldsIf_load_mid (by rfl) 30 _ rfl kb ko rfl [.int .i64 hk.kind, .int .i64 hk.op, .int .i64 hk.num, .string ⟨hk.text.toArray⟩, .int .i64 hk.ref.row, .int .i64 hk.ref.col, .bool hk.ref.pr, .bool hk.ref.pc, .int .i64 hk.to.row, .int .i64 hk.to.col, .bool hk.to.pr, .bool hk.to.pc, .int .i64 hk.fn, (.slice ja jl jc)] _ (fun w hw => fun j x hx => (HND.out.kept hw.1 hkb).2 j x hx) Tryd.underlying30 rfl infoExprP) hS1 ?_
      try simp only [Act.put, List.setIfInBounds_toArray, List.set_cons_zero, List.set_cons_succ]
      refine wpAnyH_ready (rs := [1]) (by kernel_rfl) (by simp) ?_
      refine AllReadyH.cons (o := { dst := some 120, op := Go.Op.buildSlice 65 1 #[(0, Go.Operand.const (Go.Value.int Go.IntKind.u8 43))], type := 65, pos := "ref.go:89", after := #[], guard := none }) rfl (fun K hK => ?_) AllReadyH.nil
      refine wanted_wp (by rfl) ?_
      go_simp
      refine hK.out _ _ ⟨hS1.1.alloc (show base ≤ W1.heap.size from P1.out.size) _, heap_up _ hS1.2⟩ (fun hS1 => ?_)
      clear hK K
      try simp only [Act.put, List.setIfInBounds_toArray, List.set_cons_zero, List.set_cons_succ]
      refine wpAnyH_ready (rs := [2]) (by kernel_rfl) (by simp) ?_
      refine AllReadyH.cons (o := { dst := some 121, op := Go.Op.call { callee := Go.Callee.builtin Go.Builtin.append, args := #[Go.Operand.tmp 119, Go.Operand.tmp 120], argTypes := #[65, 65] }, type := 65, pos := "ref.go:89", after := #[{ on := 0, ground := Go.Ground.data }, { on := 1, ground := Go.Ground.data }], guard := none }) rfl (fun K hK => ?_) AllReadyH.nil
      refine wanted_wp (by rfl) ?_
      refine rx_byteW 43 (.tmp 119) (.tmp 120) rfl rfl rfl ((P1.out.below (Below.refl _ _).drew).below (ext_alloc (Below.refl _ _) _)) (World.cell?_alloc_at _ _ _ _ rfl) (by omega) ?_
      intro v2 w2 P2
      have bx2 := BOX.out _ _ _ P2
      have H2 := Lib.hid P2
      refine hK.out _ _ ⟨P2.bel, bx2⟩ (fun hS1 => ?_)
      clear hK K P2 bx2
      try simp only [Act.put, List.setIfInBounds_toArray, List.set_cons_zero, List.set_cons_succ]
      refine wpAnyH_ready (rs := [7]) (by kernel_rfl) (by simp) ?_
      refine AllReadyH.cons (o := { dst := some 126, op := Go.Op.call { callee := Go.Callee.value (Go.Operand.func 78), args := #[Go.Operand.tmp 121, Go.Operand.tmp 125, Go.Operand.const (Go.Value.int Go.IntKind.i64 6)], argTypes := #[65, 30, 3] }, type := 65, pos := "ref.go:89", after := #[{ on := 2, ground := Go.Ground.data }, { on := 6, ground := Go.Ground.data }, { on := 2, ground := Go.Ground.chain }], guard := none }) rfl (fun K hK => ?_) AllReadyH.nil
      refine wanted_wp (by rfl) ?_
      go_simp
      go_at_call 78
      refine (FR.out 6 w2 v2 _ H2.out (by simp only [List.length_append, List.length_cons, List.length_nil]; omega)).mono ?_
      rintro e w3 ⟨v3, rfl, P3⟩
      have bx3 := BOX.out _ _ _ P3
      have H3 := Lib.hid P3
      refine hK.out _ _ ⟨P3.bel, bx3⟩ (fun hS1 => ?_)
      clear hK K P3 bx3
      try simp only [Act.put, List.setIfInBounds_toArray, List.set_cons_zero, List.set_cons_succ]
      refine wpAnyH_take (i := 8) (oi := { dst := some 4, op := Go.Op.assign (Go.Operand.tmp 126), type := 65, pos := "ref.go:89", after := #[{ on := 7, ground := Go.Ground.data }, { on := 7, ground := Go.Ground.chain }, { on := 0, ground := Go.Ground.phase }, { on := 1, ground := Go.Ground.phase }, { on := 2, ground := Go.Ground.phase }, { on := 3, ground := Go.Ground.phase }, { on := 4, ground := Go.Ground.phase }, { on := 5, ground := Go.Ground.phase }, { on := 6, ground := Go.Ground.phase }, { on := 7, ground := Go.Ground.phase }], guard := none }) (v := v3) rfl (by kernel_rfl) (by kernel_rfl) (by kernel_rfl) (fun _ _ _ h => h) (Or.inl ⟨by rfl, fun W hW => by first | (go_simp; done) | (go_simp; with_reducible rfl)⟩) hS1 ?_
      try simp only [Act.put, List.setIfInBounds_toArray, List.set_cons_zero, List.set_cons_succ]
      refine wpAnyH_done (by kernel_rfl) ?_ _
      refine NoPanic.normal ?_
      go_wp2
      go_ret
      exact ⟨_, rfl, BACK.out _ _ _ (by
        have h := H3.out
        rw [show textL ⟨7, 2, num, text, ref, tr, fn⟩ (.cons hk kk .nil) = [43] ++ fromL (hk, textL hk kk) 6 from rfl]
        simpa using h)⟩
    · have hb2 : (op == 2) = false := beq_eq_false_iff_ne.2 o2
      obtain rfl : op = 3 := by omega
      clear o1 o2
      go_wp2_with (refine wpList_load_nd rfl rfl rfl HND.out ?_)
      refine (FR.out 7 W1 v _ P1.out (by omega)).mono ?_
      rintro e w3 ⟨v3, rfl, P3⟩
      have H3 := Lib.hid P3
      clear P3 e13 c0 c1
      go_wp2_with (refine rx_byte 37 rfl rfl rfl rfl (H3.out.below (ext_alloc (Below.refl _ _) _)) (World.cell?_alloc_at _ _ _ _ rfl) (by first | omega | (simp only [List.length_append]; omega) | (simp only [List.length_append, List.length_cons, List.length_nil]; omega)) ?_)
      intro v4 w4 P4
      have H4 := Lib.hid P4
      clear P4
      go_wp2
      go_ret
      exact ⟨_, rfl, BACK.out _ _ _ (by
        have h := H4.out
        rw [show textL ⟨7, 3, num, text, ref, tr, fn⟩ (.cons hk kk .nil) = fromL (hk, textL hk kk) 7 ++ [37] from rfl]
        simpa using h)⟩
end Go.Proofs.YtnhgeojcelegbaaDoor

namespace Go.Proofs.YtnhgeojcelegbaaDoor
open Go.RowKit Go.Lib

/-- A block of one byte beside the row. -/
structure BB (c : Int) (W : World) (v : Value) (b : Nat) : Prop where
  lt : b < W.heap.size
  ne : v.ownBlock ≠ some b
  cell : W.heap[b]? = some (.cells #[.int .u8 c] 5 (0, 0))
theorem BB.cell0 {c : Int} {W : World} {v : Value} {b : Nat} (h : BB c W v b) : W.cell? ⟨b, 0, none⟩ = some (.int .u8 c) := by simp [World.cell?, h.cell]
theorem BB.grw {c : Int} {W W' : World} {v v' : Value} {b : Nat} (h : BB c W v b) (g : Grw W W' v v') : BB c W' v' b := by
  refine ⟨Nat.lt_of_lt_of_le h.lt g.by_.size, ?_, (g.by_.block b h.lt fun e => h.ne e.symm).trans h.cell⟩
  rcases g.at_ with e | ⟨k, hk, e⟩
  · rw [e]; exact h.ne
  · rw [e]; intro q; injection q with q; have := h.lt; omega
theorem BB.below {c : Int} {W W' : World} {v : Value} {b : Nat} (h : BB c W v b) (g : Below W.heap.size W W') : BB c W' v b := h.grw (Grw.of_below g v)
theorem BB.make {c : Int} {W : World} {v : Value} {base n : Nat} {xs : List Value} (h : W.ownsRow base 5 1 v n xs) : BB c (W.alloc (.cells #[.int .u8 c] 5)) v W.heap.size :=
  ⟨by simp, fun e => by have := (h.lt _ e).2; omega, heap_alloc_new W _⟩
set_option maxRecDepth 100000 in
set_option maxHeartbeats 2000000 in
theorem rx_from {base : Nat} (h : Hd) (ks : Trees) (S : RxS base h ks) : RxF base h ks := by
  intro n W wa va v l ka kl kc P tv hl hy hf
  have hop : h.kind = 8 → 1 ≤ h.op ∧ h.op ≤ 12 := treeFits_op hf
  have hlen := textL_room h ks tv.ok.num tv.row.nums
  have P1 := Lib.hid ((P.below (ext_alloc (Below.refl _ _) (.cells #[.int .i64 h.kind, .int .i64 h.op, .int .i64 h.num, .string ⟨h.text.toArray⟩, .int .i64 h.ref.row, .int .i64 h.ref.col, .bool h.ref.pr, .bool h.ref.pc, .int .i64 h.to.row, .int .i64 h.to.col, .bool h.to.pr, .bool h.to.pc, .int .i64 h.fn, (.slice ka kl kc)] 30))).at0)
  have bx : (W.alloc (.cells #[.int .i64 h.kind, .int .i64 h.op, .int .i64 h.num, .string ⟨h.text.toArray⟩, .int .i64 h.ref.row, .int .i64 h.ref.col, .bool h.ref.pr, .bool h.ref.pc, .int .i64 h.to.row, .int .i64 h.to.col, .bool h.to.pr, .bool h.to.pc, .int .i64 h.fn, (.slice ka kl kc)] 30)).heap[W.heap.size]? = some (.cells #[.int .i64 h.kind, .int .i64 h.op, .int .i64 h.num, .string ⟨h.text.toArray⟩, .int .i64 h.ref.row, .int .i64 h.ref.col, .bool h.ref.pr, .bool h.ref.pc, .int .i64 h.to.row, .int .i64 h.to.col, .bool h.to.pr, .bool h.to.pc, .int .i64 h.fn, (.slice ka kl kc)] 30 (0, 0)) := heap_alloc_new W _
  have tw := (tv.kept P.bel (Nat.le_refl _)).kept (ext_alloc (Below.refl _ W) (.cells #[.int .i64 h.kind, .int .i64 h.op, .int .i64 h.num, .string ⟨h.text.toArray⟩, .int .i64 h.ref.row, .int .i64 h.ref.col, .bool h.ref.pr, .bool h.ref.pc, .int .i64 h.to.row, .int .i64 h.to.col, .bool h.to.pr, .bool h.to.pc, .int .i64 h.fn, (.slice ka kl kc)] 30)) P.size
  have back : ∀ l' v' w', RxW base (W.alloc (.cells #[.int .i64 h.kind, .int .i64 h.op, .int .i64 h.num, .string ⟨h.text.toArray⟩, .int .i64 h.ref.row, .int .i64 h.ref.col, .bool h.ref.pr, .bool h.ref.pc, .int .i64 h.to.row, .int .i64 h.to.col, .bool h.to.pr, .bool h.to.pc, .int .i64 h.fn, (.slice ka kl kc)] 30)) v l' v' w' → RxW base wa va l' v' w' := fun l' v' w' p => (P.below (ext_alloc (Below.refl _ _) (.cells #[.int .i64 h.kind, .int .i64 h.op, .int .i64 h.num, .string ⟨h.text.toArray⟩, .int .i64 h.ref.row, .int .i64 h.ref.col, .bool h.ref.pr, .bool h.ref.pc, .int .i64 h.to.row, .int .i64 h.to.col, .bool h.to.pr, .bool h.to.pc, .int .i64 h.fn, (.slice ka kl kc)] 30))).join p
  have BACK := Lib.hid back
  clear P tv back
  go_enter Tryd.func78, Tryd.ntmps78
  go_upto_region 1 with (fail)
  generalize W.alloc (.cells #[.int .i64 h.kind, .int .i64 h.op, .int .i64 h.num, .string ⟨h.text.toArray⟩, .int .i64 h.ref.row, .int .i64 h.ref.col, .bool h.ref.pr, .bool h.ref.pc, .int .i64 h.to.row, .int .i64 h.to.col, .bool h.to.pr, .bool h.to.pc, .int .i64 h.fn, (.slice ka kl kc)] 30) = W1 at *
  generalize W.heap.size = q at *
  have box : ∀ l' v' w', RxW base W1 v l' v' w' → w'.heap[q]? = some (.cells #[.int .i64 h.kind, .int .i64 h.op, .int .i64 h.num, .string ⟨h.text.toArray⟩, .int .i64 h.ref.row, .int .i64 h.ref.col, .bool h.ref.pr, .bool h.ref.pc, .int .i64 h.to.row, .int .i64 h.to.col, .bool h.to.pr, .bool h.to.pc, .int .i64 h.fn, (.slice ka kl kc)] 30 (0, 0)) := fun l' v' w' p => blk_others0 p.oth bx (by decide)
  have BOX := Lib.hid box
  have BXH := Lib.hid bx
  have tx := fun W' v' l' (P' : RxW base W1 v l' v' W') (hl' : l'.length + roomH h ks ≤ 274877906944) => S W' W' v' v' l' ka kl kc P'.at0 (tw.kept P'.bel (Nat.le_refl _)) hl' hy hf
  have TX := Lib.hid tx
  have cl := rxLevel_any h ka kl kc W1 hop
  obtain ⟨x, hx⟩ : ∃ x, levH h = x := ⟨_, rfl⟩
  obtain ⟨t, ht⟩ : ∃ t, textL h ks = t := ⟨_, rfl⟩
  rw [hx] at cl
  have CL := Lib.hid cl
  have HFL := Lib.hid (show fromL (h, textL h ks) n = if n ≤ x then t else [40] ++ t ++ [41] by rw [fromL, hx, ht])
  rw [ht] at tx hlen
  have TX := Lib.hid tx
  clear bx box tw cl hx ht tx hf hy hop
  by_cases hn : n ≤ x
  · have HFR := Lib.hid (show fromL (h, textL h ks) n = t by rw [HFL.out, if_pos hn])
    go_wp2_with (refine wpList_load_X rfl rfl rfl BXH.out rfl ?_)
    refine CL.out.mono ?_
    rintro e w2 ⟨rfl, b2⟩
    have P2 := Lib.hid (P1.out.below b2)
    have BX2 := Lib.hid (BOX.out _ _ _ (P1.out.below b2))
    clear b2
    go_wp2_with (refine wpList_load_X rfl rfl rfl BX2.out rfl ?_)
    refine (TX.out w2 v _ P2.out (by omega)).mono ?_
    rintro e w3 ⟨v3, rfl, P3⟩
    have H3 := Lib.hid (P2.out.join P3)
    clear P3
    go_wp2
    go_ret
    exact ⟨_, rfl, BACK.out _ _ _ (by rw [HFR.out]; exact H3.out)⟩
  · have HFR := Lib.hid (show fromL (h, textL h ks) n = [40] ++ t ++ [41] by rw [HFL.out, if_neg hn])
    go_wp2_with (refine wpList_load_X rfl rfl rfl BXH.out rfl ?_)
    refine CL.out.mono ?_
    rintro e w2 ⟨rfl, b2⟩
    have P2 := Lib.hid ((P1.out.below b2).below (Below.refl _ _).drew)
    have BX2 := Lib.hid (BOX.out _ _ _ P2.out)
    clear b2
    go_upto_region 2 with (fail)
    refine wp_region_noPanic ?_
    refine wp_region_held_drew (S := fun w => Below base W1 w ∧ w.heap[q]? = some (.cells #[.int .i64 h.kind, .int .i64 h.op, .int .i64 h.num, .string ⟨h.text.toArray⟩, .int .i64 h.ref.row, .int .i64 h.ref.col, .bool h.ref.pr, .bool h.ref.pc, .int .i64 h.to.row, .int .i64 h.to.col, .bool h.to.pr, .bool h.to.pc, .int .i64 h.fn, (.slice ka kl kc)] 30 (0, 0))) (by kernel_rfl) ⟨P2.out.bel, BX2.out⟩ (fun hS1 => ?_)
    generalize w2.drew = x0 at *
    refine wpAnyH_take (i := 0) (oi := { dst := some 11, op := Go.Op.move (Go.Operand.tmp 0), type := 65, pos := "ref.go:45", after := #[], guard := none }) (v := v) rfl (by kernel_rfl) (by kernel_rfl) (by kernel_rfl) (fun _ _ _ h => h) (Or.inl ⟨by rfl, fun W hW => by first | (go_simp; done) | (go_simp; with_reducible rfl)⟩) hS1 ?_
    try simp only [Act.put, List.setIfInBounds_toArray, List.set_cons_zero, List.set_cons_succ]
    refine wpAnyH_take (i := 3) (oi := { dst := some 14, op := Go.Op.load 30 (Go.Operand.tmp 4), type := 30, pos := "ref.go:45", after := #[], guard := none }) (v := (.agg #[.int .i64 h.kind, .int .i64 h.op, .int .i64 h.num, .string ⟨h.text.toArray⟩, .int .i64 h.ref.row, .int .i64 h.ref.col, .bool h.ref.pr, .bool h.ref.pc, .int .i64 h.to.row, .int .i64 h.to.col, .bool h.to.pr, .bool h.to.pc, .int .i64 h.fn, (.slice ka kl kc)])) rfl (by kernel_rfl) (by kernel_rfl) (by kernel_rfl) (fun _ _ _ h => h) (yieldsIf_load_mid (by rfl) 30 _ rfl q 0 rfl [.int .i64 h.kind, .int .i64 h.op, .int .i64 h.num, .string ⟨h.text.toArray⟩, .int .i64 h.ref.row, .int .i64 h.ref.col, .bool h.ref.pr, .bool h.ref.pc, .int .i64 h.to.row, .int .i64 h.to.col, .bool h.to.pr, .bool h.to.pc, .int .i64 h.fn, (.slice ka kl kc)] _ (fun w hw => fun j x hx => by rw [← hx]; simp [World.cell?, hw.2]) Tryd.underlying30 rfl infoExprP) hS1 ?_
    try simp only [Act.put, List.setIfInBounds_toArray, List.set_cons_zero, List.set_cons_succ]
    refine wpAnyH_ready (rs := [1, 5]) (by kernel_rfl) (by simp) ?_
    refine AllReadyH.cons (o := { dst := some 12, op := Go.Op.buildSlice 65 1 #[(0, Go.Operand.const (Go.Value.int Go.IntKind.u8 40))], type := 65, pos := "ref.go:45", after := #[], guard := none }) rfl (fun K hK => ?_) ?_
    · refine wanted_wp (by rfl) ?_
      go_simp
      refine hK.out _ _ ⟨hS1.1.alloc P2.out.size _, heap_up _ hS1.2⟩ (fun hS1 => ?_)
      clear hK K
      try simp only [Act.put, List.setIfInBounds_toArray, List.set_cons_zero, List.set_cons_succ]
      have PA1 := Lib.hid (P2.out.below (ext_alloc (Below.refl x0.heap.size x0) (.cells #[.int .u8 40] 5)))
      have BA1 := Lib.hid (BB.make (c := 40) P2.out.own)
      generalize x0.alloc (.cells #[.int .u8 40] 5) = x1 at *
      generalize x0.heap.size = m1 at *
      refine wpAnyH_ready (rs := [2, 5]) (by kernel_rfl) (by simp) ?_
      refine AllReadyH.cons (o := { dst := some 13, op := Go.Op.call { callee := Go.Callee.builtin Go.Builtin.append, args := #[Go.Operand.tmp 11, Go.Operand.tmp 12], argTypes := #[65, 65] }, type := 65, pos := "ref.go:45", after := #[{ on := 0, ground := Go.Ground.data }, { on := 1, ground := Go.Ground.data }], guard := none }) rfl (fun K hK => ?_) ?_
      · refine wanted_wp (by rfl) ?_
        refine rx_byteW 40 (.tmp 11) (.tmp 12) rfl rfl rfl PA1.out.at0 BA1.out.cell0 (by first | omega | (simp only [List.length_append, List.length_cons, List.length_nil]; omega)) ?_
        intro v2 x2 P2
        have PA2 := Lib.hid (PA1.out.join P2)
        have bx2 := BOX.out _ _ _ PA2.out
        refine hK.out _ _ ⟨PA2.out.bel, bx2⟩ (fun hS1 => ?_)
        clear hK K P2 bx2
        try simp only [Act.put, List.setIfInBounds_toArray, List.set_cons_zero, List.set_cons_succ]
        refine wpAnyH_ready (rs := [4, 5]) (by kernel_rfl) (by simp) ?_
        refine AllReadyH.cons (o := { dst := some 15, op := Go.Op.call { callee := Go.Callee.value (Go.Operand.func 33), args := #[Go.Operand.tmp 13, Go.Operand.tmp 14], argTypes := #[65, 30] }, type := 65, pos := "ref.go:45", after := #[{ on := 2, ground := Go.Ground.data }, { on := 3, ground := Go.Ground.data }, { on := 2, ground := Go.Ground.chain }], guard := none }) rfl (fun K hK => ?_) ?_
        · refine wanted_wp (by rfl) ?_
          go_simp
          go_at_call 33
          refine (TX.out x2 v2 _ PA2.out (by simp only [List.length_append, List.length_cons, List.length_nil]; omega)).mono ?_
          rintro e x3 ⟨v3, rfl, P2⟩
          have PA3 := Lib.hid (PA2.out.join P2)
          have bx3 := BOX.out _ _ _ PA3.out
          refine hK.out _ _ ⟨PA3.out.bel, bx3⟩ (fun hS1 => ?_)
          clear hK K P2 bx3
          try simp only [Act.put, List.setIfInBounds_toArray, List.set_cons_zero, List.set_cons_succ]
          refine wpAnyH_ready (rs := [5]) (by kernel_rfl) (by simp) ?_
          refine AllReadyH.cons (o := { dst := some 16, op := Go.Op.buildSlice 65 1 #[(0, Go.Operand.const (Go.Value.int Go.IntKind.u8 41))], type := 65, pos := "ref.go:45", after := #[], guard := none }) rfl (fun K hK => ?_) ?_
          · refine wanted_wp (by rfl) ?_
            go_simp
            refine hK.out _ _ ⟨hS1.1.alloc PA3.out.size _, heap_up _ hS1.2⟩ (fun hS1 => ?_)
            clear hK K
            try simp only [Act.put, List.setIfInBounds_toArray, List.set_cons_zero, List.set_cons_succ]
            have PA4 := Lib.hid (PA3.out.below (ext_alloc (Below.refl x3.heap.size x3) (.cells #[.int .u8 41] 5)))
            have BA4 := Lib.hid (BB.make (c := 41) PA3.out.own)
            generalize x3.alloc (.cells #[.int .u8 41] 5) = x4 at *
            generalize x3.heap.size = m4 at *
            refine wpAnyH_ready (rs := [6]) (by kernel_rfl) (by simp) ?_
            refine AllReadyH.cons (o := { dst := some 17, op := Go.Op.call { callee := Go.Callee.builtin Go.Builtin.append, args := #[Go.Operand.tmp 15, Go.Operand.tmp 16], argTypes := #[65, 65] }, type := 65, pos := "ref.go:45", after := #[{ on := 4, ground := Go.Ground.data }, { on := 5, ground := Go.Ground.data }, { on := 4, ground := Go.Ground.chain }], guard := none }) rfl (fun K hK => ?_) ?_
            · refine wanted_wp (by rfl) ?_
              refine rx_byteW 41 (.tmp 15) (.tmp 16) rfl rfl rfl PA4.out.at0 BA4.out.cell0 (by first | omega | (simp only [List.length_append, List.length_cons, List.length_nil]; omega)) ?_
              intro v5 x5 P2
              have PA5 := Lib.hid (PA4.out.join P2)
              have bx5 := BOX.out _ _ _ PA5.out
              refine hK.out _ _ ⟨PA5.out.bel, bx5⟩ (fun hS1 => ?_)
              clear hK K P2 bx5
              try simp only [Act.put, List.setIfInBounds_toArray, List.set_cons_zero, List.set_cons_succ]
              refine wpAnyH_take (i := 7) (oi := { dst := some 6, op := Go.Op.assign (Go.Operand.tmp 17), type := 65, pos := "ref.go:45", after := #[{ on := 6, ground := Go.Ground.data }, { on := 6, ground := Go.Ground.chain }, { on := 0, ground := Go.Ground.phase }, { on := 1, ground := Go.Ground.phase }, { on := 2, ground := Go.Ground.phase }, { on := 3, ground := Go.Ground.phase }, { on := 4, ground := Go.Ground.phase }, { on := 5, ground := Go.Ground.phase }, { on := 6, ground := Go.Ground.phase }], guard := none }) (v := v5) rfl (by kernel_rfl) (by kernel_rfl) (by kernel_rfl) (fun _ _ _ h => h) (Or.inl ⟨by rfl, fun W hW => by first | (go_simp; done) | (go_simp; with_reducible rfl)⟩) hS1 ?_
              try simp only [Act.put, List.setIfInBounds_toArray, List.set_cons_zero, List.set_cons_succ]
              refine wpAnyH_done (by kernel_rfl) ?_ _
              refine NoPanic.normal ?_
              have HF := PA5
              go_wp2
              go_ret
              exact ⟨_, rfl, BACK.out _ _ _ (by
                have h := HF.out
                rw [HFR.out]
                simpa using h)⟩
            exact AllReadyH.nil
          exact AllReadyH.nil
        refine AllReadyH.cons (o := { dst := some 16, op := Go.Op.buildSlice 65 1 #[(0, Go.Operand.const (Go.Value.int Go.IntKind.u8 41))], type := 65, pos := "ref.go:45", after := #[], guard := none }) rfl (fun K hK => ?_) ?_
        · refine wanted_wp (by rfl) ?_
          go_simp
          refine hK.out _ _ ⟨hS1.1.alloc PA2.out.size _, heap_up _ hS1.2⟩ (fun hS1 => ?_)
          clear hK K
          try simp only [Act.put, List.setIfInBounds_toArray, List.set_cons_zero, List.set_cons_succ]
          have PA3 := Lib.hid (PA2.out.below (ext_alloc (Below.refl x2.heap.size x2) (.cells #[.int .u8 41] 5)))
          have BA3 := Lib.hid (BB.make (c := 41) PA2.out.own)
          generalize x2.alloc (.cells #[.int .u8 41] 5) = x3 at *
          generalize x2.heap.size = m3 at *
          refine wpAnyH_ready (rs := [4]) (by kernel_rfl) (by simp) ?_
          refine AllReadyH.cons (o := { dst := some 15, op := Go.Op.call { callee := Go.Callee.value (Go.Operand.func 33), args := #[Go.Operand.tmp 13, Go.Operand.tmp 14], argTypes := #[65, 30] }, type := 65, pos := "ref.go:45", after := #[{ on := 2, ground := Go.Ground.data }, { on := 3, ground := Go.Ground.data }, { on := 2, ground := Go.Ground.chain }], guard := none }) rfl (fun K hK => ?_) ?_
          · refine wanted_wp (by rfl) ?_
            go_simp
            go_at_call 33
            refine (TX.out x3 v2 _ PA3.out (by simp only [List.length_append, List.length_cons, List.length_nil]; omega)).mono ?_
            rintro e x4 ⟨v4, rfl, P2⟩
            have PA4 := Lib.hid (PA3.out.join P2)
            have KB4 := Lib.hid (BA3.out.grw P2.gr)
            have bx4 := BOX.out _ _ _ PA4.out
            refine hK.out _ _ ⟨PA4.out.bel, bx4⟩ (fun hS1 => ?_)
            clear hK K P2 bx4
            try simp only [Act.put, List.setIfInBounds_toArray, List.set_cons_zero, List.set_cons_succ]
            refine wpAnyH_ready (rs := [6]) (by kernel_rfl) (by simp) ?_
            refine AllReadyH.cons (o := { dst := some 17, op := Go.Op.call { callee := Go.Callee.builtin Go.Builtin.append, args := #[Go.Operand.tmp 15, Go.Operand.tmp 16], argTypes := #[65, 65] }, type := 65, pos := "ref.go:45", after := #[{ on := 4, ground := Go.Ground.data }, { on := 5, ground := Go.Ground.data }, { on := 4, ground := Go.Ground.chain }], guard := none }) rfl (fun K hK => ?_) ?_
            · refine wanted_wp (by rfl) ?_
              refine rx_byteW 41 (.tmp 15) (.tmp 16) rfl rfl rfl PA4.out.at0 KB4.out.cell0 (by first | omega | (simp only [List.length_append, List.length_cons, List.length_nil]; omega)) ?_
              intro v5 x5 P2
              have PA5 := Lib.hid (PA4.out.join P2)
              have bx5 := BOX.out _ _ _ PA5.out
              refine hK.out _ _ ⟨PA5.out.bel, bx5⟩ (fun hS1 => ?_)
              clear hK K P2 bx5
              try simp only [Act.put, List.setIfInBounds_toArray, List.set_cons_zero, List.set_cons_succ]
              refine wpAnyH_take (i := 7) (oi := { dst := some 6, op := Go.Op.assign (Go.Operand.tmp 17), type := 65, pos := "ref.go:45", after := #[{ on := 6, ground := Go.Ground.data }, { on := 6, ground := Go.Ground.chain }, { on := 0, ground := Go.Ground.phase }, { on := 1, ground := Go.Ground.phase }, { on := 2, ground := Go.Ground.phase }, { on := 3, ground := Go.Ground.phase }, { on := 4, ground := Go.Ground.phase }, { on := 5, ground := Go.Ground.phase }, { on := 6, ground := Go.Ground.phase }], guard := none }) (v := v5) rfl (by kernel_rfl) (by kernel_rfl) (by kernel_rfl) (fun _ _ _ h => h) (Or.inl ⟨by rfl, fun W hW => by first | (go_simp; done) | (go_simp; with_reducible rfl)⟩) hS1 ?_
              try simp only [Act.put, List.setIfInBounds_toArray, List.set_cons_zero, List.set_cons_succ]
              refine wpAnyH_done (by kernel_rfl) ?_ _
              refine NoPanic.normal ?_
              have HF := PA5
              go_wp2
              go_ret
              exact ⟨_, rfl, BACK.out _ _ _ (by
                have h := HF.out
                rw [HFR.out]
                simpa using h)⟩
            exact AllReadyH.nil
          exact AllReadyH.nil
        exact AllReadyH.nil
      refine AllReadyH.cons (o := { dst := some 16, op := Go.Op.buildSlice 65 1 #[(0, Go.Operand.const (Go.Value.int Go.IntKind.u8 41))], type := 65, pos := "ref.go:45", after := #[], guard := none }) rfl (fun K hK => ?_) ?_
      · refine wanted_wp (by rfl) ?_
        go_simp
        refine hK.out _ _ ⟨hS1.1.alloc PA1.out.size _, heap_up _ hS1.2⟩ (fun hS1 => ?_)
        clear hK K
        try simp only [Act.put, List.setIfInBounds_toArray, List.set_cons_zero, List.set_cons_succ]
        have PA2 := Lib.hid (PA1.out.below (ext_alloc (Below.refl x1.heap.size x1) (.cells #[.int .u8 41] 5)))
        have BA2 := Lib.hid (BB.make (c := 41) PA1.out.own)
        have KA2 := Lib.hid (BA1.out.below (ext_alloc (Below.refl x1.heap.size x1) (.cells #[.int .u8 41] 5)))
        generalize x1.alloc (.cells #[.int .u8 41] 5) = x2 at *
        generalize x1.heap.size = m2 at *
        refine wpAnyH_ready (rs := [2]) (by kernel_rfl) (by simp) ?_
        refine AllReadyH.cons (o := { dst := some 13, op := Go.Op.call { callee := Go.Callee.builtin Go.Builtin.append, args := #[Go.Operand.tmp 11, Go.Operand.tmp 12], argTypes := #[65, 65] }, type := 65, pos := "ref.go:45", after := #[{ on := 0, ground := Go.Ground.data }, { on := 1, ground := Go.Ground.data }], guard := none }) rfl (fun K hK => ?_) ?_
        · refine wanted_wp (by rfl) ?_
          refine rx_byteW 40 (.tmp 11) (.tmp 12) rfl rfl rfl PA2.out.at0 KA2.out.cell0 (by first | omega | (simp only [List.length_append, List.length_cons, List.length_nil]; omega)) ?_
          intro v3 x3 P2
          have PA3 := Lib.hid (PA2.out.join P2)
          have KB3 := Lib.hid (BA2.out.grw P2.gr)
          have bx3 := BOX.out _ _ _ PA3.out
          refine hK.out _ _ ⟨PA3.out.bel, bx3⟩ (fun hS1 => ?_)
          clear hK K P2 bx3
          try simp only [Act.put, List.setIfInBounds_toArray, List.set_cons_zero, List.set_cons_succ]
          refine wpAnyH_ready (rs := [4]) (by kernel_rfl) (by simp) ?_
          refine AllReadyH.cons (o := { dst := some 15, op := Go.Op.call { callee := Go.Callee.value (Go.Operand.func 33), args := #[Go.Operand.tmp 13, Go.Operand.tmp 14], argTypes := #[65, 30] }, type := 65, pos := "ref.go:45", after := #[{ on := 2, ground := Go.Ground.data }, { on := 3, ground := Go.Ground.data }, { on := 2, ground := Go.Ground.chain }], guard := none }) rfl (fun K hK => ?_) ?_
          · refine wanted_wp (by rfl) ?_
            go_simp
            go_at_call 33
            refine (TX.out x3 v3 _ PA3.out (by simp only [List.length_append, List.length_cons, List.length_nil]; omega)).mono ?_
            rintro e x4 ⟨v4, rfl, P2⟩
            have PA4 := Lib.hid (PA3.out.join P2)
            have KB4 := Lib.hid (KB3.out.grw P2.gr)
            have bx4 := BOX.out _ _ _ PA4.out
            refine hK.out _ _ ⟨PA4.out.bel, bx4⟩ (fun hS1 => ?_)
            clear hK K P2 bx4
            try simp only [Act.put, List.setIfInBounds_toArray, List.set_cons_zero, List.set_cons_succ]
            refine wpAnyH_ready (rs := [6]) (by kernel_rfl) (by simp) ?_
            refine AllReadyH.cons (o := { dst := some 17, op := Go.Op.call { callee := Go.Callee.builtin Go.Builtin.append, args := #[Go.Operand.tmp 15, Go.Operand.tmp 16], argTypes := #[65, 65] }, type := 65, pos := "ref.go:45", after := #[{ on := 4, ground := Go.Ground.data }, { on := 5, ground := Go.Ground.data }, { on := 4, ground := Go.Ground.chain }], guard := none }) rfl (fun K hK => ?_) ?_
            · refine wanted_wp (by rfl) ?_
              refine rx_byteW 41 (.tmp 15) (.tmp 16) rfl rfl rfl PA4.out.at0 KB4.out.cell0 (by first | omega | (simp only [List.length_append, List.length_cons, List.length_nil]; omega)) ?_
              intro v5 x5 P2
              have PA5 := Lib.hid (PA4.out.join P2)
              have bx5 := BOX.out _ _ _ PA5.out
              refine hK.out _ _ ⟨PA5.out.bel, bx5⟩ (fun hS1 => ?_)
              clear hK K P2 bx5
              try simp only [Act.put, List.setIfInBounds_toArray, List.set_cons_zero, List.set_cons_succ]
              refine wpAnyH_take (i := 7) (oi := { dst := some 6, op := Go.Op.assign (Go.Operand.tmp 17), type := 65, pos := "ref.go:45", after := #[{ on := 6, ground := Go.Ground.data }, { on := 6, ground := Go.Ground.chain }, { on := 0, ground := Go.Ground.phase }, { on := 1, ground := Go.Ground.phase }, { on := 2, ground := Go.Ground.phase }, { on := 3, ground := Go.Ground.phase }, { on := 4, ground := Go.Ground.phase }, { on := 5, ground := Go.Ground.phase }, { on := 6, ground := Go.Ground.phase }], guard := none }) (v := v5) rfl (by kernel_rfl) (by kernel_rfl) (by kernel_rfl) (fun _ _ _ h => h) (Or.inl ⟨by rfl, fun W hW => by first | (go_simp; done) | (go_simp; with_reducible rfl)⟩) hS1 ?_
              try simp only [Act.put, List.setIfInBounds_toArray, List.set_cons_zero, List.set_cons_succ]
              refine wpAnyH_done (by kernel_rfl) ?_ _
              refine NoPanic.normal ?_
              have HF := PA5
              go_wp2
              go_ret
              exact ⟨_, rfl, BACK.out _ _ _ (by
                have h := HF.out
                rw [HFR.out]
                simpa using h)⟩
            exact AllReadyH.nil
          exact AllReadyH.nil
        exact AllReadyH.nil
      exact AllReadyH.nil
    refine AllReadyH.cons (o := { dst := some 16, op := Go.Op.buildSlice 65 1 #[(0, Go.Operand.const (Go.Value.int Go.IntKind.u8 41))], type := 65, pos := "ref.go:45", after := #[], guard := none }) rfl (fun K hK => ?_) ?_
    · refine wanted_wp (by rfl) ?_
      go_simp
      refine hK.out _ _ ⟨hS1.1.alloc P2.out.size _, heap_up _ hS1.2⟩ (fun hS1 => ?_)
      clear hK K
      try simp only [Act.put, List.setIfInBounds_toArray, List.set_cons_zero, List.set_cons_succ]
      have PA1 := Lib.hid (P2.out.below (ext_alloc (Below.refl x0.heap.size x0) (.cells #[.int .u8 41] 5)))
      have BA1 := Lib.hid (BB.make (c := 41) P2.out.own)
      generalize x0.alloc (.cells #[.int .u8 41] 5) = x1 at *
      generalize x0.heap.size = m1 at *
      refine wpAnyH_ready (rs := [1]) (by kernel_rfl) (by simp) ?_
      refine AllReadyH.cons (o := { dst := some 12, op := Go.Op.buildSlice 65 1 #[(0, Go.Operand.const (Go.Value.int Go.IntKind.u8 40))], type := 65, pos := "ref.go:45", after := #[], guard := none }) rfl (fun K hK => ?_) ?_
      · refine wanted_wp (by rfl) ?_
        go_simp
        refine hK.out _ _ ⟨hS1.1.alloc PA1.out.size _, heap_up _ hS1.2⟩ (fun hS1 => ?_)
        clear hK K
        try simp only [Act.put, List.setIfInBounds_toArray, List.set_cons_zero, List.set_cons_succ]
        have PA2 := Lib.hid (PA1.out.below (ext_alloc (Below.refl x1.heap.size x1) (.cells #[.int .u8 40] 5)))
        have BA2 := Lib.hid (BB.make (c := 40) PA1.out.own)
        have KB2 := Lib.hid (BA1.out.below (ext_alloc (Below.refl x1.heap.size x1) (.cells #[.int .u8 40] 5)))
        generalize x1.alloc (.cells #[.int .u8 40] 5) = x2 at *
        generalize x1.heap.size = m2 at *
        refine wpAnyH_ready (rs := [2]) (by kernel_rfl) (by simp) ?_
        refine AllReadyH.cons (o := { dst := some 13, op := Go.Op.call { callee := Go.Callee.builtin Go.Builtin.append, args := #[Go.Operand.tmp 11, Go.Operand.tmp 12], argTypes := #[65, 65] }, type := 65, pos := "ref.go:45", after := #[{ on := 0, ground := Go.Ground.data }, { on := 1, ground := Go.Ground.data }], guard := none }) rfl (fun K hK => ?_) ?_
        · refine wanted_wp (by rfl) ?_
          refine rx_byteW 40 (.tmp 11) (.tmp 12) rfl rfl rfl PA2.out.at0 BA2.out.cell0 (by first | omega | (simp only [List.length_append, List.length_cons, List.length_nil]; omega)) ?_
          intro v3 x3 P2
          have PA3 := Lib.hid (PA2.out.join P2)
          have KB3 := Lib.hid (KB2.out.grw P2.gr)
          have bx3 := BOX.out _ _ _ PA3.out
          refine hK.out _ _ ⟨PA3.out.bel, bx3⟩ (fun hS1 => ?_)
          clear hK K P2 bx3
          try simp only [Act.put, List.setIfInBounds_toArray, List.set_cons_zero, List.set_cons_succ]
          refine wpAnyH_ready (rs := [4]) (by kernel_rfl) (by simp) ?_
          refine AllReadyH.cons (o := { dst := some 15, op := Go.Op.call { callee := Go.Callee.value (Go.Operand.func 33), args := #[Go.Operand.tmp 13, Go.Operand.tmp 14], argTypes := #[65, 30] }, type := 65, pos := "ref.go:45", after := #[{ on := 2, ground := Go.Ground.data }, { on := 3, ground := Go.Ground.data }, { on := 2, ground := Go.Ground.chain }], guard := none }) rfl (fun K hK => ?_) ?_
          · refine wanted_wp (by rfl) ?_
            go_simp
            go_at_call 33
            refine (TX.out x3 v3 _ PA3.out (by simp only [List.length_append, List.length_cons, List.length_nil]; omega)).mono ?_
            rintro e x4 ⟨v4, rfl, P2⟩
            have PA4 := Lib.hid (PA3.out.join P2)
            have KB4 := Lib.hid (KB3.out.grw P2.gr)
            have bx4 := BOX.out _ _ _ PA4.out
            refine hK.out _ _ ⟨PA4.out.bel, bx4⟩ (fun hS1 => ?_)
            clear hK K P2 bx4
            try simp only [Act.put, List.setIfInBounds_toArray, List.set_cons_zero, List.set_cons_succ]
            refine wpAnyH_ready (rs := [6]) (by kernel_rfl) (by simp) ?_
            refine AllReadyH.cons (o := { dst := some 17, op := Go.Op.call { callee := Go.Callee.builtin Go.Builtin.append, args := #[Go.Operand.tmp 15, Go.Operand.tmp 16], argTypes := #[65, 65] }, type := 65, pos := "ref.go:45", after := #[{ on := 4, ground := Go.Ground.data }, { on := 5, ground := Go.Ground.data }, { on := 4, ground := Go.Ground.chain }], guard := none }) rfl (fun K hK => ?_) ?_
            · refine wanted_wp (by rfl) ?_
              refine rx_byteW 41 (.tmp 15) (.tmp 16) rfl rfl rfl PA4.out.at0 KB4.out.cell0 (by first | omega | (simp only [List.length_append, List.length_cons, List.length_nil]; omega)) ?_
              intro v5 x5 P2
              have PA5 := Lib.hid (PA4.out.join P2)
              have bx5 := BOX.out _ _ _ PA5.out
              refine hK.out _ _ ⟨PA5.out.bel, bx5⟩ (fun hS1 => ?_)
              clear hK K P2 bx5
              try simp only [Act.put, List.setIfInBounds_toArray, List.set_cons_zero, List.set_cons_succ]
              refine wpAnyH_take (i := 7) (oi := { dst := some 6, op := Go.Op.assign (Go.Operand.tmp 17), type := 65, pos := "ref.go:45", after := #[{ on := 6, ground := Go.Ground.data }, { on := 6, ground := Go.Ground.chain }, { on := 0, ground := Go.Ground.phase }, { on := 1, ground := Go.Ground.phase }, { on := 2, ground := Go.Ground.phase }, { on := 3, ground := Go.Ground.phase }, { on := 4, ground := Go.Ground.phase }, { on := 5, ground := Go.Ground.phase }, { on := 6, ground := Go.Ground.phase }], guard := none }) (v := v5) rfl (by kernel_rfl) (by kernel_rfl) (by kernel_rfl) (fun _ _ _ h => h) (Or.inl ⟨by rfl, fun W hW => by first | (go_simp; done) | (go_simp; with_reducible rfl)⟩) hS1 ?_
              try simp only [Act.put, List.setIfInBounds_toArray, List.set_cons_zero, List.set_cons_succ]
              refine wpAnyH_done (by kernel_rfl) ?_ _
              refine NoPanic.normal ?_
              have HF := PA5
              go_wp2
              go_ret
              exact ⟨_, rfl, BACK.out _ _ _ (by
                have h := HF.out
                rw [HFR.out]
                simpa using h)⟩
            exact AllReadyH.nil
          exact AllReadyH.nil
        exact AllReadyH.nil
      exact AllReadyH.nil
    exact AllReadyH.nil

end Go.Proofs.YtnhgeojcelegbaaDoor

namespace Go.Proofs.YtnhgeojcelegbaaDoor
open Go.RowKit Go.Lib

theorem allT_map {Q R : Hd → Trees → Prop} (m : ∀ h k, Q h k → R h k) : ∀ {ts : Trees}, AllT Q ts → AllT R ts
  | .nil, _ => trivial
  | .cons h k _, ⟨a, b⟩ => ⟨m h k a, allT_map m b⟩
theorem rx_node {base : Nat} (h : Hd) (ks : Trees) (A : AllT (RxS base) ks) : RxS base h ks := by
  intro W wa va v l ka kl kc P tv hl hy hf
  have hg := (good_of (h := h) (n := ks.len) (by simp only [treeFits, Bool.and_eq_true] at hf; exact hf.1)).1
  have F : AllT (RxF base) ks := allT_map (fun h k s => rx_from h k s) A
  obtain ⟨kind, op, num, text, ref, tr, fn⟩ := h
  simp only at hg
  rcases (show kind = 1 ∨ kind = 2 ∨ kind = 3 ∨ kind = 4 ∨ kind = 5 ∨ kind = 6 ∨ kind = 7 ∨ kind = 8 ∨ kind = 9 by omega) with hk1 | hk2 | hk3 | hk4 | hk5 | hk6 | hk7 | hk8 | hk9
  · subst hk1
    exact rx_k1 _ _ _ _ _ _ _ W wa va v l ka kl kc P tv hl hy hf
  · subst hk2
    exact rx_k2 _ _ _ _ _ _ _ W wa va v l ka kl kc P tv hl hy hf
  · subst hk3
    exact rx_k3 _ _ _ _ _ _ _ W wa va v l ka kl kc P tv hl hy hf
  · subst hk4
    exact rx_k4 _ _ _ _ _ _ _ W wa va v l ka kl kc P tv hl hy hf
  · subst hk5
    exact rx_k5 _ _ _ _ _ _ _ W wa va v l ka kl kc P tv hl hy hf
  · subst hk6
    exact rx_k6 _ _ _ _ _ _ _ W wa va v l ka kl kc P tv hl hy hf
  · subst hk7
    exact rx_k7 _ _ _ _ _ _ _ F W wa va v l ka kl kc P tv hl hy hf
  · subst hk8
    exact rx_k8 _ _ _ _ _ _ _ F W wa va v l ka kl kc P tv hl hy hf
  · subst hk9
    exact rx_k9 _ _ _ _ _ _ _ A W wa va v l ka kl kc P tv hl hy hf
theorem rx_all {base : Nat} (h : Hd) (ks : Trees) : RxS base h ks := rx_node h ks (allT (fun h k a => rx_node h k a) ks)
theorem owns_text {w : World} {base : Nat} {v : Value} {l : List UInt8} (h : w.ownsRow base 5 1 v l.length (byteCells l)) : (convert 65 9 v).run Tryd.prog w = .ok (.string (strB l)) w := by
  rcases h.2 with ⟨rfl, h0⟩ | ⟨g, cap, cur, rfl, _, _, _, _, _⟩
  · have : l = [] := List.length_eq_zero_iff.1 h0
    subst this
    rw [run_convert_bytes_string w 65 9 5 none 0 0 Tryd.underlying65 Tryd.underlying5 Tryd.underlying9]
    rfl
  · refine run_convert_bytes_back w 65 9 5 ⟨g, 0, none⟩ cap l Tryd.underlying65 Tryd.underlying5 Tryd.underlying9 fun j hj => ?_
    exact h.cells (g := g) rfl j _ (by simp [byteCells, List.getElem?_eq_getElem hj])
set_option maxRecDepth 100000 in
set_option maxHeartbeats 2000000 in
theorem refFormula_any (nd : Hd) (ks : Trees) (w : World) (B : Nat) (ka : Option Addr) (kl kc : Nat) (hB : B ≤ w.heap.size) (tv : TreeV w B nd ks ka kl) :
    Calls Tryd.prog 12 #[.agg #[.int .i64 nd.kind, .int .i64 nd.op, .int .i64 nd.num, .string ⟨nd.text.toArray⟩, .int .i64 nd.ref.row, .int .i64 nd.ref.col, .bool nd.ref.pr, .bool nd.ref.pc, .int .i64 nd.to.row, .int .i64 nd.to.col, .bool nd.to.pr, .bool nd.to.pc, .int .i64 nd.fn, (.slice ka kl kc)]] w (FormPost nd ks w) := by
  have HTV := Lib.hid tv
  clear tv
  go_enter Tryd.func12, Tryd.ntmps12
  go_upto_region 1 with (fail)
  have BX : (w.alloc (.cells #[.int .i64 nd.kind, .int .i64 nd.op, .int .i64 nd.num, .string ⟨nd.text.toArray⟩, .int .i64 nd.ref.row, .int .i64 nd.ref.col, .bool nd.ref.pr, .bool nd.ref.pc, .int .i64 nd.to.row, .int .i64 nd.to.col, .bool nd.to.pr, .bool nd.to.pc, .int .i64 nd.fn, (.slice ka kl kc)] 30)).heap[w.heap.size]? = some (.cells #[.int .i64 nd.kind, .int .i64 nd.op, .int .i64 nd.num, .string ⟨nd.text.toArray⟩, .int .i64 nd.ref.row, .int .i64 nd.ref.col, .bool nd.ref.pr, .bool nd.ref.pc, .int .i64 nd.to.row, .int .i64 nd.to.col, .bool nd.to.pr, .bool nd.to.pc, .int .i64 nd.fn, (.slice ka kl kc)] 30 (0, 0)) := heap_alloc_new w _
  have b0 : Below w.heap.size w (w.alloc (.cells #[.int .i64 nd.kind, .int .i64 nd.op, .int .i64 nd.num, .string ⟨nd.text.toArray⟩, .int .i64 nd.ref.row, .int .i64 nd.ref.col, .bool nd.ref.pr, .bool nd.ref.pc, .int .i64 nd.to.row, .int .i64 nd.to.col, .bool nd.to.pr, .bool nd.to.pc, .int .i64 nd.fn, (.slice ka kl kc)] 30)) := ext_alloc (Below.refl _ _) _
  have hs1 : (w.alloc (.cells #[.int .i64 nd.kind, .int .i64 nd.op, .int .i64 nd.num, .string ⟨nd.text.toArray⟩, .int .i64 nd.ref.row, .int .i64 nd.ref.col, .bool nd.ref.pr, .bool nd.ref.pc, .int .i64 nd.to.row, .int .i64 nd.to.col, .bool nd.to.pr, .bool nd.to.pc, .int .i64 nd.fn, (.slice ka kl kc)] 30)).heap.size = w.heap.size + 1 := by simp
  generalize w.alloc (.cells #[.int .i64 nd.kind, .int .i64 nd.op, .int .i64 nd.num, .string ⟨nd.text.toArray⟩, .int .i64 nd.ref.row, .int .i64 nd.ref.col, .bool nd.ref.pr, .bool nd.ref.pc, .int .i64 nd.to.row, .int .i64 nd.to.col, .bool nd.to.pr, .bool nd.to.pc, .int .i64 nd.fn, (.slice ka kl kc)] 30) = w0 at *
  have TV0 := Lib.hid (((HTV.out.kept b0 hB).mono (Nat.le_trans hB (Nat.le_succ _))).mono (Nat.le_of_eq hs1.symm))
  have HBX := Lib.hid BX; have HB0 := Lib.hid b0
  have hlt : w.heap.size < w0.heap.size := by omega
  clear BX b0 hs1
  go_wp2_with (refine wpList_load_X rfl rfl rfl HBX.out rfl ?_)
  refine (refMay_any nd ks w0 w0.heap.size ka kl kc (Nat.le_refl _) TV0.out).mono ?_
  rintro e w1 ⟨rfl, b1⟩
  have B1 := Lib.hid b1
  have BX1 := Lib.hid (blk_below b1 HBX.out)
  clear b1
  obtain ⟨x, hx⟩ : ∃ x, mayE nd ks = x := ⟨_, rfl⟩
  rw [hx]
  have HX := Lib.hid hx
  clear hx
  by_cases h0 : x = 0
  rotate_left
  · have hb : (x != 0) = true := by simpa using h0
    go_wp2
    go_ret2
    exact ⟨by rw [formL, HX.out, if_neg h0]; rfl, HB0.out.trans (B1.out.mono (Nat.le_of_lt hlt))⟩
  · subst h0
    have hmay := HX.out
    have hfine : Fine nd ks ∧ treeFits nd ks = true := by
      unfold mayE at hmay
      split at hmay
      · rename_i f
        split at hmay
        · rename_i t; exact ⟨f, t⟩
        · cases hmay
      · cases hmay
    obtain ⟨⟨f1, f2, f3⟩, hfit⟩ := hfine
    have hroom : roomH nd ks ≤ 1000000 := by
      have hft := hfit
      simp only [treeFits, Bool.and_eq_true] at hft
      have h1 := room_fine ks hft.2
      have h2 := text_bytes hft.1
      unfold roomH
      omega
    have h0 : RxW w0.heap.size (w1.alloc (.cells #[.int .u8 61] 5)) (.slice (some ⟨w1.heap.size, 0, none⟩) 1 1) [61] (.slice (some ⟨w1.heap.size, 0, none⟩) 1 1) (w1.alloc (.cells #[.int .u8 61] 5)) :=
      ⟨⟨rfl, .inr ⟨w1.heap.size, 1, #[.int .u8 61], rfl, B1.out.size, heap_alloc_new w1 _, Nat.le_refl _, by decide, rfl, rfl⟩⟩, Below.refl _ _, OthersKept.refl _ _ _, Nat.le_trans B1.out.size (by simp), Grw.refl _ _⟩
    have tx := rx_all nd ks (w1.alloc (.cells #[.int .u8 61] 5)) (w1.alloc (.cells #[.int .u8 61] 5)) _ _ [61] ka kl kc h0 ((TV0.out.kept B1.out (Nat.le_refl _)).kept (ext_alloc (Below.refl _ w1) (.cells #[.int .u8 61] 5)) B1.out.size) (by simp only [List.length_cons, List.length_nil]; omega) f3 hfit
    have TX := Lib.hid tx
    have BX2 := Lib.hid (heap_up (.cells #[.int .u8 61] 5) BX1.out)
    have B2 := Lib.hid (B1.out.alloc B1.out.size (.cells #[.int .u8 61] 5))
    clear hmay f1 f2 f3 hfit h0 tx
    go_wp2_with (refine wpList_load_X rfl rfl rfl BX2.out rfl ?_)
    refine TX.out.mono ?_
    rintro e w3 ⟨v3, rfl, P3⟩
    have hc := owns_text P3.own
    have B3 := Lib.hid (HB0.out.trans ((B2.out.trans P3.bel).mono (Nat.le_of_lt hlt)))
    clear P3
    go_wp2
    go_ret2
    exact ⟨by rw [formL, HX.out, if_pos rfl]; rfl, B3.out⟩
end Go.Proofs.YtnhgeojcelegbaaDoor
