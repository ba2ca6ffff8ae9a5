/- Comp: open, close; how long code is. -/
import Derived.Test.YtlmpiobdgkmmgaaGreatDoorKcI
set_option maxRecDepth 1000000
set_option maxHeartbeats 16000000
namespace Go.Proofs.YtlmpiobdgkmmgaaGreatDoor
open Go.RowKit
theorem p3_7 : P3 7 := ⟨by omega, by omega, by omega⟩
def patA : List PI → Nat → Int → List PI
 | [], _, _ => []
 | p :: r, 0, x => { p with a := x } :: r
 | p :: r, i + 1, x => p :: patA r i x
theorem patA_len : ∀ (ps : List PI) (i : Nat) (x : Int), (patA ps i x).length = ps.length
 | [], _, _ => rfl
 | _ :: _, 0, _ => rfl
 | p :: r, i + 1, x => by simp [patA, patA_len r i x]
theorem patA_set : ∀ (ps : List PI) (i : Nat) (x : Int) (p : PI), ps[i]? = some p → patA ps i x = ps.set i { p with a := x }
 | [], _, _, _, h => by simp at h
 | q :: r, 0, x, p, h => by
  simp only [List.getElem?_cons_zero, Option.some.injEq] at h
  subst h
  rfl
 | q :: r, i + 1, x, p, h => by simp only [patA, List.set_cons_succ, patA_set r i x p (by simpa using h)]
theorem patA_app : ∀ (ps r : List PI) (i : Nat) (x : Int), i < ps.length → patA (ps ++ r) i x = patA ps i x ++ r
 | [], _, _, _, h => by simp at h
 | _ :: _, _, 0, _, _ => rfl
 | p :: ps, r, i + 1, x, h => by simp only [List.cons_append, patA, patA_app ps r i x (by simpa using h)]
theorem patA_last : ∀ (ps : List PI) (p : PI) (x : Int), patA (ps ++ [p]) ps.length x = ps ++ [{ p with a := x }]
 | [], _, _ => rfl
 | q :: ps, p, x => by simp only [List.cons_append, List.length_cons, patA, patA_last ps p x]
def pats (os : List Nat) (x : Int) (ps : List PI) : List PI := os.foldl (fun l i => patA l i x) ps
theorem pats_len : ∀ (os : List Nat) (x : Int) (ps : List PI), (pats os x ps).length = ps.length
 | [], _, _ => rfl
 | o :: os, x, ps => by
  have := pats_len os x (patA ps o x)
  rw [patA_len] at this
  exact this
theorem pats_app : ∀ (os : List Nat) (x : Int) (ps r : List PI), (∀ i ∈ os, i < ps.length) → pats os x (ps ++ r) = pats os x ps ++ r
 | [], _, _, _, _ => rfl
 | o :: os, x, ps, r, h => by
  show pats os x (patA (ps ++ r) o x) = pats os x (patA ps o x) ++ r
  rw [patA_app ps r o x (h o (by simp)), pats_app os x _ r fun i hi => by rw [patA_len]; exact h i (by simp [hi])]
theorem pats_snoc (os : List Nat) (o : Nat) (x : Int) (ps : List PI) : pats (os ++ [o]) x ps = patA (pats os x ps) o x := by simp [pats]
structure Pt (os : List Nat) (L0 : List PI) (L : Int → List PI) : Prop where
 lt : ∀ i ∈ os, i < L0.length
 eq : ∀ E, pats os E L0 = L E
theorem Pt.len {os : List Nat} {L0 : List PI} {L : Int → List PI} (p : Pt os L0 L) (E : Int) : (L E).length = L0.length := by rw [← p.eq E, pats_len]
theorem Pt.nil (L0 : List PI) : Pt [] L0 fun _ => L0 := ⟨fun _ h => by simp at h, fun _ => rfl⟩
theorem Pt.app {os : List Nat} {L0 : List PI} {L : Int → List PI} (p : Pt os L0 L) (r : List PI) : Pt os (L0 ++ r) fun E => L E ++ r :=
 ⟨fun i h => by have := p.lt i h; simp; omega, fun E => by rw [pats_app os E L0 r p.lt, p.eq]⟩
theorem Pt.opened {os : List Nat} {L0 : List PI} {L : Int → List PI} (p : Pt os L0 L) (x : PI) : Pt (os ++ [L0.length]) (L0 ++ [x]) fun E => L E ++ [{ x with a := E }] :=
 ⟨fun i h => by
  simp only [List.mem_append, List.mem_singleton] at h
  rcases h with h | h
  ·have := p.lt i h; simp; omega
  ·subst h; simp, fun E => by
  rw [pats_snoc, pats_app os E L0 [x] p.lt, p.eq, ← p.len E, patA_last]⟩
theorem Ly.pat {b Lx i : Nat} {TL : TypeId} {ex : List Value} {cl : Nat → Nat} {S : SX} {ps : List PI} {cs : List PV} {W : World} (s : Ly b cl S Lx TL ex ps cs W) (hi : i < ps.length) (_hb : b ≤ W.heap.size) (x : Int) :
 ∃ g cap v, W.cell? ⟨Lx, 0, none⟩ = some (.slice (some ⟨g, 0, none⟩) ps.length cap) ∧ W.cell? ⟨g, i * 6 + 1, none⟩ = some v ∧ W.frozen? ⟨g, i * 6 + 1, none⟩ = false ∧ Ld b cl S Lx TL ex W (patA ps i x) cs (W.setCell ⟨g, i * 6 + 1, none⟩ (.int .i64 x)) := by
 obtain ⟨vI, vC, ts, s⟩ := s
 obtain ⟨p, hp⟩ : ∃ p, ps[i]? = some p := ⟨_, List.getElem?_eq_getElem hi⟩
 obtain ⟨t, ht⟩ : ∃ t, ts[i]? = some t := ⟨_, List.getElem?_eq_getElem (by rw [s.len]; exact hi)⟩
 rcases s.rI.own.2 with ⟨e, h0⟩ | ⟨g, cap, cur, e, hbg, -⟩
 ·exact absurd h0 (by omega)
 subst e
 obtain ⟨s2, f2⟩ := s.setI (p' := { p with a := x }) (t' := t) (j := 1) (u := .int .i64 x) hp ht (by omega) rfl (fun W' f hS => (s.tt i p t hS hp ht).frm f (by omega) (Nat.le_refl _)) (fun v hv => s.tx i v t hv ht)
 have hset : ts.set i t = ts := by
  have h2 := (List.getElem?_eq_some_iff.1 ht)
  obtain ⟨h3, h4⟩ := h2
  rw [← h4, List.set_getElem_self]
 rw [hset] at s2
 have ly : Ly b cl S Lx TL ex (patA ps i x) cs (W.setCell ⟨g, i * 6 + 1, none⟩ (.int .i64 x)) := by
  rw [patA_set ps i x p hp]
  have hz : (W.setCell ⟨g, i * 6 + 1, none⟩ (.int .i64 x)).heap.size = W.heap.size := setCell_hsize _ _ _
  rw [← hz] at s2
  exact ⟨_, _, ts, s2⟩
 refine ⟨g, cap, .int .i64 p.a, (cells_of_block s.box 0).trans rfl, ?_, own_frz s.rI.own _, cl, ly, f2.mono fun c h => h.1, (Below.refl b W).setCell (p := ⟨g, i * 6 + 1, none⟩) hbg _⟩
 exact (own_cell s.rI.own (i * 6 + 1) (by rw [insC_len _ _ s.len]; omega)).trans (insC_get ps ts i 1 p t hp ht (by omega))
def cloV (Bl Ba : Nat) : Value := .func (.func 63) #[] #[.pointer (some ⟨Bl, 0, none⟩), .pointer (some ⟨Ba, 0, none⟩)]
structure Clo (cl : Nat → Nat) (W : World) (Lx Bl Ba o : Nat) : Prop where
 c1 : W.heap[Bl]? = some (.cells #[.pointer (some ⟨Lx, 0, none⟩)] 61 (0, 0))
 c2 : W.heap[Ba]? = some (.cells #[.int .i64 (o : Int)] 3 (0, 0))
 k1 : cl Bl = 6
 k2 : cl Ba = 6
theorem Clo.frm {cl cl' : Nat → Nat} {W W' : World} {Lx Bl Ba o N : Nat} {P : Nat → Prop} (h : Clo cl W Lx Bl Ba o) (f : Frm P cl N cl' W W') (hp : P 6) (hN : W.heap.size ≤ N) : Clo cl' W' Lx Bl Ba o := by
 have f1 := f Bl (by have := lt_of_block h.c1; omega) (by rw [h.k1]; exact hp)
 have f2 := f Ba (by have := lt_of_block h.c2; omega) (by rw [h.k2]; exact hp)
 exact ⟨f1.2.trans h.c1, f2.2.trans h.c2, f1.1.trans h.k1, f2.1.trans h.k2⟩
theorem closeFn_any {b Lx Bl Ba o : Nat} {cl : Nat → Nat} {S : SX} {ex : List Value} {ps : List PI} {cs : List PV} (W : World) (HL : Hid (Ly b cl S Lx 64 ex ps cs W)) (hb : b ≤ W.heap.size) (_hn : ps.length ≤ 1000001) (hc : Clo cl W Lx Bl Ba o) (ho : o < ps.length) :
 Calls Tryz.prog 63 #[.pointer (some ⟨Bl, 0, none⟩), .pointer (some ⟨Ba, 0, none⟩)] W fun e w' => e = .returned (.tuple #[]) ∧ Ld b cl S Lx 64 ex W (patA ps o (ps.length : Int)) cs w' := by
 have LD : Ly b cl S Lx 64 ex ps cs W.drew := by
  obtain ⟨vI, vC, ts, s⟩ := HL.out
  exact ⟨vI, vC, ts, s.frm (P := fun _ => True) (fun x _ _ => ⟨rfl, rfl⟩ : Frm (fun _ => True) cl W.heap.size cl W W.drew) (Nat.le_refl _) trivial trivial trivial fun _ _ => trivial⟩
 obtain ⟨g, cap, v, c0, c3, f3, l3⟩ := LD.pat ho hb (ps.length : Int)
 have c0' : W.cell? ⟨Lx, 0, none⟩ = some (.slice (some ⟨g, 0, none⟩) ps.length cap) := c0
 have c1 := cells_of_block hc.c1 0
 have c2 := cells_of_block hc.c2 0
 simp only [List.getElem?_toArray, List.getElem?_cons_zero] at c1 c2
 have L3 := Lib.hid (show Ld b cl S Lx 64 ex W (patA ps o (ps.length : Int)) cs _ from by
  obtain ⟨cl', s, f, bb⟩ := l3
  exact ⟨cl', s, f, ((Below.refl b W).drew).trans bb⟩)
 have ho2 : (o : Int) < (ps.length : Int) := by omega
 clear HL LD l3 hc c0
 go_enter Tryz.func63, Tryz.ntmps63
 go_still_tail 14, (by kernel_rfl)
 change wpList _ _ _ _ _ W.drew
 generalize W.drew = wd at *
 go_wp2_with fail
 exact bodyPost_end (results_none rfl _ _ _) rfl ⟨rfl, L3.out⟩
structure CloR (cl : Nat → Nat) (W : World) (Lx : Nat) (a : Option Addr) (os : List Nat) : Prop where
 at_ : ∀ i o, os[i]? = some o → ∃ g Bl Ba, a = some ⟨g, 0, none⟩ ∧ W.cell? ⟨g, i, none⟩ = some (cloV Bl Ba) ∧ cl g = 7 ∧ g < W.heap.size ∧ Clo cl W Lx Bl Ba o
theorem CloR.frm {cl cl' : Nat → Nat} {W W' : World} {Lx : Nat} {a : Option Addr} {os : List Nat} {P : Nat → Prop} (h : CloR cl W Lx a os) (f : Frm P cl W.heap.size cl' W W') (hp : P 6) (hp7 : P 7) (hz : W.heap.size ≤ W'.heap.size) : CloR cl' W' Lx a os := ⟨fun i o hi => by
 obtain ⟨g, Bl, Ba, e, c, k, l, q⟩ := h.at_ i o hi
 have f1 := f g l (by rw [k]; exact hp7)
 refine ⟨g, Bl, Ba, e, ?_, f1.1.trans k, by omega, q.frm f hp (Nat.le_refl _)⟩
 rw [← c]
 simp only [World.cell?, f1.2]⟩
def AllRel (b Lx : Nat) (cl0 : Nat → Nat) (S : SX) (ex : List Value) (ps : List PI) (cs : List PV) (a : Option Addr) (os : List Nat) (W : World) (iv : Value) (wr : World) : Prop :=
 ∃ (j : Nat) (cl : Nat → Nat), iv = .int .i64 (j : Int) ∧ j ≤ os.length ∧ Hid (Ly b cl S Lx 64 ex (pats (os.take j) (ps.length : Int) ps) cs wr) ∧ Hid (Frm P3 cl0 W.heap.size cl W wr) ∧ Hid (Below b W wr) ∧ Hid (CloR cl wr Lx a os)
theorem cpAll_any {b Lx kc : Nat} {a : Option Addr} {cl : Nat → Nat} {S : SX} {ex : List Value} {ps : List PI} {cs : List PV} (os : List Nat) (W : World) (HL : Hid (Ly b cl S Lx 64 ex ps cs W)) (hb : b ≤ W.heap.size) (hn : ps.length ≤ 1000001) (hm : os.length ≤ 1000000) (hc : CloR cl W Lx a os) (ho : ∀ i ∈ os, i < ps.length) :
 Calls Tryz.prog 65 #[.slice a os.length kc] W fun e w' => e = .returned (.tuple #[]) ∧ Ld b cl S Lx 64 ex W (pats os (ps.length : Int) ps) cs w' := by
 have HC := Lib.hid hc
 have HO := Lib.hid ho
 clear hc ho
 go_enter Tryz.func65, Tryz.ntmps65
 go_wp2_with fail
 go_loopw [6] (fun iv wr => AllRel b Lx cl S ex ps cs a os W iv wr) (fun iv _ => os.length - (intOf iv).toNat)
 case atStart => exact ⟨0, cl, rfl, Nat.zero_le _, HL, Lib.hid (Frm.refl _ _ _ _), Lib.hid (Below.refl _ _), HC⟩
 case round =>
  obtain ⟨j, cl1, rfl, hj, L1, F1, B1, C1⟩ := hrel
  by_cases hlt : j < os.length
  ·obtain ⟨o, ho⟩ : ∃ o, os[j]? = some o := ⟨_, List.getElem?_eq_getElem hlt⟩
   obtain ⟨g, Bl, Ba, rfl, c0, -, hgl, q⟩ := C1.out.at_ j o ho
   have HO1 := Lib.hid ho
   have Q1 := Lib.hid q
   have hol : o < (pats (os.take j) (ps.length : Int) ps).length := by rw [pats_len]; exact HO.out o (List.mem_of_getElem? ho)
   clear ho q
   simp only [cloV] at c0
   go_wp2_with fail
   refine (closeFn_any wr L1 (Nat.le_trans hb B1.out.size) (by rw [pats_len]; exact hn) Q1.out hol).mono ?_
   rintro e w2 ⟨rfl, l2⟩
   rw [pats_len] at l2
   have L2 := Lib.hid l2
   clear l2
   go_wp2_with fail
   obtain ⟨cl2, s2, f2, b2⟩ := L2.out
   refine ⟨⟨j + 1, cl2, by go_num, by omega, Lib.hid ?_, Lib.hid (F1.out.trans f2 B1.out.size), Lib.hid (B1.out.trans b2), Lib.hid (C1.out.frm f2 p3_6 p3_7 b2.size)⟩, by simp [intOf]; omega⟩
   rw [List.take_add_one, HO1.out, Option.toList_some, pats_snoc]
   exact s2
  ·obtain rfl : j = os.length := by omega
   rw [List.take_length] at L1
   go_wp2_with fail
   exact bodyPost_end (results_none rfl _ _ _) rfl ⟨rfl, cl1, L1.out, F1.out, B1.out⟩
structure IntR (cl : Nat → Nat) (W : World) (a : Option Addr) (os : List Nat) : Prop where
 at_ : ∀ (i o : Nat), os[i]? = some o → ∃ g, a = some ⟨g, 0, none⟩ ∧ W.cell? ⟨g, i, none⟩ = some (.int .i64 (o : Int)) ∧ cl g = 7 ∧ g < W.heap.size
theorem IntR.frm {cl cl' : Nat → Nat} {W W' : World} {a : Option Addr} {os : List Nat} {P : Nat → Prop} (h : IntR cl W a os) (f : Frm P cl W.heap.size cl' W W') (hp : P 7) (hz : W.heap.size ≤ W'.heap.size) : IntR cl' W' a os := ⟨fun i o hi => by
 obtain ⟨g, e, c, k, l⟩ := h.at_ i o hi
 have f1 := f g l (by rw [k]; exact hp)
 refine ⟨g, e, ?_, f1.1.trans k, by omega⟩
 rw [← c]
 simp only [World.cell?, f1.2]⟩
theorem Ly.drew {b Lx : Nat} {TL : TypeId} {ex : List Value} {cl : Nat → Nat} {S : SX} {ps : List PI} {cs : List PV} {W : World} (h : Ly b cl S Lx TL ex ps cs W) : Ly b cl S Lx TL ex ps cs W.drew := by
 obtain ⟨vI, vC, ts, s⟩ := h
 exact ⟨vI, vC, ts, s.frm (P := fun _ => True) (fun x _ _ => ⟨rfl, rfl⟩ : Frm (fun _ => True) cl W.heap.size cl W W.drew) (Nat.le_refl _) trivial trivial trivial fun _ _ => trivial⟩
theorem Ld.drew {b Lx : Nat} {TL : TypeId} {ex : List Value} {cl : Nat → Nat} {S : SX} {ps : List PI} {cs : List PV} {W W' : World} (h : Ld b cl S Lx TL ex W.drew ps cs W') : Ld b cl S Lx TL ex W ps cs W' := by
 obtain ⟨cl', s, f, bb⟩ := h
 exact ⟨cl', s, f, ((Below.refl b W).drew).trans bb⟩
def CloseRel (b Lx : Nat) (cl0 : Nat → Nat) (S : SX) (ex : List Value) (ps : List PI) (cs : List PV) (a : Option Addr) (os : List Nat) (W : World) (iv : Value) (wr : World) : Prop :=
 ∃ (j : Nat) (cl : Nat → Nat), iv = .int .i64 (j : Int) ∧ j ≤ os.length ∧ Hid (Ly b cl S Lx 59 ex (pats (os.take j) (ps.length : Int) ps) cs wr) ∧ Hid (Frm P3 cl0 W.heap.size cl W wr) ∧ Hid (Below b W wr) ∧ Hid (IntR cl wr a os)
theorem cpClose_any {b Lx kc : Nat} {a : Option Addr} {cl : Nat → Nat} {S : SX} {ex : List Value} {ps : List PI} {cs : List PV} (os : List Nat) (W : World) (HL : Hid (Ly b cl S Lx 59 ex ps cs W)) (hb : b ≤ W.heap.size) (_hn : ps.length ≤ 1000001) (hm : os.length ≤ 1000000) (hc : IntR cl W a os) (ho : ∀ i ∈ os, i < ps.length) :
 Calls Tryz.prog 61 #[.pointer (some ⟨Lx, 0, none⟩), .slice a os.length kc] W fun e w' => e = .returned (.tuple #[]) ∧ Ld b cl S Lx 59 ex W (pats os (ps.length : Int) ps) cs w' := by
 have HC := Lib.hid hc
 have HO := Lib.hid ho
 clear hc ho
 go_enter Tryz.func61, Tryz.ntmps61
 go_wp2_with fail
 go_loopw [4] (fun iv wr => CloseRel b Lx cl S ex ps cs a os W iv wr) (fun iv _ => os.length - (intOf iv).toNat)
 case atStart => exact ⟨0, cl, rfl, Nat.zero_le _, HL, Lib.hid (Frm.refl _ _ _ _), Lib.hid (Below.refl _ _), HC⟩
 case round =>
  obtain ⟨j, cl1, rfl, hj, L1, F1, B1, C1⟩ := hrel
  by_cases hlt : j < os.length
  ·obtain ⟨o, ho⟩ : ∃ o, os[j]? = some o := ⟨_, List.getElem?_eq_getElem hlt⟩
   obtain ⟨g, rfl, c2, -, hgl⟩ := C1.out.at_ j o ho
   have HO1 := Lib.hid ho
   have hol : o < (pats (os.take j) (ps.length : Int) ps).length := by rw [pats_len]; exact HO.out o (List.mem_of_getElem? ho)
   obtain ⟨g2, cap, v, c0, c3, f3, l3⟩ := L1.out.drew.pat hol (Nat.le_trans hb B1.out.size) (ps.length : Int)
   have L3 := Lib.hid l3.drew
   rw [pats_len] at c0 hol
   have hol2 : (o : Int) < (ps.length : Int) := by omega
   have hlt2 : (j : Int) < (os.length : Int) := by omega
   have c2' : wr.drew.cell? ⟨g, j, none⟩ = some (.int .i64 (o : Int)) := c2
   clear ho l3
   go_upto_region 3 with (fail)
   clear c2
   go_still_tail 15, (by kernel_rfl)
   change wpList _ _ _ _ _ wr.drew
   generalize wr.drew = wd at c0 c3 f3 c2' L3 ⊢
   go_wp2_with fail
   obtain ⟨cl2, s2, f2, b2⟩ := L3.out
   refine ⟨⟨j + 1, cl2, by go_num, by omega, Lib.hid ?_, Lib.hid (F1.out.trans f2 B1.out.size), Lib.hid (B1.out.trans b2), Lib.hid (C1.out.frm f2 p3_7 b2.size)⟩, by simp [intOf]; omega⟩
   rw [List.take_add_one, HO1.out, Option.toList_some, pats_snoc]
   exact s2
  ·obtain rfl : j = os.length := by omega
   rw [List.take_length] at L1
   go_wp2_with fail
   exact bodyPost_end (results_none rfl _ _ _) rfl ⟨rfl, cl1, L1.out, F1.out, B1.out⟩
end Go.Proofs.YtlmpiobdgkmmgaaGreatDoor
namespace Go.Proofs.YtlmpiobdgkmmgaaGreatDoor
open Go.RowKit
def OpenPost (b : Nat) (cl : Nat → Nat) (S : SX) (Lx : Nat) (ex : List Value) (W : World) (ps : List PI) (p : PI) (cs : List PV) (e : Ending) (w' : World) : Prop :=
 ∃ Bl Ba cl', e = .returned (cloV Bl Ba) ∧ Ly b cl' S Lx 64 ex (ps ++ [p]) cs w' ∧ Frm P3 cl W.heap.size cl' W w' ∧ Below b W w' ∧ Clo cl' w' Lx Bl Ba ps.length
theorem open_any {b Lx : Nat} {cl : Nat → Nat} {S : SX} {ex : List Value} {ps : List PI} {cs : List PV} (o a1 a2 a3 a4 : Int) (W : World) (HL : Hid (Ly b cl S Lx 64 ex ps cs W)) (hb : b ≤ W.heap.size) (hn : ps.length ≤ 1000000) :
 Calls Tryz.prog 35 #[.pointer (some ⟨Lx, 0, none⟩), .agg #[.int .i64 o, .int .i64 a1, .int .i64 a2, .int .i64 a3, .int .i64 a4, .slice none 0 0]] W (OpenPost b cl S Lx ex W ps ⟨o, a1, a2, a3, a4, []⟩ cs) := by
 obtain ⟨W2, hW2⟩ : ∃ W2, W2 = (W.alloc (.cells #[.pointer (some ⟨Lx, 0, none⟩)] 61)).alloc (.cells #[.int .i64 o, .int .i64 a1, .int .i64 a2, .int .i64 a3, .int .i64 a4, .slice none 0 0] 47) := ⟨_, rfl⟩
 have B2 : Below W.heap.size W W2 := by rw [hW2]; exact ext_alloc (ext_alloc (Below.refl _ _) _) _
 have L2 := Lib.hid (HL.out.kept B2 6)
 have hbl : W2.heap[W.heap.size]? = some (.cells #[.pointer (some ⟨Lx, 0, none⟩)] 61 (0, 0)) := by
  rw [hW2, Below.heap_alloc _ _ _ (by simp)]; exact heap_alloc_new W _
 have HBL := Lib.hid hbl
 have HB2 := Lib.hid B2
 have hb2 := Nat.le_trans hb B2.size
 clear hbl B2
 go_enter Tryz.func35, Tryz.ntmps35
 go_wp2_with fail
 rw [← hW2]
 clear hW2
 refine (put_any o a1 a2 a3 a4 W2 L2 hb2 hn).mono ?_
 rintro e w3 ⟨rfl, l3⟩
 have L3 := Lib.hid l3
 clear l3
 go_wp2_with fail
 go_ret
 obtain ⟨cl3, s3, f3, b3⟩ := L3.out
 have b4 : Below w3.heap.size w3 (w3.alloc (.cells #[.int .i64 (ps.length : Int)] 3)) := ext_alloc (Below.refl _ _) _
 have hk : upc cl W.heap.size 6 W.heap.size = 6 := upc_ge (Nat.le_refl _)
 have q3 := f3 W.heap.size (lt_of_block HBL.out) (by rw [hk]; exact p3_6)
 have hlt3 : W.heap.size < w3.heap.size := Nat.lt_of_lt_of_le (lt_of_block HBL.out) b3.size
 refine ⟨W.heap.size, w3.heap.size, upc cl3 w3.heap.size 6, rfl, s3.kept b4 6, ?_, ((HB2.out.mono hb).trans b3).trans (b4.mono (Nat.le_trans hb2 b3.size)), ⟨?_, heap_alloc_new w3 _, ?_, upc_ge (Nat.le_refl _)⟩⟩
 ·exact ((Frm.kept HB2.out).trans f3 HB2.out.size).trans (Frm.kept b4) (Nat.le_trans HB2.out.size b3.size)
 ·rw [Below.heap_alloc _ _ _ hlt3, q3.2]; exact HBL.out
 ·rw [upc_lt hlt3, q3.1, hk]
structure Cos (b : Nat) (cl0 : Nat → Nat) (W0 : World) (cl : Nat → Nat) (S : SX) (Lx : Nat) (TL : TypeId) (ex : List Value) (ps : List PI) (cs : List PV) (T : TypeId) (v : Value) (vs : List Value) (W : World) : Prop where
 ly : Ly b cl S Lx TL ex ps cs W
 fr : Frm P3 cl0 W0.heap.size cl W0 W
 be : Below b W0 W
 row : Rw W0.heap.size W.heap.size cl 7 T 1 W v vs.length vs
section
variable {b Lx g cap : Nat} {cl0 cl cl' : Nat → Nat} {W0 W W' W1 : World} {S : SX} {TL T : TypeId} {ex : List Value} {ps ps' : List PI} {cs cs' : List PV} {v x : Value} {vs : List Value} {o : Obj}
theorem Cos.step (h : Cos b cl0 W0 cl S Lx TL ex ps cs T v vs W) (s : Ly b cl' S Lx TL ex ps' cs' W') (f : Frm P3 cl W.heap.size cl' W W') (bb : Below b W W') : Cos b cl0 W0 cl' S Lx TL ex ps' cs' T v vs W' :=
 ⟨s, h.fr.trans f h.be.size, h.be.trans bb, h.row.frm f p3_7 bb.size⟩
theorem Cos.ld (h : Cos b cl0 W0 cl S Lx TL ex ps cs T v vs W) (l : Ld b cl S Lx TL ex W ps' cs' W') : ∃ cl', Cos b cl0 W0 cl' S Lx TL ex ps' cs' T v vs W' ∧ Frm P3 cl W.heap.size cl' W W' := by
 obtain ⟨cl', s, f, bb⟩ := l
 exact ⟨cl', h.step s f bb, f⟩
theorem Cos.toLd (h : Cos b cl0 W0 cl S Lx TL ex ps cs T v vs W) : Ld b cl0 S Lx TL ex W0 ps cs W := ⟨cl, h.ly, h.fr, h.be⟩
theorem Cos.start (s : Ly b cl S Lx TL ex ps cs W) : Cos b cl W cl S Lx TL ex ps cs T (.slice none 0 0) [] W := ⟨s, Frm.refl _ _ _ _, Below.refl _ _, ⟨World.ownsRow_nil W _ _ _, fun k hk => by simp [Value.ownBlock] at hk⟩⟩
theorem Cos.push (h : Cos b cl0 W0 cl S Lx TL ex ps cs T v vs W) (hbW : b ≤ W0.heap.size) (hown : W1.ownsRow W0.heap.size T 1 (.slice (some ⟨g, 0, none⟩) (vs.length + 1) cap) (vs.length + 1) (vs ++ [x])) (hgrow : (W.alloc o).grownBy W1 v.ownBlock) (hat : v.ownBlock = some g ∨ g = (W.alloc o).heap.size) :
 Cos b cl0 W0 (upc cl W.heap.size 7) S Lx TL ex ps cs T (.slice (some ⟨g, 0, none⟩) (vs.length + 1) cap) (vs ++ [x]) W1 ∧ Frm (· ≠ 7) cl W.heap.size (upc cl W.heap.size 7) W W1 := by
 have hz := h.be.size
 have bel : Below W0.heap.size W W1 := ((Below.refl _ W).alloc hz o).grown hgrow (by simp; omega) (fun k hk => (World.ownsRow.lt h.row.own k hk).1)
 have f1 : Frm (· ≠ 7) cl W.heap.size (upc cl W.heap.size 7) W W1 := Frm.but fun x hx hc => grow_same9 hgrow x hx fun e => hc (h.row.cls x e).1
 have s1 : Ly b (upc cl W.heap.size 7) S Lx TL ex ps cs W1 := by
  obtain ⟨vI, vC, ts, s⟩ := h.ly
  exact ⟨vI, vC, ts, s.frm f1 bel.size (by omega) (by omega) (by omega) fun i _ => by omega⟩
 refine ⟨⟨s1, ?_, h.be.trans (bel.mono hbW), ?_⟩, f1⟩
 ·refine h.fr.trans (cl1 := cl) (N1 := W0.heap.size) ?_ (Nat.le_refl _)
  exact fun x hx _ => ⟨upc_lt (by omega), bel.block x hx⟩
 ·rw [List.length_append, List.length_singleton]
  exact h.row.make hown (hat.imp (fun e => e.symm) fun e k hk => by
   simp only [Value.ownBlock, Option.some.injEq] at hk
   rw [← hk, e]; simp) (Nat.le_refl _)
theorem Cos.kept (h : Cos b cl0 W0 cl S Lx TL ex ps cs T v vs W) (k : Below W.heap.size W W') (hb : b ≤ W.heap.size) (c : Nat) : Cos b cl0 W0 (upc cl W.heap.size c) S Lx TL ex ps cs T v vs W' :=
 h.step (h.ly.kept k c) (Frm.kept k) (k.mono hb)
end
end Go.Proofs.YtlmpiobdgkmmgaaGreatDoor
namespace Go.Proofs.YtlmpiobdgkmmgaaGreatDoor
open Go.RowKit
def FB (f : CF) (m : Nat) : Prop := ∀ n cs, (f n cs).1.length ≤ m ∧ (f n cs).2.length ≤ cs.length + (f n cs).1.length
theorem FB.mono {f : CF} {m m' : Nat} (h : FB f m) (hm : m ≤ m') : FB f m' := fun n cs => ⟨Nat.le_trans (h n cs).1 hm, (h n cs).2⟩
theorem fb_nil : FB nilF 0 := fun _ _ => ⟨Nat.le_refl _, Nat.le_refl _⟩
theorem fb_ins (x : PI) : FB (insF x) 1 := fun _ _ => ⟨Nat.le_refl _, Nat.le_succ _⟩
theorem fb_con (v : PV) : FB (conF v) 1 := fun _ cs => ⟨Nat.le_refl _, pushC_len cs v⟩
theorem fb_err (e : Int) : FB (errF e) 1 := fb_con _
theorem fb_seq {f g : CF} {a c : Nat} (h : FB f a) (k : FB g c) : FB (seqF f g) (a + c) := fun n cs => by
 have h1 := h n cs
 have h2 := k (n + (f n cs).1.length) (f n cs).2
 unfold seqF
 simp only [List.length_append]
 omega
theorem fb_end {F : Int → CF} {x : PI} {m : Nat} (h : ∀ e, FB (F e) m) : FB (endF F x) (m + 1) := fun n cs => fb_seq (h _) (fb_ins x) n cs
theorem fb_head {F : Int → CF} {x : Int → PI} {m : Nat} (h : ∀ e, FB (F e) m) : FB (headF F x) (m + 1) := fun n cs => (fb_seq (fb_ins _) (h _)).mono (by omega) n cs
theorem fb_arm {e : Int} {f : CF} {m : Nat} (h : FB f m) : FB (armF e f) (m + 2) := fun n cs => by
 have h1 := h (n + 1) cs
 unfold armF
 simp only [List.length_cons, List.length_append, List.length_nil]
 omega
def KB (k : KC) (m : Nat) : Prop := ∃ v a, FB k.v v ∧ FB k.a a ∧ v + 4 ≤ 8 * m ∧ a + 5 ≤ 8 * m
def KBs : List KC → Nat → Prop
 | [], _ => True
 | k :: r, m => ∃ a c, a + c ≤ m ∧ KB k a ∧ KBs r c
theorem fb_vals (e : Int) : ∀ (l : List KC) (m : Nat) (b : Int), KBs l m → ∃ c, FB (valsF e b l) c ∧ c + 3 * l.length ≤ 8 * m
 | [], m, _, _ => ⟨0, fb_nil, by simp⟩
 | [k], m, _, ⟨a, c, h, ⟨v, _, h1, _, h2, _⟩, _⟩ => ⟨v, h1, by simp; omega⟩
 | k :: k2 :: r, m, b, ⟨a, c, h, ⟨v, _, h1, _, h2, _⟩, hr⟩ => by
  obtain ⟨c1, h3, h4⟩ := fb_vals e (k2 :: r) c (b + 1) hr
  refine ⟨v + (1 + c1), fb_seq h1 (fb_seq (fb_ins _) h3), ?_⟩
  simp only [List.length_cons] at h4 ⊢
  omega
theorem fb_walk (e : Int) : ∀ (l : List KC) (m : Nat) (i : Int), KBs l m → ∃ c, FB (walkF e i l) c ∧ c + 3 * l.length ≤ 8 * m
 | [], m, _, _ => ⟨0, fb_nil, by simp⟩
 | k :: r, m, i, ⟨a, c, h, ⟨v, w, h1, h5, h2, h6⟩, hr⟩ => by
  obtain ⟨c1, h3, h4⟩ := fb_walk e r c (i + 1) hr
  by_cases q : isAr k = true
  ·refine ⟨w + 1 + c1, fb_seq (by rw [if_pos q]; exact fb_seq h5 (fb_ins _)) h3, ?_⟩
   simp only [List.length_cons] at h4 ⊢
   omega
  ·refine ⟨v + c1, fb_seq (by rw [if_neg q]; exact h1) h3, ?_⟩
   simp only [List.length_cons] at h4 ⊢
   omega
theorem fb_chs (e : Int) : ∀ (l : List KC) (m : Nat), KBs l m → ∃ c, FB (chsF e l) c ∧ c + 3 * l.length ≤ 8 * m
 | [], m, _ => ⟨0, fb_nil, by simp⟩
 | [k], m, ⟨a, c, h, ⟨v, _, h1, _, h2, _⟩, _⟩ => ⟨v, h1, by simp; omega⟩
 | k :: k2 :: r, m, ⟨a, c, h, ⟨v, _, h1, _, h2, _⟩, hr⟩ => by
  obtain ⟨c1, h3, h4⟩ := fb_chs e (k2 :: r) c hr
  refine ⟨v + (1 + c1), fb_seq h1 (fb_seq (fb_ins _) h3), ?_⟩
  simp only [List.length_cons] at h4 ⊢
  omega
theorem fb_sw (e : Int) : ∀ (l : List KC) (m : Nat), KBs l m → ∃ c, FB (swF e l) c ∧ c + 2 * l.length ≤ 8 * m + 2
 | [], m, _ => ⟨2, fb_seq (fb_ins _) (fb_err _), by simp⟩
 | [k], m, ⟨a, c, h, ⟨v, _, h1, _, h2, _⟩, _⟩ => ⟨1 + v, fb_seq (fb_ins _) h1, by simp; omega⟩
 | k :: k2 :: r, m, ⟨a, c, h, ⟨v, _, h1, _, h2, _⟩, ⟨a2, c2, h', ⟨v2, _, h1', _, h2', _⟩, hr⟩⟩ => by
  obtain ⟨c1, h3, h4⟩ := fb_sw e r c2 hr
  refine ⟨v + (1 + (v2 + 2 + c1)), fb_seq h1 (fb_seq (fb_ins _) (fb_seq (fb_arm h1') h3)), ?_⟩
  simp only [List.length_cons] at h4 ⊢
  omega
theorem kbs_mono : ∀ {l : List KC} {m m' : Nat}, KBs l m → m ≤ m' → KBs l m'
 | [], _, _, _, _ => trivial
 | _ :: _, _, _, ⟨a, c, h, k, r⟩, hm => ⟨a, c, by omega, k, r⟩
theorem kb_nil : FB (nth [] 0).v 0 ∧ FB (nth [] 0).a 0 := ⟨fb_nil, fb_nil⟩
theorem kbs_first : ∀ {l : List KC} {m : Nat}, KBs l m → ∃ v a c m', FB (nth l 0).v v ∧ FB (nth l 0).a a ∧ KBs l.tail c ∧ v ≤ m' ∧ a ≤ m' ∧ m' + 8 * c ≤ 8 * m
 | [], m, _ => ⟨0, 0, m, 0, fb_nil, fb_nil, trivial, Nat.le_refl _, Nat.le_refl _, by omega⟩
 | k :: r, m, ⟨a, c, h, ⟨v, w, h1, h2, h3, h4⟩, hr⟩ => ⟨v, w, c, 8 * a, h1, h2, hr, by omega, by omega, by omega⟩
theorem nth_tail (l : List KC) (i : Nat) : nth l.tail i = nth l (i + 1) := by
 cases l with
 | nil => cases i <;> rfl
 | cons k r => simp [nth]
theorem fb_if {l : List KC} {m : Nat} (h : KBs l m) : ∃ v c, FB (nth l 0).v v ∧ FB (ifF l) c ∧ v + c ≤ 8 * m + 3 := by
 obtain ⟨v0, _, c0, m0, h0, _, k0, e0, _, g0⟩ := kbs_first h
 obtain ⟨v1, _, c1, m1, h1, _, k1, e1, _, g1⟩ := kbs_first k0
 obtain ⟨v2, _, c2, m2, h2, _, k2, e2, _, g2⟩ := kbs_first k1
 rw [nth_tail] at h1
 rw [nth_tail, nth_tail] at h2
 simp only [Nat.zero_add, Nat.reduceAdd] at h1 h2
 have hs : FB (elseF l) (v2 + 1) := by
  unfold elseF
  split
  ·exact h2.mono (by omega)
  ·exact (fb_con _).mono (by omega)
 refine ⟨v0, v1 + (v2 + 1) + 2, h0, fun n cs => ?_, by omega⟩
 have q1 := h1 (n + 1) cs
 have q2 := hs (n + 1 + ((nth l 1).v (n + 1) cs).1.length + 1) ((nth l 1).v (n + 1) cs).2
 unfold ifF
 simp only [List.length_cons, List.length_append]
 omega
theorem fb_lazy (h : Hd) {l : List KC} {m : Nat} (hk : KBs l m) : FB (lazyF h l) (8 * m + 4) := by
 obtain ⟨v0, _, c0, m0, h0, _, k0, e0, _, g0⟩ := kbs_first hk
 obtain ⟨v1, _, c1, m1, h1, _, k1, e1, _, g1⟩ := kbs_first k0
 rw [nth_tail] at h1
 unfold lazyF
 by_cases a1 : h.fn = 42
 ·rw [if_pos a1]
  obtain ⟨v, c, q1, q2, q3⟩ := fb_if hk
  exact (fb_seq q1 q2).mono (by omega)
 rw [if_neg a1]
 by_cases a2 : h.fn = 43 ∨ h.fn = 44
 ·rw [if_pos a2]
  exact (fb_seq h0 (fb_head fun _ => h1)).mono (by omega)
 rw [if_neg a2]
 by_cases a3 : h.fn = 45
 ·rw [if_pos a3]
  have q : ∀ e, FB (chsF e l.tail) (8 * c0) := fun e => by
   obtain ⟨c, q1, q2⟩ := fb_chs e l.tail c0 k0
   exact q1.mono (by omega)
  exact (fb_seq h0 (fun n cs => fb_head (x := fun e => ⟨10, e, 0, 0, 0, chsT l.tail (n + 1) cs⟩) q n cs)).mono (by omega)
 ·rw [if_neg a3]
  have q : ∀ e, FB (swF e l.tail) (8 * c0 + 2) := fun e => by
   obtain ⟨c, q1, q2⟩ := fb_sw e l.tail c0 k0
   exact q1.mono (by omega)
  exact (fb_seq h0 (fb_head q)).mono (by omega)
theorem fb_rc (r : Rc) : FB (rcF r) 1 := by
 unfold rcF
 split
 ·exact fb_ins _
 ·exact fb_err _
theorem fb_area (h : Hd) {l : List KC} {m : Nat} (hk : KBs l m) : FB (areaF h l) (8 * m + 3) := by
 obtain ⟨v0, a0, c0, m0, h0, h0', k0, e0, e0', g0⟩ := kbs_first hk
 unfold areaF
 split
 ·exact (fb_rc _).mono (by omega)
 split
 ·exact (fb_rc _).mono (by omega)
 split
 ·exact (fb_err _).mono (by omega)
 split
 ·exact (fb_err _).mono (by omega)
 split
 ·exact (fb_seq h0 (fb_ins _)).mono (by omega)
 ·have q : ∀ e : Int, FB (valsF (e + 1) 1 l.tail) (8 * c0) := fun e => by
   obtain ⟨c, q1, q2⟩ := fb_vals (e + 1) l.tail c0 1 k0
   exact q1.mono (by omega)
  exact (fb_seq h0' (fun n cs => fb_seq (fb_head (x := fun e => ⟨7, e + 1, 0, 0, 0, []⟩) q) (fb_ins _) n cs)).mono (by omega)
theorem fb_call (h : Hd) {l : List KC} {m : Nat} (hk : KBs l m) : FB (callF h l) (8 * m + 4) := by
 obtain ⟨v0, a0, c0, m0, h0, h0', k0, e0, e0', g0⟩ := kbs_first hk
 unfold callF
 split
 ·have q : ∀ e : Int, FB (valsF e 0 l) (8 * m) := fun e => by
   obtain ⟨c, q1, q2⟩ := fb_vals e l m 0 hk
   exact q1.mono (by omega)
  exact (fb_end q).mono (by omega)
 split
 ·exact fb_lazy h hk
 split
 ·split
  ·exact (fb_ins _).mono (by omega)
  ·exact (fb_seq h0' (fb_ins _)).mono (by omega)
 split
 ·exact (fb_seq (fb_area h hk) (fb_ins _)).mono (by omega)
 ·have q : ∀ e : Int, FB (walkF e 0 l) (8 * m) := fun e => by
   obtain ⟨c, q1, q2⟩ := fb_walk e l m 0 hk
   exact q1.mono (by omega)
  exact (fb_end q).mono (by omega)
theorem fb_val (h : Hd) {l : List KC} {m : Nat} (hk : KBs l m) : FB (valF h l) (8 * m + 4) := by
 obtain ⟨v0, a0, c0, m0, h0, h0', k0, e0, e0', g0⟩ := kbs_first hk
 obtain ⟨v1, _, c1, m1, h1, _, k1, e1, _, g1⟩ := kbs_first k0
 rw [nth_tail] at h1
 unfold valF
 split
 ·exact (fb_con _).mono (by omega)
 split
 ·exact (fb_con _).mono (by omega)
 split
 ·exact (fb_con _).mono (by omega)
 split
 ·exact (fb_err _).mono (by omega)
 split
 ·exact (fb_ins _).mono (by omega)
 split
 ·exact (fb_err _).mono (by omega)
 split
 ·exact (fb_seq h0 (fb_ins _)).mono (by omega)
 split
 ·exact (fb_seq h0 (fb_head fun _ => fb_seq h1 (fb_ins _))).mono (by omega)
 ·exact fb_call h hk
theorem kbs_kcs : ∀ ks : Trees, KBs (kcs ks) ks.nodes
 | .nil => trivial
 | .cons h k r => ⟨1 + k.nodes, r.nodes, Nat.le_refl _, ⟨8 * k.nodes + 4, 8 * k.nodes + 3, fb_val h (kbs_kcs k), fb_area h (kbs_kcs k), by omega, by omega⟩, kbs_kcs r⟩
theorem fb_valT (h : Hd) (ks : Trees) : FB (valT h ks) (8 * ks.nodes + 4) := fb_val h (kbs_kcs ks)
theorem fb_areaT (h : Hd) (ks : Trees) : FB (areaT h ks) (8 * ks.nodes + 3) := fb_area h (kbs_kcs ks)
def tdrop : Trees → Nat → Trees
 | t, 0 => t
 | .nil, _ + 1 => .nil
 | .cons _ _ r, j + 1 => tdrop r j
theorem tdrop_len : ∀ (t : Trees) (j : Nat), (tdrop t j).len = t.len - j
 | t, 0 => by cases t <;> simp [tdrop]
 | .nil, j + 1 => by simp [tdrop, Trees.len]
 | .cons _ _ r, j + 1 => by simp [tdrop, Trees.len, tdrop_len r j]
theorem tdrop_kcs : ∀ (t : Trees) (j : Nat), kcs (tdrop t j) = (kcs t).drop j
 | t, 0 => by cases t <;> rfl
 | .nil, j + 1 => by simp [tdrop, kcs]
 | .cons _ _ r, j + 1 => by simp [tdrop, kcs, tdrop_kcs r j]
theorem tdrop_cons : ∀ (t : Trees) (j : Nat), j < t.len → ∃ h k r, tdrop t j = .cons h k r ∧ tdrop t (j + 1) = r
 | .nil, _, h => by simp [Trees.len] at h
 | .cons h k r, 0, _ => ⟨h, k, r, rfl, by cases r <;> rfl⟩
 | .cons _ _ r, j + 1, h => by
  obtain ⟨h1, k1, r1, e1, e2⟩ := tdrop_cons r j (by simpa [Trees.len] using h)
  exact ⟨h1, k1, r1, e1, e2⟩
theorem tdrop_nodes (t : Trees) : tdrop t 0 = t := by cases t <;> rfl
theorem tdrop_all {Q : Hd → Trees → Prop} : ∀ (t : Trees) (j : Nat), AllT Q t → AllT Q (tdrop t j)
 | t, 0, h => by rw [tdrop_nodes]; exact h
 | .nil, _ + 1, _ => trivial
 | .cons _ _ r, j + 1, h => tdrop_all r j h.2
theorem tdrop_fits : ∀ (t : Trees) (j : Nat), allFits t = true → allFits (tdrop t j) = true
 | t, 0, h => by rw [tdrop_nodes]; exact h
 | .nil, _ + 1, _ => rfl
 | .cons _ _ r, j + 1, h => by
  simp only [allFits, Bool.and_eq_true] at h
  exact tdrop_fits r j h.2
theorem tdrop_row {w : World} {B : Nat} : ∀ (t : Trees) (j i : Nat) (a : Option Addr), RowIn w B t a i → RowIn w B (tdrop t j) a (i + j)
 | t, 0, _, _, h => by rw [tdrop_nodes]; exact h
 | .nil, _ + 1, _, _, _ => trivial
 | .cons _ _ r, j + 1, i, a, h => by
  have := tdrop_row r j (i + 1) a h.2
  rwa [Nat.add_right_comm] at this
theorem tdrop_le : ∀ (t : Trees) (j : Nat), (tdrop t j).nodes ≤ t.nodes
 | t, 0 => by rw [tdrop_nodes]; exact Nat.le_refl _
 | .nil, _ + 1 => Nat.le_refl _
 | .cons _ _ r, j + 1 => by have := tdrop_le r j; simp only [tdrop, Trees.nodes]; omega
def clsRow (i : Nat) : Bool :=
 let r := rowAt i
 decide (1 ≤ r.cls) && decide (r.cls ≤ 6) && decide (0 ≤ r.min) &&
 (!decide (r.cls = 2) || (decide (r.min = 1) && decide (r.max = 1))) &&
 (!decide (r.cls = 3) || ((decide (i = 41) && decide (r.min = 2) && decide (r.max = 3)) || ((decide (i = 42) || decide (i = 43)) && decide (r.min = 2) && decide (r.max = 2)) || (decide (i = 44) && decide (r.min = 2)) || (decide (i = 45) && decide (r.min = 3)))) &&
 (!decide (r.cls = 4) || (decide (0 ≤ r.max) && decide (r.max ≤ 1))) &&
 (!decide (r.cls = 5) || ((decide (i = 50) && decide (r.min = 1) && decide (r.max = 1)) || (decide (i = 51) && decide (r.min = 3) && decide (r.max = 5)) || (decide (i = 52) && decide (r.min = 2) && decide (r.max = 3))))
theorem clsRow_all : (List.range 76).all clsRow = true := by kernel_rfl
theorem clsRow_at {i : Nat} (h : i < 76) : clsRow i = true := List.all_eq_true.1 clsRow_all i (List.mem_range.2 h)
structure CallOk (h : Hd) (n : Nat) : Prop where
 lo : 1 ≤ clsOf h
 hi : clsOf h ≤ 6
 c2 : clsOf h = 2 → n = 1
 c3 : clsOf h = 3 → (h.fn = 42 ∧ (n = 2 ∨ n = 3)) ∨ ((h.fn = 43 ∨ h.fn = 44) ∧ n = 2) ∨ (h.fn = 45 ∧ 2 ≤ n) ∨ (h.fn = 46 ∧ 3 ≤ n)
 c4 : clsOf h = 4 → n ≤ 1
 c5 : clsOf h = 5 → (h.fn = 51 ∧ n = 1) ∨ (h.fn = 52 ∧ 3 ≤ n ∧ n ≤ 5) ∨ (h.fn = 53 ∧ 2 ≤ n ∧ n ≤ 3)
theorem call_ok {h : Hd} {n : Nat} (f : fitsV h n = true) (hk : h.kind = 9) : CallOk h n := by
 unfold fitsV fitsB at f
 simp only [Bool.and_eq_true, hk, if_pos, decide_eq_true_eq, Bool.or_eq_true] at f
 obtain ⟨⟨-, ⟨⟨f1, f2⟩, f3⟩, f4⟩, -⟩ := f
 obtain ⟨i, hi, e⟩ : ∃ i : Nat, i < 76 ∧ h.fn = (i : Int) + 1 := ⟨(h.fn - 1).toNat, by omega, by omega⟩
 have hr : infoRow h.fn = rowAt i := by
  unfold infoRow
  rw [if_pos ⟨f1, f2⟩]
  congr 1
  omega
 have hc : clsOf h = (rowAt i).cls := by unfold clsOf; rw [if_pos hk, hr]
 rw [hr] at f3 f4
 have q := clsRow_at hi
 unfold clsRow at q
 simp only [Bool.and_eq_true, Bool.or_eq_true, Bool.not_eq_true', decide_eq_true_eq, decide_eq_false_iff_not] at q
 obtain ⟨⟨⟨⟨⟨⟨q1, q2⟩, q3⟩, q4⟩, q5⟩, q6⟩, q7⟩ := q
 refine ⟨by omega, by omega, fun c => ?_, fun c => ?_, fun c => ?_, fun c => ?_⟩
 ·rcases q4 with q | q <;> omega
 ·rcases q5 with q | (((⟨⟨q, q'⟩, q''⟩ | ⟨⟨q | q, q'⟩, q''⟩) | ⟨q, q'⟩) | ⟨q, q'⟩) <;> omega
 ·rcases q6 with q | q <;> omega
 ·rcases q7 with q | ((⟨⟨q, q'⟩, q''⟩ | ⟨⟨q, q'⟩, q''⟩) | ⟨⟨q, q'⟩, q''⟩) <;> omega
structure NodeOk (h : Hd) (n : Nat) : Prop where
 k : 1 ≤ h.kind ∧ h.kind ≤ 9
 c7 : h.kind = 7 → n = 1
 c8 : h.kind = 8 → n = 2
 ref : h.kind = 5 ∨ h.kind = 6 → (0 ≤ h.ref.row ∧ h.ref.row < 65536) ∧ 0 ≤ h.ref.col ∧ h.ref.col < 702
 tr : h.kind = 6 → (0 ≤ h.to.row ∧ h.to.row < 65536) ∧ 0 ≤ h.to.col ∧ h.to.col < 702
theorem node_ok {h : Hd} {n : Nat} (f : fitsV h n = true) : NodeOk h n := by
 unfold fitsV fitsB at f
 simp only [Bool.and_eq_true, Bool.or_eq_true, decide_eq_true_eq, Bool.not_eq_true', decide_eq_false_iff_not] at f
 obtain ⟨⟨⟨⟨⟨⟨⟨f1, f2⟩, f3⟩, f4⟩, f5⟩, f6⟩, f7⟩, f8⟩ := f
 refine ⟨f8, fun e => ?_, fun e => ?_, fun e => ?_, fun e => ?_⟩
 ·rw [e] at f7; simp at f7; omega
 ·rw [e] at f7; simp at f7; omega
 ·rw [if_pos e] at f5; simp [placeB] at f5; omega
 ·rw [if_pos e] at f6; simp [placeB] at f6; omega
end Go.Proofs.YtlmpiobdgkmmgaaGreatDoor
