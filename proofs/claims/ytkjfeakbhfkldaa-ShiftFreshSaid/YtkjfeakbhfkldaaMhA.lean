/- Shifting, no program in sight: where numbers on a line go, where references go, and a tree with its references moved. -/
import Derived.Test.YtkjfeakbhfkldaaTreeF
import Derived.Test.YtkjfeakbhfkldaaTreeD
import Derived.Test.YtkjfeakbhfkldaaTreeE
import Derived.Deep.RegionHeld3
import Derived.BigRegion
import Derived.BigQuiet
import Derived.Deep.QuietTactic
import Derived.Test.YtkjfeakbhfkldaaTreeQ
namespace Go.Proofs.Ytkjfeakbhfkldaa

/-- A number from 0 to most - 1, moved by some; -1: it is not there any more. -/
def movedN (a d most : Int) : Int := if most ≤ d ∨ d ≤ -most then -1 else if a + d < 0 ∨ most ≤ a + d then -1 else a + d
/-- How many from at on are taken out (n is below 0). -/
def goneN (n most : Int) : Int := if n ≤ -most then most else -n
def outP (at_ n a most : Int) : Prop := n < 0 ∧ at_ ≤ a ∧ a < at_ + goneN n most
instance (at_ n a most : Int) : Decidable (outP at_ n a most) := by unfold outP; infer_instance
def lineN (at_ n a most : Int) : Int := if a < at_ then a else if n < 0 then a - goneN n most else movedN a n most
def nearN (at_ n a b most : Int) : Int := if outP at_ n a most then (if a < b then at_ + goneN n most else at_ - 1) else a
/-- Two numbers, each other's ends; none: both are taken out. -/
def endsN (at_ n a b most : Int) : Option (Int × Int) :=
  if outP at_ n a most ∧ outP at_ n b most then none
  else some (lineN at_ n (nearN at_ n a b most) most, lineN at_ n (nearN at_ n b a most) most)

theorem near_line {at_ n a b most : Int} (h : ¬ outP at_ n b most) : nearN at_ n b (nearN at_ n a b most) most = b := by simp [nearN, h]

/-- What is to be done: a paste (1), or rows (2), or columns (3). -/
structure Mv where
  what : Int
  dr : Int
  dc : Int
  at_ : Int
  n : Int

def pasteR (dr dc : Int) (r : RefT) : RefT := ⟨if r.pr then r.row else movedN r.row dr 65536, if r.pc then r.col else movedN r.col dc 702, r.pr, r.pc⟩
/-- A reference, moved; none: it is lost. -/
def mv1 (m : Mv) (r : RefT) : Option RefT :=
  if m.what = 1 then (if placeB (pasteR m.dr m.dc r) then some (pasteR m.dr m.dc r) else none)
  else if m.what = 2 then (if outP m.at_ m.n r.row 65536 then none else if placeB { r with row := lineN m.at_ m.n r.row 65536 } then some { r with row := lineN m.at_ m.n r.row 65536 } else none)
  else (if outP m.at_ m.n r.col 702 then none else if placeB { r with col := lineN m.at_ m.n r.col 702 } then some { r with col := lineN m.at_ m.n r.col 702 } else none)
/-- The two ends of a range, moved. -/
def mv2 (m : Mv) (r t : RefT) : Option (RefT × RefT) :=
  if m.what = 1 then (if placeB (pasteR m.dr m.dc r) && placeB (pasteR m.dr m.dc t) then some (pasteR m.dr m.dc r, pasteR m.dr m.dc t) else none)
  else if m.what = 2 then (match endsN m.at_ m.n r.row t.row 65536 with
    | none => none
    | some (x, y) => if placeB { r with row := x } && placeB { t with row := y } then some ({ r with row := x }, { t with row := y }) else none)
  else (match endsN m.at_ m.n r.col t.col 702 with
    | none => none
    | some (x, y) => if placeB { r with col := x } && placeB { t with col := y } then some ({ r with col := x }, { t with col := y }) else none)

def lostH : Hd := ⟨4, 0, 3, [], ⟨0, 0, false, false⟩, ⟨0, 0, false, false⟩, 0⟩
def mvH (m : Mv) (h : Hd) : Hd :=
  if h.kind = 5 then (match mv1 m h.ref with | some r => { h with ref := r } | none => lostH)
  else if h.kind = 6 then (match mv2 m h.ref h.to with | some (r, t) => { h with ref := r, to := t } | none => lostH)
  else h
def mvK (m : Mv) : Trees → Trees
  | .nil => .nil
  | .cons h k r => .cons (mvH m h) (mvK m k) (mvK m r)

theorem mvK_len (m : Mv) : ∀ ks, (mvK m ks).len = ks.len
  | .nil => rfl
  | .cons _ _ r => by simp [mvK, Trees.len, mvK_len m r]
end Go.Proofs.Ytkjfeakbhfkldaa
/- Shifting: the reference's numbers on a line. -/
namespace Go.Proofs.Ytkjfeakbhfkldaa
open Go.RowKit

def IntPost (n : Int) (w : World) (e : Ending) (w' : World) : Prop := e = .returned (.int .i64 n) ∧ Below w.heap.size w w'
def BoolPost (b : Bool) (w : World) (e : Ending) (w' : World) : Prop := e = .returned (.bool b) ∧ Below w.heap.size w w'
theorem drew_below0 {w : World} {H : Nat} (h : H = w.heap.size) : Below H w w.drew := h ▸ (Below.refl _ w).drew
theorem out_small {at_ n a most : Int} (hm : 0 < most ∧ most ≤ 65536) (a0 : 0 ≤ at_ ∧ at_ < most) (h : outP at_ n a most) : 0 ≤ a ∧ a < 131072 ∧ n < 0 := by
  obtain ⟨h1, h2, h3⟩ := h
  unfold goneN at h3
  split at h3 <;> omega

set_option maxRecDepth 100000 in
set_option maxHeartbeats 2000000 in
theorem refMoved_any (a d most : Int) (w : World) (h0 : 0 ≤ a) (h1 : a < most) (h2 : most ≤ 65536) (hd : I64 d) : Calls Try.prog 103 #[.int .i64 a, .int .i64 d, .int .i64 most] w (IntPost (movedN a d most) w) := by
  obtain ⟨d1, d2⟩ := hd
  go_enter Try.func103, Try.ntmps103
  go_wp2
  all_goals
    go_ret
    exact ⟨ret_int (by unfold movedN; (repeat' split) <;> omega), Below.refl _ _⟩
set_option maxRecDepth 100000 in
set_option maxHeartbeats 2000000 in
theorem refGone_any (k dr dc at_ n most : Int) (w : World) (h1 : 0 < most) (h2 : most ≤ 65536) (hn : I64 n) : Calls Try.prog 104 #[.agg #[.int .i64 k, .int .i64 dr, .int .i64 dc, .int .i64 at_, .int .i64 n], .int .i64 most] w (IntPost (goneN n most) w) := by
  obtain ⟨d1, d2⟩ := hn
  go_enter Try.func104, Try.ntmps104
  go_wp2
  all_goals
    go_ret
    exact ⟨ret_int (by unfold goneN; (repeat' split) <;> omega), ext_alloc (Below.refl _ _) _⟩
set_option maxRecDepth 100000 in
set_option maxHeartbeats 2000000 in
theorem refOut_any (k dr dc at_ n a most : Int) (w : World) (hm : 0 < most ∧ most ≤ 65536) (hn : I64 n) (a0 : 0 ≤ at_ ∧ at_ < most) : Calls Try.prog 97 #[.agg #[.int .i64 k, .int .i64 dr, .int .i64 dc, .int .i64 at_, .int .i64 n], .int .i64 a, .int .i64 most] w (BoolPost (decide (outP at_ n a most)) w) := by
  have HN := Lib.hid hn; clear hn
  have hS : ∀ W, Below (w.alloc (.cells #[.int .i64 k, .int .i64 dr, .int .i64 dc, .int .i64 at_, .int .i64 n] 112)).heap.size (w.alloc (.cells #[.int .i64 k, .int .i64 dr, .int .i64 dc, .int .i64 at_, .int .i64 n] 112)) W → ((∀ o, W.cell? ⟨w.heap.size, o, none⟩ = (#[.int .i64 k, .int .i64 dr, .int .i64 dc, .int .i64 at_, .int .i64 n] : Array Value)[o]?) ∧ Below (w.alloc (.cells #[.int .i64 k, .int .i64 dr, .int .i64 dc, .int .i64 at_, .int .i64 n] 112)).heap.size (w.alloc (.cells #[.int .i64 k, .int .i64 dr, .int .i64 dc, .int .i64 at_, .int .i64 n] 112)) W) := fun W b => ⟨(kept_block b).2, b⟩
  have cG : ∀ W, ((∀ o, W.cell? ⟨w.heap.size, o, none⟩ = (#[.int .i64 k, .int .i64 dr, .int .i64 dc, .int .i64 at_, .int .i64 n] : Array Value)[o]?) ∧ Below (w.alloc (.cells #[.int .i64 k, .int .i64 dr, .int .i64 dc, .int .i64 at_, .int .i64 n] 112)).heap.size (w.alloc (.cells #[.int .i64 k, .int .i64 dr, .int .i64 dc, .int .i64 at_, .int .i64 n] 112)) W) → Calls Try.prog 104 #[.agg #[.int .i64 k, .int .i64 dr, .int .i64 dc, .int .i64 at_, .int .i64 n], .int .i64 most] W (fun e w' => e = .returned (.int .i64 (goneN n most)) ∧ ((∀ o, w'.cell? ⟨w.heap.size, o, none⟩ = (#[.int .i64 k, .int .i64 dr, .int .i64 dc, .int .i64 at_, .int .i64 n] : Array Value)[o]?) ∧ Below (w.alloc (.cells #[.int .i64 k, .int .i64 dr, .int .i64 dc, .int .i64 at_, .int .i64 n] 112)).heap.size (w.alloc (.cells #[.int .i64 k, .int .i64 dr, .int .i64 dc, .int .i64 at_, .int .i64 n] 112)) w')) :=
    fun W q => (refGone_any k dr dc at_ n most W hm.1 hm.2 HN.out).mono fun e w' r => ⟨r.1, hS _ (q.2.trans (r.2.mono q.2.size))⟩
  have hd0 := hS (w.alloc (.cells #[.int .i64 k, .int .i64 dr, .int .i64 dc, .int .i64 at_, .int .i64 n] 112)) (Below.refl _ _)
  have hd1 := hS (w.alloc (.cells #[.int .i64 k, .int .i64 dr, .int .i64 dc, .int .i64 at_, .int .i64 n] 112)).drew (drew_below0 rfl)
  have CG := Lib.hid cG
  have hb := ext_alloc (Below.refl _ w) (.cells #[.int .i64 k, .int .i64 dr, .int .i64 dc, .int .i64 at_, .int .i64 n] 112)
  clear hS cG
  obtain ⟨a1, a2⟩ := a0
  go_enter Try.func97, Try.ntmps97
  by_cases q : n < 0
  · have hg : 0 ≤ goneN n most ∧ goneN n most ≤ 65536 := by unfold goneN; split <;> omega
    obtain ⟨hg1, hg2⟩ := hg
    by_cases r : at_ ≤ a
    · go_wp2_with fail
      go_region_held3 (fun W => ((∀ o, W.cell? ⟨w.heap.size, o, none⟩ = (#[.int .i64 k, .int .i64 dr, .int .i64 dc, .int .i64 at_, .int .i64 n] : Array Value)[o]?) ∧ Below (w.alloc (.cells #[.int .i64 k, .int .i64 dr, .int .i64 dc, .int .i64 at_, .int .i64 n] 112)).heap.size (w.alloc (.cells #[.int .i64 k, .int .i64 dr, .int .i64 dc, .int .i64 at_, .int .i64 n] 112)) W)) (first | assumption | exact hd0 | exact hd1) (
        (go_at_call 104
         refine (CG.out _ (by assumption)).mono ?_
         rintro e w' ⟨rfl, hS'⟩))
      all_goals
        have HS := Lib.hid hS'.2
        clear hS' hd0 hd1
        go_wp2
        go_ret
        exact ⟨ret_bool (decide_eq_decide.2 (by unfold outP; rw [IntWalk.i64_in _ (by omega)]; omega)), hb.trans (HS.out.mono hb.size)⟩
    · have r' : decide (at_ ≤ a) = false := by simp; omega
      go_wp2_with fail
      clear hd0 hd1
      go_quiet (fail)
      all_goals
        go_wp2
        go_ret
        exact ⟨ret_bool (decide_eq_false (by unfold outP; omega)).symm, ext_drewN hb _⟩
  · have q' : decide (n < 0) = false := by simp; omega
    go_wp2_with fail
    clear hd0 hd1
    go_quiet (fail)
    all_goals
      go_wp2
      go_ret
      exact ⟨ret_bool (decide_eq_false (by unfold outP; omega)).symm, ext_drewN hb _⟩
set_option maxRecDepth 100000 in
set_option maxHeartbeats 2000000 in
theorem refLine_any (k dr dc at_ n a most : Int) (w : World) (hm : 0 < most ∧ most ≤ 65536) (hn : I64 n) (ha : -1 ≤ a ∧ a ≤ 200000) (hp : 0 ≤ n → 0 ≤ a ∧ a < most) : Calls Try.prog 99 #[.agg #[.int .i64 k, .int .i64 dr, .int .i64 dc, .int .i64 at_, .int .i64 n], .int .i64 a, .int .i64 most] w (IntPost (lineN at_ n a most) w) := by
  have HN := Lib.hid hn; clear hn
  have HP := Lib.hid hp; clear hp
  have hb := ext_alloc (Below.refl _ w) (.cells #[.int .i64 k, .int .i64 dr, .int .i64 dc, .int .i64 at_, .int .i64 n] 112)
  have HB := Lib.hid hb; clear hb
  obtain ⟨a1, a2⟩ := ha
  go_enter Try.func99, Try.ntmps99
  by_cases r : a < at_
  · go_wp2
    go_ret
    exact ⟨ret_int (by unfold lineN; (repeat' split) <;> omega), HB.out⟩
  · by_cases q : n < 0
    · have hg : 0 ≤ goneN n most ∧ goneN n most ≤ 65536 := by unfold goneN; split <;> omega
      obtain ⟨hg1, hg2⟩ := hg
      go_wp2_with fail
      refine (refGone_any k dr dc at_ n most _ hm.1 hm.2 HN.out).mono ?_
      rintro e w1 ⟨rfl, b1⟩
      have B1 := Lib.hid (HB.out.trans (b1.mono HB.out.size))
      clear b1
      go_wp2
      go_ret
      exact ⟨ret_int (by unfold lineN; (repeat' split) <;> omega), B1.out⟩
    · go_wp2_with fail
      refine (refMoved_any a n most _ (HP.out (by omega)).1 (HP.out (by omega)).2 hm.2 HN.out).mono ?_
      rintro e w1 ⟨rfl, b1⟩
      have B1 := Lib.hid (HB.out.trans (b1.mono HB.out.size))
      clear b1
      go_wp2
      go_ret
      exact ⟨ret_int (by unfold lineN; (repeat' split) <;> omega), B1.out⟩
end Go.Proofs.Ytkjfeakbhfkldaa
/- Shifting: the reference's ends of a range, references, and what is lost. -/
namespace Go.Proofs.Ytkjfeakbhfkldaa
open Go.RowKit

set_option maxRecDepth 100000 in
set_option maxHeartbeats 4000000 in
theorem refNear_any (k dr dc at_ n a b most : Int) (w : World) (hm : 0 < most ∧ most ≤ 65536) (hn : I64 n) (a0 : 0 ≤ at_ ∧ at_ < most) (ha : outP at_ n a most) (hb : ¬ outP at_ n b most) (hbs : 0 ≤ b ∧ b ≤ 200000) : Calls Try.prog 106 #[.agg #[.int .i64 k, .int .i64 dr, .int .i64 dc, .int .i64 at_, .int .i64 n], .int .i64 a, .int .i64 b, .int .i64 most] w (IntPost (nearN at_ n a b most) w) := by
  have HN := Lib.hid hn; clear hn
  have hneg : n < 0 := ha.1
  have hg : 0 < goneN n most ∧ goneN n most ≤ 65536 := by unfold goneN; split <;> omega
  obtain ⟨hg1, hg2⟩ := hg
  obtain ⟨-, ha1, ha2⟩ := ha
  have hb' : b < at_ ∨ at_ + goneN n most ≤ b := by
    by_cases q : at_ ≤ b
    · by_cases q2 : b < at_ + goneN n most
      · exact absurd ⟨hneg, q, q2⟩ hb
      · omega
    · omega
  have hR : nearN at_ n a b most = if a < b then at_ + goneN n most else at_ - 1 := by unfold nearN; rw [if_pos ⟨hneg, ha1, ha2⟩]
  have HR := Lib.hid hR
  clear hb hR
  obtain ⟨a1, a2⟩ := a0
  have hbl := ext_alloc (Below.refl _ w) (.cells #[.int .i64 k, .int .i64 dr, .int .i64 dc, .int .i64 at_, .int .i64 n] 112)
  have HBL := Lib.hid hbl; clear hbl
  go_enter Try.func106, Try.ntmps106
  go_wp2_with fail
  go_loopw [1] (fun i wr => ∃ x : Int, i = .int .i64 x ∧ (a < b → at_ ≤ x ∧ x ≤ at_ + goneN n most) ∧ (b ≤ a → at_ - 1 ≤ x ∧ x < at_ + goneN n most) ∧ ((∀ o, wr.cell? ⟨w.heap.size, o, none⟩ = (#[.int .i64 k, .int .i64 dr, .int .i64 dc, .int .i64 at_, .int .i64 n] : Array Value)[o]?) ∧ Below (w.alloc (.cells #[.int .i64 k, .int .i64 dr, .int .i64 dc, .int .i64 at_, .int .i64 n] 112)).heap.size (w.alloc (.cells #[.int .i64 k, .int .i64 dr, .int .i64 dc, .int .i64 at_, .int .i64 n] 112)) wr)) (fun i _ => if a < b then (at_ + goneN n most - intOf i).toNat else (intOf i - at_ + 1).toNat)
  case atStart => exact ⟨a, rfl, fun _ => by omega, fun _ => by omega, ⟨(kept_block (Below.refl _ _)).2, Below.refl _ _⟩⟩
  case round =>
    obtain ⟨x, rfl, h1, h2, hS⟩ := hrel
    obtain ⟨cb, bl⟩ := hS
    have BL := Lib.hid bl; clear bl
    by_cases q : outP at_ n x most
    · have cO : Calls Try.prog 97 #[.agg #[.int .i64 k, .int .i64 dr, .int .i64 dc, .int .i64 at_, .int .i64 n], .int .i64 x, .int .i64 most] wr (fun e w' => e = .returned (.bool true) ∧ Below wr.heap.size wr w') := (refOut_any k dr dc at_ n x most wr hm HN.out ⟨a1, a2⟩).mono fun e w' r => ⟨by have := r.1; rw [decide_eq_true q] at this; exact this, r.2⟩
      obtain ⟨-, q1, q2⟩ := q
      go_wp2_with fail
      refine cO.mono ?_
      rintro e w1 ⟨rfl, b1⟩
      have b2 := BL.out.trans (b1.mono BL.out.size)
      have c1 := (kept_block b2).2
      have B2 := Lib.hid b2
      clear cb b1 b2 cO
      by_cases s : a < b
      · obtain ⟨h3, h4⟩ := h1 s
        clear h1 h2
        have s' : x < b := by omega
        go_wp2
        exact ⟨⟨x + 1, rfl, fun _ => by omega, fun h => by omega, ⟨c1, B2.out⟩⟩, by simp only [intOf]; split <;> omega⟩
      · obtain ⟨h3, h4⟩ := h2 (by omega)
        clear h1 h2
        have s' : ¬ x < b := by omega
        go_wp2
        exact ⟨⟨x - 1, rfl, fun h => by omega, fun _ => by omega, ⟨c1, B2.out⟩⟩, by simp only [intOf]; split <;> omega⟩
    · have cO : Calls Try.prog 97 #[.agg #[.int .i64 k, .int .i64 dr, .int .i64 dc, .int .i64 at_, .int .i64 n], .int .i64 x, .int .i64 most] wr (fun e w' => e = .returned (.bool false) ∧ Below wr.heap.size wr w') := (refOut_any k dr dc at_ n x most wr hm HN.out ⟨a1, a2⟩).mono fun e w' r => ⟨by have := r.1; rw [decide_eq_false q] at this; exact this, r.2⟩
      have hx : x = nearN at_ n a b most := by
        rw [HR.out]
        by_cases s : a < b
        · rw [if_pos s]
          obtain ⟨h3, h4⟩ := h1 s
          by_cases t : x < at_ + goneN n most
          · exact absurd ⟨hneg, h3, t⟩ q
          · omega
        · rw [if_neg s]
          obtain ⟨h3, h4⟩ := h2 (by omega)
          by_cases t : at_ ≤ x
          · exact absurd ⟨hneg, t, h4⟩ q
          · omega
      have HX := Lib.hid hx
      clear h1 h2 q hx
      go_wp2_with fail
      refine cO.mono ?_
      rintro e w1 ⟨rfl, b1⟩
      have b2 := BL.out.trans (b1.mono BL.out.size)
      have B2 := Lib.hid (HBL.out.trans (b2.mono HBL.out.size))
      clear cb b1 b2 cO
      go_wp2
      go_ret
      exact ⟨ret_int HX.out, B2.out⟩

/-- What ends answers. -/
def endsV (o : Option (Int × Int)) : Value := match o with
  | none => .tuple #[.int .i64 0, .int .i64 0, .bool false]
  | some p => .tuple #[.int .i64 p.1, .int .i64 p.2, .bool true]
def EndsPost (o : Option (Int × Int)) (w : World) (e : Ending) (w' : World) : Prop := e = .returned (endsV o) ∧ Below w.heap.size w w'
theorem near_bounds {at_ n a b most : Int} (hm : 0 < most ∧ most ≤ 65536) (a0 : 0 ≤ at_ ∧ at_ < most) (ha : 0 ≤ a ∧ a < most) : (-1 ≤ nearN at_ n a b most ∧ nearN at_ n a b most ≤ 200000) ∧ (0 ≤ n → 0 ≤ nearN at_ n a b most ∧ nearN at_ n a b most < most) := by
  unfold nearN
  split
  · rename_i h
    have := h.1
    have hg : 0 ≤ goneN n most ∧ goneN n most ≤ 65536 := by unfold goneN; split <;> omega
    split <;> omega
  · omega

set_option maxRecDepth 100000 in
set_option maxHeartbeats 4000000 in
theorem refEnds_tt (k dr dc at_ n a b most : Int) (w : World) (hm : 0 < most ∧ most ≤ 65536) (hn : I64 n) (a0 : 0 ≤ at_ ∧ at_ < most) (_ha : 0 ≤ a ∧ a < most) (_hb : 0 ≤ b ∧ b < most) (oa : outP at_ n a most) (ob : outP at_ n b most) : Calls Try.prog 101 #[.agg #[.int .i64 k, .int .i64 dr, .int .i64 dc, .int .i64 at_, .int .i64 n], .int .i64 a, .int .i64 b, .int .i64 most] w (EndsPost (endsN at_ n a b most) w) := by
  have hS : ∀ W, Below (w.alloc (.cells #[.int .i64 k, .int .i64 dr, .int .i64 dc, .int .i64 at_, .int .i64 n] 112)).heap.size (w.alloc (.cells #[.int .i64 k, .int .i64 dr, .int .i64 dc, .int .i64 at_, .int .i64 n] 112)) W → ((∀ o, W.cell? ⟨w.heap.size, o, none⟩ = (#[.int .i64 k, .int .i64 dr, .int .i64 dc, .int .i64 at_, .int .i64 n] : Array Value)[o]?) ∧ Below (w.alloc (.cells #[.int .i64 k, .int .i64 dr, .int .i64 dc, .int .i64 at_, .int .i64 n] 112)).heap.size (w.alloc (.cells #[.int .i64 k, .int .i64 dr, .int .i64 dc, .int .i64 at_, .int .i64 n] 112)) W) := fun W b => ⟨(kept_block b).2, b⟩
  have cA : ∀ W, ((∀ o, W.cell? ⟨w.heap.size, o, none⟩ = (#[.int .i64 k, .int .i64 dr, .int .i64 dc, .int .i64 at_, .int .i64 n] : Array Value)[o]?) ∧ Below (w.alloc (.cells #[.int .i64 k, .int .i64 dr, .int .i64 dc, .int .i64 at_, .int .i64 n] 112)).heap.size (w.alloc (.cells #[.int .i64 k, .int .i64 dr, .int .i64 dc, .int .i64 at_, .int .i64 n] 112)) W) → Calls Try.prog 97 #[.agg #[.int .i64 k, .int .i64 dr, .int .i64 dc, .int .i64 at_, .int .i64 n], .int .i64 a, .int .i64 most] W (fun e w' => e = .returned (.bool true) ∧ ((∀ o, w'.cell? ⟨w.heap.size, o, none⟩ = (#[.int .i64 k, .int .i64 dr, .int .i64 dc, .int .i64 at_, .int .i64 n] : Array Value)[o]?) ∧ Below (w.alloc (.cells #[.int .i64 k, .int .i64 dr, .int .i64 dc, .int .i64 at_, .int .i64 n] 112)).heap.size (w.alloc (.cells #[.int .i64 k, .int .i64 dr, .int .i64 dc, .int .i64 at_, .int .i64 n] 112)) w')) :=
    fun W q => (refOut_any k dr dc at_ n a most W hm hn a0).mono fun e w' r => ⟨by have := r.1; rw [decide_eq_true oa] at this; exact this, hS _ (q.2.trans (r.2.mono q.2.size))⟩
  have cB : ∀ W, ((∀ o, W.cell? ⟨w.heap.size, o, none⟩ = (#[.int .i64 k, .int .i64 dr, .int .i64 dc, .int .i64 at_, .int .i64 n] : Array Value)[o]?) ∧ Below (w.alloc (.cells #[.int .i64 k, .int .i64 dr, .int .i64 dc, .int .i64 at_, .int .i64 n] 112)).heap.size (w.alloc (.cells #[.int .i64 k, .int .i64 dr, .int .i64 dc, .int .i64 at_, .int .i64 n] 112)) W) → Calls Try.prog 97 #[.agg #[.int .i64 k, .int .i64 dr, .int .i64 dc, .int .i64 at_, .int .i64 n], .int .i64 b, .int .i64 most] W (fun e w' => e = .returned (.bool true) ∧ ((∀ o, w'.cell? ⟨w.heap.size, o, none⟩ = (#[.int .i64 k, .int .i64 dr, .int .i64 dc, .int .i64 at_, .int .i64 n] : Array Value)[o]?) ∧ Below (w.alloc (.cells #[.int .i64 k, .int .i64 dr, .int .i64 dc, .int .i64 at_, .int .i64 n] 112)).heap.size (w.alloc (.cells #[.int .i64 k, .int .i64 dr, .int .i64 dc, .int .i64 at_, .int .i64 n] 112)) w')) :=
    fun W q => (refOut_any k dr dc at_ n b most W hm hn a0).mono fun e w' r => ⟨by have := r.1; rw [decide_eq_true ob] at this; exact this, hS _ (q.2.trans (r.2.mono q.2.size))⟩
  have hd0 := hS (w.alloc (.cells #[.int .i64 k, .int .i64 dr, .int .i64 dc, .int .i64 at_, .int .i64 n] 112)) (Below.refl _ _)
  have hd1 := hS (w.alloc (.cells #[.int .i64 k, .int .i64 dr, .int .i64 dc, .int .i64 at_, .int .i64 n] 112)).drew (drew_below0 rfl)
  have CA := Lib.hid cA; have CB := Lib.hid cB
  have HB := Lib.hid (ext_alloc (Below.refl _ w) (.cells #[.int .i64 k, .int .i64 dr, .int .i64 dc, .int .i64 at_, .int .i64 n] 112))
  have hR : endsN at_ n a b most = none := by unfold endsN; rw [if_pos ⟨oa, ob⟩]
  have HR := Lib.hid hR
  clear hS cA cB hR oa ob
  go_enter Try.func101, Try.ntmps101
  go_wp2_with fail
  go_region_held3 (fun W => ((∀ o, W.cell? ⟨w.heap.size, o, none⟩ = (#[.int .i64 k, .int .i64 dr, .int .i64 dc, .int .i64 at_, .int .i64 n] : Array Value)[o]?) ∧ Below (w.alloc (.cells #[.int .i64 k, .int .i64 dr, .int .i64 dc, .int .i64 at_, .int .i64 n] 112)).heap.size (w.alloc (.cells #[.int .i64 k, .int .i64 dr, .int .i64 dc, .int .i64 at_, .int .i64 n] 112)) W)) (first | assumption | exact hd0 | exact hd1) (first
    | (go_at_call 97
       with_reducible refine (CA.out _ (by assumption)).mono ?_
       rintro e w' ⟨rfl, hS'⟩)
    | (go_at_call 97
       with_reducible refine (CB.out _ (by assumption)).mono ?_
       rintro e w' ⟨rfl, hS'⟩))
  all_goals
    have HS := Lib.hid (HB.out.trans (hS'.2.mono HB.out.size))
    clear hS' hd0 hd1
    go_wp2
    refine bodyPost_ret (v := .tuple #[.int .i64 0, .int .i64 0, .bool false]) (by simp [results, Try.results101, go_sem]) rfl ?_
    exact ⟨by rw [HR.out]; rfl, HS.out⟩

set_option maxRecDepth 100000 in
set_option maxHeartbeats 4000000 in
theorem refEnds_tf (k dr dc at_ n a b most : Int) (w : World) (hm : 0 < most ∧ most ≤ 65536) (hn : I64 n) (a0 : 0 ≤ at_ ∧ at_ < most) (ha : 0 ≤ a ∧ a < most) (hb : 0 ≤ b ∧ b < most) (oa : outP at_ n a most) (ob : ¬ outP at_ n b most) : Calls Try.prog 101 #[.agg #[.int .i64 k, .int .i64 dr, .int .i64 dc, .int .i64 at_, .int .i64 n], .int .i64 a, .int .i64 b, .int .i64 most] w (EndsPost (endsN at_ n a b most) w) := by
  have hS : ∀ W, Below (w.alloc (.cells #[.int .i64 k, .int .i64 dr, .int .i64 dc, .int .i64 at_, .int .i64 n] 112)).heap.size (w.alloc (.cells #[.int .i64 k, .int .i64 dr, .int .i64 dc, .int .i64 at_, .int .i64 n] 112)) W → ((∀ o, W.cell? ⟨w.heap.size, o, none⟩ = (#[.int .i64 k, .int .i64 dr, .int .i64 dc, .int .i64 at_, .int .i64 n] : Array Value)[o]?) ∧ Below (w.alloc (.cells #[.int .i64 k, .int .i64 dr, .int .i64 dc, .int .i64 at_, .int .i64 n] 112)).heap.size (w.alloc (.cells #[.int .i64 k, .int .i64 dr, .int .i64 dc, .int .i64 at_, .int .i64 n] 112)) W) := fun W b => ⟨(kept_block b).2, b⟩
  have cA : ∀ W, ((∀ o, W.cell? ⟨w.heap.size, o, none⟩ = (#[.int .i64 k, .int .i64 dr, .int .i64 dc, .int .i64 at_, .int .i64 n] : Array Value)[o]?) ∧ Below (w.alloc (.cells #[.int .i64 k, .int .i64 dr, .int .i64 dc, .int .i64 at_, .int .i64 n] 112)).heap.size (w.alloc (.cells #[.int .i64 k, .int .i64 dr, .int .i64 dc, .int .i64 at_, .int .i64 n] 112)) W) → Calls Try.prog 97 #[.agg #[.int .i64 k, .int .i64 dr, .int .i64 dc, .int .i64 at_, .int .i64 n], .int .i64 a, .int .i64 most] W (fun e w' => e = .returned (.bool true) ∧ ((∀ o, w'.cell? ⟨w.heap.size, o, none⟩ = (#[.int .i64 k, .int .i64 dr, .int .i64 dc, .int .i64 at_, .int .i64 n] : Array Value)[o]?) ∧ Below (w.alloc (.cells #[.int .i64 k, .int .i64 dr, .int .i64 dc, .int .i64 at_, .int .i64 n] 112)).heap.size (w.alloc (.cells #[.int .i64 k, .int .i64 dr, .int .i64 dc, .int .i64 at_, .int .i64 n] 112)) w')) :=
    fun W q => (refOut_any k dr dc at_ n a most W hm hn a0).mono fun e w' r => ⟨by have := r.1; rw [decide_eq_true oa] at this; exact this, hS _ (q.2.trans (r.2.mono q.2.size))⟩
  have cB : ∀ W, ((∀ o, W.cell? ⟨w.heap.size, o, none⟩ = (#[.int .i64 k, .int .i64 dr, .int .i64 dc, .int .i64 at_, .int .i64 n] : Array Value)[o]?) ∧ Below (w.alloc (.cells #[.int .i64 k, .int .i64 dr, .int .i64 dc, .int .i64 at_, .int .i64 n] 112)).heap.size (w.alloc (.cells #[.int .i64 k, .int .i64 dr, .int .i64 dc, .int .i64 at_, .int .i64 n] 112)) W) → Calls Try.prog 97 #[.agg #[.int .i64 k, .int .i64 dr, .int .i64 dc, .int .i64 at_, .int .i64 n], .int .i64 b, .int .i64 most] W (fun e w' => e = .returned (.bool false) ∧ ((∀ o, w'.cell? ⟨w.heap.size, o, none⟩ = (#[.int .i64 k, .int .i64 dr, .int .i64 dc, .int .i64 at_, .int .i64 n] : Array Value)[o]?) ∧ Below (w.alloc (.cells #[.int .i64 k, .int .i64 dr, .int .i64 dc, .int .i64 at_, .int .i64 n] 112)).heap.size (w.alloc (.cells #[.int .i64 k, .int .i64 dr, .int .i64 dc, .int .i64 at_, .int .i64 n] 112)) w')) :=
    fun W q => (refOut_any k dr dc at_ n b most W hm hn a0).mono fun e w' r => ⟨by have := r.1; rw [decide_eq_false ob] at this; exact this, hS _ (q.2.trans (r.2.mono q.2.size))⟩
  have hd0 := hS (w.alloc (.cells #[.int .i64 k, .int .i64 dr, .int .i64 dc, .int .i64 at_, .int .i64 n] 112)) (Below.refl _ _)
  have hd1 := hS (w.alloc (.cells #[.int .i64 k, .int .i64 dr, .int .i64 dc, .int .i64 at_, .int .i64 n] 112)).drew (drew_below0 rfl)
  have CA := Lib.hid cA; have CB := Lib.hid cB
  have HB := Lib.hid (ext_alloc (Below.refl _ w) (.cells #[.int .i64 k, .int .i64 dr, .int .i64 dc, .int .i64 at_, .int .i64 n] 112))
  have hA : nearN at_ n a b most = (nearN at_ n a b most) := by rfl
  have hB : nearN at_ n b a most = b := by unfold nearN; rw [if_neg ob]
  have hR : endsN at_ n a b most = some (lineN at_ n (nearN at_ n a b most) most, lineN at_ n b most) := by unfold endsN; rw [if_neg (fun h => ob h.2), hA, hB]
  have HR := Lib.hid hR
  have nA := near_bounds (n := n) (b := b) hm a0 ha
  have nB := near_bounds (n := n) (b := a) hm a0 hb
  rw [hA] at nA
  rw [hB] at nB
  have cL : ∀ W, ((∀ o, W.cell? ⟨w.heap.size, o, none⟩ = (#[.int .i64 k, .int .i64 dr, .int .i64 dc, .int .i64 at_, .int .i64 n] : Array Value)[o]?) ∧ Below (w.alloc (.cells #[.int .i64 k, .int .i64 dr, .int .i64 dc, .int .i64 at_, .int .i64 n] 112)).heap.size (w.alloc (.cells #[.int .i64 k, .int .i64 dr, .int .i64 dc, .int .i64 at_, .int .i64 n] 112)) W) → Calls Try.prog 99 #[.agg #[.int .i64 k, .int .i64 dr, .int .i64 dc, .int .i64 at_, .int .i64 n], .int .i64 (nearN at_ n a b most), .int .i64 most] W (fun e w' => e = .returned (.int .i64 (lineN at_ n (nearN at_ n a b most) most)) ∧ ((∀ o, w'.cell? ⟨w.heap.size, o, none⟩ = (#[.int .i64 k, .int .i64 dr, .int .i64 dc, .int .i64 at_, .int .i64 n] : Array Value)[o]?) ∧ Below (w.alloc (.cells #[.int .i64 k, .int .i64 dr, .int .i64 dc, .int .i64 at_, .int .i64 n] 112)).heap.size (w.alloc (.cells #[.int .i64 k, .int .i64 dr, .int .i64 dc, .int .i64 at_, .int .i64 n] 112)) w')) :=
    fun W q => (refLine_any k dr dc at_ n (nearN at_ n a b most) most W hm hn nA.1 nA.2).mono fun e w' r => ⟨r.1, hS _ (q.2.trans (r.2.mono q.2.size))⟩
  have cM : ∀ W, ((∀ o, W.cell? ⟨w.heap.size, o, none⟩ = (#[.int .i64 k, .int .i64 dr, .int .i64 dc, .int .i64 at_, .int .i64 n] : Array Value)[o]?) ∧ Below (w.alloc (.cells #[.int .i64 k, .int .i64 dr, .int .i64 dc, .int .i64 at_, .int .i64 n] 112)).heap.size (w.alloc (.cells #[.int .i64 k, .int .i64 dr, .int .i64 dc, .int .i64 at_, .int .i64 n] 112)) W) → Calls Try.prog 99 #[.agg #[.int .i64 k, .int .i64 dr, .int .i64 dc, .int .i64 at_, .int .i64 n], .int .i64 b, .int .i64 most] W (fun e w' => e = .returned (.int .i64 (lineN at_ n b most)) ∧ ((∀ o, w'.cell? ⟨w.heap.size, o, none⟩ = (#[.int .i64 k, .int .i64 dr, .int .i64 dc, .int .i64 at_, .int .i64 n] : Array Value)[o]?) ∧ Below (w.alloc (.cells #[.int .i64 k, .int .i64 dr, .int .i64 dc, .int .i64 at_, .int .i64 n] 112)).heap.size (w.alloc (.cells #[.int .i64 k, .int .i64 dr, .int .i64 dc, .int .i64 at_, .int .i64 n] 112)) w')) :=
    fun W q => (refLine_any k dr dc at_ n b most W hm hn nB.1 nB.2).mono fun e w' r => ⟨r.1, hS _ (q.2.trans (r.2.mono q.2.size))⟩
  have CL := Lib.hid cL; have CM := Lib.hid cM
  have cN : ∀ W, ((∀ o, W.cell? ⟨w.heap.size, o, none⟩ = (#[.int .i64 k, .int .i64 dr, .int .i64 dc, .int .i64 at_, .int .i64 n] : Array Value)[o]?) ∧ Below (w.alloc (.cells #[.int .i64 k, .int .i64 dr, .int .i64 dc, .int .i64 at_, .int .i64 n] 112)).heap.size (w.alloc (.cells #[.int .i64 k, .int .i64 dr, .int .i64 dc, .int .i64 at_, .int .i64 n] 112)) W) → Calls Try.prog 106 #[.agg #[.int .i64 k, .int .i64 dr, .int .i64 dc, .int .i64 at_, .int .i64 n], .int .i64 a, .int .i64 b, .int .i64 most] W (fun e w' => e = .returned (.int .i64 (nearN at_ n a b most)) ∧ ((∀ o, w'.cell? ⟨w.heap.size, o, none⟩ = (#[.int .i64 k, .int .i64 dr, .int .i64 dc, .int .i64 at_, .int .i64 n] : Array Value)[o]?) ∧ Below (w.alloc (.cells #[.int .i64 k, .int .i64 dr, .int .i64 dc, .int .i64 at_, .int .i64 n] 112)).heap.size (w.alloc (.cells #[.int .i64 k, .int .i64 dr, .int .i64 dc, .int .i64 at_, .int .i64 n] 112)) w')) :=
    fun W q => (refNear_any k dr dc at_ n a b most W hm hn a0 oa ob (by omega)).mono fun e w' r => ⟨r.1, hS _ (q.2.trans (r.2.mono q.2.size))⟩
  have CN := Lib.hid cN; clear cN
  have HS0 := Lib.hid hS
  clear hS cA cB cL cM hR oa ob nA nB hA hB
  generalize hna : nearN at_ n a b most = na at *
  clear hna
  generalize hla : lineN at_ n na most = la at *
  generalize hlb : lineN at_ n b most = lb at *
  clear hla hlb
  go_enter Try.func101, Try.ntmps101
  go_wp2_with fail
  go_region_held3 (fun W => ((∀ o, W.cell? ⟨w.heap.size, o, none⟩ = (#[.int .i64 k, .int .i64 dr, .int .i64 dc, .int .i64 at_, .int .i64 n] : Array Value)[o]?) ∧ Below (w.alloc (.cells #[.int .i64 k, .int .i64 dr, .int .i64 dc, .int .i64 at_, .int .i64 n] 112)).heap.size (w.alloc (.cells #[.int .i64 k, .int .i64 dr, .int .i64 dc, .int .i64 at_, .int .i64 n] 112)) W)) (first | assumption | exact hd0 | exact hd1) (first
    | (go_at_call 97
       with_reducible refine (CA.out _ (by assumption)).mono ?_
       rintro e w' ⟨rfl, hS'⟩)
    | (go_at_call 97
       with_reducible refine (CB.out _ (by assumption)).mono ?_
       rintro e w' ⟨rfl, hS'⟩))
  all_goals
    clear hd0 hd1
    obtain ⟨w1, hw1⟩ : ∃ x, x = w' := ⟨_, rfl⟩
    subst hw1
    have hd0 := hS'
    clear hS'
    go_wp2_with fail
    refine (CN.out _ hd0).mono ?_
    rintro e w2 ⟨rfl, hS2⟩
    clear hd0
    have hd0 := hS2
    have hd1 := HS0.out w2.drew (hS2.2.trans ((drew_below0 rfl).mono hS2.2.size))
    clear hS2
    go_wp2_with fail
    go_region_held3 (fun W => ((∀ o, W.cell? ⟨w.heap.size, o, none⟩ = (#[.int .i64 k, .int .i64 dr, .int .i64 dc, .int .i64 at_, .int .i64 n] : Array Value)[o]?) ∧ Below (w.alloc (.cells #[.int .i64 k, .int .i64 dr, .int .i64 dc, .int .i64 at_, .int .i64 n] 112)).heap.size (w.alloc (.cells #[.int .i64 k, .int .i64 dr, .int .i64 dc, .int .i64 at_, .int .i64 n] 112)) W)) (first | assumption | exact hd0 | exact hd1) (first
      | (go_at_call 99
         with_reducible refine (CL.out _ (by assumption)).mono ?_
         rintro e w' ⟨rfl, hS'⟩)
      | (go_at_call 99
         with_reducible refine (CM.out _ (by assumption)).mono ?_
         rintro e w' ⟨rfl, hS'⟩))
    all_goals
      have HS := Lib.hid (HB.out.trans (hS'.2.mono HB.out.size))
      clear hS' hd0 hd1
      go_wp2
      refine bodyPost_ret (v := .tuple #[.int .i64 la, .int .i64 lb, .bool true]) (by simp [results, Try.results101, go_sem]) rfl ?_
      exact ⟨by rw [HR.out]; rfl, HS.out⟩

set_option maxRecDepth 100000 in
set_option maxHeartbeats 4000000 in
theorem refEnds_ft (k dr dc at_ n a b most : Int) (w : World) (hm : 0 < most ∧ most ≤ 65536) (hn : I64 n) (a0 : 0 ≤ at_ ∧ at_ < most) (ha : 0 ≤ a ∧ a < most) (hb : 0 ≤ b ∧ b < most) (oa : ¬ outP at_ n a most) (ob : outP at_ n b most) : Calls Try.prog 101 #[.agg #[.int .i64 k, .int .i64 dr, .int .i64 dc, .int .i64 at_, .int .i64 n], .int .i64 a, .int .i64 b, .int .i64 most] w (EndsPost (endsN at_ n a b most) w) := by
  have hS : ∀ W, Below (w.alloc (.cells #[.int .i64 k, .int .i64 dr, .int .i64 dc, .int .i64 at_, .int .i64 n] 112)).heap.size (w.alloc (.cells #[.int .i64 k, .int .i64 dr, .int .i64 dc, .int .i64 at_, .int .i64 n] 112)) W → ((∀ o, W.cell? ⟨w.heap.size, o, none⟩ = (#[.int .i64 k, .int .i64 dr, .int .i64 dc, .int .i64 at_, .int .i64 n] : Array Value)[o]?) ∧ Below (w.alloc (.cells #[.int .i64 k, .int .i64 dr, .int .i64 dc, .int .i64 at_, .int .i64 n] 112)).heap.size (w.alloc (.cells #[.int .i64 k, .int .i64 dr, .int .i64 dc, .int .i64 at_, .int .i64 n] 112)) W) := fun W b => ⟨(kept_block b).2, b⟩
  have cA : ∀ W, ((∀ o, W.cell? ⟨w.heap.size, o, none⟩ = (#[.int .i64 k, .int .i64 dr, .int .i64 dc, .int .i64 at_, .int .i64 n] : Array Value)[o]?) ∧ Below (w.alloc (.cells #[.int .i64 k, .int .i64 dr, .int .i64 dc, .int .i64 at_, .int .i64 n] 112)).heap.size (w.alloc (.cells #[.int .i64 k, .int .i64 dr, .int .i64 dc, .int .i64 at_, .int .i64 n] 112)) W) → Calls Try.prog 97 #[.agg #[.int .i64 k, .int .i64 dr, .int .i64 dc, .int .i64 at_, .int .i64 n], .int .i64 a, .int .i64 most] W (fun e w' => e = .returned (.bool false) ∧ ((∀ o, w'.cell? ⟨w.heap.size, o, none⟩ = (#[.int .i64 k, .int .i64 dr, .int .i64 dc, .int .i64 at_, .int .i64 n] : Array Value)[o]?) ∧ Below (w.alloc (.cells #[.int .i64 k, .int .i64 dr, .int .i64 dc, .int .i64 at_, .int .i64 n] 112)).heap.size (w.alloc (.cells #[.int .i64 k, .int .i64 dr, .int .i64 dc, .int .i64 at_, .int .i64 n] 112)) w')) :=
    fun W q => (refOut_any k dr dc at_ n a most W hm hn a0).mono fun e w' r => ⟨by have := r.1; rw [decide_eq_false oa] at this; exact this, hS _ (q.2.trans (r.2.mono q.2.size))⟩
  have cB : ∀ W, ((∀ o, W.cell? ⟨w.heap.size, o, none⟩ = (#[.int .i64 k, .int .i64 dr, .int .i64 dc, .int .i64 at_, .int .i64 n] : Array Value)[o]?) ∧ Below (w.alloc (.cells #[.int .i64 k, .int .i64 dr, .int .i64 dc, .int .i64 at_, .int .i64 n] 112)).heap.size (w.alloc (.cells #[.int .i64 k, .int .i64 dr, .int .i64 dc, .int .i64 at_, .int .i64 n] 112)) W) → Calls Try.prog 97 #[.agg #[.int .i64 k, .int .i64 dr, .int .i64 dc, .int .i64 at_, .int .i64 n], .int .i64 b, .int .i64 most] W (fun e w' => e = .returned (.bool true) ∧ ((∀ o, w'.cell? ⟨w.heap.size, o, none⟩ = (#[.int .i64 k, .int .i64 dr, .int .i64 dc, .int .i64 at_, .int .i64 n] : Array Value)[o]?) ∧ Below (w.alloc (.cells #[.int .i64 k, .int .i64 dr, .int .i64 dc, .int .i64 at_, .int .i64 n] 112)).heap.size (w.alloc (.cells #[.int .i64 k, .int .i64 dr, .int .i64 dc, .int .i64 at_, .int .i64 n] 112)) w')) :=
    fun W q => (refOut_any k dr dc at_ n b most W hm hn a0).mono fun e w' r => ⟨by have := r.1; rw [decide_eq_true ob] at this; exact this, hS _ (q.2.trans (r.2.mono q.2.size))⟩
  have hd0 := hS (w.alloc (.cells #[.int .i64 k, .int .i64 dr, .int .i64 dc, .int .i64 at_, .int .i64 n] 112)) (Below.refl _ _)
  have hd1 := hS (w.alloc (.cells #[.int .i64 k, .int .i64 dr, .int .i64 dc, .int .i64 at_, .int .i64 n] 112)).drew (drew_below0 rfl)
  have CA := Lib.hid cA; have CB := Lib.hid cB
  have HB := Lib.hid (ext_alloc (Below.refl _ w) (.cells #[.int .i64 k, .int .i64 dr, .int .i64 dc, .int .i64 at_, .int .i64 n] 112))
  have hA : nearN at_ n a b most = a := by unfold nearN; rw [if_neg oa]
  have hB : nearN at_ n b a most = (nearN at_ n b a most) := by rfl
  have hR : endsN at_ n a b most = some (lineN at_ n a most, lineN at_ n (nearN at_ n b a most) most) := by unfold endsN; rw [if_neg (fun h => oa h.1), hA, hB]
  have HR := Lib.hid hR
  have nA := near_bounds (n := n) (b := b) hm a0 ha
  have nB := near_bounds (n := n) (b := a) hm a0 hb
  rw [hA] at nA
  rw [hB] at nB
  have cL : ∀ W, ((∀ o, W.cell? ⟨w.heap.size, o, none⟩ = (#[.int .i64 k, .int .i64 dr, .int .i64 dc, .int .i64 at_, .int .i64 n] : Array Value)[o]?) ∧ Below (w.alloc (.cells #[.int .i64 k, .int .i64 dr, .int .i64 dc, .int .i64 at_, .int .i64 n] 112)).heap.size (w.alloc (.cells #[.int .i64 k, .int .i64 dr, .int .i64 dc, .int .i64 at_, .int .i64 n] 112)) W) → Calls Try.prog 99 #[.agg #[.int .i64 k, .int .i64 dr, .int .i64 dc, .int .i64 at_, .int .i64 n], .int .i64 a, .int .i64 most] W (fun e w' => e = .returned (.int .i64 (lineN at_ n a most)) ∧ ((∀ o, w'.cell? ⟨w.heap.size, o, none⟩ = (#[.int .i64 k, .int .i64 dr, .int .i64 dc, .int .i64 at_, .int .i64 n] : Array Value)[o]?) ∧ Below (w.alloc (.cells #[.int .i64 k, .int .i64 dr, .int .i64 dc, .int .i64 at_, .int .i64 n] 112)).heap.size (w.alloc (.cells #[.int .i64 k, .int .i64 dr, .int .i64 dc, .int .i64 at_, .int .i64 n] 112)) w')) :=
    fun W q => (refLine_any k dr dc at_ n a most W hm hn nA.1 nA.2).mono fun e w' r => ⟨r.1, hS _ (q.2.trans (r.2.mono q.2.size))⟩
  have cM : ∀ W, ((∀ o, W.cell? ⟨w.heap.size, o, none⟩ = (#[.int .i64 k, .int .i64 dr, .int .i64 dc, .int .i64 at_, .int .i64 n] : Array Value)[o]?) ∧ Below (w.alloc (.cells #[.int .i64 k, .int .i64 dr, .int .i64 dc, .int .i64 at_, .int .i64 n] 112)).heap.size (w.alloc (.cells #[.int .i64 k, .int .i64 dr, .int .i64 dc, .int .i64 at_, .int .i64 n] 112)) W) → Calls Try.prog 99 #[.agg #[.int .i64 k, .int .i64 dr, .int .i64 dc, .int .i64 at_, .int .i64 n], .int .i64 (nearN at_ n b a most), .int .i64 most] W (fun e w' => e = .returned (.int .i64 (lineN at_ n (nearN at_ n b a most) most)) ∧ ((∀ o, w'.cell? ⟨w.heap.size, o, none⟩ = (#[.int .i64 k, .int .i64 dr, .int .i64 dc, .int .i64 at_, .int .i64 n] : Array Value)[o]?) ∧ Below (w.alloc (.cells #[.int .i64 k, .int .i64 dr, .int .i64 dc, .int .i64 at_, .int .i64 n] 112)).heap.size (w.alloc (.cells #[.int .i64 k, .int .i64 dr, .int .i64 dc, .int .i64 at_, .int .i64 n] 112)) w')) :=
    fun W q => (refLine_any k dr dc at_ n (nearN at_ n b a most) most W hm hn nB.1 nB.2).mono fun e w' r => ⟨r.1, hS _ (q.2.trans (r.2.mono q.2.size))⟩
  have CL := Lib.hid cL; have CM := Lib.hid cM
  have cN : ∀ W, ((∀ o, W.cell? ⟨w.heap.size, o, none⟩ = (#[.int .i64 k, .int .i64 dr, .int .i64 dc, .int .i64 at_, .int .i64 n] : Array Value)[o]?) ∧ Below (w.alloc (.cells #[.int .i64 k, .int .i64 dr, .int .i64 dc, .int .i64 at_, .int .i64 n] 112)).heap.size (w.alloc (.cells #[.int .i64 k, .int .i64 dr, .int .i64 dc, .int .i64 at_, .int .i64 n] 112)) W) → Calls Try.prog 106 #[.agg #[.int .i64 k, .int .i64 dr, .int .i64 dc, .int .i64 at_, .int .i64 n], .int .i64 b, .int .i64 a, .int .i64 most] W (fun e w' => e = .returned (.int .i64 (nearN at_ n b a most)) ∧ ((∀ o, w'.cell? ⟨w.heap.size, o, none⟩ = (#[.int .i64 k, .int .i64 dr, .int .i64 dc, .int .i64 at_, .int .i64 n] : Array Value)[o]?) ∧ Below (w.alloc (.cells #[.int .i64 k, .int .i64 dr, .int .i64 dc, .int .i64 at_, .int .i64 n] 112)).heap.size (w.alloc (.cells #[.int .i64 k, .int .i64 dr, .int .i64 dc, .int .i64 at_, .int .i64 n] 112)) w')) :=
    fun W q => (refNear_any k dr dc at_ n b a most W hm hn a0 ob oa (by omega)).mono fun e w' r => ⟨r.1, hS _ (q.2.trans (r.2.mono q.2.size))⟩
  have CN := Lib.hid cN; clear cN
  have HS0 := Lib.hid hS
  clear hS cA cB cL cM hR oa ob nA nB hA hB
  generalize hnb : nearN at_ n b a most = nb at *
  clear hnb
  generalize hla : lineN at_ n a most = la at *
  generalize hlb : lineN at_ n nb most = lb at *
  clear hla hlb
  go_enter Try.func101, Try.ntmps101
  go_wp2_with fail
  go_region_held3 (fun W => ((∀ o, W.cell? ⟨w.heap.size, o, none⟩ = (#[.int .i64 k, .int .i64 dr, .int .i64 dc, .int .i64 at_, .int .i64 n] : Array Value)[o]?) ∧ Below (w.alloc (.cells #[.int .i64 k, .int .i64 dr, .int .i64 dc, .int .i64 at_, .int .i64 n] 112)).heap.size (w.alloc (.cells #[.int .i64 k, .int .i64 dr, .int .i64 dc, .int .i64 at_, .int .i64 n] 112)) W)) (first | assumption | exact hd0 | exact hd1) (first
    | (go_at_call 97
       with_reducible refine (CA.out _ (by assumption)).mono ?_
       rintro e w' ⟨rfl, hS'⟩)
    | (go_at_call 97
       with_reducible refine (CB.out _ (by assumption)).mono ?_
       rintro e w' ⟨rfl, hS'⟩))
  all_goals
    clear hd0 hd1
    obtain ⟨w1, hw1⟩ : ∃ x, x = w' := ⟨_, rfl⟩
    subst hw1
    have hd0 := hS'
    clear hS'
    go_wp2_with fail
    refine (CN.out _ hd0).mono ?_
    rintro e w2 ⟨rfl, hS2⟩
    clear hd0
    have hd0 := hS2
    have hd1 := HS0.out w2.drew (hS2.2.trans ((drew_below0 rfl).mono hS2.2.size))
    clear hS2
    go_wp2_with fail
    go_region_held3 (fun W => ((∀ o, W.cell? ⟨w.heap.size, o, none⟩ = (#[.int .i64 k, .int .i64 dr, .int .i64 dc, .int .i64 at_, .int .i64 n] : Array Value)[o]?) ∧ Below (w.alloc (.cells #[.int .i64 k, .int .i64 dr, .int .i64 dc, .int .i64 at_, .int .i64 n] 112)).heap.size (w.alloc (.cells #[.int .i64 k, .int .i64 dr, .int .i64 dc, .int .i64 at_, .int .i64 n] 112)) W)) (first | assumption | exact hd0 | exact hd1) (first
      | (go_at_call 99
         with_reducible refine (CL.out _ (by assumption)).mono ?_
         rintro e w' ⟨rfl, hS'⟩)
      | (go_at_call 99
         with_reducible refine (CM.out _ (by assumption)).mono ?_
         rintro e w' ⟨rfl, hS'⟩))
    all_goals
      have HS := Lib.hid (HB.out.trans (hS'.2.mono HB.out.size))
      clear hS' hd0 hd1
      go_wp2
      refine bodyPost_ret (v := .tuple #[.int .i64 la, .int .i64 lb, .bool true]) (by simp [results, Try.results101, go_sem]) rfl ?_
      exact ⟨by rw [HR.out]; rfl, HS.out⟩

set_option maxRecDepth 100000 in
set_option maxHeartbeats 4000000 in
theorem refEnds_ff (k dr dc at_ n a b most : Int) (w : World) (hm : 0 < most ∧ most ≤ 65536) (hn : I64 n) (a0 : 0 ≤ at_ ∧ at_ < most) (ha : 0 ≤ a ∧ a < most) (hb : 0 ≤ b ∧ b < most) (oa : ¬ outP at_ n a most) (ob : ¬ outP at_ n b most) : Calls Try.prog 101 #[.agg #[.int .i64 k, .int .i64 dr, .int .i64 dc, .int .i64 at_, .int .i64 n], .int .i64 a, .int .i64 b, .int .i64 most] w (EndsPost (endsN at_ n a b most) w) := by
  have hS : ∀ W, Below (w.alloc (.cells #[.int .i64 k, .int .i64 dr, .int .i64 dc, .int .i64 at_, .int .i64 n] 112)).heap.size (w.alloc (.cells #[.int .i64 k, .int .i64 dr, .int .i64 dc, .int .i64 at_, .int .i64 n] 112)) W → ((∀ o, W.cell? ⟨w.heap.size, o, none⟩ = (#[.int .i64 k, .int .i64 dr, .int .i64 dc, .int .i64 at_, .int .i64 n] : Array Value)[o]?) ∧ Below (w.alloc (.cells #[.int .i64 k, .int .i64 dr, .int .i64 dc, .int .i64 at_, .int .i64 n] 112)).heap.size (w.alloc (.cells #[.int .i64 k, .int .i64 dr, .int .i64 dc, .int .i64 at_, .int .i64 n] 112)) W) := fun W b => ⟨(kept_block b).2, b⟩
  have cA : ∀ W, ((∀ o, W.cell? ⟨w.heap.size, o, none⟩ = (#[.int .i64 k, .int .i64 dr, .int .i64 dc, .int .i64 at_, .int .i64 n] : Array Value)[o]?) ∧ Below (w.alloc (.cells #[.int .i64 k, .int .i64 dr, .int .i64 dc, .int .i64 at_, .int .i64 n] 112)).heap.size (w.alloc (.cells #[.int .i64 k, .int .i64 dr, .int .i64 dc, .int .i64 at_, .int .i64 n] 112)) W) → Calls Try.prog 97 #[.agg #[.int .i64 k, .int .i64 dr, .int .i64 dc, .int .i64 at_, .int .i64 n], .int .i64 a, .int .i64 most] W (fun e w' => e = .returned (.bool false) ∧ ((∀ o, w'.cell? ⟨w.heap.size, o, none⟩ = (#[.int .i64 k, .int .i64 dr, .int .i64 dc, .int .i64 at_, .int .i64 n] : Array Value)[o]?) ∧ Below (w.alloc (.cells #[.int .i64 k, .int .i64 dr, .int .i64 dc, .int .i64 at_, .int .i64 n] 112)).heap.size (w.alloc (.cells #[.int .i64 k, .int .i64 dr, .int .i64 dc, .int .i64 at_, .int .i64 n] 112)) w')) :=
    fun W q => (refOut_any k dr dc at_ n a most W hm hn a0).mono fun e w' r => ⟨by have := r.1; rw [decide_eq_false oa] at this; exact this, hS _ (q.2.trans (r.2.mono q.2.size))⟩
  have cB : ∀ W, ((∀ o, W.cell? ⟨w.heap.size, o, none⟩ = (#[.int .i64 k, .int .i64 dr, .int .i64 dc, .int .i64 at_, .int .i64 n] : Array Value)[o]?) ∧ Below (w.alloc (.cells #[.int .i64 k, .int .i64 dr, .int .i64 dc, .int .i64 at_, .int .i64 n] 112)).heap.size (w.alloc (.cells #[.int .i64 k, .int .i64 dr, .int .i64 dc, .int .i64 at_, .int .i64 n] 112)) W) → Calls Try.prog 97 #[.agg #[.int .i64 k, .int .i64 dr, .int .i64 dc, .int .i64 at_, .int .i64 n], .int .i64 b, .int .i64 most] W (fun e w' => e = .returned (.bool false) ∧ ((∀ o, w'.cell? ⟨w.heap.size, o, none⟩ = (#[.int .i64 k, .int .i64 dr, .int .i64 dc, .int .i64 at_, .int .i64 n] : Array Value)[o]?) ∧ Below (w.alloc (.cells #[.int .i64 k, .int .i64 dr, .int .i64 dc, .int .i64 at_, .int .i64 n] 112)).heap.size (w.alloc (.cells #[.int .i64 k, .int .i64 dr, .int .i64 dc, .int .i64 at_, .int .i64 n] 112)) w')) :=
    fun W q => (refOut_any k dr dc at_ n b most W hm hn a0).mono fun e w' r => ⟨by have := r.1; rw [decide_eq_false ob] at this; exact this, hS _ (q.2.trans (r.2.mono q.2.size))⟩
  have hd0 := hS (w.alloc (.cells #[.int .i64 k, .int .i64 dr, .int .i64 dc, .int .i64 at_, .int .i64 n] 112)) (Below.refl _ _)
  have hd1 := hS (w.alloc (.cells #[.int .i64 k, .int .i64 dr, .int .i64 dc, .int .i64 at_, .int .i64 n] 112)).drew (drew_below0 rfl)
  have CA := Lib.hid cA; have CB := Lib.hid cB
  have HB := Lib.hid (ext_alloc (Below.refl _ w) (.cells #[.int .i64 k, .int .i64 dr, .int .i64 dc, .int .i64 at_, .int .i64 n] 112))
  have hA : nearN at_ n a b most = a := by unfold nearN; rw [if_neg oa]
  have hB : nearN at_ n b a most = b := by unfold nearN; rw [if_neg ob]
  have hR : endsN at_ n a b most = some (lineN at_ n a most, lineN at_ n b most) := by unfold endsN; rw [if_neg (fun h => ob h.2), hA, hB]
  have HR := Lib.hid hR
  have nA := near_bounds (n := n) (b := b) hm a0 ha
  have nB := near_bounds (n := n) (b := a) hm a0 hb
  rw [hA] at nA
  rw [hB] at nB
  have cL : ∀ W, ((∀ o, W.cell? ⟨w.heap.size, o, none⟩ = (#[.int .i64 k, .int .i64 dr, .int .i64 dc, .int .i64 at_, .int .i64 n] : Array Value)[o]?) ∧ Below (w.alloc (.cells #[.int .i64 k, .int .i64 dr, .int .i64 dc, .int .i64 at_, .int .i64 n] 112)).heap.size (w.alloc (.cells #[.int .i64 k, .int .i64 dr, .int .i64 dc, .int .i64 at_, .int .i64 n] 112)) W) → Calls Try.prog 99 #[.agg #[.int .i64 k, .int .i64 dr, .int .i64 dc, .int .i64 at_, .int .i64 n], .int .i64 a, .int .i64 most] W (fun e w' => e = .returned (.int .i64 (lineN at_ n a most)) ∧ ((∀ o, w'.cell? ⟨w.heap.size, o, none⟩ = (#[.int .i64 k, .int .i64 dr, .int .i64 dc, .int .i64 at_, .int .i64 n] : Array Value)[o]?) ∧ Below (w.alloc (.cells #[.int .i64 k, .int .i64 dr, .int .i64 dc, .int .i64 at_, .int .i64 n] 112)).heap.size (w.alloc (.cells #[.int .i64 k, .int .i64 dr, .int .i64 dc, .int .i64 at_, .int .i64 n] 112)) w')) :=
    fun W q => (refLine_any k dr dc at_ n a most W hm hn nA.1 nA.2).mono fun e w' r => ⟨r.1, hS _ (q.2.trans (r.2.mono q.2.size))⟩
  have cM : ∀ W, ((∀ o, W.cell? ⟨w.heap.size, o, none⟩ = (#[.int .i64 k, .int .i64 dr, .int .i64 dc, .int .i64 at_, .int .i64 n] : Array Value)[o]?) ∧ Below (w.alloc (.cells #[.int .i64 k, .int .i64 dr, .int .i64 dc, .int .i64 at_, .int .i64 n] 112)).heap.size (w.alloc (.cells #[.int .i64 k, .int .i64 dr, .int .i64 dc, .int .i64 at_, .int .i64 n] 112)) W) → Calls Try.prog 99 #[.agg #[.int .i64 k, .int .i64 dr, .int .i64 dc, .int .i64 at_, .int .i64 n], .int .i64 b, .int .i64 most] W (fun e w' => e = .returned (.int .i64 (lineN at_ n b most)) ∧ ((∀ o, w'.cell? ⟨w.heap.size, o, none⟩ = (#[.int .i64 k, .int .i64 dr, .int .i64 dc, .int .i64 at_, .int .i64 n] : Array Value)[o]?) ∧ Below (w.alloc (.cells #[.int .i64 k, .int .i64 dr, .int .i64 dc, .int .i64 at_, .int .i64 n] 112)).heap.size (w.alloc (.cells #[.int .i64 k, .int .i64 dr, .int .i64 dc, .int .i64 at_, .int .i64 n] 112)) w')) :=
    fun W q => (refLine_any k dr dc at_ n b most W hm hn nB.1 nB.2).mono fun e w' r => ⟨r.1, hS _ (q.2.trans (r.2.mono q.2.size))⟩
  have CL := Lib.hid cL; have CM := Lib.hid cM
  have HS0 := Lib.hid hS
  clear hS cA cB cL cM hR oa ob nA nB hA hB
  generalize hla : lineN at_ n a most = la at *
  generalize hlb : lineN at_ n b most = lb at *
  clear hla hlb
  go_enter Try.func101, Try.ntmps101
  go_wp2_with fail
  go_region_held3 (fun W => ((∀ o, W.cell? ⟨w.heap.size, o, none⟩ = (#[.int .i64 k, .int .i64 dr, .int .i64 dc, .int .i64 at_, .int .i64 n] : Array Value)[o]?) ∧ Below (w.alloc (.cells #[.int .i64 k, .int .i64 dr, .int .i64 dc, .int .i64 at_, .int .i64 n] 112)).heap.size (w.alloc (.cells #[.int .i64 k, .int .i64 dr, .int .i64 dc, .int .i64 at_, .int .i64 n] 112)) W)) (first | assumption | exact hd0 | exact hd1) (first
    | (go_at_call 97
       with_reducible refine (CA.out _ (by assumption)).mono ?_
       rintro e w' ⟨rfl, hS'⟩)
    | (go_at_call 97
       with_reducible refine (CB.out _ (by assumption)).mono ?_
       rintro e w' ⟨rfl, hS'⟩))
  all_goals
    clear hd0 hd1
    obtain ⟨w1, hw1⟩ : ∃ x, x = w' := ⟨_, rfl⟩
    subst hw1
    have hd0 := hS'
    clear hS'
    go_wp2_with fail
    have hd1 := HS0.out w1.drew (hd0.2.trans ((drew_below0 rfl).mono hd0.2.size))
    go_region_held3 (fun W => ((∀ o, W.cell? ⟨w.heap.size, o, none⟩ = (#[.int .i64 k, .int .i64 dr, .int .i64 dc, .int .i64 at_, .int .i64 n] : Array Value)[o]?) ∧ Below (w.alloc (.cells #[.int .i64 k, .int .i64 dr, .int .i64 dc, .int .i64 at_, .int .i64 n] 112)).heap.size (w.alloc (.cells #[.int .i64 k, .int .i64 dr, .int .i64 dc, .int .i64 at_, .int .i64 n] 112)) W)) (first | assumption | exact hd0 | exact hd1) (first
      | (go_at_call 99
         with_reducible refine (CL.out _ (by assumption)).mono ?_
         rintro e w' ⟨rfl, hS'⟩)
      | (go_at_call 99
         with_reducible refine (CM.out _ (by assumption)).mono ?_
         rintro e w' ⟨rfl, hS'⟩))
    all_goals
      have HS := Lib.hid (HB.out.trans (hS'.2.mono HB.out.size))
      clear hS' hd0 hd1
      go_wp2
      refine bodyPost_ret (v := .tuple #[.int .i64 la, .int .i64 lb, .bool true]) (by simp [results, Try.results101, go_sem]) rfl ?_
      exact ⟨by rw [HR.out]; rfl, HS.out⟩

theorem refEnds_any (k dr dc at_ n a b most : Int) (w : World) (hm : 0 < most ∧ most ≤ 65536) (hn : I64 n) (a0 : 0 ≤ at_ ∧ at_ < most) (ha : 0 ≤ a ∧ a < most) (hb : 0 ≤ b ∧ b < most) : Calls Try.prog 101 #[.agg #[.int .i64 k, .int .i64 dr, .int .i64 dc, .int .i64 at_, .int .i64 n], .int .i64 a, .int .i64 b, .int .i64 most] w (EndsPost (endsN at_ n a b most) w) := by
  by_cases oa : outP at_ n a most
  · by_cases ob : outP at_ n b most
    · exact refEnds_tt k dr dc at_ n a b most w hm hn a0 ha hb oa ob
    · exact refEnds_tf k dr dc at_ n a b most w hm hn a0 ha hb oa ob
  · by_cases ob : outP at_ n b most
    · exact refEnds_ft k dr dc at_ n a b most w hm hn a0 ha hb oa ob
    · exact refEnds_ff k dr dc at_ n a b most w hm hn a0 ha hb oa ob
end Go.Proofs.Ytkjfeakbhfkldaa
/- Shifting: the reference's references, and a node that is a reference. -/
namespace Go.Proofs.Ytkjfeakbhfkldaa
open Go.RowKit

/-- Three blocks that a call made first, and what lies in them. -/
structure Bx3 (w : World) (A B C : Obj) (W : World) : Prop where
  bel : Below w.heap.size w W
  b0 : W.heap[w.heap.size]? = some A
  b1 : W.heap[w.heap.size + 1]? = some B
  b2 : W.heap[w.heap.size + 1 + 1]? = some C
theorem Bx3.lt {w W : World} {A B C : Obj} (p : Bx3 w A B C W) : w.heap.size + 1 + 1 < W.heap.size := lt_of_block p.b2
theorem heap_alloc3 (w : World) (a b c : Obj) : (((w.alloc a).alloc b).alloc c).heap[w.heap.size]? = some a ∧ (((w.alloc a).alloc b).alloc c).heap[w.heap.size + 1]? = some b ∧ (((w.alloc a).alloc b).alloc c).heap[w.heap.size + 1 + 1]? = some c :=
  ⟨(Below.heap_alloc _ _ _ (by simp; omega)).trans (heap_alloc2_old w a b), (Below.heap_alloc _ _ _ (by simp)).trans (heap_alloc2_new w a b), by have := heap_alloc_new ((w.alloc a).alloc b) c; simpa using this⟩
theorem Bx3.new (w : World) (A B C : Obj) : Bx3 w A B C (((w.alloc A).alloc B).alloc C) :=
  ⟨ext_alloc (ext_alloc (ext_alloc (Below.refl _ w) A) B) C, (heap_alloc3 w A B C).1, (heap_alloc3 w A B C).2.1, (heap_alloc3 w A B C).2.2⟩
theorem Bx3.step {w W W' : World} {A B C : Obj} (p : Bx3 w A B C W) (b : Below W.heap.size W W') : Bx3 w A B C W' := by
  have := p.lt
  exact ⟨p.bel.trans (b.mono p.bel.size), (b.block _ (by omega)).trans p.b0, (b.block _ (by omega)).trans p.b1, (b.block _ (by omega)).trans p.b2⟩
theorem Bx3.set0 {w W : World} {cs cs' : Array Value} {T : TypeId} {fr : Nat × Nat} {B C : Obj} (p : Bx3 w (.cells cs T fr) B C W) (i : Nat) (v : Value) (h : cs.setIfInBounds i v = cs') : Bx3 w (.cells cs' T fr) B C (W.setCell ⟨w.heap.size, i, none⟩ v) :=
  ⟨p.bel.setCell (p := ⟨w.heap.size, i, none⟩) (Nat.le_refl _) v, by rw [block_set p.b0, h], (Below.heap_setCell _ _ _ _ (by simp)).trans p.b1, (Below.heap_setCell _ _ _ _ (by simp; omega)).trans p.b2⟩
theorem Bx3.set1 {w W : World} {cs cs' : Array Value} {T : TypeId} {fr : Nat × Nat} {A C : Obj} (p : Bx3 w A (.cells cs T fr) C W) (i : Nat) (v : Value) (h : cs.setIfInBounds i v = cs') : Bx3 w A (.cells cs' T fr) C (W.setCell ⟨w.heap.size + 1, i, none⟩ v) :=
  ⟨p.bel.setCell (p := ⟨w.heap.size + 1, i, none⟩) (by simp) v, (Below.heap_setCell _ _ _ _ (by simp)).trans p.b0, by rw [block_set p.b1, h], (Below.heap_setCell _ _ _ _ (by simp)).trans p.b2⟩

/-- A move that may be. -/
structure Mv.ok (m : Mv) : Prop where
  what : m.what = 1 ∨ m.what = 2 ∨ m.what = 3
  dr : I64 m.dr
  dc : I64 m.dc
  n : I64 m.n
  rows : m.what = 2 → 0 ≤ m.at_ ∧ m.at_ < 65536
  cols : m.what = 3 → 0 ≤ m.at_ ∧ m.at_ < 702
theorem place_on {r : RefT} (h : placeB r = true) : (0 ≤ r.row ∧ r.row < 65536) ∧ 0 ≤ r.col ∧ r.col < 702 := by
  simp only [placeB, Bool.and_eq_true, decide_eq_true_eq] at h; omega

set_option maxRecDepth 100000 in
set_option maxHeartbeats 4000000 in
theorem refSpotMay_any (row col : Int) (w : World) : Calls Try.prog 105 #[.agg #[.int .i64 row, .int .i64 col]] w (BoolPost (placeB ⟨row, col, false, false⟩) w) := by
  go_enter Try.func105, Try.ntmps105
  go_wp2
  all_goals
    go_ret
    exact ⟨ret_bool (by rw [Bool.eq_iff_iff]; simp [placeB]; try omega), ext_alloc (Below.refl _ _) _⟩
set_option maxRecDepth 100000 in
set_option maxHeartbeats 4000000 in
theorem refOn_any (r : RefT) (w : World) : Calls Try.prog 100 #[.agg #[.int .i64 r.row, .int .i64 r.col, .bool r.pr, .bool r.pc]] w (BoolPost (placeB r) w) := by
  obtain ⟨row, col, pr, pc⟩ := r
  go_enter Try.func100, Try.ntmps100
  go_wp2_with (go_at_call 105; refine (refSpotMay_any _ _ _).mono ?_; rintro e w1 ⟨rfl, b1⟩)
  go_ret
  exact ⟨rfl, ext_trans (ext_alloc (Below.refl _ _) _) b1⟩
set_option maxRecDepth 100000 in
set_option maxHeartbeats 4000000 in
theorem refLost_any (w : World) : Calls Try.prog 98 #[] w fun e w' => e = .returned (.agg #[.int .i64 4, .int .i64 0, .int .i64 3, .string ⟨#[]⟩, .int .i64 0, .int .i64 0, .bool false, .bool false, .int .i64 0, .int .i64 0, .bool false, .bool false, .int .i64 0, .slice none 0 0]) ∧ Below w.heap.size w w' := by
  go_enter Try.func98, Try.ntmps98
  go_wp2
  refine bodyPost_ret (v := .agg #[.int .i64 4, .int .i64 0, .int .i64 3, .string ⟨#[]⟩, .int .i64 0, .int .i64 0, .bool false, .bool false, .int .i64 0, .int .i64 0, .bool false, .bool false, .int .i64 0, .slice none 0 0]) (by simp [results, Try.results98, go_sem]) rfl ?_
  exact ⟨rfl, ext_alloc (Below.refl _ _) _⟩

set_option maxRecDepth 100000 in
set_option maxHeartbeats 4000000 in
theorem refRef_tt (m : Mv) (row col : Int) (w : World) (_ok : m.ok) (_h1 : 0 ≤ row ∧ row < 65536) (_h2 : 0 ≤ col ∧ col < 702) : Calls Try.prog 96 #[.agg #[.int .i64 m.what, .int .i64 m.dr, .int .i64 m.dc, .int .i64 m.at_, .int .i64 m.n], .agg #[.int .i64 row, .int .i64 col, .bool true, .bool true]] w fun e w' => e = .returned (.agg #[.int .i64 (pasteR m.dr m.dc ⟨row, col, true, true⟩).row, .int .i64 (pasteR m.dr m.dc ⟨row, col, true, true⟩).col, .bool (pasteR m.dr m.dc ⟨row, col, true, true⟩).pr, .bool (pasteR m.dr m.dc ⟨row, col, true, true⟩).pc]) ∧ Below w.heap.size w w' := by
  go_enter Try.func96, Try.ntmps96
  go_wp2
  refine bodyPost_ret (v := .agg #[.int .i64 row, .int .i64 col, .bool true, .bool true]) (by simp [results, Try.results96, go_sem]) rfl ?_
  refine ⟨rfl, ?_⟩
  repeat (refine Below.setCell ?_ (by simp; try omega) _)
  exact ext_alloc (ext_alloc (ext_alloc (Below.refl _ w) _) _) _

set_option maxRecDepth 100000 in
set_option maxHeartbeats 4000000 in
theorem refRef_tf (m : Mv) (row col : Int) (w : World) (ok : m.ok) (_h1 : 0 ≤ row ∧ row < 65536) (h2 : 0 ≤ col ∧ col < 702) : Calls Try.prog 96 #[.agg #[.int .i64 m.what, .int .i64 m.dr, .int .i64 m.dc, .int .i64 m.at_, .int .i64 m.n], .agg #[.int .i64 row, .int .i64 col, .bool true, .bool false]] w fun e w' => e = .returned (.agg #[.int .i64 (pasteR m.dr m.dc ⟨row, col, true, false⟩).row, .int .i64 (pasteR m.dr m.dc ⟨row, col, true, false⟩).col, .bool (pasteR m.dr m.dc ⟨row, col, true, false⟩).pr, .bool (pasteR m.dr m.dc ⟨row, col, true, false⟩).pc]) ∧ Below w.heap.size w w' := by
  have OK := Lib.hid ok; clear ok
  have P0 := Lib.hid (Bx3.new w (.cells #[.int .i64 m.what, .int .i64 m.dr, .int .i64 m.dc, .int .i64 m.at_, .int .i64 m.n] 112) (.cells #[.int .i64 row, .int .i64 col, .bool true, .bool false] 26) (.cells #[.int .i64 0, .int .i64 0, .bool false, .bool false] 26))
  go_enter Try.func96, Try.ntmps96
  go_wp2_with fail
  refine (refMoved_any col m.dc 702 _ h2.1 h2.2 (by omega) OK.out.dc).mono ?_
  rintro e w2 ⟨rfl, b2⟩
  have p2 := P0.out.step b2
  have c0 := cells_of_block p2.b0
  have c1 := cells_of_block p2.b1
  have f1 := frees_of_block p2.b1
  have c2 := cells_of_block p2.b2
  have f2 := frees_of_block p2.b2
  have Q2 := Lib.hid p2.bel
  clear p2 b2
  go_wp2
  refine bodyPost_ret (v := .agg #[.int .i64 row, .int .i64 (movedN col m.dc 702), .bool true, .bool false]) (by simp [results, Try.results96, go_sem, c2]) rfl ?_
  refine ⟨rfl, ?_⟩
  repeat (refine Below.setCell ?_ (by simp; try omega) _)
  exact Q2.out

set_option maxRecDepth 100000 in
set_option maxHeartbeats 4000000 in
theorem refRef_ft (m : Mv) (row col : Int) (w : World) (ok : m.ok) (h1 : 0 ≤ row ∧ row < 65536) (_h2 : 0 ≤ col ∧ col < 702) : Calls Try.prog 96 #[.agg #[.int .i64 m.what, .int .i64 m.dr, .int .i64 m.dc, .int .i64 m.at_, .int .i64 m.n], .agg #[.int .i64 row, .int .i64 col, .bool false, .bool true]] w fun e w' => e = .returned (.agg #[.int .i64 (pasteR m.dr m.dc ⟨row, col, false, true⟩).row, .int .i64 (pasteR m.dr m.dc ⟨row, col, false, true⟩).col, .bool (pasteR m.dr m.dc ⟨row, col, false, true⟩).pr, .bool (pasteR m.dr m.dc ⟨row, col, false, true⟩).pc]) ∧ Below w.heap.size w w' := by
  have OK := Lib.hid ok; clear ok
  have P0 := Lib.hid (Bx3.new w (.cells #[.int .i64 m.what, .int .i64 m.dr, .int .i64 m.dc, .int .i64 m.at_, .int .i64 m.n] 112) (.cells #[.int .i64 row, .int .i64 col, .bool false, .bool true] 26) (.cells #[.int .i64 0, .int .i64 0, .bool false, .bool false] 26))
  go_enter Try.func96, Try.ntmps96
  go_wp2_with fail
  refine (refMoved_any row m.dr 65536 _ h1.1 h1.2 (by omega) OK.out.dr).mono ?_
  rintro e w1 ⟨rfl, b1⟩
  have p1 := P0.out.step b1
  have c0 := cells_of_block p1.b0
  have c1 := cells_of_block p1.b1
  have f1 := frees_of_block p1.b1
  have c2 := cells_of_block p1.b2
  have f2 := frees_of_block p1.b2
  have Q1 := Lib.hid p1.bel
  have P1 := Lib.hid (p1.set1 0 (.int .i64 (movedN row m.dr 65536)) rfl)
  clear p1 b1
  go_wp2
  refine bodyPost_ret (v := .agg #[.int .i64 (movedN row m.dr 65536), .int .i64 col, .bool false, .bool true]) (by simp [results, Try.results96, go_sem, c2]) rfl ?_
  refine ⟨rfl, ?_⟩
  repeat (refine Below.setCell ?_ (by simp; try omega) _)
  exact Q1.out

set_option maxRecDepth 100000 in
set_option maxHeartbeats 4000000 in
theorem refRef_ff (m : Mv) (row col : Int) (w : World) (ok : m.ok) (h1 : 0 ≤ row ∧ row < 65536) (h2 : 0 ≤ col ∧ col < 702) : Calls Try.prog 96 #[.agg #[.int .i64 m.what, .int .i64 m.dr, .int .i64 m.dc, .int .i64 m.at_, .int .i64 m.n], .agg #[.int .i64 row, .int .i64 col, .bool false, .bool false]] w fun e w' => e = .returned (.agg #[.int .i64 (pasteR m.dr m.dc ⟨row, col, false, false⟩).row, .int .i64 (pasteR m.dr m.dc ⟨row, col, false, false⟩).col, .bool (pasteR m.dr m.dc ⟨row, col, false, false⟩).pr, .bool (pasteR m.dr m.dc ⟨row, col, false, false⟩).pc]) ∧ Below w.heap.size w w' := by
  have OK := Lib.hid ok; clear ok
  have P0 := Lib.hid (Bx3.new w (.cells #[.int .i64 m.what, .int .i64 m.dr, .int .i64 m.dc, .int .i64 m.at_, .int .i64 m.n] 112) (.cells #[.int .i64 row, .int .i64 col, .bool false, .bool false] 26) (.cells #[.int .i64 0, .int .i64 0, .bool false, .bool false] 26))
  go_enter Try.func96, Try.ntmps96
  go_wp2_with fail
  refine (refMoved_any row m.dr 65536 _ h1.1 h1.2 (by omega) OK.out.dr).mono ?_
  rintro e w1 ⟨rfl, b1⟩
  have p1 := P0.out.step b1
  have c0 := cells_of_block p1.b0
  have c1 := cells_of_block p1.b1
  have f1 := frees_of_block p1.b1
  have c2 := cells_of_block p1.b2
  have f2 := frees_of_block p1.b2
  have Q1 := Lib.hid p1.bel
  have P1 := Lib.hid (p1.set1 0 (.int .i64 (movedN row m.dr 65536)) rfl)
  clear p1 b1
  go_wp2_with fail
  refine (refMoved_any col m.dc 702 _ h2.1 h2.2 (by omega) OK.out.dc).mono ?_
  rintro e w2 ⟨rfl, b2⟩
  have p2 := P1.out.step b2
  clear c0 c1 f1 c2 f2
  have c0 := cells_of_block p2.b0
  have c1 := cells_of_block p2.b1
  have f1 := frees_of_block p2.b1
  have c2 := cells_of_block p2.b2
  have f2 := frees_of_block p2.b2
  have Q2 := Lib.hid p2.bel
  clear p2 b2
  go_wp2
  refine bodyPost_ret (v := .agg #[.int .i64 (movedN row m.dr 65536), .int .i64 (movedN col m.dc 702), .bool false, .bool false]) (by simp [results, Try.results96, go_sem, c2]) rfl ?_
  refine ⟨rfl, ?_⟩
  repeat (refine Below.setCell ?_ (by simp; try omega) _)
  exact Q2.out

theorem refRef_any (m : Mv) (r : RefT) (w : World) (ok : m.ok) (h : placeB r = true) : Calls Try.prog 96 #[.agg #[.int .i64 m.what, .int .i64 m.dr, .int .i64 m.dc, .int .i64 m.at_, .int .i64 m.n], .agg #[.int .i64 r.row, .int .i64 r.col, .bool r.pr, .bool r.pc]] w fun e w' => e = .returned (.agg #[.int .i64 (pasteR m.dr m.dc r).row, .int .i64 (pasteR m.dr m.dc r).col, .bool (pasteR m.dr m.dc r).pr, .bool (pasteR m.dr m.dc r).pc]) ∧ Below w.heap.size w w' := by
  have q := place_on h
  obtain ⟨row, col, pr, pc⟩ := r
  cases pr <;> cases pc
  · exact refRef_ff m row col w ok q.1 q.2
  · exact refRef_ft m row col w ok q.1 q.2
  · exact refRef_tf m row col w ok q.1 q.2
  · exact refRef_tt m row col w ok q.1 q.2
end Go.Proofs.Ytkjfeakbhfkldaa
