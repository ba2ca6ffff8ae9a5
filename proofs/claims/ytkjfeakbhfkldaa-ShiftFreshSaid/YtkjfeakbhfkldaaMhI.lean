/- Shifting, no program in sight: rows and columns alike; what is taken out. -/
import Derived.Test.YtkjfeakbhfkldaaMhA
import Derived.Test.YtkjfeakbhfkldaaMhF
namespace Go.Proofs.Ytkjfeakbhfkldaa

/-- A reference's row (o = 0) or column (o = 1). -/
def co (o : Nat) (r : RefT) : Int := if o = 0 then r.row else r.col
def setCo (o : Nat) (r : RefT) (x : Int) : RefT := if o = 0 then { r with row := x } else { r with col := x }
def mostO (o : Nat) : Int := if o = 0 then 65536 else 702
def whatO (o : Nat) : Int := if o = 0 then 2 else 3
theorem mostO_le (o : Nat) : mostO o ≤ 65536 := by unfold mostO; split <;> omega
theorem mostO_ge (o : Nat) : 702 ≤ mostO o := by unfold mostO; split <;> omega
theorem mv1_line (o : Nat) (a n : Int) (r : RefT) : mv1 ⟨whatO o, 0, 0, a, n⟩ r = if outP a n (co o r) (mostO o) then none else if placeB (setCo o r (lineN a n (co o r) (mostO o))) then some (setCo o r (lineN a n (co o r) (mostO o))) else none := by
  by_cases h : o = 0
  · subst h; rfl
  · simp only [mv1, whatO, co, setCo, mostO, h, if_false]; rfl
theorem mv2_line (o : Nat) (a n : Int) (r t : RefT) : mv2 ⟨whatO o, 0, 0, a, n⟩ r t = (match endsN a n (co o r) (co o t) (mostO o) with
    | none => none
    | some (x, y) => if placeB (setCo o r x) && placeB (setCo o t y) then some (setCo o r x, setCo o t y) else none) := by
  by_cases h : o = 0
  · subst h; rfl
  · simp only [mv2, whatO, co, setCo, mostO, h, if_false]; rfl
theorem place_co {o : Nat} {r : RefT} (h : placeB r = true) : 0 ≤ co o r ∧ co o r < mostO o := by
  have p := place_on h
  unfold co mostO; split
  · exact p.1
  · exact p.2
theorem place_set {o : Nat} {r : RefT} {x : Int} (h : placeB r = true) : placeB (setCo o r x) = decide (0 ≤ x ∧ x < mostO o) := by
  have p := place_on h
  rw [Bool.eq_iff_iff]
  by_cases q : o = 0
  · subst q; simp [setCo, mostO, placeB]; omega
  · simp [setCo, mostO, placeB, q]; omega
theorem setCo_self (o : Nat) (r : RefT) : setCo o r (co o r) = r := by
  by_cases q : o = 0
  · subst q; rfl
  · simp [setCo, co, q]
theorem co_set (o : Nat) (r : RefT) (x : Int) : co o (setCo o r x) = x := by
  by_cases q : o = 0 <;> simp [co, setCo, q]
theorem set_set (o : Nat) (r : RefT) (x y : Int) : setCo o (setCo o r x) y = setCo o r y := by
  by_cases q : o = 0 <;> simp [setCo, q]
/-- Is a number taken out? -/
def inG (a m x : Int) : Bool := decide (a ≤ x ∧ x < a + m)
def nearM (a m x y : Int) : Int := if inG a m x then (if a + m ≤ y then a + m else a - 1) else x
def cutM (a m x : Int) : Int := if a + m ≤ x then x - m else x
def rem1 (o : Nat) (a m : Int) (r : RefT) : Option RefT := if inG a m (co o r) then none else some (setCo o r (cutM a m (co o r)))
def rem2 (o : Nat) (a m : Int) (r t : RefT) : Option (RefT × RefT) := if inG a m (co o r) && inG a m (co o t) then none else some (setCo o r (cutM a m (nearM a m (co o r) (co o t))), setCo o t (cutM a m (nearM a m (co o t) (co o r))))
def manyN (a n most : Int) : Int := if -(most - a) < n then -n else most - a
theorem out_in {a n x most : Int} (_ : n < 0) (_ : 0 ≤ a) (_ : a < most) (_ : 0 ≤ x) (_ : x < most) : outP a n x most ↔ inG a (manyN a n most) x = true := by
  rw [inG, decide_eq_true_iff]
  unfold outP manyN goneN
  (repeat' split) <;> omega
theorem line_cut {a n x most : Int} (_ : n < 0) (_ : 0 ≤ a) (_ : a < most) (_ : 0 ≤ x) (_ : x < most) (q : inG a (manyN a n most) x = false) : lineN a n x most = cutM a (manyN a n most) x ∧ 0 ≤ cutM a (manyN a n most) x ∧ cutM a (manyN a n most) x < most := by
  simp only [inG, decide_eq_false_iff_not] at q
  simp only [lineN, cutM, manyN, goneN] at q ⊢
  (repeat' split at q) <;> (repeat' split) <;> omega
theorem near_cut {a n x y most : Int} (hn : n < 0) (h0 : 0 ≤ a) (h1 : a < most) (_ : 0 ≤ x) (_ : x < most) (_ : 0 ≤ y) (_ : y < most) (q : inG a (manyN a n most) x = true) (r : inG a (manyN a n most) y = false) :
    lineN a n (nearN a n x y most) most = cutM a (manyN a n most) (nearM a (manyN a n most) x y) ∧ 0 ≤ cutM a (manyN a n most) (nearM a (manyN a n most) x y) ∧ cutM a (manyN a n most) (nearM a (manyN a n most) x y) < most := by
  have o1 := (out_in hn h0 h1 ‹0 ≤ x› ‹x < most›).2 q
  rw [nearN, if_pos o1, nearM, if_pos q]
  simp only [inG, decide_eq_false_iff_not, decide_eq_true_eq] at q r
  simp only [lineN, cutM, manyN, goneN] at q r ⊢
  (repeat' split at q) <;> (repeat' split) <;> omega
theorem mv1_rem {o : Nat} {a n : Int} {r : RefT} (hp : placeB r = true) (hn : n < 0) (h0 : 0 ≤ a) (h1 : a < mostO o) : mv1 ⟨whatO o, 0, 0, a, n⟩ r = rem1 o a (manyN a n (mostO o)) r := by
  have pc := place_co (o := o) hp
  rw [mv1_line, rem1]
  by_cases q : inG a (manyN a n (mostO o)) (co o r) = true
  · rw [if_pos ((out_in hn h0 h1 pc.1 pc.2).2 q), if_pos q]
  · have l := line_cut hn h0 h1 pc.1 pc.2 (by simpa using q)
    rw [if_neg (fun h => q ((out_in hn h0 h1 pc.1 pc.2).1 h)), if_neg q, l.1, place_set hp, if_pos (by simp; omega)]
theorem nearN_no {a n x y most : Int} (h : ¬ outP a n x most) : nearN a n x y most = x := by rw [nearN, if_neg h]
theorem nearM_no {a m x y : Int} (h : inG a m x = false) : nearM a m x y = x := by rw [nearM, h]; rfl
theorem mv2_rem {o : Nat} {a n : Int} {r t : RefT} (hp : placeB r = true) (hp' : placeB t = true) (hn : n < 0) (h0 : 0 ≤ a) (h1 : a < mostO o) : mv2 ⟨whatO o, 0, 0, a, n⟩ r t = rem2 o a (manyN a n (mostO o)) r t := by
  have pc := place_co (o := o) hp
  have pc' := place_co (o := o) hp'
  have o1 := out_in hn h0 h1 pc.1 pc.2
  have o2 := out_in hn h0 h1 pc'.1 pc'.2
  rw [mv2_line, rem2, endsN]
  cases q : inG a (manyN a n (mostO o)) (co o r) <;> cases q' : inG a (manyN a n (mostO o)) (co o t)
  · have l := line_cut hn h0 h1 pc.1 pc.2 q
    have l' := line_cut hn h0 h1 pc'.1 pc'.2 q'
    have n1 : ¬ outP a n (co o r) (mostO o) := fun h => by simp [o1.1 h] at q
    have n2 : ¬ outP a n (co o t) (mostO o) := fun h => by simp [o2.1 h] at q'
    rw [if_neg (fun h => n1 h.1)]
    simp only [nearN_no n1, nearN_no n2, nearM_no q, nearM_no q', l.1, l'.1, place_set hp, place_set hp']
    simp [l.2, l'.2]
  · have l := line_cut hn h0 h1 pc.1 pc.2 q
    have l' := near_cut hn h0 h1 pc'.1 pc'.2 pc.1 pc.2 q' q
    have n1 : ¬ outP a n (co o r) (mostO o) := fun h => by simp [o1.1 h] at q
    rw [if_neg (fun h => n1 h.1)]
    simp only [nearN_no n1, nearM_no q, l.1, l'.1, place_set hp, place_set hp']
    simp [l.2, l'.2]
  · have l := near_cut hn h0 h1 pc.1 pc.2 pc'.1 pc'.2 q q'
    have l' := line_cut hn h0 h1 pc'.1 pc'.2 q'
    have n2 : ¬ outP a n (co o t) (mostO o) := fun h => by simp [o2.1 h] at q'
    rw [if_neg (fun h => n2 h.2)]
    simp only [nearN_no n2, nearM_no q', l.1, l'.1, place_set hp, place_set hp']
    simp [l.2, l'.2]
  · rw [if_pos ⟨o1.2 q, o2.2 q'⟩]; rfl
theorem near_seq {a m x y : Int} (q : ¬ (inG a m x = true ∧ inG a m y = true)) : nearM a m y (nearM a m x y) = nearM a m y x := by
  cases h : inG a m y
  · rw [nearM_no h, nearM_no h]
  · rw [nearM_no (a := a) (m := m) (x := x) (by cases k : inG a m x; rfl; exact absurd ⟨k, h⟩ q)]
end Go.Proofs.Ytkjfeakbhfkldaa
/- Shifting in place: rows or columns are put in. -/
namespace Go.Proofs.Ytkjfeakbhfkldaa
open Go.RowKit

theorem at_co {w : World} {b : Nat} {pre post : List Value} {r : RefT} {T : TypeId} {fr : Nat × Nat} {o : Nat} (ho : o ≤ 1) (hb : w.heap[b]? = some (.cells (pre ++ (r.vals ++ post)).toArray T fr)) : w.cell? ⟨b, pre.length + o, none⟩ = some (.int .i64 (co o r)) := by
  obtain ⟨h0, h1, -, -⟩ := ref_at hb
  rcases Nat.le_one_iff_eq_zero_or_eq_one.1 ho with rfl | rfl
  · exact h0
  · exact h1
theorem set_co {w : World} {b : Nat} {pre post : List Value} {r : RefT} {T : TypeId} {fr : Nat × Nat} {o : Nat} (ho : o ≤ 1) (x : Int) (hb : w.heap[b]? = some (.cells (pre ++ (r.vals ++ post)).toArray T fr)) : (w.setCell ⟨b, pre.length + o, none⟩ (.int .i64 x)).heap[b]? = some (.cells (pre ++ (RefT.vals (setCo o r x) ++ post)).toArray T fr) := by
  rcases Nat.le_one_iff_eq_zero_or_eq_one.1 ho with rfl | rfl
  · exact set_row x hb
  · exact set_col x hb
/-- A function that tells which coordinate. -/
structure WhSpec (wval : Value) (f : FuncId) (o : Nat) : Prop where
  val : wval = .func (.func f) #[] #[]
  run : ∀ (args : Array Value) (w : World), (callFunc f args).run Try.prog w = .ok (.enter f args) w
  call : ∀ (w : World) (b off : Nat), Calls Try.prog f #[.pointer (some ⟨b, off, none⟩)] w fun e w' => e = .returned (.pointer (some ⟨b, off + o, none⟩)) ∧ w' = w
theorem wh_rows : WhSpec (.func (.func 73) #[] #[]) 73 0 := ⟨rfl, fun _ _ => by kernel_rfl, rows1_any⟩
theorem wh_cols : WhSpec (.func (.func 83) #[] #[]) 83 1 := ⟨rfl, fun _ _ => by kernel_rfl, cols1_any⟩
/-- The boxes that the mover reads. -/
structure LinE (wval : Value) (W P N M : Nat) (a n most : Int) (w : World) : Prop where
  wh : w.heap[W]? = some (.cells #[wval] 101 (0, 0))
  pa : w.heap[P]? = some (.cells #[.int .i64 a] 2 (0, 0))
  pn : w.heap[N]? = some (.cells #[.int .i64 n] 2 (0, 0))
  pm : w.heap[M]? = some (.cells #[.int .i64 most] 3 (0, 0))
/-- A reference behind lines that were put in. -/
def inR (o : Nat) (a n : Int) (r : RefT) : RefT := setCo o r (lineN a n (co o r) (mostO o))
theorem mv1_in {o : Nat} {a n : Int} (hn : 0 ≤ n) (r : RefT) : mv1 ⟨whatO o, 0, 0, a, n⟩ r = if placeB (inR o a n r) then some (inR o a n r) else none := by
  rw [mv1_line, if_neg (by simp [outP]; omega)]; rfl
theorem mv2_in {o : Nat} {a n : Int} (hn : 0 ≤ n) (r t : RefT) : mv2 ⟨whatO o, 0, 0, a, n⟩ r t = if placeB (inR o a n r) && placeB (inR o a n t) then some (inR o a n r, inR o a n t) else none := by
  have hx : ∀ x, ¬ outP a n x (mostO o) := fun x => by simp [outP]; omega
  rw [mv2_line]; simp only [endsN, hx, nearN, false_and, if_false]; rfl
theorem in_low {o : Nat} {a n : Int} {r : RefT} (h : co o r < a) : inR o a n r = r := by
  rw [inR, show lineN a n (co o r) (mostO o) = co o r by simp [lineN, h], setCo_self]
theorem in_high {o : Nat} {a n : Int} {r : RefT} (hn : 0 ≤ n) (h : ¬ co o r < a) : inR o a n r = setCo o r (movedN (co o r) n (mostO o)) := by
  rw [inR, show lineN a n (co o r) (mostO o) = movedN (co o r) n (mostO o) by simp [lineN, h]; omega]

set_option maxRecDepth 100000 in
set_option maxHeartbeats 4000000 in
theorem in_one {wval : Value} {f : FuncId} {o : Nat} (hw : WhSpec wval f o) (ho : o ≤ 1) (lim W P N M : Nat) (a n : Int) (hL : W < lim ∧ P < lim ∧ N < lim ∧ M < lim) (hn : I64 n) (hnn : 0 ≤ n) (w : World) (b g : Nat) (pre post : List Value) (r : RefT) (hE : LinE wval W P N M a n (mostO o) w) (hb : w.heap[b]? = some (.cells (pre ++ (r.vals ++ post)).toArray 29 (0, 0)))
    (hg : w.heap[g]? = some (.cells #[.pointer (some ⟨b, pre.length, none⟩)] 96 (0, 0))) (hgb : g ≠ b) (hlb : lim ≤ b) (hp : placeB r = true) :
    Calls Try.prog 86 #[.slice (some ⟨g, 0, none⟩) 1 1, .pointer (some ⟨W, 0, none⟩), .pointer (some ⟨P, 0, none⟩), .pointer (some ⟨N, 0, none⟩), .pointer (some ⟨M, 0, none⟩)] w fun e w' => ∃ q r', e = .returned (.bool q) ∧ Chg lim b w w' ∧ w'.heap[b]? = some (.cells (pre ++ (r'.vals ++ post)).toArray 29 (0, 0)) ∧ mv1 ⟨whatO o, 0, 0, a, n⟩ r = (if q = true then some r' else none) := by
  obtain rfl := hw.val
  have HW := Lib.hid hw; have HN := Lib.hid hn; have HNN := Lib.hid hnn; have HB := Lib.hid hb; have HG := Lib.hid hg; have HE := Lib.hid hE; have HP := Lib.hid hp
  have pq := place_co (o := o) hp
  have hltg := lt_of_block hg
  have hltb := lt_of_block hb
  clear hn hb hg hE hp hw hnn
  go_enter Try.func86, Try.ntmps86
  go_wp2_with fail
  go_loopw [12] (fun i wr => (i = .int .i64 0 ∧ St lim b (pre ++ (r.vals ++ post)) w wr) ∨ (i = .int .i64 1 ∧ St lim b (pre ++ ((inR o a n r).vals ++ post)) w wr ∧ placeB (inR o a n r) = true)) (fun i _ => 2 - (intOf i).toNat)
  case atStart => exact .inl ⟨rfl, Chg.refl _ _ _, HB.out⟩
  case round =>
    rcases hrel with ⟨rfl, hc, hb⟩ | ⟨rfl, ⟨hc, hb⟩, hpp⟩
    · have cg0 : wr.cell? ⟨g, 0, none⟩ = some (.pointer (some ⟨b, pre.length, none⟩)) := by rw [cells_of_block ((hc.2 g hltg hgb).trans HG.out)]; rfl
      have cW := cells_of_block ((hc.1.block W hL.1).trans HE.out.wh) 0
      have cP := cells_of_block ((hc.1.block P hL.2.1).trans HE.out.pa) 0
      have cN := cells_of_block ((hc.1.block N hL.2.2.1).trans HE.out.pn) 0
      have cM := cells_of_block ((hc.1.block M hL.2.2.2).trans HE.out.pm) 0
      obtain ⟨off, hoff⟩ : ∃ off, off = (pre : List Value).length := ⟨_, rfl⟩
      have d0 := at_co (o := o) ho hb
      rw [show pre.length = off by rw [hoff]] at cg0
      rw [← hoff] at d0
      have sc : ∀ (x' : Int), (wr.setCell ⟨b, off + o, none⟩ (.int .i64 x')).heap[b]? = some (.cells (pre ++ (RefT.vals (setCo o r x') ++ post)).toArray 29 (0, 0)) := fun x' => by rw [hoff]; exact set_co ho x' hb
      have fb := frees_of_block hb
      have SC := Lib.hid sc; have HC := Lib.hid hc; have HB0 := Lib.hid hb
      have CW := Lib.hid fun (W : World) => HW.out.call W b off
      clear sc hc hb hoff
      obtain ⟨p1, p2⟩ := pq
      have HL := Lib.hid hL
      have P1 := Lib.hid p1
      simp at cW cP cN cM
      by_cases q : co o r < a
      · have q1 : decide (a ≤ co o r) = false := by simpa using q
        go_wp2_with fail
        rw [HW.out.run, Oper.upon_enter]
        refine (CW.out _).mono ?_
        rintro e w2 ⟨rfl, rfl⟩
        go_wp2_with fail
        go_quiet (fail)
        go_wp2
        refine ⟨.inr ⟨rfl, ?_, ?_⟩, by simp [intOf]⟩
        · rw [(show inR o a n r = r from in_low q)]
          first | exact ⟨HC.out, HB0.out⟩ | exact ⟨(HC.out).drew, HB0.out⟩ | exact ⟨(HC.out).drewN _, HB0.out⟩
        · rw [(show inR o a n r = r from in_low q)]; exact HP.out
      · have q1 : decide (a ≤ co o r) = true := by simpa using q
        by_cases q2 : 0 ≤ co o r + n ∧ co o r + n < mostO o
        · have AR := Lib.hid fun (W : World) h h' => add_yes W b (off + o) (co o r) n (mostO o) h h' p1 p2 (mostO_le o) q2.1 q2.2
          clear p1 p2
          go_wp2_with fail
          rw [HW.out.run, Oper.upon_enter]
          refine (CW.out _).mono ?_
          rintro e w2 ⟨rfl, rfl⟩
          go_wp2_with fail
          go_region_law (first
            | (go_simp
               go_at_call 71
               with_reducible refine (AR.out _ (by simp [d0]) (by simp [fb])).mono ?_
               rintro e w3 ⟨rfl, rfl⟩))
          all_goals
            go_wp2
            refine ⟨.inr ⟨rfl, ?_, ?_⟩, by simp [intOf]⟩
            · rw [(show inR o a n r = (setCo o r (co o r + n)) from (in_high HNN.out (by omega)).trans (by rw [moved_on P1.out (place_co HP.out).2 q2]))]
              first | exact ⟨(HC.out.set hlb (off + o) (.int .i64 (co o r + n))), (SC.out (co o r + n))⟩ | exact ⟨((HC.out.set hlb (off + o) (.int .i64 (co o r + n)))).drew, (SC.out (co o r + n))⟩ | exact ⟨((HC.out.set hlb (off + o) (.int .i64 (co o r + n)))).drewN _, (SC.out (co o r + n))⟩
            · rw [(show inR o a n r = (setCo o r (co o r + n)) from (in_high HNN.out (by omega)).trans (by rw [moved_on P1.out (place_co HP.out).2 q2]))]; rw [place_set HP.out]; simpa using q2
        · have AR := Lib.hid fun (W : World) h => add_no W b (off + o) (co o r) n (mostO o) h p1 p2 (mostO_le o) HN.out q2
          clear p1 p2
          go_wp2_with fail
          rw [HW.out.run, Oper.upon_enter]
          refine (CW.out _).mono ?_
          rintro e w2 ⟨rfl, rfl⟩
          go_wp2_with fail
          go_quiet (first
            | (go_at_call 71
               refine Calls.quiet_of_same (AR.out _ (by simp [d0]))))
          go_wp2
          go_ret
          refine ⟨false, r, rfl, ?_, HB0.out, ?_⟩
          · first | exact HC.out | exact (HC.out).drew | exact (HC.out).drewN _
          · simp [mv1_in HNN.out, (show placeB (inR o a n r) = false by rw [in_high HNN.out (by omega), moved_off P1.out (place_co HP.out).2 q2, place_set HP.out]; simp)]
    · have HC := Lib.hid hc; have HBk := Lib.hid hb; have HPP := Lib.hid hpp
      clear hc hb hpp pq
      go_wp2
      go_ret
      exact ⟨true, inR o a n r, rfl, HC.out, HBk.out, by simp [mv1_in HNN.out, HPP.out]⟩
end Go.Proofs.Ytkjfeakbhfkldaa
/- Shifting in place: rows or columns are put in, both ends of a range. -/
namespace Go.Proofs.Ytkjfeakbhfkldaa
open Go.RowKit

set_option maxRecDepth 100000 in
set_option maxHeartbeats 4000000 in
theorem in_two {wval : Value} {f : FuncId} {o : Nat} (hw : WhSpec wval f o) (ho : o ≤ 1) (lim W P N M : Nat) (a n : Int) (hL : W < lim ∧ P < lim ∧ N < lim ∧ M < lim) (hn : I64 n) (hnn : 0 ≤ n) (w : World) (b g : Nat) (pre post : List Value) (r t : RefT) (hE : LinE wval W P N M a n (mostO o) w) (hb : w.heap[b]? = some (.cells (pre ++ (r.vals ++ (t.vals ++ post))).toArray 29 (0, 0)))
    (hg : w.heap[g]? = some (.cells #[.pointer (some ⟨b, pre.length, none⟩), .pointer (some ⟨b, pre.length + 4, none⟩)] 96 (0, 0))) (hgb : g ≠ b) (hlb : lim ≤ b) (hp : placeB r = true) (hp2 : placeB t = true) :
    Calls Try.prog 86 #[.slice (some ⟨g, 0, none⟩) 2 2, .pointer (some ⟨W, 0, none⟩), .pointer (some ⟨P, 0, none⟩), .pointer (some ⟨N, 0, none⟩), .pointer (some ⟨M, 0, none⟩)] w fun e w' => ∃ q r' t', e = .returned (.bool q) ∧ Chg lim b w w' ∧ w'.heap[b]? = some (.cells (pre ++ (r'.vals ++ (t'.vals ++ post))).toArray 29 (0, 0)) ∧ mv2 ⟨whatO o, 0, 0, a, n⟩ r t = (if q = true then some (r', t') else none) := by
  obtain rfl := hw.val
  have HW := Lib.hid hw; have HN := Lib.hid hn; have HNN := Lib.hid hnn; have HB := Lib.hid hb; have HG := Lib.hid hg; have HE := Lib.hid hE; have HP := Lib.hid hp; have HP2 := Lib.hid hp2
  have pq := place_co (o := o) hp
  have pq2 := place_co (o := o) hp2
  have hltg := lt_of_block hg
  have hltb := lt_of_block hb
  clear hn hb hg hE hp hp2 hw hnn
  go_enter Try.func86, Try.ntmps86
  go_wp2_with fail
  go_loopw [12] (fun i wr => (i = .int .i64 0 ∧ St lim b (pre ++ (r.vals ++ (t.vals ++ post))) w wr) ∨ (i = .int .i64 1 ∧ St lim b (pre ++ ((inR o a n r).vals ++ (t.vals ++ post))) w wr ∧ placeB (inR o a n r) = true) ∨
    (i = .int .i64 2 ∧ St lim b (pre ++ ((inR o a n r).vals ++ ((inR o a n t).vals ++ post))) w wr ∧ placeB (inR o a n r) = true ∧ placeB (inR o a n t) = true)) (fun i _ => 3 - (intOf i).toNat)
  case atStart => exact .inl ⟨rfl, Chg.refl _ _ _, HB.out⟩
  case round =>
    rcases hrel with ⟨rfl, hc, hb⟩ | ⟨rfl, ⟨hc, hb⟩, hpp⟩ | ⟨rfl, ⟨hc, hb⟩, hpp, hpp2⟩
    · clear pq2
      have cg0 : wr.cell? ⟨g, 0, none⟩ = some (.pointer (some ⟨b, pre.length, none⟩)) := by rw [cells_of_block ((hc.2 g hltg hgb).trans HG.out)]; rfl
      have cW := cells_of_block ((hc.1.block W hL.1).trans HE.out.wh) 0
      have cP := cells_of_block ((hc.1.block P hL.2.1).trans HE.out.pa) 0
      have cN := cells_of_block ((hc.1.block N hL.2.2.1).trans HE.out.pn) 0
      have cM := cells_of_block ((hc.1.block M hL.2.2.2).trans HE.out.pm) 0
      obtain ⟨off, hoff⟩ : ∃ off, off = (pre : List Value).length := ⟨_, rfl⟩
      have d0 := at_co (o := o) ho hb
      rw [show pre.length = off by rw [hoff]] at cg0
      rw [← hoff] at d0
      have sc : ∀ (x' : Int), (wr.setCell ⟨b, off + o, none⟩ (.int .i64 x')).heap[b]? = some (.cells (pre ++ (RefT.vals (setCo o r x') ++ (t.vals ++ post))).toArray 29 (0, 0)) := fun x' => by rw [hoff]; exact set_co ho x' hb
      have fb := frees_of_block hb
      have SC := Lib.hid sc; have HC := Lib.hid hc; have HB0 := Lib.hid hb
      have CW := Lib.hid fun (W : World) => HW.out.call W b off
      clear sc hc hb hoff
      obtain ⟨p1, p2⟩ := pq
      have HL := Lib.hid hL
      have P1 := Lib.hid p1
      simp at cW cP cN cM
      by_cases q : co o r < a
      · have q1 : decide (a ≤ co o r) = false := by simpa using q
        go_wp2_with fail
        rw [HW.out.run, Oper.upon_enter]
        refine (CW.out _).mono ?_
        rintro e w2 ⟨rfl, rfl⟩
        go_wp2_with fail
        go_quiet (fail)
        go_wp2
        refine ⟨.inr (.inl ⟨rfl, ?_, ?_⟩), by simp [intOf]⟩
        · rw [(show inR o a n r = r from in_low q)]
          first | exact ⟨HC.out, HB0.out⟩ | exact ⟨(HC.out).drew, HB0.out⟩ | exact ⟨(HC.out).drewN _, HB0.out⟩
        · rw [(show inR o a n r = r from in_low q)]; exact HP.out
      · have q1 : decide (a ≤ co o r) = true := by simpa using q
        by_cases q2 : 0 ≤ co o r + n ∧ co o r + n < mostO o
        · have AR := Lib.hid fun (W : World) h h' => add_yes W b (off + o) (co o r) n (mostO o) h h' p1 p2 (mostO_le o) q2.1 q2.2
          clear p1 p2
          go_wp2_with fail
          rw [HW.out.run, Oper.upon_enter]
          refine (CW.out _).mono ?_
          rintro e w2 ⟨rfl, rfl⟩
          go_wp2_with fail
          go_region_law (first
            | (go_simp
               go_at_call 71
               with_reducible refine (AR.out _ (by simp [d0]) (by simp [fb])).mono ?_
               rintro e w3 ⟨rfl, rfl⟩))
          all_goals
            go_wp2
            refine ⟨.inr (.inl ⟨rfl, ?_, ?_⟩), by simp [intOf]⟩
            · rw [(show inR o a n r = (setCo o r (co o r + n)) from (in_high HNN.out (by omega)).trans (by rw [moved_on P1.out (place_co HP.out).2 q2]))]
              first | exact ⟨(HC.out.set hlb (off + o) (.int .i64 (co o r + n))), (SC.out (co o r + n))⟩ | exact ⟨((HC.out.set hlb (off + o) (.int .i64 (co o r + n)))).drew, (SC.out (co o r + n))⟩ | exact ⟨((HC.out.set hlb (off + o) (.int .i64 (co o r + n)))).drewN _, (SC.out (co o r + n))⟩
            · rw [(show inR o a n r = (setCo o r (co o r + n)) from (in_high HNN.out (by omega)).trans (by rw [moved_on P1.out (place_co HP.out).2 q2]))]; rw [place_set HP.out]; simpa using q2
        · have AR := Lib.hid fun (W : World) h => add_no W b (off + o) (co o r) n (mostO o) h p1 p2 (mostO_le o) HN.out q2
          clear p1 p2
          go_wp2_with fail
          rw [HW.out.run, Oper.upon_enter]
          refine (CW.out _).mono ?_
          rintro e w2 ⟨rfl, rfl⟩
          go_wp2_with fail
          go_quiet (first
            | (go_at_call 71
               refine Calls.quiet_of_same (AR.out _ (by simp [d0]))))
          go_wp2
          go_ret
          refine ⟨false, r, t, rfl, ?_, HB0.out, ?_⟩
          · first | exact HC.out | exact (HC.out).drew | exact (HC.out).drewN _
          · simp [mv2_in HNN.out, (show placeB (inR o a n r) = false by rw [in_high HNN.out (by omega), moved_off P1.out (place_co HP.out).2 q2, place_set HP.out]; simp)]
    · clear pq
      have HPP := Lib.hid hpp
      clear hpp
      rw [← List.append_assoc] at hb
      have cg0 : wr.cell? ⟨g, 1, none⟩ = some (.pointer (some ⟨b, pre.length + 4, none⟩)) := by rw [cells_of_block ((hc.2 g hltg hgb).trans HG.out)]; rfl
      have cW := cells_of_block ((hc.1.block W hL.1).trans HE.out.wh) 0
      have cP := cells_of_block ((hc.1.block P hL.2.1).trans HE.out.pa) 0
      have cN := cells_of_block ((hc.1.block N hL.2.2.1).trans HE.out.pn) 0
      have cM := cells_of_block ((hc.1.block M hL.2.2.2).trans HE.out.pm) 0
      obtain ⟨off, hoff⟩ : ∃ off, off = ((pre ++ (inR o a n r).vals) : List Value).length := ⟨_, rfl⟩
      have d0 := at_co (o := o) ho hb
      rw [show pre.length + 4 = off by rw [hoff]; simp [RefT.vals]] at cg0
      rw [← hoff] at d0
      have sc : ∀ (x' : Int), (wr.setCell ⟨b, off + o, none⟩ (.int .i64 x')).heap[b]? = some (.cells ((pre ++ (inR o a n r).vals) ++ (RefT.vals (setCo o t x') ++ post)).toArray 29 (0, 0)) := fun x' => by rw [hoff]; exact set_co ho x' hb
      have fb := frees_of_block hb
      have SC := Lib.hid sc; have HC := Lib.hid hc; have HB0 := Lib.hid hb
      have CW := Lib.hid fun (W : World) => HW.out.call W b off
      clear sc hc hb hoff
      obtain ⟨p1, p2⟩ := pq2
      have HL := Lib.hid hL
      have P1 := Lib.hid p1
      simp at cW cP cN cM
      by_cases q : co o t < a
      · have q1 : decide (a ≤ co o t) = false := by simpa using q
        go_wp2_with fail
        rw [HW.out.run, Oper.upon_enter]
        refine (CW.out _).mono ?_
        rintro e w2 ⟨rfl, rfl⟩
        go_wp2_with fail
        go_quiet (fail)
        go_wp2
        refine ⟨.inr (.inr ⟨rfl, ?_, HPP.out, ?_⟩), by simp [intOf]⟩
        · rw [(show inR o a n t = t from in_low q), ← List.append_assoc]
          first | exact ⟨HC.out, HB0.out⟩ | exact ⟨(HC.out).drew, HB0.out⟩ | exact ⟨(HC.out).drewN _, HB0.out⟩
        · rw [(show inR o a n t = t from in_low q)]; exact HP2.out
      · have q1 : decide (a ≤ co o t) = true := by simpa using q
        by_cases q2 : 0 ≤ co o t + n ∧ co o t + n < mostO o
        · have AR := Lib.hid fun (W : World) h h' => add_yes W b (off + o) (co o t) n (mostO o) h h' p1 p2 (mostO_le o) q2.1 q2.2
          clear p1 p2
          go_wp2_with fail
          rw [HW.out.run, Oper.upon_enter]
          refine (CW.out _).mono ?_
          rintro e w2 ⟨rfl, rfl⟩
          go_wp2_with fail
          go_region_law (first
            | (go_simp
               go_at_call 71
               with_reducible refine (AR.out _ (by simp [d0]) (by simp [fb])).mono ?_
               rintro e w3 ⟨rfl, rfl⟩))
          all_goals
            go_wp2
            refine ⟨.inr (.inr ⟨rfl, ?_, HPP.out, ?_⟩), by simp [intOf]⟩
            · rw [(show inR o a n t = (setCo o t (co o t + n)) from (in_high HNN.out (by omega)).trans (by rw [moved_on P1.out (place_co HP2.out).2 q2])), ← List.append_assoc]
              first | exact ⟨(HC.out.set hlb (off + o) (.int .i64 (co o t + n))), (SC.out (co o t + n))⟩ | exact ⟨((HC.out.set hlb (off + o) (.int .i64 (co o t + n)))).drew, (SC.out (co o t + n))⟩ | exact ⟨((HC.out.set hlb (off + o) (.int .i64 (co o t + n)))).drewN _, (SC.out (co o t + n))⟩
            · rw [(show inR o a n t = (setCo o t (co o t + n)) from (in_high HNN.out (by omega)).trans (by rw [moved_on P1.out (place_co HP2.out).2 q2]))]; rw [place_set HP2.out]; simpa using q2
        · have AR := Lib.hid fun (W : World) h => add_no W b (off + o) (co o t) n (mostO o) h p1 p2 (mostO_le o) HN.out q2
          clear p1 p2
          go_wp2_with fail
          rw [HW.out.run, Oper.upon_enter]
          refine (CW.out _).mono ?_
          rintro e w2 ⟨rfl, rfl⟩
          go_wp2_with fail
          go_quiet (first
            | (go_at_call 71
               refine Calls.quiet_of_same (AR.out _ (by simp [d0]))))
          go_wp2
          go_ret
          refine ⟨false, inR o a n r, t, rfl, ?_, ?_, ?_⟩
          · first | exact HC.out | exact (HC.out).drew | exact (HC.out).drewN _
          · rw [← List.append_assoc]; exact HB0.out
          · simp [mv2_in HNN.out, (show placeB (inR o a n t) = false by rw [in_high HNN.out (by omega), moved_off P1.out (place_co HP2.out).2 q2, place_set HP2.out]; simp)]
    · have HC := Lib.hid hc; have HBk := Lib.hid hb; have HPP := Lib.hid hpp; have HPP2 := Lib.hid hpp2
      clear hc hb hpp hpp2 pq pq2
      go_wp2
      go_ret
      exact ⟨true, inR o a n r, inR o a n t, rfl, HC.out, HBk.out, by simp [mv2_in HNN.out, HPP.out, HPP2.out]⟩

theorem in_spec {wval : Value} {f : FuncId} {o : Nat} (hw : WhSpec wval f o) (ho : o ≤ 1) (lim W P N M : Nat) (a n : Int) (hL : W < lim ∧ P < lim ∧ N < lim ∧ M < lim) (hn : I64 n) (hnn : 0 ≤ n) : MovSpec (.func (.func 86) #[] #[.pointer (some ⟨W, 0, none⟩), .pointer (some ⟨P, 0, none⟩), .pointer (some ⟨N, 0, none⟩), .pointer (some ⟨M, 0, none⟩)]) 86 #[.pointer (some ⟨W, 0, none⟩), .pointer (some ⟨P, 0, none⟩), .pointer (some ⟨N, 0, none⟩), .pointer (some ⟨M, 0, none⟩)] lim ⟨whatO o, 0, 0, a, n⟩ (LinE wval W P N M a n (mostO o)) :=
  ⟨rfl, fun _ _ => by kernel_rfl, fun _ _ h b => ⟨(b.block W hL.1).trans h.1, (b.block P hL.2.1).trans h.2, (b.block N hL.2.2.1).trans h.3, (b.block M hL.2.2.2).trans h.4⟩,
   fun w b g pre post r hE hb hg hgb hlb _ hp => in_one hw ho lim W P N M a n hL hn hnn w b g pre post r hE hb hg hgb hlb hp,
   fun w b g pre post r t hE hb hg hgb hlb _ hp hp2 => in_two hw ho lim W P N M a n hL hn hnn w b g pre post r t hE hb hg hgb hlb hp hp2⟩
end Go.Proofs.Ytkjfeakbhfkldaa
