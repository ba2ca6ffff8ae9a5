/- Structs in boxes: read and written by laws, the world behind a store under a name. -/
import Derived.Test.YtkjfeakbhfkldaaMhU
import Derived.Deep.DrawnRows
import Derived.Deep.RegionHeld3
import Derived.Test.YtkjfeakbhfkldaaMhV
import Derived.Test.YtkjfeakbhfkldaaMhI
import Derived.BigQuiet
import Derived.BigRegion
namespace Go.Proofs.Ytkjfeakbhfkldaa
open Go.RowKit

theorem range_box {w : World} {N : Nat} {cs : Array Value} {T : TypeId} (h : w.heap[N]? = some (.cells cs T (0, 0))) : w.rangeAt N 0 cs.toList := fun j v hv => by rw [cells_of_block h, ← hv]; simp
section
variable {ops : Array Oper} {Q : Exit → Act → World → Prop} {rest : List Oper} {a : Act} {o : Oper} {s x y : Operand} {w : World} {N off : Nat} {cs : Array Value} {T' : TypeId} {vs : List Value}
theorem wpList_load_E (hg : o.guard = none) (ho : o.op = Op.load 29 s) (ha : a.eval s = .pointer (some ⟨N, 0, none⟩)) (hb : w.heap[N]? = some (.cells cs T' (0, 0))) (hl : cs.size = 14) (h : wpList Try.prog ops Q rest (a.put o.dst (.agg cs)) w) : wpList Try.prog ops Q (o :: rest) a w :=
  wpList_load_mid hg _ s ho N 0 ha cs.toList _ (range_box hb) Try.underlying29 rfl (by simpa [hl] using infoExprS) (by simpa using h)
theorem wpList_load_O (hg : o.guard = none) (ho : o.op = Op.load 60 s) (ha : a.eval s = .pointer (some ⟨N, 0, none⟩)) (hb : w.heap[N]? = some (.cells cs T' (0, 0))) (hl : cs.size = 17) (h : wpList Try.prog ops Q rest (a.put o.dst (.agg cs)) w) : wpList Try.prog ops Q (o :: rest) a w :=
  wpList_load_mid hg _ s ho N 0 ha cs.toList _ (range_box hb) Try.underlying60 rfl (by simpa [hl] using infoOp12) (by simpa using h)
theorem wpList_store_blk {T : TypeId} {n : Nat} (hi : (Try.prog.info? T).map (·.size) = some n) (hg : o.guard = none) (ho : o.op = Op.store T x y) (hx : a.eval x = .pointer (some ⟨N, off, none⟩)) (hy : a.eval y = .agg vs.toArray) (hb : w.heap[N]? = some (.cells cs T' (0, 0)))
    (hl : off + vs.length ≤ cs.size) (hn : vs.length = n) (h1 : ∀ v ∈ vs, v.oneCell' = true) (h : ∀ W', W' = w.setCells N off vs → wpList Try.prog ops Q rest (a.put o.dst undef) W') : wpList Try.prog ops Q (o :: rest) a w := by
  refine wpList_store_mid hg T x y ho N off vs.toArray hx hy (fun j hj => ⟨?_, frees_of_block hb _⟩) (by simpa [hn] using hi) (all_oneCell_toArray h1) (by simpa using h _ rfl)
  have : off + j < cs.size := by simp at hj; omega
  rw [cells_of_block hb]; simp [this]
end
end Go.Proofs.Ytkjfeakbhfkldaa
/- Shifting, no program in sight: lines that are put in and taken out again, and what stands ahead of them. -/
namespace Go.Proofs.Ytkjfeakbhfkldaa

theorem goneN_neg {n most : Int} (_ : 1 ≤ n) (_ : n < most) : goneN (-n) most = n := by unfold goneN; split <;> omega
theorem moved_lt {x n most : Int} (_ : 1 ≤ n) (_ : 0 ≤ x) (_ : x < most) (h : 0 ≤ movedN x n most) : n < most ∧ x + n < most ∧ movedN x n most = x + n := by
  unfold movedN at h ⊢
  (repeat' split at h) <;> (repeat' split) <;> omega
/-- A number that is on the grid behind the lines that were put in, and what it is when they are taken out. -/
theorem line_back {at_ n x most : Int} (hn : 1 ≤ n) (h0 : 0 ≤ x) (h1 : x < most) (p : 0 ≤ lineN at_ n x most) : ¬ outP at_ (-n) (lineN at_ n x most) most ∧ lineN at_ (-n) (lineN at_ n x most) most = x := by
  by_cases c : x < at_
  · have e : lineN at_ n x most = x := by simp [lineN, c]
    rw [e]
    refine ⟨by unfold outP; omega, by simp [lineN, c]⟩
  · have e : lineN at_ n x most = movedN x n most := by simp [lineN, c]; omega
    rw [e] at p
    obtain ⟨q1, q2, q3⟩ := moved_lt hn h0 h1 p
    rw [e, q3]
    have g := goneN_neg hn q1
    refine ⟨by unfold outP; rw [g]; omega, ?_⟩
    rw [lineN, if_neg (by omega), if_pos (by omega), g]; omega
theorem in_place {o : Nat} {at_ n : Int} {r : RefT} (h : placeB r = true) (k : placeB (inR o at_ n r) = true) : 0 ≤ lineN at_ n (co o r) (mostO o) := by
  rw [inR, place_set h] at k
  simp at k; exact k.1
theorem co_in (o : Nat) (at_ n : Int) (r : RefT) : co o (inR o at_ n r) = lineN at_ n (co o r) (mostO o) := co_set _ _ _
theorem in_back {o : Nat} {at_ n : Int} {r : RefT} (hn : 1 ≤ n) (h : placeB r = true) (k : placeB (inR o at_ n r) = true) : mv1 ⟨whatO o, 0, 0, at_, -n⟩ (inR o at_ n r) = some r := by
  have c := place_co (o := o) h
  obtain ⟨q1, q2⟩ := line_back hn c.1 c.2 (in_place h k)
  rw [mv1_line, co_in, if_neg q1, q2, inR, set_set, setCo_self, if_pos h]
theorem in_back2 {o : Nat} {at_ n : Int} {r t : RefT} (hn : 1 ≤ n) (h : placeB r = true) (h' : placeB t = true) (k : placeB (inR o at_ n r) = true) (k' : placeB (inR o at_ n t) = true) : mv2 ⟨whatO o, 0, 0, at_, -n⟩ (inR o at_ n r) (inR o at_ n t) = some (r, t) := by
  have c := place_co (o := o) h
  have c' := place_co (o := o) h'
  obtain ⟨q1, q2⟩ := line_back hn c.1 c.2 (in_place h k)
  obtain ⟨q3, q4⟩ := line_back hn c'.1 c'.2 (in_place h' k')
  rw [mv2_line, co_in, co_in, endsN, if_neg (fun h => q1 h.1)]
  simp only [nearN, if_neg q1, if_neg q3, q2, q4, inR, set_set, setCo_self, h, h']
  rfl
theorem node_back {o : Nat} {at_ n : Int} {h : Hd} {k : Nat} (hn : 1 ≤ n) (f : fitsV h k = true) (s : (mvH ⟨whatO o, 0, 0, at_, n⟩ h).speaks = h.speaks) : mvH ⟨whatO o, 0, 0, at_, -n⟩ (mvH ⟨whatO o, 0, 0, at_, n⟩ h) = h := by
  by_cases k5 : h.kind = 5
  · have p := (fits5 f k5).1
    rw [mvH_five k5, mv1_in (by omega)] at s ⊢
    by_cases q : placeB (inR o at_ n h.ref) = true
    · simp only [q, if_true] at s ⊢
      rw [mvH_five (h := { h with ref := inR o at_ n h.ref }) k5, in_back hn p q]
    · simp [q, Hd.speaks, lostH, k5] at s
  · by_cases k6 : h.kind = 6
    · have p := fits6 f k6
      rw [mvH_six k6, mv2_in (by omega)] at s ⊢
      by_cases q : (placeB (inR o at_ n h.ref) && placeB (inR o at_ n h.to)) = true
      · simp only [q, if_true] at s ⊢
        simp only [Bool.and_eq_true] at q
        rw [mvH_six (h := { h with ref := inR o at_ n h.ref, to := inR o at_ n h.to }) k6, in_back2 hn p.1 p.2.1 q.1 q.2]
      · simp [q, Hd.speaks, lostH, k6] at s
    · rw [mvH_other k5 k6, mvH_other k5 k6]
theorem tree_back {o : Nat} {at_ n : Int} (hn : 1 ≤ n) : ∀ {ks : Trees}, allFits ks = true → (mvK ⟨whatO o, 0, 0, at_, n⟩ ks).refs = ks.refs → mvK ⟨whatO o, 0, 0, at_, -n⟩ (mvK ⟨whatO o, 0, 0, at_, n⟩ ks) = ks
  | .nil, _, _ => rfl
  | .cons h k r, f, s => by
    simp only [allFits, Bool.and_eq_true] at f
    simp only [mvK, Trees.refs] at s ⊢
    have s1 := speaks_mv ⟨whatO o, 0, 0, at_, n⟩ h
    have s2 := refs_mv ⟨whatO o, 0, 0, at_, n⟩ k
    have s3 := refs_mv ⟨whatO o, 0, 0, at_, n⟩ r
    rw [node_back hn f.1.1 (by omega), tree_back hn f.1.2 (by omega), tree_back hn f.2 (by omega)]
theorem lines_back {o : Nat} {at_ n : Int} {h : Hd} {ks : Trees} (hn : 1 ≤ n) (f : treeFits h ks = true) (s : refsOf (mvH ⟨whatO o, 0, 0, at_, n⟩ h) (mvK ⟨whatO o, 0, 0, at_, n⟩ ks) = refsOf h ks) :
    mvH ⟨whatO o, 0, 0, at_, -n⟩ (mvH ⟨whatO o, 0, 0, at_, n⟩ h) = h ∧ mvK ⟨whatO o, 0, 0, at_, -n⟩ (mvK ⟨whatO o, 0, 0, at_, n⟩ ks) = ks := by
  have s1 := speaks_mv ⟨whatO o, 0, 0, at_, n⟩ h
  have s2 := refs_mv ⟨whatO o, 0, 0, at_, n⟩ ks
  simp only [treeFits, Bool.and_eq_true] at f
  unfold refsOf at s
  exact ⟨node_back hn f.1 (by omega), tree_back hn f.2 (by omega)⟩
/-- Does all that a node speaks of stand ahead of a line? -/
def Hd.ahead (o : Nat) (at_ : Int) (h : Hd) : Bool := decide (co o h.ref < at_) && (decide (co o h.to < at_) || decide (h.kind = 5))
def aheadT (o : Nat) (at_ : Int) : Trees → Bool
  | .nil => true
  | .cons h k r => (if h.kind = 5 ∨ h.kind = 6 then h.ahead o at_ else aheadT o at_ k) && aheadT o at_ r
def aheadB (o : Nat) (at_ : Int) (h : Hd) (ks : Trees) : Bool := if h.kind = 5 ∨ h.kind = 6 then h.ahead o at_ else aheadT o at_ ks
theorem node_ahead {o : Nat} {at_ n : Int} {h : Hd} {k : Nat} (hn : 1 ≤ n) (f : fitsV h k = true) (a : h.kind = 5 ∨ h.kind = 6 → h.ahead o at_ = true) : mvH ⟨whatO o, 0, 0, at_, n⟩ h = h := by
  by_cases k5 : h.kind = 5
  · have p := (fits5 f k5).1
    have q := a (.inl k5)
    simp only [Hd.ahead, Bool.and_eq_true, decide_eq_true_eq] at q
    rw [mvH_five k5, mv1_in (by omega), in_low q.1, if_pos p]
  · by_cases k6 : h.kind = 6
    · have p := fits6 f k6
      have q := a (.inr k6)
      simp only [Hd.ahead, Bool.and_eq_true, Bool.or_eq_true, decide_eq_true_eq] at q
      have q2 : co o h.to < at_ := q.2.resolve_right k5
      rw [mvH_six k6, mv2_in (by omega), in_low q.1, in_low q2, if_pos (by simp [p.1, p.2.1])]
    · exact mvH_other k5 k6
theorem tree_ahead {o : Nat} {at_ n : Int} (hn : 1 ≤ n) : ∀ {ks : Trees}, allFits ks = true → aheadT o at_ ks = true → mvK ⟨whatO o, 0, 0, at_, n⟩ ks = ks
  | .nil, _, _ => rfl
  | .cons h k r, f, a => by
    simp only [allFits, Bool.and_eq_true] at f
    simp only [aheadT, Bool.and_eq_true] at a
    simp only [mvK]
    by_cases s : h.kind = 5 ∨ h.kind = 6
    · rw [if_pos s] at a
      have hk : k = .nil := by
        rcases s with s | s
        · exact trees_nil (fits5 f.1.1 s).2
        · exact trees_nil (fits6 f.1.1 s).2.2
      subst hk
      rw [node_ahead hn f.1.1 (fun _ => a.1), tree_ahead hn f.2 a.2]; rfl
    · rw [if_neg s] at a
      rw [node_ahead hn f.1.1 (fun h => absurd h s), tree_ahead hn f.1.2 a.1, tree_ahead hn f.2 a.2]
theorem lines_ahead {o : Nat} {at_ n : Int} {h : Hd} {ks : Trees} (hn : 1 ≤ n) (f : treeFits h ks = true) (a : aheadB o at_ h ks = true) : mvH ⟨whatO o, 0, 0, at_, n⟩ h = h ∧ mvK ⟨whatO o, 0, 0, at_, n⟩ ks = ks := by
  simp only [treeFits, Bool.and_eq_true] at f
  unfold aheadB at a
  by_cases s : h.kind = 5 ∨ h.kind = 6
  · rw [if_pos s] at a
    have hk : ks = .nil := by
      rcases s with s | s
      · exact trees_nil (fits5 f.1 s).2
      · exact trees_nil (fits6 f.1 s).2.2
    subst hk
    exact ⟨node_ahead hn f.1 (fun _ => a), rfl⟩
  · rw [if_neg s] at a
    exact ⟨node_ahead hn f.1 (fun h => absurd h s), tree_ahead hn f.2 a⟩
end Go.Proofs.Ytkjfeakbhfkldaa
/- Shifting: does all stand ahead of a line? -/
namespace Go.Proofs.Ytkjfeakbhfkldaa
open Go.RowKit

def colO (cols : Bool) : Nat := if cols then 1 else 0
def RAh (at_ : Int) (cols : Bool) (h : Hd) (ks : Trees) : Prop := ∀ (w : World) (B : Nat) (ka : Option Addr) (kl kc : Nat), B ≤ w.heap.size → TreeV w B h ks ka kl →
  Calls Try.prog 42 #[.agg #[.int .i64 h.kind, .int .i64 h.op, .int .i64 h.num, .string ⟨h.text.toArray⟩, .int .i64 h.ref.row, .int .i64 h.ref.col, .bool h.ref.pr, .bool h.ref.pc, .int .i64 h.to.row, .int .i64 h.to.col, .bool h.to.pr, .bool h.to.pc, .int .i64 h.fn, .slice ka kl kc], .int .i64 at_, .bool cols] w fun e w' => e = .returned (.bool (aheadB (colO cols) at_ h ks)) ∧ Below w.heap.size w w'
def AhRel (at_ : Int) (cols : Bool) (nd : Hd) (ks : Trees) (kl kc B : Nat) (ka : Option Addr) (w wr : World) (i : Value) : Prop :=
  ∃ (j : Nat) (rest : Trees), i = .int .i64 j ∧ Hid (j + rest.len = kl) ∧ RowIn wr B rest ka j ∧ AllT (RAh at_ cols) rest ∧ Below (w.alloc (.cells #[.int .i64 nd.kind, .int .i64 nd.op, .int .i64 nd.num, .string ⟨nd.text.toArray⟩, .int .i64 nd.ref.row, .int .i64 nd.ref.col, .bool nd.ref.pr, .bool nd.ref.pc, .int .i64 nd.to.row, .int .i64 nd.to.col, .bool nd.to.pr, .bool nd.to.pc, .int .i64 nd.fn, .slice ka kl kc] 29)).heap.size (w.alloc (.cells #[.int .i64 nd.kind, .int .i64 nd.op, .int .i64 nd.num, .string ⟨nd.text.toArray⟩, .int .i64 nd.ref.row, .int .i64 nd.ref.col, .bool nd.ref.pr, .bool nd.ref.pc, .int .i64 nd.to.row, .int .i64 nd.to.col, .bool nd.to.pr, .bool nd.to.pc, .int .i64 nd.fn, .slice ka kl kc] 29)) wr ∧ Hid (aheadT (colO cols) at_ rest = aheadT (colO cols) at_ ks)

set_option maxRecDepth 100000 in
set_option maxHeartbeats 4000000 in
theorem ahead_ref (at_ : Int) (cols : Bool) (nd : Hd) (ks : Trees) (hk : nd.kind = 5 ∨ nd.kind = 6) : RAh at_ cols nd ks := by
  intro w B ka kl kc hB tv
  have b0 := ext_alloc (Below.refl _ w) (.cells #[.int .i64 nd.kind, .int .i64 nd.op, .int .i64 nd.num, .string ⟨nd.text.toArray⟩, .int .i64 nd.ref.row, .int .i64 nd.ref.col, .bool nd.ref.pr, .bool nd.ref.pc, .int .i64 nd.to.row, .int .i64 nd.to.col, .bool nd.to.pr, .bool nd.to.pc, .int .i64 nd.fn, .slice ka kl kc] 29)
  have B0 := Lib.hid b0
  have HE := Lib.hid (show aheadB (colO cols) at_ nd ks = (decide (co (colO cols) nd.ref < at_) && (decide (co (colO cols) nd.to < at_) || decide (nd.kind = 5))) by rw [aheadB, if_pos hk]; rfl)
  clear tv b0
  rw [HE.out]
  have kk : ((nd.kind == 5) = true ∧ decide (nd.kind = 5) = true) ∨ ((nd.kind == 5) = false ∧ (nd.kind == 6) = true ∧ decide (nd.kind = 5) = false) := by
    rcases hk with k | k
    · exact .inl ⟨by simp [k], by simp [k]⟩
    · exact .inr ⟨by simp [k], by simp [k], by simp [k]⟩
  clear hk HE
  cases cols
  · rw [show co (colO false) nd.ref = nd.ref.row from rfl, show co (colO false) nd.to = nd.to.row from rfl]
    rcases kk with ⟨k5, k⟩ | ⟨k5, k6, k⟩
    all_goals
      rw [k]
      clear k
      by_cases c1 : nd.ref.row < at_
      · by_cases c2 : nd.to.row < at_
        · go_enter Try.func42, Try.ntmps42
          go_wp2_with fail
          go_quiet (fail)
          go_wp2
          go_ret
          exact ⟨ret_bool (by simp <;> omega), ext_drewN B0.out _⟩
        · go_enter Try.func42, Try.ntmps42
          go_wp2_with fail
          go_quiet (fail)
          go_wp2
          go_ret
          exact ⟨ret_bool (by simp <;> omega), ext_drewN B0.out _⟩
      · go_enter Try.func42, Try.ntmps42
        go_wp2_with fail
        go_quiet (fail)
        go_wp2
        go_ret
        exact ⟨ret_bool (by simp <;> omega), ext_drewN B0.out _⟩
  · rw [show co (colO true) nd.ref = nd.ref.col from rfl, show co (colO true) nd.to = nd.to.col from rfl]
    rcases kk with ⟨k5, k⟩ | ⟨k5, k6, k⟩
    all_goals
      rw [k]
      clear k
      by_cases c1 : nd.ref.col < at_
      · by_cases c2 : nd.to.col < at_
        · go_enter Try.func42, Try.ntmps42
          go_wp2_with fail
          go_quiet (fail)
          go_wp2_with fail
          go_quiet (fail)
          go_wp2
          go_ret
          exact ⟨ret_bool (by simp <;> omega), by first | exact ext_drewN (ext_drewN B0.out _) _ | exact ext_drewN B0.out _⟩
        · go_enter Try.func42, Try.ntmps42
          go_wp2_with fail
          go_quiet (fail)
          go_wp2_with fail
          go_quiet (fail)
          go_wp2
          go_ret
          exact ⟨ret_bool (by simp <;> omega), by first | exact ext_drewN (ext_drewN B0.out _) _ | exact ext_drewN B0.out _⟩
      · go_enter Try.func42, Try.ntmps42
        go_wp2_with fail
        go_quiet (fail)
        go_wp2_with fail
        go_quiet (fail)
        go_wp2
        go_ret
        exact ⟨ret_bool (by simp <;> omega), by first | exact ext_drewN (ext_drewN B0.out _) _ | exact ext_drewN B0.out _⟩

set_option maxRecDepth 100000 in
set_option maxHeartbeats 4000000 in
theorem ahead_step (at_ : Int) (cols : Bool) (nd : Hd) (ks : Trees) (ih : AllT (RAh at_ cols) ks) : RAh at_ cols nd ks := by
  by_cases hk : nd.kind = 5 ∨ nd.kind = 6
  · exact ahead_ref at_ cols nd ks hk
  intro w B ka kl kc hB tv
  have hm := tv.max
  have b0 := ext_alloc (Below.refl _ w) (.cells #[.int .i64 nd.kind, .int .i64 nd.op, .int .i64 nd.num, .string ⟨nd.text.toArray⟩, .int .i64 nd.ref.row, .int .i64 nd.ref.col, .bool nd.ref.pr, .bool nd.ref.pc, .int .i64 nd.to.row, .int .i64 nd.to.col, .bool nd.to.pr, .bool nd.to.pc, .int .i64 nd.fn, .slice ka kl kc] 29)
  have B0 := Lib.hid b0
  have HT := Lib.hid (tv.kept (b0.mono hB) (Nat.le_refl _))
  have HI := Lib.hid ih
  have HL := Lib.hid tv.len
  have HA0 := Lib.hid (show aheadB (colO cols) at_ nd ks = aheadT (colO cols) at_ ks by rw [aheadB, if_neg hk])
  have k5 : (nd.kind == 5) = false := by simp; omega
  have k6 : (nd.kind == 6) = false := by simp; omega
  rw [HA0.out]
  clear ih tv b0 hk
  go_enter Try.func42, Try.ntmps42
  go_wp2_with fail
  clear k5 k6
  go_loopw [9] (fun i wr => AhRel at_ cols nd ks kl kc B ka w wr i) (fun i _ => kl - (intOf i).toNat)
  case atStart => exact ⟨0, ks, rfl, Lib.hid (by have := HL.out; omega), HT.out.row, HI.out, Below.refl _ _, Lib.hid rfl⟩
  case round =>
    obtain ⟨j, rest, rfl, HJ, hrow, hall, hbel, HX⟩ := hrel
    obtain ⟨hz, cb⟩ := kept_block hbel
    have BW := Lib.hid (B0.out.trans (hbel.mono B0.out.size))
    have HB := Lib.hid hbel
    have hlen := HJ.out
    by_cases hlt : j < kl
    · obtain ⟨h', k', r', rfl⟩ := trees_cons (rest := rest) (by omega)
      obtain ⟨b1, off, ka', kl', kc', rfl, hb1, N1, tv1⟩ := hrow.head
      obtain ⟨hl1, d0, d1, d2, d3, d4, d5, d6, d7, d8, d9, d10, d11, d12, d13, y5, y6, y7, y9, y10, y11⟩ := N1.facts
      have CC := Lib.hid (hall.1 wr B ka' kl' kc' (by omega) tv1)
      have HA := Lib.hid hall.2; have HR := Lib.hid hrow.2
      have hji : (j : Int) < (kl : Int) := by omega
      obtain ⟨z, hz'⟩ : ∃ z, aheadB (colO cols) at_ h' k' = z := ⟨_, rfl⟩
      have hxx : (z && aheadT (colO cols) at_ r') = aheadT (colO cols) at_ ks := by have := HX.out; rw [← hz']; exact this
      have HXX := Lib.hid hxx
      rw [hz'] at CC
      clear y5 y6 y7 y9 y10 y11 hlen hall hrow N1 tv1 hbel hz' hxx
      go_wp2_with fail
      refine CC.out.mono ?_
      rintro e w2 ⟨rfl, b2⟩
      have HR2 := Lib.hid (HR.out.kept (b2.mono (by omega)) (Nat.le_refl _))
      have B2 := Lib.hid (HB.out.trans (b2.mono HB.out.size))
      have HJ2 := Lib.hid (show (j + 1) + r'.len = kl by have := HJ.out; simp only [Trees.len] at this; omega)
      have BE := Lib.hid (BW.out.trans (b2.mono BW.out.size))
      clear b2 cb d0 d1 d2 d3 d4 d5 d6 d7 d8 d9 d10 d11 d12 d13
      cases z
      · have hf := HXX.out
        rw [Bool.false_and] at hf
        have HF := Lib.hid hf
        clear hf
        go_wp2
        go_ret
        exact ⟨ret_bool HF.out, BE.out⟩
      · go_wp2
        exact ⟨⟨j + 1, r', by go_num, HJ2, HR2.out, HA.out, B2.out, Lib.hid (by have := HXX.out; rwa [Bool.true_and] at this)⟩, by simp [intOf]; have := HJ2.out; omega⟩
    · have hz : rest.len = 0 := by omega
      obtain rfl := trees_nil hz
      go_wp2
      go_ret
      exact ⟨ret_bool (show true = _ from HX.out), BW.out⟩
theorem ahead_any (at_ : Int) (cols : Bool) (h : Hd) (ks : Trees) : RAh at_ cols h ks := ahead_step at_ cols h ks (allT (ahead_step at_ cols) ks)
end Go.Proofs.Ytkjfeakbhfkldaa
/- Shifting: two trees in two boxes, and a box that is written; the law's call of a tree that may be. -/
namespace Go.Proofs.Ytkjfeakbhfkldaa
open Go.RowKit

/-- Two trees in two boxes, both off the block No. -/
structure PQ (w0 : World) (No : Nat) (h : Hd) (ks : Trees) (a : Option Addr) (l c N : Nat) (h' : Hd) (ks' : Trees) (a' : Option Addr) (l' c' N' : Nat) (W : World) : Prop where
  bel : Below w0.heap.size w0 W
  b1 : W.heap[N]? = some (.cells #[.int .i64 h.kind, .int .i64 h.op, .int .i64 h.num, .string ⟨h.text.toArray⟩, .int .i64 h.ref.row, .int .i64 h.ref.col, .bool h.ref.pr, .bool h.ref.pc, .int .i64 h.to.row, .int .i64 h.to.col, .bool h.to.pr, .bool h.to.pc, .int .i64 h.fn, .slice a l c] 29)
  b2 : W.heap[N']? = some (.cells #[.int .i64 h'.kind, .int .i64 h'.op, .int .i64 h'.num, .string ⟨h'.text.toArray⟩, .int .i64 h'.ref.row, .int .i64 h'.ref.col, .bool h'.ref.pr, .bool h'.ref.pc, .int .i64 h'.to.row, .int .i64 h'.to.col, .bool h'.to.pr, .bool h'.to.pc, .int .i64 h'.fn, .slice a' l' c'] 29)
  ok1 : h.ok
  own1 : ∃ F, OwnV W ks (.slice a l c) F ∧ ∀ b ∈ F, b < W.heap.size ∧ b ≠ No
  x2 : TreeX W (fun b => b < W.heap.size ∧ b ≠ No) h' ks' a' l'
theorem PQ.t1 {w0 : World} {No : Nat} {h h' : Hd} {ks ks' : Trees} {a a' : Option Addr} {l l' c c' N N' : Nat} {W : World} (p : PQ w0 No h ks a l c N h' ks' a' l' c' N' W) : TreeV W W.heap.size h ks a l := by
  obtain ⟨F, o, hF⟩ := p.own1
  obtain ⟨ka, kc, e, t⟩ := o.tree (Nat.le_refl _) (fun b hb => (hF b hb).1) p.ok1
  simp only [Value.slice.injEq] at e
  obtain ⟨rfl, rfl, rfl⟩ := e
  exact t
theorem PQ.t2 {w0 : World} {No : Nat} {h h' : Hd} {ks ks' : Trees} {a a' : Option Addr} {l l' c c' N N' : Nat} {W : World} (p : PQ w0 No h ks a l c N h' ks' a' l' c' N' W) : TreeV W W.heap.size h' ks' a' l' := p.x2.to fun _ hb => hb.1
theorem PQ.step {w0 : World} {No : Nat} {h h' : Hd} {ks ks' : Trees} {a a' : Option Addr} {l l' c c' N N' : Nat} {W : World} {W' : World} (p : PQ w0 No h ks a l c N h' ks' a' l' c' N' W) (b : Below W.heap.size W W') : PQ w0 No h ks a l c N h' ks' a' l' c' N' W' :=
  ⟨p.bel.trans (b.mono p.bel.size), (b.block _ (lt_of_block p.b1)).trans p.b1, (b.block _ (lt_of_block p.b2)).trans p.b2, p.ok1, (by
    obtain ⟨F, o, hF⟩ := p.own1
    exact ⟨F, o.kept fun k hk => b.block k (hF k hk).1, fun k hk => ⟨Nat.lt_of_lt_of_le (hF k hk).1 b.size, (hF k hk).2⟩⟩), p.x2.kept fun k hk => ⟨⟨Nat.lt_of_lt_of_le hk.1 b.size, hk.2⟩, b.block k hk.1⟩⟩
/-- What both trees are once the block No was written. -/
theorem PQ.sets {w0 : World} {No : Nat} {h h' : Hd} {ks ks' : Trees} {a a' : Option Addr} {l l' c c' N N' : Nat} {W : World} {W' : World} (p : PQ w0 No h ks a l c N h' ks' a' l' c' N' W) (s : Sets (fun b => b = No) W W') : TreeV W' W'.heap.size h ks a l ∧ TreeV W' W'.heap.size h' ks' a' l' := by
  refine ⟨?_, (p.x2.kept (ok' := fun b => b < W'.heap.size) fun b hb => ⟨by rw [s.size]; exact hb.1, s.same b hb.2⟩).to fun _ h => h⟩
  obtain ⟨F, o, hF⟩ := p.own1
  obtain ⟨ka, kc, e, t⟩ := (o.kept fun b hb => s.same b (hF b hb).2).tree (Nat.le_refl _) (fun b hb => by rw [s.size]; exact (hF b hb).1) p.ok1
  simp only [Value.slice.injEq] at e
  obtain ⟨rfl, rfl, rfl⟩ := e
  exact t
theorem Sets.cells {P : Nat → Prop} {w w' : World} (s : Sets P w w') {N : Nat} (hp : P N) : ∀ (vs : List Value) (o : Nat), Sets P w (w'.setCells N o vs)
  | [], _ => s
  | v :: r, o => (s.set (p := ⟨N, o, none⟩) hp v).cells hp r (o + 1)

theorem callx_rows (nd : Hd) (ks : Trees) (x y : Int) (hm : mayE nd ks = 0) (hx : I64 x) (hy : I64 y) (hr : 0 ≤ x ∧ x < 65536) (w : World) (B B' : Nat) (ka a : Option Addr) (kl kc l c : Nat) (hB : B ≤ w.heap.size) (hB' : B' ≤ w.heap.size) (tv : TreeV w B nd ks ka kl) (tv' : TreeV w B' nd ks a l) :
    Calls Try.prog 33 #[.agg #[.int .i64 2, .int .i64 nd.kind, .int .i64 nd.op, .int .i64 nd.num, .string ⟨nd.text.toArray⟩, .int .i64 nd.ref.row, .int .i64 nd.ref.col, .bool nd.ref.pr, .bool nd.ref.pc, .int .i64 nd.to.row, .int .i64 nd.to.col, .bool nd.to.pr, .bool nd.to.pc, .int .i64 nd.fn, .slice a l c, .int .i64 x, .int .i64 y], .agg #[.int .i64 nd.kind, .int .i64 nd.op, .int .i64 nd.num, .string ⟨nd.text.toArray⟩, .int .i64 nd.ref.row, .int .i64 nd.ref.col, .bool nd.ref.pr, .bool nd.ref.pc, .int .i64 nd.to.row, .int .i64 nd.to.col, .bool nd.to.pr, .bool nd.to.pc, .int .i64 nd.fn, .slice ka kl kc]] w fun e w' => ∃ (g : Hd) (gk : Trees) (pa qa : Option Addr) (pl pc ql qc : Nat) (F : List Nat), g = mvH ⟨2, 0, 0, x, y⟩ nd ∧ gk = mvK ⟨2, 0, 0, x, y⟩ ks ∧ 
      e = .returned (.tuple #[.agg #[.int .i64 g.kind, .int .i64 g.op, .int .i64 g.num, .string ⟨g.text.toArray⟩, .int .i64 g.ref.row, .int .i64 g.ref.col, .bool g.ref.pr, .bool g.ref.pc, .int .i64 g.to.row, .int .i64 g.to.col, .bool g.to.pr, .bool g.to.pc, .int .i64 g.fn, .slice pa pl pc], .int .i64 0, .agg #[.int .i64 g.kind, .int .i64 g.op, .int .i64 g.num, .string ⟨g.text.toArray⟩, .int .i64 g.ref.row, .int .i64 g.ref.col, .bool g.ref.pr, .bool g.ref.pc, .int .i64 g.to.row, .int .i64 g.to.col, .bool g.to.pr, .bool g.to.pc, .int .i64 g.fn, .slice qa ql qc], .int .i64 0]) ∧ Below w.heap.size w w' ∧ Fresh w' w.heap.size gk (.slice pa pl pc) F ∧ TreeX w' (OkR w B' w') g gk qa ql :=
  (call_rows nd nd ks ks x y w B B' ka a kl kc l c hB hB' tv tv' hx hy).mono fun e w' q => by
    obtain ⟨b, g, g', gk, gk', pa, qa, pl, pc, ql, qc, hg, hg', he, ⟨F, f⟩, tx⟩ := q
    obtain ⟨rfl, rfl⟩ := hg.one hg'
    have s : shErr ⟨2, 0, 0, x, y⟩ nd ks = 0 := by rw [shErr, if_neg (by simp [hm]), if_neg (by simp; omega)]
    rcases hg with ⟨-, e1, e2⟩ | ⟨ne, -⟩
    · exact ⟨_, _, pa, qa, pl, pc, ql, qc, F, e1, e2, by rw [he, s], b, f, tx⟩
    · exact absurd s ne

theorem callb_rows (nd : Hd) (ks : Trees) (x y : Int) (hm : mayE nd ks = 0) (hx : I64 x) (hy : I64 y) (hr : 65536 ≤ x) (w : World) (B B' : Nat) (ka a : Option Addr) (kl kc l c : Nat) (hB : B ≤ w.heap.size) (hB' : B' ≤ w.heap.size) (tv : TreeV w B nd ks ka kl) (tv' : TreeV w B' nd ks a l) :
    Calls Try.prog 33 #[.agg #[.int .i64 2, .int .i64 nd.kind, .int .i64 nd.op, .int .i64 nd.num, .string ⟨nd.text.toArray⟩, .int .i64 nd.ref.row, .int .i64 nd.ref.col, .bool nd.ref.pr, .bool nd.ref.pc, .int .i64 nd.to.row, .int .i64 nd.to.col, .bool nd.to.pr, .bool nd.to.pc, .int .i64 nd.fn, .slice a l c, .int .i64 x, .int .i64 y], .agg #[.int .i64 nd.kind, .int .i64 nd.op, .int .i64 nd.num, .string ⟨nd.text.toArray⟩, .int .i64 nd.ref.row, .int .i64 nd.ref.col, .bool nd.ref.pr, .bool nd.ref.pc, .int .i64 nd.to.row, .int .i64 nd.to.col, .bool nd.to.pr, .bool nd.to.pc, .int .i64 nd.fn, .slice ka kl kc]] w fun e w' => ∃ (g : Hd) (gk : Trees) (pa qa : Option Addr) (pl pc ql qc : Nat) (F : List Nat), 
      e = .returned (.tuple #[.agg #[.int .i64 g.kind, .int .i64 g.op, .int .i64 g.num, .string ⟨g.text.toArray⟩, .int .i64 g.ref.row, .int .i64 g.ref.col, .bool g.ref.pr, .bool g.ref.pc, .int .i64 g.to.row, .int .i64 g.to.col, .bool g.to.pr, .bool g.to.pc, .int .i64 g.fn, .slice pa pl pc], .int .i64 1, .agg #[.int .i64 g.kind, .int .i64 g.op, .int .i64 g.num, .string ⟨g.text.toArray⟩, .int .i64 g.ref.row, .int .i64 g.ref.col, .bool g.ref.pr, .bool g.ref.pc, .int .i64 g.to.row, .int .i64 g.to.col, .bool g.to.pr, .bool g.to.pc, .int .i64 g.fn, .slice qa ql qc], .int .i64 1]) ∧ Below w.heap.size w w' ∧ Fresh w' w.heap.size gk (.slice pa pl pc) F ∧ TreeX w' (OkR w B' w') g gk qa ql :=
  (call_rows nd nd ks ks x y w B B' ka a kl kc l c hB hB' tv tv' hx hy).mono fun e w' q => by
    obtain ⟨b, g, g', gk, gk', pa, qa, pl, pc, ql, qc, hg, hg', he, ⟨F, f⟩, tx⟩ := q
    obtain ⟨rfl, rfl⟩ := hg.one hg'
    have s : shErr ⟨2, 0, 0, x, y⟩ nd ks = 1 := by rw [shErr, if_neg (by simp [hm]), if_pos (by simp; omega)]
    exact ⟨_, _, pa, qa, pl, pc, ql, qc, F, by rw [he, s], b, f, tx⟩

theorem callx_cols (nd : Hd) (ks : Trees) (x y : Int) (hm : mayE nd ks = 0) (hx : I64 x) (hy : I64 y) (hr : 0 ≤ x ∧ x < 702) (w : World) (B B' : Nat) (ka a : Option Addr) (kl kc l c : Nat) (hB : B ≤ w.heap.size) (hB' : B' ≤ w.heap.size) (tv : TreeV w B nd ks ka kl) (tv' : TreeV w B' nd ks a l) :
    Calls Try.prog 33 #[.agg #[.int .i64 3, .int .i64 nd.kind, .int .i64 nd.op, .int .i64 nd.num, .string ⟨nd.text.toArray⟩, .int .i64 nd.ref.row, .int .i64 nd.ref.col, .bool nd.ref.pr, .bool nd.ref.pc, .int .i64 nd.to.row, .int .i64 nd.to.col, .bool nd.to.pr, .bool nd.to.pc, .int .i64 nd.fn, .slice a l c, .int .i64 x, .int .i64 y], .agg #[.int .i64 nd.kind, .int .i64 nd.op, .int .i64 nd.num, .string ⟨nd.text.toArray⟩, .int .i64 nd.ref.row, .int .i64 nd.ref.col, .bool nd.ref.pr, .bool nd.ref.pc, .int .i64 nd.to.row, .int .i64 nd.to.col, .bool nd.to.pr, .bool nd.to.pc, .int .i64 nd.fn, .slice ka kl kc]] w fun e w' => ∃ (g : Hd) (gk : Trees) (pa qa : Option Addr) (pl pc ql qc : Nat) (F : List Nat), g = mvH ⟨3, 0, 0, x, y⟩ nd ∧ gk = mvK ⟨3, 0, 0, x, y⟩ ks ∧ 
      e = .returned (.tuple #[.agg #[.int .i64 g.kind, .int .i64 g.op, .int .i64 g.num, .string ⟨g.text.toArray⟩, .int .i64 g.ref.row, .int .i64 g.ref.col, .bool g.ref.pr, .bool g.ref.pc, .int .i64 g.to.row, .int .i64 g.to.col, .bool g.to.pr, .bool g.to.pc, .int .i64 g.fn, .slice pa pl pc], .int .i64 0, .agg #[.int .i64 g.kind, .int .i64 g.op, .int .i64 g.num, .string ⟨g.text.toArray⟩, .int .i64 g.ref.row, .int .i64 g.ref.col, .bool g.ref.pr, .bool g.ref.pc, .int .i64 g.to.row, .int .i64 g.to.col, .bool g.to.pr, .bool g.to.pc, .int .i64 g.fn, .slice qa ql qc], .int .i64 0]) ∧ Below w.heap.size w w' ∧ Fresh w' w.heap.size gk (.slice pa pl pc) F ∧ TreeX w' (OkR w B' w') g gk qa ql :=
  (call_cols nd nd ks ks x y w B B' ka a kl kc l c hB hB' tv tv' hx hy 3 (by decide) (by decide)).mono fun e w' q => by
    obtain ⟨b, g, g', gk, gk', pa, qa, pl, pc, ql, qc, hg, hg', he, ⟨F, f⟩, tx⟩ := q
    obtain ⟨rfl, rfl⟩ := hg.one hg'
    have s : shErr ⟨3, 0, 0, x, y⟩ nd ks = 0 := by rw [shErr, if_neg (by simp [hm]), if_neg (by simp; omega)]
    rcases hg with ⟨-, e1, e2⟩ | ⟨ne, -⟩
    · exact ⟨_, _, pa, qa, pl, pc, ql, qc, F, e1, e2, by rw [he, s], b, f, tx⟩
    · exact absurd s ne

theorem callb_cols (nd : Hd) (ks : Trees) (x y : Int) (hm : mayE nd ks = 0) (hx : I64 x) (hy : I64 y) (hr : 702 ≤ x) (w : World) (B B' : Nat) (ka a : Option Addr) (kl kc l c : Nat) (hB : B ≤ w.heap.size) (hB' : B' ≤ w.heap.size) (tv : TreeV w B nd ks ka kl) (tv' : TreeV w B' nd ks a l) :
    Calls Try.prog 33 #[.agg #[.int .i64 3, .int .i64 nd.kind, .int .i64 nd.op, .int .i64 nd.num, .string ⟨nd.text.toArray⟩, .int .i64 nd.ref.row, .int .i64 nd.ref.col, .bool nd.ref.pr, .bool nd.ref.pc, .int .i64 nd.to.row, .int .i64 nd.to.col, .bool nd.to.pr, .bool nd.to.pc, .int .i64 nd.fn, .slice a l c, .int .i64 x, .int .i64 y], .agg #[.int .i64 nd.kind, .int .i64 nd.op, .int .i64 nd.num, .string ⟨nd.text.toArray⟩, .int .i64 nd.ref.row, .int .i64 nd.ref.col, .bool nd.ref.pr, .bool nd.ref.pc, .int .i64 nd.to.row, .int .i64 nd.to.col, .bool nd.to.pr, .bool nd.to.pc, .int .i64 nd.fn, .slice ka kl kc]] w fun e w' => ∃ (g : Hd) (gk : Trees) (pa qa : Option Addr) (pl pc ql qc : Nat) (F : List Nat), 
      e = .returned (.tuple #[.agg #[.int .i64 g.kind, .int .i64 g.op, .int .i64 g.num, .string ⟨g.text.toArray⟩, .int .i64 g.ref.row, .int .i64 g.ref.col, .bool g.ref.pr, .bool g.ref.pc, .int .i64 g.to.row, .int .i64 g.to.col, .bool g.to.pr, .bool g.to.pc, .int .i64 g.fn, .slice pa pl pc], .int .i64 1, .agg #[.int .i64 g.kind, .int .i64 g.op, .int .i64 g.num, .string ⟨g.text.toArray⟩, .int .i64 g.ref.row, .int .i64 g.ref.col, .bool g.ref.pr, .bool g.ref.pc, .int .i64 g.to.row, .int .i64 g.to.col, .bool g.to.pr, .bool g.to.pc, .int .i64 g.fn, .slice qa ql qc], .int .i64 1]) ∧ Below w.heap.size w w' ∧ Fresh w' w.heap.size gk (.slice pa pl pc) F ∧ TreeX w' (OkR w B' w') g gk qa ql :=
  (call_cols nd nd ks ks x y w B B' ka a kl kc l c hB hB' tv tv' hx hy 3 (by decide) (by decide)).mono fun e w' q => by
    obtain ⟨b, g, g', gk, gk', pa, qa, pl, pc, ql, qc, hg, hg', he, ⟨F, f⟩, tx⟩ := q
    obtain ⟨rfl, rfl⟩ := hg.one hg'
    have s : shErr ⟨3, 0, 0, x, y⟩ nd ks = 1 := by rw [shErr, if_neg (by simp [hm]), if_pos (by simp; omega)]
    exact ⟨_, _, pa, qa, pl, pc, ql, qc, F, by rw [he, s], b, f, tx⟩
end Go.Proofs.Ytkjfeakbhfkldaa
