/- Shifting in place: rows or columns are taken out. -/
import Derived.Test.YtkjfeakbhfkldaaMhI
namespace Go.Proofs.Ytkjfeakbhfkldaa
open Go.RowKit

/-- The boxes that the mover reads. -/
structure OutE (wval : Value) (W G F K : Nat) (a m : Int) (w : World) : Prop where
  wh : w.heap[W]? = some (.cells #[wval] 101 (0, 0))
  pg : w.heap[G]? = some (.cells #[.func (.func 87) #[] #[.pointer (some ⟨F, 0, none⟩), .pointer (some ⟨K, 0, none⟩)]] 103 (0, 0))
  pf : w.heap[F]? = some (.cells #[.int .i64 a] 3 (0, 0))
  pk : w.heap[K]? = some (.cells #[.int .i64 m] 3 (0, 0))
/-- One reference, whose coordinate is x now. -/
structure Row1 (lim b L : Nat) (pre post : List Value) (o : Nat) (r : RefT) (w : World) (x : Int) (wr : World) : Prop where
  chg : Chg lim b w wr
  blk : wr.heap[b]? = some (.cells (pre ++ ((setCo o r x).vals ++ post)).toArray 29 (0, 0))
  lst : wr.heap[L]? = some (.cells #[.pointer (some ⟨b, pre.length + o, none⟩), .pointer none] 98 (0, 0))
theorem Row1.set {lim b L : Nat} {pre post : List Value} {o : Nat} {r : RefT} {w wr : World} {x : Int} (h : Row1 lim b L pre post o r w x wr) (ho : o ≤ 1) (hb : lim ≤ b) (hL : L ≠ b) (v : Int) : Row1 lim b L pre post o r w v (wr.setCell ⟨b, pre.length + o, none⟩ (.int .i64 v)) :=
  ⟨h.chg.set hb _ _, by rw [set_co ho v h.blk, set_set], (Below.heap_setCell _ _ _ _ (by simpa using hL)).trans h.lst⟩
theorem Row1.drewN {lim b L : Nat} {pre post : List Value} {o : Nat} {r : RefT} {w wr : World} {x : Int} (h : Row1 lim b L pre post o r w x wr) (n : Nat) : Row1 lim b L pre post o r w x (wr.drewN n) := ⟨h.chg.drewN n, h.blk, h.lst⟩
theorem Row1.drew {lim b L : Nat} {pre post : List Value} {o : Nat} {r : RefT} {w wr : World} {x : Int} (h : Row1 lim b L pre post o r w x wr) : Row1 lim b L pre post o r w x wr.drew := ⟨h.chg.drew, h.blk, h.lst⟩
theorem Row1.at0 {lim b L : Nat} {pre post : List Value} {o : Nat} {r : RefT} {w wr : World} {x : Int} (h : Row1 lim b L pre post o r w x wr) (ho : o ≤ 1) : wr.cell? ⟨b, pre.length + o, none⟩ = some (.int .i64 x) := by
  have := at_co ho h.blk; rwa [co_set] at this
theorem Row1.facts {lim b L : Nat} {pre post : List Value} {o : Nat} {r : RefT} {w wr : World} {x : Int} (h : Row1 lim b L pre post o r w x wr) (ho : o ≤ 1) {wval : Value} {W G F K : Nat} {a m : Int} (hL : W < lim ∧ G < lim ∧ F < lim ∧ K < lim) (hE : OutE wval W G F K a m w) :
    wr.cell? ⟨b, pre.length + o, none⟩ = some (.int .i64 x) ∧ wr.cell? ⟨L, 0, none⟩ = some (.pointer (some ⟨b, pre.length + o, none⟩)) ∧ wr.cell? ⟨G, 0, none⟩ = some (.func (.func 87) #[] #[.pointer (some ⟨F, 0, none⟩), .pointer (some ⟨K, 0, none⟩)]) ∧ wr.cell? ⟨F, 0, none⟩ = some (.int .i64 a) ∧ wr.cell? ⟨K, 0, none⟩ = some (.int .i64 m) ∧ ∀ i, wr.frozen? ⟨b, i, none⟩ = false :=
  ⟨h.at0 ho, (cells_of_block h.lst 0).trans rfl, (cells_of_block ((h.chg.1.block G hL.2.1).trans hE.pg) 0).trans rfl, (cells_of_block ((h.chg.1.block F hL.2.2.1).trans hE.pf) 0).trans rfl, (cells_of_block ((h.chg.1.block K hL.2.2.2).trans hE.pk) 0).trans rfl, fun i => frees_of_block h.blk i⟩
theorem gone_is {w : World} {f n : Nat} {c at_ many : Int} {q : Bool} (e : inG at_ many c = q) (hf : w.cell? ⟨f, 0, none⟩ = some (.int .i64 at_)) (hn : w.cell? ⟨n, 0, none⟩ = some (.int .i64 many)) (h0 : 0 ≤ at_) (h1 : at_ ≤ 65536) (h2 : 0 ≤ many) (h3 : many ≤ 65536) :
    Calls Try.prog 87 #[.int .i64 c, .pointer (some ⟨f, 0, none⟩), .pointer (some ⟨n, 0, none⟩)] w fun e w' => e = .returned (.bool q) ∧ w' = w :=
  (lines2_any w f n c at_ many hf hn h0 h1 h2 h3).mono fun e' w' h => ⟨by rw [h.1]; unfold inG at e; rw [e], h.2⟩
theorem infoPI : (Try.prog.info? 98).map (fun i => (i.zero, i.size, i.bytes)) = some (some (.pointer none), 1, 8) := by kernel_rfl
theorem make2 (w : World) : (Instr.makeSlice 115 (.int .i64 0) (.int .i64 2)).run Try.prog w = .ok (.slice (some ⟨w.heap.size, 0, none⟩) 0 2) (w.alloc (.cells #[.pointer none, .pointer none] 98)) := by
  obtain ⟨i, hi, h1, h2, h3⟩ := info_parts infoPI
  have := run_make (P := Try.prog) w 115 98 i (.pointer none) Try.underlying115 hi h1 .i64 .i64 0 2 (by decide) (by decide) (by rw [h3]; decide) (by decide)
  have e : madeCells (Value.pointer none).cells (Int.toNat 2 * 1) = #[.pointer none, .pointer none] := by kernel_rfl
  rw [h2, e] at this
  exact this

set_option maxRecDepth 100000 in
set_option maxHeartbeats 4000000 in
theorem rem_one {wval : Value} {f : FuncId} {o : Nat} (hw : WhSpec wval f o) (ho : o ≤ 1) (lim W G F K : Nat) (a m : Int) (hL : W < lim ∧ G < lim ∧ F < lim ∧ K < lim) (ha : 0 ≤ a ∧ a ≤ 65536) (hm : 0 ≤ m ∧ m ≤ 65536) (w : World) (b g : Nat) (pre post : List Value) (r : RefT) (hE : OutE wval W G F K a m w) (hb : w.heap[b]? = some (.cells (pre ++ (r.vals ++ post)).toArray 29 (0, 0)))
    (hg : w.heap[g]? = some (.cells #[.pointer (some ⟨b, pre.length, none⟩)] 96 (0, 0))) (_ : g ≠ b) (hlb : lim ≤ b) (hp : placeB r = true) :
    Calls Try.prog 88 #[.slice (some ⟨g, 0, none⟩) 1 1, .pointer (some ⟨W, 0, none⟩), .pointer (some ⟨G, 0, none⟩), .pointer (some ⟨F, 0, none⟩), .pointer (some ⟨K, 0, none⟩)] w fun e w' => ∃ q r', e = .returned (.bool q) ∧ Chg lim b w w' ∧ w'.heap[b]? = some (.cells (pre ++ (r'.vals ++ post)).toArray 29 (0, 0)) ∧ rem1 o a m r = (if q = true then some r' else none) := by
  obtain rfl := hw.val
  have HW := Lib.hid hw; have HE := Lib.hid hE; have HB := Lib.hid hb; have HG := Lib.hid hg
  have pq := place_co (o := o) hp
  have hltg := lt_of_block hg
  have hltb := lt_of_block hb
  have hlw : lim ≤ w.heap.size := by omega
  have mm := mostO_le o
  have hLb : w.heap.size ≠ b := by omega
  clear hb hg hE hp hw
  go_enter Try.func88, Try.ntmps88
  go_wp2_with (rw [make2])
  go_loopw [7, 19] (fun l i wr => (i = .int .i64 0 ∧ l = .slice (some ⟨w.heap.size, 0, none⟩) 0 2 ∧ wr = w.alloc (.cells #[.pointer none, .pointer none] 98)) ∨ (i = .int .i64 1 ∧ l = .slice (some ⟨w.heap.size, 0, none⟩) 1 2 ∧ Row1 lim b w.heap.size pre post o r w (co o r) wr)) (fun _ i _ => 2 - (intOf i).toNat)
  case atStart => exact .inl ⟨rfl, rfl, rfl⟩
  case round =>
    rcases hrel with ⟨rfl, rfl, rfl⟩ | ⟨rfl, rfl, hr⟩
    · have cg0 := cells_of_block ((Below.heap_alloc w (.cells #[.pointer none, .pointer none] 98) g hltg).trans HG.out) 0
      have cW := cells_of_block ((Below.heap_alloc w (.cells #[.pointer none, .pointer none] 98) W (by omega)).trans HE.out.wh) 0
      simp at cg0 cW
      go_wp2_with fail
      rw [HW.out.run, Oper.upon_enter]
      refine (HW.out.call _ _ _).mono ?_
      rintro e w2 ⟨rfl, rfl⟩
      go_wp2_with fail
      refine ⟨.inr ⟨rfl, rfl, ((Chg.refl lim b w).alloc hlw _).alloc hlw _, ?_, ?_⟩, by simp [intOf]⟩
      · rw [setCo_self]
        exact (Below.heap_alloc _ _ _ (by simp; omega)).trans ((Below.heap_alloc _ _ _ hltb).trans HB.out)
      · exact (Below.heap_alloc _ _ _ (by simp)).trans (heap_alloc_new _ _)
    · obtain ⟨d0, dL, dG, dF, dK, fb⟩ := hr.facts ho hL HE.out
      have HR := Lib.hid hr
      clear hr
      cases q : inG a m (co o r)
      · have Q := Lib.hid q
        have AG := Lib.hid fun (W : World) h h' => gone_is (w := W) (f := F) (n := K) q h h' ha.1 ha.2 hm.1 hm.2
        clear q
        go_wp2_with fail
        go_quiet (first
          | (go_at_call 87
             refine Calls.quiet_of_same (AG.out _ (by simp [dF]) (by simp [dK]))))
        go_wp2_with fail
        go_loopw [52] (fun i W => (i = .int .i64 0 ∨ i = .int .i64 1) ∧ Row1 lim b w.heap.size pre post o r w (co o r) W) (fun i _ => 2 - (intOf i).toNat)
        case atStart => exact ⟨.inl rfl, HR.out.drewN _⟩
        case round =>
          obtain ⟨rfl | rfl, hr⟩ := hrel
          · obtain ⟨d0, dL, dG, dF, dK, fb⟩ := hr.facts ho hL HE.out
            have HR := Lib.hid hr
            clear hr
            go_wp2_with fail
            go_quiet (first
              | (go_at_call 87
                 refine Calls.quiet_of_same (AG.out _ (by simp [dF]) (by simp [dK]))))
            go_wp2
            exact ⟨⟨.inr rfl, HR.out.drewN _⟩, by simp [intOf]⟩
          · have HR := Lib.hid hr
            clear hr
            go_wp2_with fail
            go_loopw [87] (fun i W => (i = .int .i64 0 ∧ Row1 lim b w.heap.size pre post o r w (co o r) W) ∨ (i = .int .i64 1 ∧ Row1 lim b w.heap.size pre post o r w (cutM a m (co o r)) W)) (fun i _ => 2 - (intOf i).toNat)
            case atStart => exact .inl ⟨rfl, HR.out⟩
            case round =>
              rcases hrel with ⟨rfl, hr⟩ | ⟨rfl, hr⟩
              · obtain ⟨d0, dL, dG, dF, dK, fb⟩ := hr.facts ho hL HE.out
                have HR := Lib.hid hr
                clear hr
                by_cases c1 : a + m ≤ co o r
                · have e1 := Lib.hid (show cutM a m (co o r) = co o r - m by simp [cutM, c1])
                  go_wp2_with fail
                  go_quiet (fail)
                  go_wp2_with fail
                  go_region
                  all_goals
                    go_wp2
                    refine ⟨.inr ⟨rfl, ?_⟩, by simp [intOf]⟩
                    rw [e1.out]
                    first | exact (HR.out.drewN _).set ho hlb hLb _ | exact ((HR.out.drewN _).drew).set ho hlb hLb _ | exact ((HR.out.drewN _).set ho hlb hLb _).drew
                · have e1 := Lib.hid (show cutM a m (co o r) = co o r by simp [cutM, c1])
                  go_wp2_with fail
                  go_quiet (fail)
                  go_wp2
                  exact ⟨.inr ⟨rfl, by rw [e1.out]; exact HR.out.drewN _⟩, by simp [intOf]⟩
              · have HR := Lib.hid hr
                clear hr
                go_wp2
                go_ret
                exact ⟨true, setCo o r (cutM a m (co o r)), rfl, HR.out.chg, HR.out.blk, by simp [rem1, Q.out]⟩
      · have Q := Lib.hid q
        have AG := Lib.hid fun (W : World) h h' => gone_is (w := W) (f := F) (n := K) q h h' ha.1 ha.2 hm.1 hm.2
        clear q
        go_wp2_with fail
        go_quiet (first
          | (go_at_call 87
             refine Calls.quiet_of_same (AG.out _ (by simp [dF]) (by simp [dK]))))
        go_wp2
        go_ret
        have h := HR.out
        refine ⟨false, setCo o r (co o r), rfl, ?_, h.blk, by simp [rem1, Q.out]⟩
        first | exact h.chg | exact h.chg.drew | exact h.chg.drewN _
end Go.Proofs.Ytkjfeakbhfkldaa
/- Shifting in place: rows or columns are taken out, both ends of a range. -/
namespace Go.Proofs.Ytkjfeakbhfkldaa
open Go.RowKit

/-- The two ends of a range, whose coordinates are x and y now. -/
structure Row2 (lim b L : Nat) (pre post : List Value) (o : Nat) (r t : RefT) (w : World) (x y : Int) (wr : World) : Prop where
  chg : Chg lim b w wr
  blk : wr.heap[b]? = some (.cells (pre ++ ((setCo o r x).vals ++ ((setCo o t y).vals ++ post))).toArray 29 (0, 0))
  lst : wr.heap[L]? = some (.cells #[.pointer (some ⟨b, pre.length + o, none⟩), .pointer (some ⟨b, pre.length + 4 + o, none⟩)] 98 (0, 0))
theorem Row2.set0 {lim b L : Nat} {pre post : List Value} {o : Nat} {r t : RefT} {w wr : World} {x y : Int} (h : Row2 lim b L pre post o r t w x y wr) (ho : o ≤ 1) (hb : lim ≤ b) (hL : L ≠ b) (v : Int) : Row2 lim b L pre post o r t w v y (wr.setCell ⟨b, pre.length + o, none⟩ (.int .i64 v)) :=
  ⟨h.chg.set hb _ _, by rw [set_co ho v h.blk, set_set], (Below.heap_setCell _ _ _ _ (by simpa using hL)).trans h.lst⟩
theorem len_ref (pre : List Value) (r : RefT) : (pre ++ r.vals).length = pre.length + 4 := by simp [RefT.vals]
theorem Row2.set1 {lim b L : Nat} {pre post : List Value} {o : Nat} {r t : RefT} {w wr : World} {x y : Int} (h : Row2 lim b L pre post o r t w x y wr) (ho : o ≤ 1) (hb : lim ≤ b) (hL : L ≠ b) (v : Int) : Row2 lim b L pre post o r t w x v (wr.setCell ⟨b, pre.length + 4 + o, none⟩ (.int .i64 v)) := by
  refine ⟨h.chg.set hb _ _, ?_, (Below.heap_setCell _ _ _ _ (by simpa using hL)).trans h.lst⟩
  have k := h.blk
  rw [← List.append_assoc] at k
  have := set_co ho v k
  rw [len_ref, set_set, List.append_assoc] at this
  exact this
theorem Row2.drewN {lim b L : Nat} {pre post : List Value} {o : Nat} {r t : RefT} {w wr : World} {x y : Int} (h : Row2 lim b L pre post o r t w x y wr) (n : Nat) : Row2 lim b L pre post o r t w x y (wr.drewN n) := ⟨h.chg.drewN n, h.blk, h.lst⟩
theorem Row2.drew {lim b L : Nat} {pre post : List Value} {o : Nat} {r t : RefT} {w wr : World} {x y : Int} (h : Row2 lim b L pre post o r t w x y wr) : Row2 lim b L pre post o r t w x y wr.drew := ⟨h.chg.drew, h.blk, h.lst⟩
theorem Row2.at1 {lim b L : Nat} {pre post : List Value} {o : Nat} {r t : RefT} {w wr : World} {x y : Int} (h : Row2 lim b L pre post o r t w x y wr) (ho : o ≤ 1) : wr.cell? ⟨b, pre.length + o, none⟩ = some (.int .i64 x) ∧ wr.cell? ⟨b, pre.length + 4 + o, none⟩ = some (.int .i64 y) := by
  have k := h.blk
  have k1 := at_co ho k
  rw [← List.append_assoc] at k
  have k2 := at_co ho k
  rw [len_ref, co_set] at k2
  rw [co_set] at k1
  exact ⟨k1, k2⟩
theorem Row2.facts {lim b L : Nat} {pre post : List Value} {o : Nat} {r t : RefT} {w wr : World} {x y : Int} (h : Row2 lim b L pre post o r t w x y wr) (ho : o ≤ 1) {wval : Value} {W G F K : Nat} {a m : Int} (hL : W < lim ∧ G < lim ∧ F < lim ∧ K < lim) (hE : OutE wval W G F K a m w) :
    wr.cell? ⟨b, pre.length + o, none⟩ = some (.int .i64 x) ∧ wr.cell? ⟨b, pre.length + 4 + o, none⟩ = some (.int .i64 y) ∧ wr.cell? ⟨L, 0, none⟩ = some (.pointer (some ⟨b, pre.length + o, none⟩)) ∧ wr.cell? ⟨L, 1, none⟩ = some (.pointer (some ⟨b, pre.length + 4 + o, none⟩)) ∧ wr.cell? ⟨G, 0, none⟩ = some (.func (.func 87) #[] #[.pointer (some ⟨F, 0, none⟩), .pointer (some ⟨K, 0, none⟩)]) ∧ wr.cell? ⟨F, 0, none⟩ = some (.int .i64 a) ∧ wr.cell? ⟨K, 0, none⟩ = some (.int .i64 m) ∧ ∀ i, wr.frozen? ⟨b, i, none⟩ = false :=
  ⟨(h.at1 ho).1, (h.at1 ho).2, (cells_of_block h.lst 0).trans rfl, (cells_of_block h.lst 1).trans rfl, (cells_of_block ((h.chg.1.block G hL.2.1).trans hE.pg) 0).trans rfl, (cells_of_block ((h.chg.1.block F hL.2.2.1).trans hE.pf) 0).trans rfl, (cells_of_block ((h.chg.1.block K hL.2.2.2).trans hE.pk) 0).trans rfl, fun i => frees_of_block h.blk i⟩
theorem near_bound {a m x y : Int} (_ : 0 ≤ a ∧ a ≤ 65536) (_ : 0 ≤ m ∧ m ≤ 65536) (_ : 0 ≤ x ∧ x ≤ 65536) : -1 ≤ nearM a m x y ∧ nearM a m x y ≤ 131072 := by
  unfold nearM; (repeat' split) <;> omega

set_option maxRecDepth 100000 in
set_option maxHeartbeats 4000000 in
theorem rem_two {wval : Value} {f : FuncId} {o : Nat} (hw : WhSpec wval f o) (ho : o ≤ 1) (lim W G F K : Nat) (a m : Int) (hL : W < lim ∧ G < lim ∧ F < lim ∧ K < lim) (ha : 0 ≤ a ∧ a ≤ 65536) (hm : 0 ≤ m ∧ m ≤ 65536) (w : World) (b g : Nat) (pre post : List Value) (r t : RefT) (hE : OutE wval W G F K a m w) (hb : w.heap[b]? = some (.cells (pre ++ (r.vals ++ (t.vals ++ post))).toArray 29 (0, 0)))
    (hg : w.heap[g]? = some (.cells #[.pointer (some ⟨b, pre.length, none⟩), .pointer (some ⟨b, pre.length + 4, none⟩)] 96 (0, 0))) (_ : g ≠ b) (hlb : lim ≤ b) (hp : placeB r = true) (hp2 : placeB t = true) :
    Calls Try.prog 88 #[.slice (some ⟨g, 0, none⟩) 2 2, .pointer (some ⟨W, 0, none⟩), .pointer (some ⟨G, 0, none⟩), .pointer (some ⟨F, 0, none⟩), .pointer (some ⟨K, 0, none⟩)] w fun e w' => ∃ q r' t', e = .returned (.bool q) ∧ Chg lim b w w' ∧ w'.heap[b]? = some (.cells (pre ++ (r'.vals ++ (t'.vals ++ post))).toArray 29 (0, 0)) ∧ rem2 o a m r t = (if q = true then some (r', t') else none) := by
  obtain rfl := hw.val
  have HW := Lib.hid hw; have HE := Lib.hid hE; have HB := Lib.hid hb; have HG := Lib.hid hg
  have pq := place_co (o := o) hp
  have pq2 := place_co (o := o) hp2
  have hltg := lt_of_block hg
  have hltb := lt_of_block hb
  have hlw : lim ≤ w.heap.size := by omega
  have mm := mostO_le o
  have hLb : w.heap.size ≠ b := by omega
  have hbF : ¬ b = F := by omega
  have hbK : ¬ b = K := by omega
  obtain ⟨cr, hcr⟩ : ∃ c, c = co o r := ⟨_, rfl⟩
  obtain ⟨ct, hct⟩ : ∃ c, c = co o t := ⟨_, rfl⟩
  rw [← hcr] at pq
  rw [← hct] at pq2
  have HCR := Lib.hid hcr; have HCT := Lib.hid hct
  obtain ⟨x0, hx0⟩ : ∃ x0, x0 = nearM a m (cr) (ct) := ⟨_, rfl⟩
  obtain ⟨y0, hy0⟩ : ∃ y0, y0 = nearM a m (ct) (cr) := ⟨_, rfl⟩
  have bx : -1 ≤ x0 ∧ x0 ≤ 131072 := by rw [hx0]; exact near_bound ha hm ⟨pq.1, by omega⟩
  have bY : -1 ≤ y0 ∧ y0 ≤ 131072 := by rw [hy0]; exact near_bound ha hm ⟨pq2.1, by omega⟩
  have HX0 := Lib.hid hx0; have HY0 := Lib.hid hy0
  clear hb hg hE hp hp2 hw hx0 hy0 hcr hct
  go_enter Try.func88, Try.ntmps88
  go_wp2_with (rw [make2])
  go_loopw [7, 19] (fun l i wr => (i = .int .i64 0 ∧ l = .slice (some ⟨w.heap.size, 0, none⟩) 0 2 ∧ wr = w.alloc (.cells #[.pointer none, .pointer none] 98)) ∨ (i = .int .i64 1 ∧ l = .slice (some ⟨w.heap.size, 0, none⟩) 1 2 ∧ wr = (w.alloc (.cells #[.pointer (some ⟨b, pre.length + o, none⟩), .pointer none] 98)).alloc (.cells #[.pointer (some ⟨b, pre.length + o, none⟩)] 98)) ∨
    (i = .int .i64 2 ∧ l = .slice (some ⟨w.heap.size, 0, none⟩) 2 2 ∧ Row2 lim b w.heap.size pre post o r t w (cr) (ct) wr)) (fun _ i _ => 3 - (intOf i).toNat)
  case atStart => exact .inl ⟨rfl, rfl, rfl⟩
  case round =>
    rcases hrel with ⟨rfl, rfl, rfl⟩ | ⟨rfl, rfl, rfl⟩ | ⟨rfl, rfl, hr⟩
    · have cg0 := cells_of_block ((Below.heap_alloc w (.cells #[.pointer none, .pointer none] 98) g hltg).trans HG.out) 0
      have cW := cells_of_block ((Below.heap_alloc w (.cells #[.pointer none, .pointer none] 98) W (by omega)).trans HE.out.wh) 0
      simp at cg0 cW
      go_wp2_with fail
      rw [HW.out.run, Oper.upon_enter]
      refine (HW.out.call _ _ _).mono ?_
      rintro e w2 ⟨rfl, rfl⟩
      go_wp2_with fail
      exact ⟨.inr (.inl (by simp)), by simp [intOf]⟩
    · have hb1 := Below.refl w.heap.size w |>.alloc (Nat.le_refl _) (.cells #[.pointer (some ⟨b, pre.length + o, none⟩), .pointer none] 98) |>.alloc (by simp) (.cells #[.pointer (some ⟨b, pre.length + o, none⟩)] 98)
      have cg0 := cells_of_block ((hb1.block g hltg).trans HG.out) 1
      have cW := cells_of_block ((hb1.block W (by omega)).trans HE.out.wh) 0
      simp at cg0 cW
      clear hb1
      go_wp2_with fail
      rw [HW.out.run, Oper.upon_enter]
      refine (HW.out.call _ _ _).mono ?_
      rintro e w2 ⟨rfl, rfl⟩
      go_wp2_with fail
      have hb2 : (((w.alloc (.cells #[.pointer (some ⟨b, pre.length + o, none⟩), .pointer (some ⟨b, pre.length + 4 + o, none⟩)] 98)).alloc (.cells #[.pointer (some ⟨b, pre.length + o, none⟩)] 98)).alloc (.cells #[.pointer (some ⟨b, pre.length + 4 + o, none⟩)] 98)).heap[b]? = w.heap[b]? := (Below.heap_alloc _ _ _ (by simp; omega)).trans ((Below.heap_alloc _ _ _ (by simp; omega)).trans (Below.heap_alloc _ _ _ hltb))
      refine ⟨.inr (.inr ⟨rfl, rfl, (((Chg.refl lim b w).alloc hlw _).alloc hlw _).alloc hlw _, ?_, ?_⟩), by simp [intOf]⟩
      · rw [HCR.out, HCT.out, setCo_self, setCo_self]
        exact hb2.trans HB.out
      · exact (Below.heap_alloc _ _ _ (by simp <;> omega)).trans ((Below.heap_alloc _ _ _ (by simp)).trans (heap_alloc_new _ _))
    · obtain ⟨d0, d1, dL, dM, dG, dF, dK, fb⟩ := hr.facts ho hL HE.out
      have HR := Lib.hid hr
      clear hr
      cases q : inG a m (cr)
      · have Q0 := Lib.hid q
        have EX := Lib.hid (show x0 = cr from HX0.out.trans (nearM_no q))
        have AG0 := Lib.hid fun (W : World) h h' => gone_is (w := W) (f := F) (n := K) q h h' ha.1 ha.2 hm.1 hm.2
        clear q
        go_wp2_with fail
        go_quiet (first
          | (go_at_call 87
             refine Calls.quiet_of_same (AG0.out _ (by simp [dF]) (by simp [dK]))))
        go_wp2_with fail
        go_loopw [52] (fun i W => (i = .int .i64 0 ∧ Row2 lim b w.heap.size pre post o r t w (cr) (ct) W) ∨ (i = .int .i64 1 ∧ Row2 lim b w.heap.size pre post o r t w x0 (ct) W) ∨ (i = .int .i64 2 ∧ Row2 lim b w.heap.size pre post o r t w x0 y0 W)) (fun i _ => 3 - (intOf i).toNat)
        case atStart => exact .inl ⟨rfl, HR.out.drewN _⟩
        case round =>
          rcases hrel with ⟨rfl, hr⟩ | ⟨rfl, hr⟩ | ⟨rfl, hr⟩
          · obtain ⟨d0, d1, dL, dM, dG, dF, dK, fb⟩ := hr.facts ho hL HE.out
            have HR := Lib.hid hr
            clear hr
            go_wp2_with fail
            go_quiet (first
              | (go_at_call 87
                 refine Calls.quiet_of_same (AG0.out _ (by simp [dF]) (by simp [dK]))))
            go_wp2
            exact ⟨.inr (.inl ⟨rfl, by rw [EX.out]; exact HR.out.drewN _⟩), by simp [intOf]⟩
          · obtain ⟨d0, d1, dL, dM, dG, dF, dK, fb⟩ := hr.facts ho hL HE.out
            have HR := Lib.hid hr
            clear hr
            cases q' : inG a m (ct)
            · have EY := Lib.hid (show y0 = ct from HY0.out.trans (nearM_no q'))
              have AG1 := Lib.hid fun (W : World) h h' => gone_is (w := W) (f := F) (n := K) q' h h' ha.1 ha.2 hm.1 hm.2
              clear q'
              go_wp2_with fail
              go_quiet (first
                | (go_at_call 87
                   refine Calls.quiet_of_same (AG1.out _ (by simp [dF]) (by simp [dK]))))
              go_wp2
              exact ⟨.inr (.inr ⟨rfl, by rw [EY.out]; exact HR.out.drewN _⟩), by simp [intOf]⟩
            · have Q1 := Lib.hid q'
              have AG1 := Lib.hid fun (W : World) h h' => gone_is (w := W) (f := F) (n := K) q' h h' ha.1 ha.2 hm.1 hm.2
              clear q'
              have ex := EX.out
              by_cases c1 : a + m ≤ x0
              · have ez := Lib.hid (show y0 = a + m by rw [HY0.out]; simp [nearM, Q1.out]; omega)
                go_wp2_with fail
                go_quiet (first
                  | (go_at_call 87
                     refine Calls.quiet_of_same (AG1.out _ (by simp [dF]) (by simp [dK]))))
                go_wp2
                exact ⟨.inr (.inr ⟨rfl, by rw [ez.out]; exact (((HR.out.drewN _).set1 ho hlb hLb (a - 1)).set1 ho hlb hLb (a + m))⟩), by simp [intOf]⟩
              · have ez := Lib.hid (show y0 = a - 1 by rw [HY0.out]; simp [nearM, Q1.out]; omega)
                go_wp2_with fail
                go_quiet (first
                  | (go_at_call 87
                     refine Calls.quiet_of_same (AG1.out _ (by simp [dF]) (by simp [dK]))))
                go_wp2
                exact ⟨.inr (.inr ⟨rfl, by rw [ez.out]; exact ((HR.out.drewN _).set1 ho hlb hLb (a - 1))⟩), by simp [intOf]⟩
          · have HR := Lib.hid hr
            clear hr
            go_wp2_with fail
            go_loopw [87] (fun i W => (i = .int .i64 0 ∧ Row2 lim b w.heap.size pre post o r t w x0 y0 W) ∨ (i = .int .i64 1 ∧ Row2 lim b w.heap.size pre post o r t w (cutM a m x0) y0 W) ∨ (i = .int .i64 2 ∧ Row2 lim b w.heap.size pre post o r t w (cutM a m x0) (cutM a m y0) W)) (fun i _ => 3 - (intOf i).toNat)
            case atStart => exact .inl ⟨rfl, HR.out⟩
            case round =>
              rcases hrel with ⟨rfl, hr⟩ | ⟨rfl, hr⟩ | ⟨rfl, hr⟩
              · obtain ⟨d0, d1, dL, dM, dG, dF, dK, fb⟩ := hr.facts ho hL HE.out
                have HR := Lib.hid hr
                clear hr
                by_cases c1 : a + m ≤ x0
                · have ez := Lib.hid (show cutM a m x0 = x0 - m by simp [cutM, c1])
                  go_wp2_with fail
                  go_quiet (fail)
                  go_wp2_with fail
                  go_region
                  all_goals
                    go_wp2
                    refine ⟨.inr (.inl ⟨rfl, ?_⟩), by simp [intOf]⟩
                    rw [ez.out]
                    first | exact (HR.out.drewN _).set0 ho hlb hLb _ | exact ((HR.out.drewN _).drew).set0 ho hlb hLb _ | exact ((HR.out.drewN _).set0 ho hlb hLb _).drew
                · have ez := Lib.hid (show cutM a m x0 = x0 by simp [cutM, c1])
                  go_wp2_with fail
                  go_quiet (fail)
                  go_wp2
                  exact ⟨.inr (.inl ⟨rfl, by rw [ez.out]; exact HR.out.drewN _⟩), by simp [intOf]⟩
              · obtain ⟨d0, d1, dL, dM, dG, dF, dK, fb⟩ := hr.facts ho hL HE.out
                have HR := Lib.hid hr
                clear hr
                by_cases c1 : a + m ≤ y0
                · have ez := Lib.hid (show cutM a m y0 = y0 - m by simp [cutM, c1])
                  go_wp2_with fail
                  go_quiet (fail)
                  go_wp2_with fail
                  go_region
                  all_goals
                    go_wp2
                    refine ⟨.inr (.inr ⟨rfl, ?_⟩), by simp [intOf]⟩
                    rw [ez.out]
                    first | exact (HR.out.drewN _).set1 ho hlb hLb _ | exact ((HR.out.drewN _).drew).set1 ho hlb hLb _ | exact ((HR.out.drewN _).set1 ho hlb hLb _).drew
                · have ez := Lib.hid (show cutM a m y0 = y0 by simp [cutM, c1])
                  go_wp2_with fail
                  go_quiet (fail)
                  go_wp2
                  exact ⟨.inr (.inr ⟨rfl, by rw [ez.out]; exact HR.out.drewN _⟩), by simp [intOf]⟩
              · have HR := Lib.hid hr
                clear hr
                go_wp2
                go_ret
                exact ⟨true, setCo o r (cutM a m x0), setCo o t (cutM a m y0), rfl, HR.out.chg, HR.out.blk, by rw [HX0.out, HY0.out]; simp [rem2, ← HCR.out, ← HCT.out, Q0.out]⟩
      · have Q0 := Lib.hid q
        have AG0 := Lib.hid fun (W : World) h h' => gone_is (w := W) (f := F) (n := K) q h h' ha.1 ha.2 hm.1 hm.2
        clear q
        cases q : inG a m (ct)
        · have Q1 := Lib.hid q
          have EY := Lib.hid (show y0 = ct from HY0.out.trans (nearM_no q))
          have AG1 := Lib.hid fun (W : World) h h' => gone_is (w := W) (f := F) (n := K) q h h' ha.1 ha.2 hm.1 hm.2
          clear q
          go_wp2_with fail
          go_quiet (first
            | (go_at_call 87
               with_reducible refine Calls.quiet_of_same (AG0.out _ (by simp [dF]) (by simp [dK])))
            | (go_at_call 87
               with_reducible refine Calls.quiet_of_same (AG1.out _ (by simp [dF]) (by simp [dK]))))
          go_wp2_with fail
          go_loopw [52] (fun i W => (i = .int .i64 0 ∧ Row2 lim b w.heap.size pre post o r t w (cr) (ct) W) ∨ (i = .int .i64 1 ∧ Row2 lim b w.heap.size pre post o r t w x0 (ct) W) ∨ (i = .int .i64 2 ∧ Row2 lim b w.heap.size pre post o r t w x0 y0 W)) (fun i _ => 3 - (intOf i).toNat)
          case atStart => exact .inl ⟨rfl, HR.out.drewN _⟩
          case round =>
            rcases hrel with ⟨rfl, hr⟩ | ⟨rfl, hr⟩ | ⟨rfl, hr⟩
            · obtain ⟨d0, d1, dL, dM, dG, dF, dK, fb⟩ := hr.facts ho hL HE.out
              have HR := Lib.hid hr
              clear hr
              by_cases c1 : a + m ≤ ct
              · have ez := Lib.hid (show x0 = a + m by rw [HX0.out]; simp [nearM, Q0.out]; omega)
                go_wp2_with fail
                go_quiet (first
                  | (go_at_call 87
                     refine Calls.quiet_of_same (AG0.out _ (by simp [dF]) (by simp [dK]))))
                go_wp2
                exact ⟨.inr (.inl ⟨rfl, by rw [ez.out]; exact (((HR.out.drewN _).set0 ho hlb hLb (a - 1)).set0 ho hlb hLb (a + m))⟩), by simp [intOf]⟩
              · have ez := Lib.hid (show x0 = a - 1 by rw [HX0.out]; simp [nearM, Q0.out]; omega)
                go_wp2_with fail
                go_quiet (first
                  | (go_at_call 87
                     refine Calls.quiet_of_same (AG0.out _ (by simp [dF]) (by simp [dK]))))
                go_wp2
                exact ⟨.inr (.inl ⟨rfl, by rw [ez.out]; exact ((HR.out.drewN _).set0 ho hlb hLb (a - 1))⟩), by simp [intOf]⟩
            · obtain ⟨d0, d1, dL, dM, dG, dF, dK, fb⟩ := hr.facts ho hL HE.out
              have HR := Lib.hid hr
              clear hr
              go_wp2_with fail
              go_quiet (first
                | (go_at_call 87
                   refine Calls.quiet_of_same (AG1.out _ (by simp [dF]) (by simp [dK]))))
              go_wp2
              exact ⟨.inr (.inr ⟨rfl, by rw [EY.out]; exact HR.out.drewN _⟩), by simp [intOf]⟩
            · have HR := Lib.hid hr
              clear hr
              go_wp2_with fail
              go_loopw [87] (fun i W => (i = .int .i64 0 ∧ Row2 lim b w.heap.size pre post o r t w x0 y0 W) ∨ (i = .int .i64 1 ∧ Row2 lim b w.heap.size pre post o r t w (cutM a m x0) y0 W) ∨ (i = .int .i64 2 ∧ Row2 lim b w.heap.size pre post o r t w (cutM a m x0) (cutM a m y0) W)) (fun i _ => 3 - (intOf i).toNat)
              case atStart => exact .inl ⟨rfl, HR.out⟩
              case round =>
                rcases hrel with ⟨rfl, hr⟩ | ⟨rfl, hr⟩ | ⟨rfl, hr⟩
                · obtain ⟨d0, d1, dL, dM, dG, dF, dK, fb⟩ := hr.facts ho hL HE.out
                  have HR := Lib.hid hr
                  clear hr
                  by_cases c1 : a + m ≤ x0
                  · have ez := Lib.hid (show cutM a m x0 = x0 - m by simp [cutM, c1])
                    go_wp2_with fail
                    go_quiet (fail)
                    go_wp2_with fail
                    go_region
                    all_goals
                      go_wp2
                      refine ⟨.inr (.inl ⟨rfl, ?_⟩), by simp [intOf]⟩
                      rw [ez.out]
                      first | exact (HR.out.drewN _).set0 ho hlb hLb _ | exact ((HR.out.drewN _).drew).set0 ho hlb hLb _ | exact ((HR.out.drewN _).set0 ho hlb hLb _).drew
                  · have ez := Lib.hid (show cutM a m x0 = x0 by simp [cutM, c1])
                    go_wp2_with fail
                    go_quiet (fail)
                    go_wp2
                    exact ⟨.inr (.inl ⟨rfl, by rw [ez.out]; exact HR.out.drewN _⟩), by simp [intOf]⟩
                · obtain ⟨d0, d1, dL, dM, dG, dF, dK, fb⟩ := hr.facts ho hL HE.out
                  have HR := Lib.hid hr
                  clear hr
                  by_cases c1 : a + m ≤ y0
                  · have ez := Lib.hid (show cutM a m y0 = y0 - m by simp [cutM, c1])
                    go_wp2_with fail
                    go_quiet (fail)
                    go_wp2_with fail
                    go_region
                    all_goals
                      go_wp2
                      refine ⟨.inr (.inr ⟨rfl, ?_⟩), by simp [intOf]⟩
                      rw [ez.out]
                      first | exact (HR.out.drewN _).set1 ho hlb hLb _ | exact ((HR.out.drewN _).drew).set1 ho hlb hLb _ | exact ((HR.out.drewN _).set1 ho hlb hLb _).drew
                  · have ez := Lib.hid (show cutM a m y0 = y0 by simp [cutM, c1])
                    go_wp2_with fail
                    go_quiet (fail)
                    go_wp2
                    exact ⟨.inr (.inr ⟨rfl, by rw [ez.out]; exact HR.out.drewN _⟩), by simp [intOf]⟩
                · have HR := Lib.hid hr
                  clear hr
                  go_wp2
                  go_ret
                  exact ⟨true, setCo o r (cutM a m x0), setCo o t (cutM a m y0), rfl, HR.out.chg, HR.out.blk, by rw [HX0.out, HY0.out]; simp [rem2, ← HCR.out, ← HCT.out, Q1.out]⟩
        · have Q1 := Lib.hid q
          have AG1 := Lib.hid fun (W : World) h h' => gone_is (w := W) (f := F) (n := K) q h h' ha.1 ha.2 hm.1 hm.2
          clear q
          go_wp2_with fail
          go_quiet (first
            | (go_at_call 87
               with_reducible refine Calls.quiet_of_same (AG0.out _ (by simp [dF]) (by simp [dK])))
            | (go_at_call 87
               with_reducible refine Calls.quiet_of_same (AG1.out _ (by simp [dF]) (by simp [dK]))))
          go_wp2
          go_ret
          have h := HR.out
          refine ⟨false, setCo o r (cr), setCo o t (ct), rfl, ?_, h.blk, by simp [rem2, ← HCR.out, ← HCT.out, Q0.out, Q1.out]⟩
          first | exact h.chg | exact h.chg.drew | exact h.chg.drewN _

theorem many_bound {a n most : Int} (_ : n < 0) (_ : 0 ≤ a) (_ : a < most) (_ : most ≤ 65536) : 0 ≤ manyN a n most ∧ manyN a n most ≤ 65536 := by
  unfold manyN; split <;> omega
theorem rem_spec {wval : Value} {f : FuncId} {o : Nat} (hw : WhSpec wval f o) (ho : o ≤ 1) (lim W G F K : Nat) (a n : Int) (hL : W < lim ∧ G < lim ∧ F < lim ∧ K < lim) (h0 : 0 ≤ a) (h1 : a < mostO o) (hn : n < 0) : MovSpec (.func (.func 88) #[] #[.pointer (some ⟨W, 0, none⟩), .pointer (some ⟨G, 0, none⟩), .pointer (some ⟨F, 0, none⟩), .pointer (some ⟨K, 0, none⟩)]) 88 #[.pointer (some ⟨W, 0, none⟩), .pointer (some ⟨G, 0, none⟩), .pointer (some ⟨F, 0, none⟩), .pointer (some ⟨K, 0, none⟩)] lim ⟨whatO o, 0, 0, a, n⟩ (OutE wval W G F K a (manyN a n (mostO o))) := by
  have mm := mostO_le o
  have hm := many_bound hn h0 h1 mm
  exact ⟨rfl, fun _ _ => by kernel_rfl, fun _ _ h b => ⟨(b.block W hL.1).trans h.1, (b.block G hL.2.1).trans h.2, (b.block F hL.2.2.1).trans h.3, (b.block K hL.2.2.2).trans h.4⟩,
    fun w b g pre post r hE hb hg hgb hlb _ hp => (rem_one hw ho lim W G F K a _ hL ⟨h0, by omega⟩ hm w b g pre post r hE hb hg hgb hlb hp).mono fun e w' ⟨q, r', he, hc, hbk, hr⟩ => ⟨q, r', he, hc, hbk, (mv1_rem hp hn h0 h1).trans hr⟩,
    fun w b g pre post r t hE hb hg hgb hlb _ hp hp2 => (rem_two hw ho lim W G F K a _ hL ⟨h0, by omega⟩ hm w b g pre post r t hE hb hg hgb hlb hp hp2).mono fun e w' ⟨q, r', t', he, hc, hbk, hr⟩ => ⟨q, r', t', he, hc, hbk, (mv2_rem hp hp2 hn h0 h1).trans hr⟩⟩
end Go.Proofs.Ytkjfeakbhfkldaa
