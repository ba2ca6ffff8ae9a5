/- Shifting in place: the mover of a paste, of two references. -/
import Derived.Test.YtkjfeakbhfkldaaMhF
namespace Go.Proofs.Ytkjfeakbhfkldaa
open Go.RowKit

set_option maxRecDepth 100000 in
set_option maxHeartbeats 4000000 in
theorem paste_two (lim D D2 : Nat) (dr dc : Int) (hD : D < lim ∧ D2 < lim) (h1 : I64 dr) (h2 : I64 dc) (w : World) (b g : Nat) (pre post : List Value) (r t : RefT) (hE : BoxE D D2 dr dc w) (hb : w.heap[b]? = some (.cells (pre ++ (r.vals ++ (t.vals ++ post))).toArray 29 (0, 0)))
    (hg : w.heap[g]? = some (.cells #[.pointer (some ⟨b, pre.length, none⟩), .pointer (some ⟨b, pre.length + 4, none⟩)] 96 (0, 0))) (hgb : g ≠ b) (hlb : lim ≤ b) (hp : placeB r = true) (hp2 : placeB t = true) :
    Calls Try.prog 70 #[.slice (some ⟨g, 0, none⟩) 2 2, .pointer (some ⟨D, 0, none⟩), .pointer (some ⟨D2, 0, none⟩)] w fun e w' => ∃ q r' t', e = .returned (.bool q) ∧ Chg lim b w w' ∧ w'.heap[b]? = some (.cells (pre ++ (r'.vals ++ (t'.vals ++ post))).toArray 29 (0, 0)) ∧ mv2 ⟨1, dr, dc, 0, 0⟩ r t = (if q = true then some (r', t') else none) := by
  have HD1 := Lib.hid h1; have HD2 := Lib.hid h2; have HB := Lib.hid hb; have HG := Lib.hid hg; have HE := Lib.hid hE; have HP := Lib.hid hp; have HP2 := Lib.hid hp2
  have pq := place_on hp
  have pq2 := place_on hp2
  have hltg := lt_of_block hg
  have hltb := lt_of_block hb
  clear h1 h2 hb hg hE hp hp2
  go_enter Try.func70, Try.ntmps70
  go_wp2_with fail
  go_loopw [9] (fun i wr => (i = .int .i64 0 ∧ St lim b (pre ++ (r.vals ++ (t.vals ++ post))) w wr) ∨ (i = .int .i64 1 ∧ St lim b (pre ++ ((pasteR dr dc r).vals ++ (t.vals ++ post))) w wr ∧ placeB (pasteR dr dc r) = true) ∨
    (i = .int .i64 2 ∧ St lim b (pre ++ ((pasteR dr dc r).vals ++ ((pasteR dr dc t).vals ++ post))) w wr ∧ placeB (pasteR dr dc r) = true ∧ placeB (pasteR dr dc t) = true)) (fun i _ => 3 - (intOf i).toNat)
  case atStart => exact .inl ⟨rfl, Chg.refl _ _ _, HB.out⟩
  case round =>
    rcases hrel with ⟨rfl, hc, hb⟩ | ⟨rfl, ⟨hc, hb⟩, hpp⟩ | ⟨rfl, ⟨hc, hb⟩, hpp, hpp2⟩
    · clear pq2
      have cg0 : wr.cell? ⟨g, 0, none⟩ = some (.pointer (some ⟨b, pre.length, none⟩)) := by rw [cells_of_block ((hc.2 g hltg hgb).trans HG.out)]; rfl
      have cD := cells_of_block ((hc.1.block D hD.1).trans HE.out.1) 0
      have cD2 := cells_of_block ((hc.1.block D2 hD.2).trans HE.out.2) 0
      obtain ⟨off, hoff⟩ : ∃ off, off = (pre : List Value).length := ⟨_, rfl⟩
      have hb0 := hb
      obtain ⟨d0, d1, d2, d3⟩ := ref_at hb
      rw [show pre.length = off by rw [hoff]] at cg0
      rw [← hoff] at d0 d1 d2 d3
      have sr : ∀ (W : World) (x' : Int) (row col : Int) (pr pc : Bool), W.heap[b]? = some (.cells (pre ++ (RefT.vals ⟨row, col, pr, pc⟩ ++ (t.vals ++ post))).toArray 29 (0, 0)) → (W.setCell ⟨b, off, none⟩ (.int .i64 x')).heap[b]? = some (.cells (pre ++ (RefT.vals ⟨x', col, pr, pc⟩ ++ (t.vals ++ post))).toArray 29 (0, 0)) := fun W x' row col pr pc h => by rw [hoff]; exact set_row x' h
      have sc : ∀ (W : World) (x' : Int) (row col : Int) (pr pc : Bool), W.heap[b]? = some (.cells (pre ++ (RefT.vals ⟨row, col, pr, pc⟩ ++ (t.vals ++ post))).toArray 29 (0, 0)) → (W.setCell ⟨b, off + 1, none⟩ (.int .i64 x')).heap[b]? = some (.cells (pre ++ (RefT.vals ⟨row, x', pr, pc⟩ ++ (t.vals ++ post))).toArray 29 (0, 0)) := fun W x' row col pr pc h => by rw [hoff]; exact set_col x' h
      have fb := frees_of_block hb
      have hbD : ¬ b = D := by omega
      have hbD2 : ¬ b = D2 := by omega
      have SR := Lib.hid sr; have SC := Lib.hid sc; have HC := Lib.hid hc; have HB0 := Lib.hid hb0
      clear sr sc hc hb0 hb hoff
      obtain ⟨row, col, pr, pc⟩ := r
      obtain ⟨⟨p1, p2⟩, p3, p4⟩ := pq
      simp only at d0 d1 d2 d3 p1 p2 p3 p4
      have ks : ∀ (W : World), (W.cell? ⟨b, off + 2, none⟩ = some (.bool pr) ∧ W.cell? ⟨b, off + 3, none⟩ = some (.bool pc) ∧ W.cell? ⟨D, 0, none⟩ = some (.int .i64 dr) ∧ W.cell? ⟨D2, 0, none⟩ = some (.int .i64 dc)) → ∀ v : Value, ((W.setCell ⟨b, off, none⟩ v).cell? ⟨b, off + 2, none⟩ = some (.bool pr) ∧ (W.setCell ⟨b, off, none⟩ v).cell? ⟨b, off + 3, none⟩ = some (.bool pc) ∧ (W.setCell ⟨b, off, none⟩ v).cell? ⟨D, 0, none⟩ = some (.int .i64 dr) ∧ (W.setCell ⟨b, off, none⟩ v).cell? ⟨D2, 0, none⟩ = some (.int .i64 dc)) ∧ ((W.setCell ⟨b, off + 1, none⟩ v).cell? ⟨b, off + 2, none⟩ = some (.bool pr) ∧ (W.setCell ⟨b, off + 1, none⟩ v).cell? ⟨b, off + 3, none⟩ = some (.bool pc) ∧ (W.setCell ⟨b, off + 1, none⟩ v).cell? ⟨D, 0, none⟩ = some (.int .i64 dr) ∧ (W.setCell ⟨b, off + 1, none⟩ v).cell? ⟨D2, 0, none⟩ = some (.int .i64 dc)) := fun W h v => by
        obtain ⟨s1, s2, s3, s4⟩ := h
        have kk : ∀ (i : Nat) (a : Addr) (u : Value), (⟨b, i, none⟩ : Addr) ≠ a → W.cell? a = some u → (W.setCell ⟨b, i, none⟩ v).cell? a = some u := fun i a u h e => by rw [World.cell?_setCell_other (h := h)]; exact e
        exact ⟨⟨kk _ _ _ (by simp) s1, kk _ _ _ (by simp) s2, kk _ _ _ (fun e => hbD (congrArg Addr.block e)) s3, kk _ _ _ (fun e => hbD2 (congrArg Addr.block e)) s4⟩, kk _ _ _ (by simp) s1, kk _ _ _ (by simp) s2, kk _ _ _ (fun e => hbD (congrArg Addr.block e)) s3, kk _ _ _ (fun e => hbD2 (congrArg Addr.block e)) s4⟩
      have KS := Lib.hid ks
      have hd0 : (wr.cell? ⟨b, off + 2, none⟩ = some (.bool pr) ∧ wr.cell? ⟨b, off + 3, none⟩ = some (.bool pc) ∧ wr.cell? ⟨D, 0, none⟩ = some (.int .i64 dr) ∧ wr.cell? ⟨D2, 0, none⟩ = some (.int .i64 dc)) := ⟨d2, d3, cD, cD2⟩
      have hd1 : (wr.drew.cell? ⟨b, off + 2, none⟩ = some (.bool pr) ∧ wr.drew.cell? ⟨b, off + 3, none⟩ = some (.bool pc) ∧ wr.drew.cell? ⟨D, 0, none⟩ = some (.int .i64 dr) ∧ wr.drew.cell? ⟨D2, 0, none⟩ = some (.int .i64 dc)) := ⟨d2, d3, cD, cD2⟩
      have k1 : ∀ v : Value, (wr.setCell ⟨b, off, none⟩ v).cell? ⟨b, off + 1, none⟩ = some (.int .i64 col) := fun v => by rw [World.cell?_setCell_other (h := by simp)]; exact d1
      clear ks
      cases pr <;> cases pc
      · by_cases q1 : 0 ≤ row + dr ∧ row + dr < 65536
        · by_cases q2 : 0 ≤ col + dc ∧ col + dc < 702
          · have AR := Lib.hid fun (W : World) h h' => add_yes W b off row dr 65536 h h' p1 p2 (by omega) q1.1 q1.2
            have AC := Lib.hid fun (W : World) h h' => add_yes W b (off + 1) col dc 702 h h' p3 p4 (by omega) q2.1 q2.2
            go_wp2_with fail
            go_region_held3 (fun W => (W.cell? ⟨b, off + 2, none⟩ = some (.bool false) ∧ W.cell? ⟨b, off + 3, none⟩ = some (.bool false) ∧ W.cell? ⟨D, 0, none⟩ = some (.int .i64 dr) ∧ W.cell? ⟨D2, 0, none⟩ = some (.int .i64 dc))) (first | with_reducible assumption | with_reducible exact hd0 | with_reducible exact hd1 | exact hS') (first
              | (go_at_call 71
                 with_reducible refine (AR.out _ (by simp [d0]) (by simp [fb])).mono ?_
                 rintro e w2 ⟨rfl, rfl⟩
                 have hS' := (KS.out _ (by assumption) (.int .i64 (row + dr))).1)
              | (go_at_call 71
                 with_reducible refine (AC.out _ (by simp [k1]) (by simp [fb])).mono ?_
                 rintro e w2 ⟨rfl, rfl⟩
                 have hS' := (KS.out _ (by assumption) (.int .i64 (col + dc))).2))
            all_goals
              try clear hS'
              clear hd0 hd1
              go_wp2
              refine ⟨.inr (.inl ⟨rfl, ?_, ?_⟩), by simp [intOf]⟩
              · rw [(show pasteR dr dc ⟨row, col, false, false⟩ = ⟨(row + dr), (col + dc), false, false⟩ by simp [pasteR, moved_on p1 p2 q1, moved_on p3 p4 q2])]
                first | exact ⟨((HC.out.set hlb off (.int .i64 (row + dr))).set hlb (off + 1) (.int .i64 (col + dc))), (SC.out _ (col + dc) _ _ _ _ (SR.out _ (row + dr) _ _ _ _ HB0.out))⟩ | exact ⟨(((HC.out.set hlb off (.int .i64 (row + dr))).set hlb (off + 1) (.int .i64 (col + dc)))).drew, (SC.out _ (col + dc) _ _ _ _ (SR.out _ (row + dr) _ _ _ _ HB0.out))⟩ | exact ⟨(((HC.out.set hlb off (.int .i64 (row + dr))).set hlb (off + 1) (.int .i64 (col + dc)))).drewN _, (SC.out _ (col + dc) _ _ _ _ (SR.out _ (row + dr) _ _ _ _ HB0.out))⟩
              · rw [(show pasteR dr dc ⟨row, col, false, false⟩ = ⟨(row + dr), (col + dc), false, false⟩ by simp [pasteR, moved_on p1 p2 q1, moved_on p3 p4 q2])]
                have pp := place_on HP.out
                simp only at pp
                simp [placeB]; omega
          · have AR := Lib.hid fun (W : World) h h' => add_yes W b off row dr 65536 h h' p1 p2 (by omega) q1.1 q1.2
            have AC := Lib.hid fun (W : World) h => add_no W b (off + 1) col dc 702 h p3 p4 (by omega) HD2.out q2
            go_wp2_with fail
            go_region_held3 (fun W => (W.cell? ⟨b, off + 2, none⟩ = some (.bool false) ∧ W.cell? ⟨b, off + 3, none⟩ = some (.bool false) ∧ W.cell? ⟨D, 0, none⟩ = some (.int .i64 dr) ∧ W.cell? ⟨D2, 0, none⟩ = some (.int .i64 dc))) (first | with_reducible assumption | with_reducible exact hd0 | with_reducible exact hd1 | exact hS') (first
              | (go_at_call 71
                 with_reducible refine (AR.out _ (by simp [d0]) (by simp [fb])).mono ?_
                 rintro e w2 ⟨rfl, rfl⟩
                 have hS' := (KS.out _ (by assumption) (.int .i64 (row + dr))).1)
              | (go_at_call 71
                 with_reducible refine (AC.out _ (by simp [k1])).mono ?_
                 rintro e w2 ⟨rfl, rfl⟩
                 have hS' := (KS.out _ hd1 (.int .i64 (row + dr))).1))
            all_goals
              try clear hS'
              clear hd0 hd1
              go_wp2
              go_ret
              refine ⟨false, ⟨(row + dr), col, false, false⟩, t, rfl, ?_, (SR.out _ (row + dr) _ _ _ _ HB0.out), ?_⟩
              · first | exact (HC.out.set hlb off (.int .i64 (row + dr))) | exact ((HC.out.set hlb off (.int .i64 (row + dr)))).drew | exact ((HC.out.set hlb off (.int .i64 (row + dr)))).drewN _
              · simp [mv2, paste_off HP.out (.inr ⟨rfl, q2⟩)]
        · have AR := Lib.hid fun (W : World) h => add_no W b off row dr 65536 h p1 p2 (by omega) HD1.out q1
          go_wp2_with fail
          go_quiet (first
            | (go_at_call 71
               refine Calls.quiet_of_same (AR.out _ (by simp [d0]))))
          all_goals
            try clear hS'
            clear hd0 hd1
            go_wp2
            go_ret
            refine ⟨false, ⟨row, col, false, false⟩, t, rfl, ?_, HB0.out, ?_⟩
            · first | exact HC.out | exact (HC.out).drew | exact (HC.out).drewN _
            · simp [mv2, paste_off HP.out (.inl ⟨rfl, q1⟩)]
      · by_cases q1 : 0 ≤ row + dr ∧ row + dr < 65536
        · have AR := Lib.hid fun (W : World) h h' => add_yes W b off row dr 65536 h h' p1 p2 (by omega) q1.1 q1.2
          go_wp2_with fail
          refine wp_region_any (by kernel_rfl) ?_
          change wpAny _ _ _ _ 28 _ _ wr.drew
          refine wpAny_take (i := 0) (oi := { dst := some 13, op := Op.move (Operand.tmp 6), type := 96, pos := "shift.go:52", after := #[], guard := none }) (v := .pointer (some ⟨b, off, none⟩)) rfl (by kernel_rfl) (by kernel_rfl) (by kernel_rfl) (fun _ _ _ h => h) (.inl ⟨rfl, fun _ => rfl⟩) ?_
          simp only [Act.put, List.setIfInBounds_toArray, List.set_cons_zero, List.set_cons_succ]
          refine wpAny_take (i := 1) (oi := { dst := some 14, op := Op.nilCheck (Operand.tmp 13), type := 0, pos := "shift.go:52", after := #[{ on := 0, ground := Ground.data }], guard := none }) (v := .pointer (some ⟨b, off, none⟩)) rfl (by kernel_rfl) (by kernel_rfl) (by kernel_rfl) (fun _ _ _ h => h) (.inl ⟨rfl, fun _ => rfl⟩) ?_
          simp only [Act.put, List.setIfInBounds_toArray, List.set_cons_zero, List.set_cons_succ]
          refine wpAny_take (i := 2) (oi := { dst := some 15, op := Op.fieldAddr 26 (Operand.tmp 14) 2, type := 0, pos := "shift.go:52", after := #[{ on := 1, ground := Ground.data }], guard := none }) (v := .pointer (some ⟨b, off + 2, none⟩)) rfl (by kernel_rfl) (by kernel_rfl) (by kernel_rfl) (fun _ _ _ h => h) (.inl ⟨rfl, fun _ => rfl⟩) ?_
          simp only [Act.put, List.setIfInBounds_toArray, List.set_cons_zero, List.set_cons_succ]
          refine wpAny_ready (rs := [3]) (by kernel_rfl) (by simp) (AllReady.cons (o := { dst := some 16, op := Op.load 4 (Operand.tmp 15), type := 4, pos := "shift.go:52", after := #[{ on := 2, ground := Ground.data }], guard := none }) rfl (fun K' hK => ?_) AllReady.nil)
          go_simp
          refine hK _ _ ?_
          clear hK K'
          refine wpAny_take (i := 4) (oi := { dst := some 17, op := Op.unOp UnOp.not 4 (Operand.tmp 16), type := 4, pos := "shift.go:52", after := #[{ on := 3, ground := Ground.data }], guard := none }) (v := .bool true) rfl (by kernel_rfl) (by kernel_rfl) (by kernel_rfl) (fun _ _ _ h => h) (.inl ⟨rfl, fun _ => rfl⟩) ?_
          simp only [Act.put, List.setIfInBounds_toArray, List.set_cons_zero, List.set_cons_succ]
          refine wpAny_take (i := 5) (oi := { dst := some 18, op := Op.move (Operand.tmp 17), type := 4, pos := "shift.go:52", after := #[{ on := 4, ground := Ground.data }], guard := none }) (v := .bool true) rfl (by kernel_rfl) (by kernel_rfl) (by kernel_rfl) (fun _ _ _ h => h) (.inl ⟨rfl, fun _ => rfl⟩) ?_
          simp only [Act.put, List.setIfInBounds_toArray, List.set_cons_zero, List.set_cons_succ]
          refine wpAny_take (i := 6) (oi := { dst := some 19, op := Op.move (Operand.tmp 6), type := 96, pos := "shift.go:52", after := #[{ on := 5, ground := Ground.guard }], guard := some (5, true) }) (v := .pointer (some ⟨b, off, none⟩)) rfl (by kernel_rfl) (by kernel_rfl) (by kernel_rfl) (fun _ _ _ h => h) (.inl ⟨rfl, fun _ => rfl⟩) ?_
          simp only [Act.put, List.setIfInBounds_toArray, List.set_cons_zero, List.set_cons_succ]
          refine wpAny_take (i := 7) (oi := { dst := some 20, op := Op.nilCheck (Operand.tmp 19), type := 0, pos := "shift.go:52", after := #[{ on := 6, ground := Ground.data }, { on := 5, ground := Ground.guard }], guard := some (5, true) }) (v := .pointer (some ⟨b, off, none⟩)) rfl (by kernel_rfl) (by kernel_rfl) (by kernel_rfl) (fun _ _ _ h => h) (.inl ⟨rfl, fun _ => rfl⟩) ?_
          simp only [Act.put, List.setIfInBounds_toArray, List.set_cons_zero, List.set_cons_succ]
          refine wpAny_take (i := 8) (oi := { dst := some 21, op := Op.fieldAddr 26 (Operand.tmp 20) 0, type := 0, pos := "shift.go:52", after := #[{ on := 7, ground := Ground.data }, { on := 5, ground := Ground.guard }], guard := some (5, true) }) (v := .pointer (some ⟨b, off, none⟩)) rfl (by kernel_rfl) (by kernel_rfl) (by kernel_rfl) (fun _ _ _ h => h) (.inl ⟨rfl, fun _ => rfl⟩) ?_
          simp only [Act.put, List.setIfInBounds_toArray, List.set_cons_zero, List.set_cons_succ]
          refine wpAny_ready (rs := [9]) (by kernel_rfl) (by simp) (AllReady.cons (o := { dst := some 22, op := Op.load 2 (Operand.tmp 1), type := 2, pos := "shift.go:52", after := #[{ on := 5, ground := Ground.guard }], guard := some (5, true) }) rfl (fun K' hK => ?_) AllReady.nil)
          go_simp
          refine hK _ _ ?_
          clear hK K'
          refine wpAny_ready (rs := [10]) (by kernel_rfl) (by simp) (AllReady.cons (o := { dst := some 23, op := Op.call { callee := Callee.value (Operand.func 71), args := #[Operand.tmp 21, Operand.tmp 22, Operand.const (Value.int IntKind.i64 65536)], argTypes := #[98, 2, 3] }, type := 4, pos := "shift.go:52", after := #[{ on := 8, ground := Ground.data }, { on := 9, ground := Ground.data }, { on := 5, ground := Ground.chain }, { on := 5, ground := Ground.guard }], guard := some (5, true) }) rfl (fun K' hK => ?_) AllReady.nil)
          go_simp
          go_at_call 71
          with_reducible refine (AR.out _ (by simp [d0]) (by simp [fb])).mono ?_
          rintro e w2 ⟨rfl, rfl⟩
          refine hK _ _ ?_
          clear hK K'
          refine wpAny_take (i := 11) (oi := { dst := some 24, op := Op.unOp UnOp.not 4 (Operand.tmp 23), type := 4, pos := "shift.go:52", after := #[{ on := 10, ground := Ground.data }, { on := 5, ground := Ground.guard }], guard := some (5, true) }) (v := .bool false) rfl (by kernel_rfl) (by kernel_rfl) (by kernel_rfl) (fun _ _ _ h => h) (.inl ⟨rfl, fun _ => rfl⟩) ?_
          simp only [Act.put, List.setIfInBounds_toArray, List.set_cons_zero, List.set_cons_succ]
          refine wpAny_take (i := 12) (oi := { dst := some 25, op := Op.pick (Operand.tmp 18) (Operand.tmp 24) (Operand.const (Value.bool false)), type := 4, pos := "shift.go:52", after := #[{ on := 5, ground := Ground.data }, { on := 11, ground := Ground.data }], guard := none }) (v := .bool false) rfl (by kernel_rfl) (by kernel_rfl) (by kernel_rfl) (fun _ _ _ h => h) (.inl ⟨rfl, fun _ => rfl⟩) ?_
          simp only [Act.put, List.setIfInBounds_toArray, List.set_cons_zero, List.set_cons_succ]
          refine wpAny_take (i := 13) (oi := { dst := some 26, op := Op.move (Operand.tmp 25), type := 4, pos := "shift.go:52", after := #[{ on := 12, ground := Ground.data }, { on := 10, ground := Ground.chain }], guard := none }) (v := .bool false) rfl (by kernel_rfl) (by kernel_rfl) (by kernel_rfl) (fun _ _ _ h => h) (.inl ⟨rfl, fun _ => rfl⟩) ?_
          simp only [Act.put, List.setIfInBounds_toArray, List.set_cons_zero, List.set_cons_succ]
          refine wpAny_take (i := 14) (oi := { dst := some 27, op := Op.move (Operand.tmp 6), type := 96, pos := "shift.go:52", after := #[{ on := 13, ground := Ground.guard }], guard := some (13, false) }) (v := .pointer (some ⟨b, off, none⟩)) rfl (by kernel_rfl) (by kernel_rfl) (by kernel_rfl) (fun _ _ _ h => h) (.inl ⟨rfl, fun _ => rfl⟩) ?_
          simp only [Act.put, List.setIfInBounds_toArray, List.set_cons_zero, List.set_cons_succ]
          refine wpAny_take (i := 15) (oi := { dst := some 28, op := Op.nilCheck (Operand.tmp 27), type := 0, pos := "shift.go:52", after := #[{ on := 14, ground := Ground.data }, { on := 13, ground := Ground.guard }], guard := some (13, false) }) (v := .pointer (some ⟨b, off, none⟩)) rfl (by kernel_rfl) (by kernel_rfl) (by kernel_rfl) (fun _ _ _ h => h) (.inl ⟨rfl, fun _ => rfl⟩) ?_
          simp only [Act.put, List.setIfInBounds_toArray, List.set_cons_zero, List.set_cons_succ]
          refine wpAny_take (i := 16) (oi := { dst := some 29, op := Op.fieldAddr 26 (Operand.tmp 28) 3, type := 0, pos := "shift.go:52", after := #[{ on := 15, ground := Ground.data }, { on := 13, ground := Ground.guard }], guard := some (13, false) }) (v := .pointer (some ⟨b, off + 3, none⟩)) rfl (by kernel_rfl) (by kernel_rfl) (by kernel_rfl) (fun _ _ _ h => h) (.inl ⟨rfl, fun _ => rfl⟩) ?_
          simp only [Act.put, List.setIfInBounds_toArray, List.set_cons_zero, List.set_cons_succ]
          refine wpAny_ready (rs := [17]) (by kernel_rfl) (by simp) (AllReady.cons (o := { dst := some 30, op := Op.load 4 (Operand.tmp 29), type := 4, pos := "shift.go:52", after := #[{ on := 16, ground := Ground.data }, { on := 13, ground := Ground.guard }], guard := some (13, false) }) rfl (fun K' hK => ?_) AllReady.nil)
          go_simp
          refine hK _ _ ?_
          clear hK K'
          refine wpAny_take (i := 18) (oi := { dst := some 31, op := Op.unOp UnOp.not 4 (Operand.tmp 30), type := 4, pos := "shift.go:52", after := #[{ on := 17, ground := Ground.data }, { on := 13, ground := Ground.guard }], guard := some (13, false) }) (v := .bool false) rfl (by kernel_rfl) (by kernel_rfl) (by kernel_rfl) (fun _ _ _ h => h) (.inl ⟨rfl, fun _ => rfl⟩) ?_
          simp only [Act.put, List.setIfInBounds_toArray, List.set_cons_zero, List.set_cons_succ]
          refine wpAny_take (i := 19) (oi := { dst := some 32, op := Op.move (Operand.tmp 31), type := 4, pos := "shift.go:52", after := #[{ on := 18, ground := Ground.data }, { on := 13, ground := Ground.chain }, { on := 13, ground := Ground.guard }], guard := some (13, false) }) (v := .bool false) rfl (by kernel_rfl) (by kernel_rfl) (by kernel_rfl) (fun _ _ _ h => h) (.inl ⟨rfl, fun _ => rfl⟩) ?_
          simp only [Act.put, List.setIfInBounds_toArray, List.set_cons_zero, List.set_cons_succ]
          refine wpAny_take (i := 20) (oi := { dst := some 33, op := Op.move (Operand.tmp 6), type := 96, pos := "shift.go:52", after := #[{ on := 19, ground := Ground.guard }], guard := some (19, true) }) (v := undef) rfl (by kernel_rfl) (by kernel_rfl) (by kernel_rfl) (fun _ _ _ h => h) (.inr ⟨rfl, rfl⟩) ?_
          simp only [Act.put, List.setIfInBounds_toArray, List.set_cons_zero, List.set_cons_succ]
          refine wpAny_take (i := 21) (oi := { dst := some 34, op := Op.nilCheck (Operand.tmp 33), type := 0, pos := "shift.go:52", after := #[{ on := 20, ground := Ground.data }, { on := 19, ground := Ground.guard }], guard := some (19, true) }) (v := undef) rfl (by kernel_rfl) (by kernel_rfl) (by kernel_rfl) (fun _ _ _ h => h) (.inr ⟨rfl, rfl⟩) ?_
          simp only [Act.put, List.setIfInBounds_toArray, List.set_cons_zero, List.set_cons_succ]
          refine wpAny_take (i := 22) (oi := { dst := some 35, op := Op.fieldAddr 26 (Operand.tmp 34) 1, type := 0, pos := "shift.go:52", after := #[{ on := 21, ground := Ground.data }, { on := 19, ground := Ground.guard }], guard := some (19, true) }) (v := undef) rfl (by kernel_rfl) (by kernel_rfl) (by kernel_rfl) (fun _ _ _ h => h) (.inr ⟨rfl, rfl⟩) ?_
          simp only [Act.put, List.setIfInBounds_toArray, List.set_cons_zero, List.set_cons_succ]
          refine wpAny_take (i := 23) (oi := { dst := some 36, op := Op.load 2 (Operand.tmp 2), type := 2, pos := "shift.go:52", after := #[{ on := 19, ground := Ground.guard }], guard := some (19, true) }) (v := undef) rfl (by kernel_rfl) (by kernel_rfl) (by kernel_rfl) (fun _ _ _ h => h) (.inr ⟨rfl, rfl⟩) ?_
          simp only [Act.put, List.setIfInBounds_toArray, List.set_cons_zero, List.set_cons_succ]
          refine wpAny_take (i := 24) (oi := { dst := some 37, op := Op.call { callee := Callee.value (Operand.func 71), args := #[Operand.tmp 35, Operand.tmp 36, Operand.const (Value.int IntKind.i64 702)], argTypes := #[98, 2, 3] }, type := 4, pos := "shift.go:52", after := #[{ on := 22, ground := Ground.data }, { on := 23, ground := Ground.data }, { on := 19, ground := Ground.chain }, { on := 19, ground := Ground.guard }], guard := some (19, true) }) (v := undef) rfl (by kernel_rfl) (by kernel_rfl) (by kernel_rfl) (fun _ _ _ h => h) (.inr ⟨rfl, rfl⟩) ?_
          simp only [Act.put, List.setIfInBounds_toArray, List.set_cons_zero, List.set_cons_succ]
          refine wpAny_take (i := 25) (oi := { dst := some 38, op := Op.unOp UnOp.not 4 (Operand.tmp 37), type := 4, pos := "shift.go:52", after := #[{ on := 24, ground := Ground.data }, { on := 19, ground := Ground.guard }], guard := some (19, true) }) (v := undef) rfl (by kernel_rfl) (by kernel_rfl) (by kernel_rfl) (fun _ _ _ h => h) (.inr ⟨rfl, rfl⟩) ?_
          simp only [Act.put, List.setIfInBounds_toArray, List.set_cons_zero, List.set_cons_succ]
          refine wpAny_take (i := 26) (oi := { dst := some 39, op := Op.pick (Operand.tmp 32) (Operand.tmp 38) (Operand.const (Value.bool false)), type := 4, pos := "shift.go:52", after := #[{ on := 19, ground := Ground.data }, { on := 25, ground := Ground.data }, { on := 13, ground := Ground.guard }], guard := some (13, false) }) (v := .bool false) rfl (by kernel_rfl) (by kernel_rfl) (by kernel_rfl) (fun _ _ _ h => h) (.inl ⟨rfl, fun _ => rfl⟩) ?_
          simp only [Act.put, List.setIfInBounds_toArray, List.set_cons_zero, List.set_cons_succ]
          refine wpAny_take (i := 27) (oi := { dst := some 40, op := Op.pick (Operand.tmp 26) (Operand.const (Value.bool true)) (Operand.tmp 39), type := 4, pos := "shift.go:52", after := #[{ on := 13, ground := Ground.data }, { on := 26, ground := Ground.data }], guard := none }) (v := .bool false) rfl (by kernel_rfl) (by kernel_rfl) (by kernel_rfl) (fun _ _ _ h => h) (.inl ⟨rfl, fun _ => rfl⟩) ?_
          simp only [Act.put, List.setIfInBounds_toArray, List.set_cons_zero, List.set_cons_succ]
          refine wpAny_done (by kernel_rfl) ?_ _
          all_goals
            try clear hS'
            clear hd0 hd1
            go_wp2
            refine ⟨.inr (.inl ⟨rfl, ?_, ?_⟩), by simp [intOf]⟩
            · rw [(show pasteR dr dc ⟨row, col, false, true⟩ = ⟨(row + dr), col, false, true⟩ by simp [pasteR, moved_on p1 p2 q1])]
              first | exact ⟨(HC.out.set hlb off (.int .i64 (row + dr))), (SR.out _ (row + dr) _ _ _ _ HB0.out)⟩ | exact ⟨((HC.out.set hlb off (.int .i64 (row + dr)))).drew, (SR.out _ (row + dr) _ _ _ _ HB0.out)⟩ | exact ⟨((HC.out.set hlb off (.int .i64 (row + dr)))).drewN _, (SR.out _ (row + dr) _ _ _ _ HB0.out)⟩
            · rw [(show pasteR dr dc ⟨row, col, false, true⟩ = ⟨(row + dr), col, false, true⟩ by simp [pasteR, moved_on p1 p2 q1])]
              have pp := place_on HP.out
              simp only at pp
              simp [placeB]; omega
        · have AR := Lib.hid fun (W : World) h => add_no W b off row dr 65536 h p1 p2 (by omega) HD1.out q1
          go_wp2_with fail
          go_quiet (first
            | (go_at_call 71
               refine Calls.quiet_of_same (AR.out _ (by simp [d0]))))
          all_goals
            try clear hS'
            clear hd0 hd1
            go_wp2
            go_ret
            refine ⟨false, ⟨row, col, false, true⟩, t, rfl, ?_, HB0.out, ?_⟩
            · first | exact HC.out | exact (HC.out).drew | exact (HC.out).drewN _
            · simp [mv2, paste_off HP.out (.inl ⟨rfl, q1⟩)]
      · by_cases q2 : 0 ≤ col + dc ∧ col + dc < 702
        · have AC := Lib.hid fun (W : World) h h' => add_yes W b (off + 1) col dc 702 h h' p3 p4 (by omega) q2.1 q2.2
          go_wp2_with fail
          refine wp_region_any (by kernel_rfl) ?_
          change wpAny _ _ _ _ 28 _ _ wr.drew
          refine wpAny_take (i := 0) (oi := { dst := some 13, op := Op.move (Operand.tmp 6), type := 96, pos := "shift.go:52", after := #[], guard := none }) (v := .pointer (some ⟨b, off, none⟩)) rfl (by kernel_rfl) (by kernel_rfl) (by kernel_rfl) (fun _ _ _ h => h) (.inl ⟨rfl, fun _ => rfl⟩) ?_
          simp only [Act.put, List.setIfInBounds_toArray, List.set_cons_zero, List.set_cons_succ]
          refine wpAny_take (i := 1) (oi := { dst := some 14, op := Op.nilCheck (Operand.tmp 13), type := 0, pos := "shift.go:52", after := #[{ on := 0, ground := Ground.data }], guard := none }) (v := .pointer (some ⟨b, off, none⟩)) rfl (by kernel_rfl) (by kernel_rfl) (by kernel_rfl) (fun _ _ _ h => h) (.inl ⟨rfl, fun _ => rfl⟩) ?_
          simp only [Act.put, List.setIfInBounds_toArray, List.set_cons_zero, List.set_cons_succ]
          refine wpAny_take (i := 2) (oi := { dst := some 15, op := Op.fieldAddr 26 (Operand.tmp 14) 2, type := 0, pos := "shift.go:52", after := #[{ on := 1, ground := Ground.data }], guard := none }) (v := .pointer (some ⟨b, off + 2, none⟩)) rfl (by kernel_rfl) (by kernel_rfl) (by kernel_rfl) (fun _ _ _ h => h) (.inl ⟨rfl, fun _ => rfl⟩) ?_
          simp only [Act.put, List.setIfInBounds_toArray, List.set_cons_zero, List.set_cons_succ]
          refine wpAny_ready (rs := [3]) (by kernel_rfl) (by simp) (AllReady.cons (o := { dst := some 16, op := Op.load 4 (Operand.tmp 15), type := 4, pos := "shift.go:52", after := #[{ on := 2, ground := Ground.data }], guard := none }) rfl (fun K' hK => ?_) AllReady.nil)
          go_simp
          refine hK _ _ ?_
          clear hK K'
          refine wpAny_take (i := 4) (oi := { dst := some 17, op := Op.unOp UnOp.not 4 (Operand.tmp 16), type := 4, pos := "shift.go:52", after := #[{ on := 3, ground := Ground.data }], guard := none }) (v := .bool false) rfl (by kernel_rfl) (by kernel_rfl) (by kernel_rfl) (fun _ _ _ h => h) (.inl ⟨rfl, fun _ => rfl⟩) ?_
          simp only [Act.put, List.setIfInBounds_toArray, List.set_cons_zero, List.set_cons_succ]
          refine wpAny_take (i := 5) (oi := { dst := some 18, op := Op.move (Operand.tmp 17), type := 4, pos := "shift.go:52", after := #[{ on := 4, ground := Ground.data }], guard := none }) (v := .bool false) rfl (by kernel_rfl) (by kernel_rfl) (by kernel_rfl) (fun _ _ _ h => h) (.inl ⟨rfl, fun _ => rfl⟩) ?_
          simp only [Act.put, List.setIfInBounds_toArray, List.set_cons_zero, List.set_cons_succ]
          refine wpAny_take (i := 6) (oi := { dst := some 19, op := Op.move (Operand.tmp 6), type := 96, pos := "shift.go:52", after := #[{ on := 5, ground := Ground.guard }], guard := some (5, true) }) (v := undef) rfl (by kernel_rfl) (by kernel_rfl) (by kernel_rfl) (fun _ _ _ h => h) (.inr ⟨rfl, rfl⟩) ?_
          simp only [Act.put, List.setIfInBounds_toArray, List.set_cons_zero, List.set_cons_succ]
          refine wpAny_take (i := 7) (oi := { dst := some 20, op := Op.nilCheck (Operand.tmp 19), type := 0, pos := "shift.go:52", after := #[{ on := 6, ground := Ground.data }, { on := 5, ground := Ground.guard }], guard := some (5, true) }) (v := undef) rfl (by kernel_rfl) (by kernel_rfl) (by kernel_rfl) (fun _ _ _ h => h) (.inr ⟨rfl, rfl⟩) ?_
          simp only [Act.put, List.setIfInBounds_toArray, List.set_cons_zero, List.set_cons_succ]
          refine wpAny_take (i := 8) (oi := { dst := some 21, op := Op.fieldAddr 26 (Operand.tmp 20) 0, type := 0, pos := "shift.go:52", after := #[{ on := 7, ground := Ground.data }, { on := 5, ground := Ground.guard }], guard := some (5, true) }) (v := undef) rfl (by kernel_rfl) (by kernel_rfl) (by kernel_rfl) (fun _ _ _ h => h) (.inr ⟨rfl, rfl⟩) ?_
          simp only [Act.put, List.setIfInBounds_toArray, List.set_cons_zero, List.set_cons_succ]
          refine wpAny_take (i := 9) (oi := { dst := some 22, op := Op.load 2 (Operand.tmp 1), type := 2, pos := "shift.go:52", after := #[{ on := 5, ground := Ground.guard }], guard := some (5, true) }) (v := undef) rfl (by kernel_rfl) (by kernel_rfl) (by kernel_rfl) (fun _ _ _ h => h) (.inr ⟨rfl, rfl⟩) ?_
          simp only [Act.put, List.setIfInBounds_toArray, List.set_cons_zero, List.set_cons_succ]
          refine wpAny_take (i := 10) (oi := { dst := some 23, op := Op.call { callee := Callee.value (Operand.func 71), args := #[Operand.tmp 21, Operand.tmp 22, Operand.const (Value.int IntKind.i64 65536)], argTypes := #[98, 2, 3] }, type := 4, pos := "shift.go:52", after := #[{ on := 8, ground := Ground.data }, { on := 9, ground := Ground.data }, { on := 5, ground := Ground.chain }, { on := 5, ground := Ground.guard }], guard := some (5, true) }) (v := undef) rfl (by kernel_rfl) (by kernel_rfl) (by kernel_rfl) (fun _ _ _ h => h) (.inr ⟨rfl, rfl⟩) ?_
          simp only [Act.put, List.setIfInBounds_toArray, List.set_cons_zero, List.set_cons_succ]
          refine wpAny_take (i := 11) (oi := { dst := some 24, op := Op.unOp UnOp.not 4 (Operand.tmp 23), type := 4, pos := "shift.go:52", after := #[{ on := 10, ground := Ground.data }, { on := 5, ground := Ground.guard }], guard := some (5, true) }) (v := undef) rfl (by kernel_rfl) (by kernel_rfl) (by kernel_rfl) (fun _ _ _ h => h) (.inr ⟨rfl, rfl⟩) ?_
          simp only [Act.put, List.setIfInBounds_toArray, List.set_cons_zero, List.set_cons_succ]
          refine wpAny_take (i := 12) (oi := { dst := some 25, op := Op.pick (Operand.tmp 18) (Operand.tmp 24) (Operand.const (Value.bool false)), type := 4, pos := "shift.go:52", after := #[{ on := 5, ground := Ground.data }, { on := 11, ground := Ground.data }], guard := none }) (v := .bool false) rfl (by kernel_rfl) (by kernel_rfl) (by kernel_rfl) (fun _ _ _ h => h) (.inl ⟨rfl, fun _ => rfl⟩) ?_
          simp only [Act.put, List.setIfInBounds_toArray, List.set_cons_zero, List.set_cons_succ]
          refine wpAny_take (i := 13) (oi := { dst := some 26, op := Op.move (Operand.tmp 25), type := 4, pos := "shift.go:52", after := #[{ on := 12, ground := Ground.data }, { on := 10, ground := Ground.chain }], guard := none }) (v := .bool false) rfl (by kernel_rfl) (by kernel_rfl) (by kernel_rfl) (fun _ _ _ h => h) (.inl ⟨rfl, fun _ => rfl⟩) ?_
          simp only [Act.put, List.setIfInBounds_toArray, List.set_cons_zero, List.set_cons_succ]
          refine wpAny_take (i := 14) (oi := { dst := some 27, op := Op.move (Operand.tmp 6), type := 96, pos := "shift.go:52", after := #[{ on := 13, ground := Ground.guard }], guard := some (13, false) }) (v := .pointer (some ⟨b, off, none⟩)) rfl (by kernel_rfl) (by kernel_rfl) (by kernel_rfl) (fun _ _ _ h => h) (.inl ⟨rfl, fun _ => rfl⟩) ?_
          simp only [Act.put, List.setIfInBounds_toArray, List.set_cons_zero, List.set_cons_succ]
          refine wpAny_take (i := 15) (oi := { dst := some 28, op := Op.nilCheck (Operand.tmp 27), type := 0, pos := "shift.go:52", after := #[{ on := 14, ground := Ground.data }, { on := 13, ground := Ground.guard }], guard := some (13, false) }) (v := .pointer (some ⟨b, off, none⟩)) rfl (by kernel_rfl) (by kernel_rfl) (by kernel_rfl) (fun _ _ _ h => h) (.inl ⟨rfl, fun _ => rfl⟩) ?_
          simp only [Act.put, List.setIfInBounds_toArray, List.set_cons_zero, List.set_cons_succ]
          refine wpAny_take (i := 16) (oi := { dst := some 29, op := Op.fieldAddr 26 (Operand.tmp 28) 3, type := 0, pos := "shift.go:52", after := #[{ on := 15, ground := Ground.data }, { on := 13, ground := Ground.guard }], guard := some (13, false) }) (v := .pointer (some ⟨b, off + 3, none⟩)) rfl (by kernel_rfl) (by kernel_rfl) (by kernel_rfl) (fun _ _ _ h => h) (.inl ⟨rfl, fun _ => rfl⟩) ?_
          simp only [Act.put, List.setIfInBounds_toArray, List.set_cons_zero, List.set_cons_succ]
          refine wpAny_ready (rs := [17]) (by kernel_rfl) (by simp) (AllReady.cons (o := { dst := some 30, op := Op.load 4 (Operand.tmp 29), type := 4, pos := "shift.go:52", after := #[{ on := 16, ground := Ground.data }, { on := 13, ground := Ground.guard }], guard := some (13, false) }) rfl (fun K' hK => ?_) AllReady.nil)
          go_simp
          refine hK _ _ ?_
          clear hK K'
          refine wpAny_take (i := 18) (oi := { dst := some 31, op := Op.unOp UnOp.not 4 (Operand.tmp 30), type := 4, pos := "shift.go:52", after := #[{ on := 17, ground := Ground.data }, { on := 13, ground := Ground.guard }], guard := some (13, false) }) (v := .bool true) rfl (by kernel_rfl) (by kernel_rfl) (by kernel_rfl) (fun _ _ _ h => h) (.inl ⟨rfl, fun _ => rfl⟩) ?_
          simp only [Act.put, List.setIfInBounds_toArray, List.set_cons_zero, List.set_cons_succ]
          refine wpAny_take (i := 19) (oi := { dst := some 32, op := Op.move (Operand.tmp 31), type := 4, pos := "shift.go:52", after := #[{ on := 18, ground := Ground.data }, { on := 13, ground := Ground.chain }, { on := 13, ground := Ground.guard }], guard := some (13, false) }) (v := .bool true) rfl (by kernel_rfl) (by kernel_rfl) (by kernel_rfl) (fun _ _ _ h => h) (.inl ⟨rfl, fun _ => rfl⟩) ?_
          simp only [Act.put, List.setIfInBounds_toArray, List.set_cons_zero, List.set_cons_succ]
          refine wpAny_take (i := 20) (oi := { dst := some 33, op := Op.move (Operand.tmp 6), type := 96, pos := "shift.go:52", after := #[{ on := 19, ground := Ground.guard }], guard := some (19, true) }) (v := .pointer (some ⟨b, off, none⟩)) rfl (by kernel_rfl) (by kernel_rfl) (by kernel_rfl) (fun _ _ _ h => h) (.inl ⟨rfl, fun _ => rfl⟩) ?_
          simp only [Act.put, List.setIfInBounds_toArray, List.set_cons_zero, List.set_cons_succ]
          refine wpAny_take (i := 21) (oi := { dst := some 34, op := Op.nilCheck (Operand.tmp 33), type := 0, pos := "shift.go:52", after := #[{ on := 20, ground := Ground.data }, { on := 19, ground := Ground.guard }], guard := some (19, true) }) (v := .pointer (some ⟨b, off, none⟩)) rfl (by kernel_rfl) (by kernel_rfl) (by kernel_rfl) (fun _ _ _ h => h) (.inl ⟨rfl, fun _ => rfl⟩) ?_
          simp only [Act.put, List.setIfInBounds_toArray, List.set_cons_zero, List.set_cons_succ]
          refine wpAny_take (i := 22) (oi := { dst := some 35, op := Op.fieldAddr 26 (Operand.tmp 34) 1, type := 0, pos := "shift.go:52", after := #[{ on := 21, ground := Ground.data }, { on := 19, ground := Ground.guard }], guard := some (19, true) }) (v := .pointer (some ⟨b, off + 1, none⟩)) rfl (by kernel_rfl) (by kernel_rfl) (by kernel_rfl) (fun _ _ _ h => h) (.inl ⟨rfl, fun _ => rfl⟩) ?_
          simp only [Act.put, List.setIfInBounds_toArray, List.set_cons_zero, List.set_cons_succ]
          refine wpAny_ready (rs := [23]) (by kernel_rfl) (by simp) (AllReady.cons (o := { dst := some 36, op := Op.load 2 (Operand.tmp 2), type := 2, pos := "shift.go:52", after := #[{ on := 19, ground := Ground.guard }], guard := some (19, true) }) rfl (fun K' hK => ?_) AllReady.nil)
          go_simp
          refine hK _ _ ?_
          clear hK K'
          refine wpAny_ready (rs := [24]) (by kernel_rfl) (by simp) (AllReady.cons (o := { dst := some 37, op := Op.call { callee := Callee.value (Operand.func 71), args := #[Operand.tmp 35, Operand.tmp 36, Operand.const (Value.int IntKind.i64 702)], argTypes := #[98, 2, 3] }, type := 4, pos := "shift.go:52", after := #[{ on := 22, ground := Ground.data }, { on := 23, ground := Ground.data }, { on := 19, ground := Ground.chain }, { on := 19, ground := Ground.guard }], guard := some (19, true) }) rfl (fun K' hK => ?_) AllReady.nil)
          go_simp
          go_at_call 71
          with_reducible refine (AC.out _ (by simp [d1]) (by simp [fb])).mono ?_
          rintro e w2 ⟨rfl, rfl⟩
          refine hK _ _ ?_
          clear hK K'
          refine wpAny_take (i := 25) (oi := { dst := some 38, op := Op.unOp UnOp.not 4 (Operand.tmp 37), type := 4, pos := "shift.go:52", after := #[{ on := 24, ground := Ground.data }, { on := 19, ground := Ground.guard }], guard := some (19, true) }) (v := .bool false) rfl (by kernel_rfl) (by kernel_rfl) (by kernel_rfl) (fun _ _ _ h => h) (.inl ⟨rfl, fun _ => rfl⟩) ?_
          simp only [Act.put, List.setIfInBounds_toArray, List.set_cons_zero, List.set_cons_succ]
          refine wpAny_take (i := 26) (oi := { dst := some 39, op := Op.pick (Operand.tmp 32) (Operand.tmp 38) (Operand.const (Value.bool false)), type := 4, pos := "shift.go:52", after := #[{ on := 19, ground := Ground.data }, { on := 25, ground := Ground.data }, { on := 13, ground := Ground.guard }], guard := some (13, false) }) (v := .bool false) rfl (by kernel_rfl) (by kernel_rfl) (by kernel_rfl) (fun _ _ _ h => h) (.inl ⟨rfl, fun _ => rfl⟩) ?_
          simp only [Act.put, List.setIfInBounds_toArray, List.set_cons_zero, List.set_cons_succ]
          refine wpAny_take (i := 27) (oi := { dst := some 40, op := Op.pick (Operand.tmp 26) (Operand.const (Value.bool true)) (Operand.tmp 39), type := 4, pos := "shift.go:52", after := #[{ on := 13, ground := Ground.data }, { on := 26, ground := Ground.data }], guard := none }) (v := .bool false) rfl (by kernel_rfl) (by kernel_rfl) (by kernel_rfl) (fun _ _ _ h => h) (.inl ⟨rfl, fun _ => rfl⟩) ?_
          simp only [Act.put, List.setIfInBounds_toArray, List.set_cons_zero, List.set_cons_succ]
          refine wpAny_done (by kernel_rfl) ?_ _
          all_goals
            try clear hS'
            clear hd0 hd1
            go_wp2
            refine ⟨.inr (.inl ⟨rfl, ?_, ?_⟩), by simp [intOf]⟩
            · rw [(show pasteR dr dc ⟨row, col, true, false⟩ = ⟨row, (col + dc), true, false⟩ by simp [pasteR, moved_on p3 p4 q2])]
              first | exact ⟨(HC.out.set hlb (off + 1) (.int .i64 (col + dc))), (SC.out _ (col + dc) _ _ _ _ HB0.out)⟩ | exact ⟨((HC.out.set hlb (off + 1) (.int .i64 (col + dc)))).drew, (SC.out _ (col + dc) _ _ _ _ HB0.out)⟩ | exact ⟨((HC.out.set hlb (off + 1) (.int .i64 (col + dc)))).drewN _, (SC.out _ (col + dc) _ _ _ _ HB0.out)⟩
            · rw [(show pasteR dr dc ⟨row, col, true, false⟩ = ⟨row, (col + dc), true, false⟩ by simp [pasteR, moved_on p3 p4 q2])]
              have pp := place_on HP.out
              simp only at pp
              simp [placeB]; omega
        · have AC := Lib.hid fun (W : World) h => add_no W b (off + 1) col dc 702 h p3 p4 (by omega) HD2.out q2
          go_wp2_with fail
          go_quiet (first
            | (go_at_call 71
               refine Calls.quiet_of_same (AC.out _ (by simp [d1]))))
          all_goals
            try clear hS'
            clear hd0 hd1
            go_wp2
            go_ret
            refine ⟨false, ⟨row, col, true, false⟩, t, rfl, ?_, HB0.out, ?_⟩
            · first | exact HC.out | exact (HC.out).drew | exact (HC.out).drewN _
            · simp [mv2, paste_off HP.out (.inr ⟨rfl, q2⟩)]
      · go_wp2_with fail
        go_quiet (fail)
        all_goals
          try clear hS'
          clear hd0 hd1
          go_wp2
          refine ⟨.inr (.inl ⟨rfl, ?_, ?_⟩), by simp [intOf]⟩
          · rw [(show pasteR dr dc ⟨row, col, true, true⟩ = ⟨row, col, true, true⟩ by simp [pasteR])]
            first | exact ⟨HC.out, HB0.out⟩ | exact ⟨(HC.out).drew, HB0.out⟩ | exact ⟨(HC.out).drewN _, HB0.out⟩
          · rw [(show pasteR dr dc ⟨row, col, true, true⟩ = ⟨row, col, true, true⟩ by simp [pasteR])]
            have pp := place_on HP.out
            simp only at pp
            simp [placeB]; omega
    · clear pq
      have HPP := Lib.hid hpp
      clear hpp
      rw [← List.append_assoc] at hb
      have cg0 : wr.cell? ⟨g, 1, none⟩ = some (.pointer (some ⟨b, pre.length + 4, none⟩)) := by rw [cells_of_block ((hc.2 g hltg hgb).trans HG.out)]; rfl
      have cD := cells_of_block ((hc.1.block D hD.1).trans HE.out.1) 0
      have cD2 := cells_of_block ((hc.1.block D2 hD.2).trans HE.out.2) 0
      obtain ⟨off, hoff⟩ : ∃ off, off = ((pre ++ (pasteR dr dc r).vals) : List Value).length := ⟨_, rfl⟩
      have hb0 := hb
      obtain ⟨d0, d1, d2, d3⟩ := ref_at hb
      rw [show pre.length + 4 = off by rw [hoff]; simp [RefT.vals]] at cg0
      rw [← hoff] at d0 d1 d2 d3
      have sr : ∀ (W : World) (x' : Int) (row col : Int) (pr pc : Bool), W.heap[b]? = some (.cells ((pre ++ (pasteR dr dc r).vals) ++ (RefT.vals ⟨row, col, pr, pc⟩ ++ post)).toArray 29 (0, 0)) → (W.setCell ⟨b, off, none⟩ (.int .i64 x')).heap[b]? = some (.cells ((pre ++ (pasteR dr dc r).vals) ++ (RefT.vals ⟨x', col, pr, pc⟩ ++ post)).toArray 29 (0, 0)) := fun W x' row col pr pc h => by rw [hoff]; exact set_row x' h
      have sc : ∀ (W : World) (x' : Int) (row col : Int) (pr pc : Bool), W.heap[b]? = some (.cells ((pre ++ (pasteR dr dc r).vals) ++ (RefT.vals ⟨row, col, pr, pc⟩ ++ post)).toArray 29 (0, 0)) → (W.setCell ⟨b, off + 1, none⟩ (.int .i64 x')).heap[b]? = some (.cells ((pre ++ (pasteR dr dc r).vals) ++ (RefT.vals ⟨row, x', pr, pc⟩ ++ post)).toArray 29 (0, 0)) := fun W x' row col pr pc h => by rw [hoff]; exact set_col x' h
      have fb := frees_of_block hb
      have hbD : ¬ b = D := by omega
      have hbD2 : ¬ b = D2 := by omega
      have SR := Lib.hid sr; have SC := Lib.hid sc; have HC := Lib.hid hc; have HB0 := Lib.hid hb0
      clear sr sc hc hb0 hb hoff
      obtain ⟨row, col, pr, pc⟩ := t
      obtain ⟨⟨p1, p2⟩, p3, p4⟩ := pq2
      simp only at d0 d1 d2 d3 p1 p2 p3 p4
      have ks : ∀ (W : World), (W.cell? ⟨b, off + 2, none⟩ = some (.bool pr) ∧ W.cell? ⟨b, off + 3, none⟩ = some (.bool pc) ∧ W.cell? ⟨D, 0, none⟩ = some (.int .i64 dr) ∧ W.cell? ⟨D2, 0, none⟩ = some (.int .i64 dc)) → ∀ v : Value, ((W.setCell ⟨b, off, none⟩ v).cell? ⟨b, off + 2, none⟩ = some (.bool pr) ∧ (W.setCell ⟨b, off, none⟩ v).cell? ⟨b, off + 3, none⟩ = some (.bool pc) ∧ (W.setCell ⟨b, off, none⟩ v).cell? ⟨D, 0, none⟩ = some (.int .i64 dr) ∧ (W.setCell ⟨b, off, none⟩ v).cell? ⟨D2, 0, none⟩ = some (.int .i64 dc)) ∧ ((W.setCell ⟨b, off + 1, none⟩ v).cell? ⟨b, off + 2, none⟩ = some (.bool pr) ∧ (W.setCell ⟨b, off + 1, none⟩ v).cell? ⟨b, off + 3, none⟩ = some (.bool pc) ∧ (W.setCell ⟨b, off + 1, none⟩ v).cell? ⟨D, 0, none⟩ = some (.int .i64 dr) ∧ (W.setCell ⟨b, off + 1, none⟩ v).cell? ⟨D2, 0, none⟩ = some (.int .i64 dc)) := fun W h v => by
        obtain ⟨s1, s2, s3, s4⟩ := h
        have kk : ∀ (i : Nat) (a : Addr) (u : Value), (⟨b, i, none⟩ : Addr) ≠ a → W.cell? a = some u → (W.setCell ⟨b, i, none⟩ v).cell? a = some u := fun i a u h e => by rw [World.cell?_setCell_other (h := h)]; exact e
        exact ⟨⟨kk _ _ _ (by simp) s1, kk _ _ _ (by simp) s2, kk _ _ _ (fun e => hbD (congrArg Addr.block e)) s3, kk _ _ _ (fun e => hbD2 (congrArg Addr.block e)) s4⟩, kk _ _ _ (by simp) s1, kk _ _ _ (by simp) s2, kk _ _ _ (fun e => hbD (congrArg Addr.block e)) s3, kk _ _ _ (fun e => hbD2 (congrArg Addr.block e)) s4⟩
      have KS := Lib.hid ks
      have hd0 : (wr.cell? ⟨b, off + 2, none⟩ = some (.bool pr) ∧ wr.cell? ⟨b, off + 3, none⟩ = some (.bool pc) ∧ wr.cell? ⟨D, 0, none⟩ = some (.int .i64 dr) ∧ wr.cell? ⟨D2, 0, none⟩ = some (.int .i64 dc)) := ⟨d2, d3, cD, cD2⟩
      have hd1 : (wr.drew.cell? ⟨b, off + 2, none⟩ = some (.bool pr) ∧ wr.drew.cell? ⟨b, off + 3, none⟩ = some (.bool pc) ∧ wr.drew.cell? ⟨D, 0, none⟩ = some (.int .i64 dr) ∧ wr.drew.cell? ⟨D2, 0, none⟩ = some (.int .i64 dc)) := ⟨d2, d3, cD, cD2⟩
      have k1 : ∀ v : Value, (wr.setCell ⟨b, off, none⟩ v).cell? ⟨b, off + 1, none⟩ = some (.int .i64 col) := fun v => by rw [World.cell?_setCell_other (h := by simp)]; exact d1
      clear ks
      cases pr <;> cases pc
      · by_cases q1 : 0 ≤ row + dr ∧ row + dr < 65536
        · by_cases q2 : 0 ≤ col + dc ∧ col + dc < 702
          · have AR := Lib.hid fun (W : World) h h' => add_yes W b off row dr 65536 h h' p1 p2 (by omega) q1.1 q1.2
            have AC := Lib.hid fun (W : World) h h' => add_yes W b (off + 1) col dc 702 h h' p3 p4 (by omega) q2.1 q2.2
            go_wp2_with fail
            go_region_held3 (fun W => (W.cell? ⟨b, off + 2, none⟩ = some (.bool false) ∧ W.cell? ⟨b, off + 3, none⟩ = some (.bool false) ∧ W.cell? ⟨D, 0, none⟩ = some (.int .i64 dr) ∧ W.cell? ⟨D2, 0, none⟩ = some (.int .i64 dc))) (first | with_reducible assumption | with_reducible exact hd0 | with_reducible exact hd1 | exact hS') (first
              | (go_at_call 71
                 with_reducible refine (AR.out _ (by simp [d0]) (by simp [fb])).mono ?_
                 rintro e w2 ⟨rfl, rfl⟩
                 have hS' := (KS.out _ (by assumption) (.int .i64 (row + dr))).1)
              | (go_at_call 71
                 with_reducible refine (AC.out _ (by simp [k1]) (by simp [fb])).mono ?_
                 rintro e w2 ⟨rfl, rfl⟩
                 have hS' := (KS.out _ (by assumption) (.int .i64 (col + dc))).2))
            all_goals
              try clear hS'
              clear hd0 hd1
              go_wp2
              refine ⟨.inr (.inr ⟨rfl, ?_, HPP.out, ?_⟩), by simp [intOf]⟩
              · rw [(show pasteR dr dc ⟨row, col, false, false⟩ = ⟨(row + dr), (col + dc), false, false⟩ by simp [pasteR, moved_on p1 p2 q1, moved_on p3 p4 q2]), ← List.append_assoc]
                first | exact ⟨((HC.out.set hlb off (.int .i64 (row + dr))).set hlb (off + 1) (.int .i64 (col + dc))), (SC.out _ (col + dc) _ _ _ _ (SR.out _ (row + dr) _ _ _ _ HB0.out))⟩ | exact ⟨(((HC.out.set hlb off (.int .i64 (row + dr))).set hlb (off + 1) (.int .i64 (col + dc)))).drew, (SC.out _ (col + dc) _ _ _ _ (SR.out _ (row + dr) _ _ _ _ HB0.out))⟩ | exact ⟨(((HC.out.set hlb off (.int .i64 (row + dr))).set hlb (off + 1) (.int .i64 (col + dc)))).drewN _, (SC.out _ (col + dc) _ _ _ _ (SR.out _ (row + dr) _ _ _ _ HB0.out))⟩
              · rw [(show pasteR dr dc ⟨row, col, false, false⟩ = ⟨(row + dr), (col + dc), false, false⟩ by simp [pasteR, moved_on p1 p2 q1, moved_on p3 p4 q2])]
                have pp := place_on HP2.out
                simp only at pp
                simp [placeB]; omega
          · have AR := Lib.hid fun (W : World) h h' => add_yes W b off row dr 65536 h h' p1 p2 (by omega) q1.1 q1.2
            have AC := Lib.hid fun (W : World) h => add_no W b (off + 1) col dc 702 h p3 p4 (by omega) HD2.out q2
            go_wp2_with fail
            go_region_held3 (fun W => (W.cell? ⟨b, off + 2, none⟩ = some (.bool false) ∧ W.cell? ⟨b, off + 3, none⟩ = some (.bool false) ∧ W.cell? ⟨D, 0, none⟩ = some (.int .i64 dr) ∧ W.cell? ⟨D2, 0, none⟩ = some (.int .i64 dc))) (first | with_reducible assumption | with_reducible exact hd0 | with_reducible exact hd1 | exact hS') (first
              | (go_at_call 71
                 with_reducible refine (AR.out _ (by simp [d0]) (by simp [fb])).mono ?_
                 rintro e w2 ⟨rfl, rfl⟩
                 have hS' := (KS.out _ (by assumption) (.int .i64 (row + dr))).1)
              | (go_at_call 71
                 with_reducible refine (AC.out _ (by simp [k1])).mono ?_
                 rintro e w2 ⟨rfl, rfl⟩
                 have hS' := (KS.out _ hd1 (.int .i64 (row + dr))).1))
            all_goals
              try clear hS'
              clear hd0 hd1
              go_wp2
              go_ret
              refine ⟨false, pasteR dr dc r, ⟨(row + dr), col, false, false⟩, rfl, ?_, ?_, ?_⟩
              · first | exact (HC.out.set hlb off (.int .i64 (row + dr))) | exact ((HC.out.set hlb off (.int .i64 (row + dr)))).drew | exact ((HC.out.set hlb off (.int .i64 (row + dr)))).drewN _
              · rw [← List.append_assoc]; exact (SR.out _ (row + dr) _ _ _ _ HB0.out)
              · simp [mv2, paste_off HP2.out (.inr ⟨rfl, q2⟩)]
        · have AR := Lib.hid fun (W : World) h => add_no W b off row dr 65536 h p1 p2 (by omega) HD1.out q1
          go_wp2_with fail
          go_quiet (first
            | (go_at_call 71
               refine Calls.quiet_of_same (AR.out _ (by simp [d0]))))
          all_goals
            try clear hS'
            clear hd0 hd1
            go_wp2
            go_ret
            refine ⟨false, pasteR dr dc r, ⟨row, col, false, false⟩, rfl, ?_, ?_, ?_⟩
            · first | exact HC.out | exact (HC.out).drew | exact (HC.out).drewN _
            · rw [← List.append_assoc]; exact HB0.out
            · simp [mv2, paste_off HP2.out (.inl ⟨rfl, q1⟩)]
      · by_cases q1 : 0 ≤ row + dr ∧ row + dr < 65536
        · have AR := Lib.hid fun (W : World) h h' => add_yes W b off row dr 65536 h h' p1 p2 (by omega) q1.1 q1.2
          go_wp2_with fail
          refine wp_region_any (by kernel_rfl) ?_
          change wpAny _ _ _ _ 28 _ _ wr.drew
          refine wpAny_take (i := 0) (oi := { dst := some 13, op := Op.move (Operand.tmp 6), type := 96, pos := "shift.go:52", after := #[], guard := none }) (v := .pointer (some ⟨b, off, none⟩)) rfl (by kernel_rfl) (by kernel_rfl) (by kernel_rfl) (fun _ _ _ h => h) (.inl ⟨rfl, fun _ => rfl⟩) ?_
          simp only [Act.put, List.setIfInBounds_toArray, List.set_cons_zero, List.set_cons_succ]
          refine wpAny_take (i := 1) (oi := { dst := some 14, op := Op.nilCheck (Operand.tmp 13), type := 0, pos := "shift.go:52", after := #[{ on := 0, ground := Ground.data }], guard := none }) (v := .pointer (some ⟨b, off, none⟩)) rfl (by kernel_rfl) (by kernel_rfl) (by kernel_rfl) (fun _ _ _ h => h) (.inl ⟨rfl, fun _ => rfl⟩) ?_
          simp only [Act.put, List.setIfInBounds_toArray, List.set_cons_zero, List.set_cons_succ]
          refine wpAny_take (i := 2) (oi := { dst := some 15, op := Op.fieldAddr 26 (Operand.tmp 14) 2, type := 0, pos := "shift.go:52", after := #[{ on := 1, ground := Ground.data }], guard := none }) (v := .pointer (some ⟨b, off + 2, none⟩)) rfl (by kernel_rfl) (by kernel_rfl) (by kernel_rfl) (fun _ _ _ h => h) (.inl ⟨rfl, fun _ => rfl⟩) ?_
          simp only [Act.put, List.setIfInBounds_toArray, List.set_cons_zero, List.set_cons_succ]
          refine wpAny_ready (rs := [3]) (by kernel_rfl) (by simp) (AllReady.cons (o := { dst := some 16, op := Op.load 4 (Operand.tmp 15), type := 4, pos := "shift.go:52", after := #[{ on := 2, ground := Ground.data }], guard := none }) rfl (fun K' hK => ?_) AllReady.nil)
          go_simp
          refine hK _ _ ?_
          clear hK K'
          refine wpAny_take (i := 4) (oi := { dst := some 17, op := Op.unOp UnOp.not 4 (Operand.tmp 16), type := 4, pos := "shift.go:52", after := #[{ on := 3, ground := Ground.data }], guard := none }) (v := .bool true) rfl (by kernel_rfl) (by kernel_rfl) (by kernel_rfl) (fun _ _ _ h => h) (.inl ⟨rfl, fun _ => rfl⟩) ?_
          simp only [Act.put, List.setIfInBounds_toArray, List.set_cons_zero, List.set_cons_succ]
          refine wpAny_take (i := 5) (oi := { dst := some 18, op := Op.move (Operand.tmp 17), type := 4, pos := "shift.go:52", after := #[{ on := 4, ground := Ground.data }], guard := none }) (v := .bool true) rfl (by kernel_rfl) (by kernel_rfl) (by kernel_rfl) (fun _ _ _ h => h) (.inl ⟨rfl, fun _ => rfl⟩) ?_
          simp only [Act.put, List.setIfInBounds_toArray, List.set_cons_zero, List.set_cons_succ]
          refine wpAny_take (i := 6) (oi := { dst := some 19, op := Op.move (Operand.tmp 6), type := 96, pos := "shift.go:52", after := #[{ on := 5, ground := Ground.guard }], guard := some (5, true) }) (v := .pointer (some ⟨b, off, none⟩)) rfl (by kernel_rfl) (by kernel_rfl) (by kernel_rfl) (fun _ _ _ h => h) (.inl ⟨rfl, fun _ => rfl⟩) ?_
          simp only [Act.put, List.setIfInBounds_toArray, List.set_cons_zero, List.set_cons_succ]
          refine wpAny_take (i := 7) (oi := { dst := some 20, op := Op.nilCheck (Operand.tmp 19), type := 0, pos := "shift.go:52", after := #[{ on := 6, ground := Ground.data }, { on := 5, ground := Ground.guard }], guard := some (5, true) }) (v := .pointer (some ⟨b, off, none⟩)) rfl (by kernel_rfl) (by kernel_rfl) (by kernel_rfl) (fun _ _ _ h => h) (.inl ⟨rfl, fun _ => rfl⟩) ?_
          simp only [Act.put, List.setIfInBounds_toArray, List.set_cons_zero, List.set_cons_succ]
          refine wpAny_take (i := 8) (oi := { dst := some 21, op := Op.fieldAddr 26 (Operand.tmp 20) 0, type := 0, pos := "shift.go:52", after := #[{ on := 7, ground := Ground.data }, { on := 5, ground := Ground.guard }], guard := some (5, true) }) (v := .pointer (some ⟨b, off, none⟩)) rfl (by kernel_rfl) (by kernel_rfl) (by kernel_rfl) (fun _ _ _ h => h) (.inl ⟨rfl, fun _ => rfl⟩) ?_
          simp only [Act.put, List.setIfInBounds_toArray, List.set_cons_zero, List.set_cons_succ]
          refine wpAny_ready (rs := [9]) (by kernel_rfl) (by simp) (AllReady.cons (o := { dst := some 22, op := Op.load 2 (Operand.tmp 1), type := 2, pos := "shift.go:52", after := #[{ on := 5, ground := Ground.guard }], guard := some (5, true) }) rfl (fun K' hK => ?_) AllReady.nil)
          go_simp
          refine hK _ _ ?_
          clear hK K'
          refine wpAny_ready (rs := [10]) (by kernel_rfl) (by simp) (AllReady.cons (o := { dst := some 23, op := Op.call { callee := Callee.value (Operand.func 71), args := #[Operand.tmp 21, Operand.tmp 22, Operand.const (Value.int IntKind.i64 65536)], argTypes := #[98, 2, 3] }, type := 4, pos := "shift.go:52", after := #[{ on := 8, ground := Ground.data }, { on := 9, ground := Ground.data }, { on := 5, ground := Ground.chain }, { on := 5, ground := Ground.guard }], guard := some (5, true) }) rfl (fun K' hK => ?_) AllReady.nil)
          go_simp
          go_at_call 71
          with_reducible refine (AR.out _ (by simp [d0]) (by simp [fb])).mono ?_
          rintro e w2 ⟨rfl, rfl⟩
          refine hK _ _ ?_
          clear hK K'
          refine wpAny_take (i := 11) (oi := { dst := some 24, op := Op.unOp UnOp.not 4 (Operand.tmp 23), type := 4, pos := "shift.go:52", after := #[{ on := 10, ground := Ground.data }, { on := 5, ground := Ground.guard }], guard := some (5, true) }) (v := .bool false) rfl (by kernel_rfl) (by kernel_rfl) (by kernel_rfl) (fun _ _ _ h => h) (.inl ⟨rfl, fun _ => rfl⟩) ?_
          simp only [Act.put, List.setIfInBounds_toArray, List.set_cons_zero, List.set_cons_succ]
          refine wpAny_take (i := 12) (oi := { dst := some 25, op := Op.pick (Operand.tmp 18) (Operand.tmp 24) (Operand.const (Value.bool false)), type := 4, pos := "shift.go:52", after := #[{ on := 5, ground := Ground.data }, { on := 11, ground := Ground.data }], guard := none }) (v := .bool false) rfl (by kernel_rfl) (by kernel_rfl) (by kernel_rfl) (fun _ _ _ h => h) (.inl ⟨rfl, fun _ => rfl⟩) ?_
          simp only [Act.put, List.setIfInBounds_toArray, List.set_cons_zero, List.set_cons_succ]
          refine wpAny_take (i := 13) (oi := { dst := some 26, op := Op.move (Operand.tmp 25), type := 4, pos := "shift.go:52", after := #[{ on := 12, ground := Ground.data }, { on := 10, ground := Ground.chain }], guard := none }) (v := .bool false) rfl (by kernel_rfl) (by kernel_rfl) (by kernel_rfl) (fun _ _ _ h => h) (.inl ⟨rfl, fun _ => rfl⟩) ?_
          simp only [Act.put, List.setIfInBounds_toArray, List.set_cons_zero, List.set_cons_succ]
          refine wpAny_take (i := 14) (oi := { dst := some 27, op := Op.move (Operand.tmp 6), type := 96, pos := "shift.go:52", after := #[{ on := 13, ground := Ground.guard }], guard := some (13, false) }) (v := .pointer (some ⟨b, off, none⟩)) rfl (by kernel_rfl) (by kernel_rfl) (by kernel_rfl) (fun _ _ _ h => h) (.inl ⟨rfl, fun _ => rfl⟩) ?_
          simp only [Act.put, List.setIfInBounds_toArray, List.set_cons_zero, List.set_cons_succ]
          refine wpAny_take (i := 15) (oi := { dst := some 28, op := Op.nilCheck (Operand.tmp 27), type := 0, pos := "shift.go:52", after := #[{ on := 14, ground := Ground.data }, { on := 13, ground := Ground.guard }], guard := some (13, false) }) (v := .pointer (some ⟨b, off, none⟩)) rfl (by kernel_rfl) (by kernel_rfl) (by kernel_rfl) (fun _ _ _ h => h) (.inl ⟨rfl, fun _ => rfl⟩) ?_
          simp only [Act.put, List.setIfInBounds_toArray, List.set_cons_zero, List.set_cons_succ]
          refine wpAny_take (i := 16) (oi := { dst := some 29, op := Op.fieldAddr 26 (Operand.tmp 28) 3, type := 0, pos := "shift.go:52", after := #[{ on := 15, ground := Ground.data }, { on := 13, ground := Ground.guard }], guard := some (13, false) }) (v := .pointer (some ⟨b, off + 3, none⟩)) rfl (by kernel_rfl) (by kernel_rfl) (by kernel_rfl) (fun _ _ _ h => h) (.inl ⟨rfl, fun _ => rfl⟩) ?_
          simp only [Act.put, List.setIfInBounds_toArray, List.set_cons_zero, List.set_cons_succ]
          refine wpAny_ready (rs := [17]) (by kernel_rfl) (by simp) (AllReady.cons (o := { dst := some 30, op := Op.load 4 (Operand.tmp 29), type := 4, pos := "shift.go:52", after := #[{ on := 16, ground := Ground.data }, { on := 13, ground := Ground.guard }], guard := some (13, false) }) rfl (fun K' hK => ?_) AllReady.nil)
          go_simp
          refine hK _ _ ?_
          clear hK K'
          refine wpAny_take (i := 18) (oi := { dst := some 31, op := Op.unOp UnOp.not 4 (Operand.tmp 30), type := 4, pos := "shift.go:52", after := #[{ on := 17, ground := Ground.data }, { on := 13, ground := Ground.guard }], guard := some (13, false) }) (v := .bool false) rfl (by kernel_rfl) (by kernel_rfl) (by kernel_rfl) (fun _ _ _ h => h) (.inl ⟨rfl, fun _ => rfl⟩) ?_
          simp only [Act.put, List.setIfInBounds_toArray, List.set_cons_zero, List.set_cons_succ]
          refine wpAny_take (i := 19) (oi := { dst := some 32, op := Op.move (Operand.tmp 31), type := 4, pos := "shift.go:52", after := #[{ on := 18, ground := Ground.data }, { on := 13, ground := Ground.chain }, { on := 13, ground := Ground.guard }], guard := some (13, false) }) (v := .bool false) rfl (by kernel_rfl) (by kernel_rfl) (by kernel_rfl) (fun _ _ _ h => h) (.inl ⟨rfl, fun _ => rfl⟩) ?_
          simp only [Act.put, List.setIfInBounds_toArray, List.set_cons_zero, List.set_cons_succ]
          refine wpAny_take (i := 20) (oi := { dst := some 33, op := Op.move (Operand.tmp 6), type := 96, pos := "shift.go:52", after := #[{ on := 19, ground := Ground.guard }], guard := some (19, true) }) (v := undef) rfl (by kernel_rfl) (by kernel_rfl) (by kernel_rfl) (fun _ _ _ h => h) (.inr ⟨rfl, rfl⟩) ?_
          simp only [Act.put, List.setIfInBounds_toArray, List.set_cons_zero, List.set_cons_succ]
          refine wpAny_take (i := 21) (oi := { dst := some 34, op := Op.nilCheck (Operand.tmp 33), type := 0, pos := "shift.go:52", after := #[{ on := 20, ground := Ground.data }, { on := 19, ground := Ground.guard }], guard := some (19, true) }) (v := undef) rfl (by kernel_rfl) (by kernel_rfl) (by kernel_rfl) (fun _ _ _ h => h) (.inr ⟨rfl, rfl⟩) ?_
          simp only [Act.put, List.setIfInBounds_toArray, List.set_cons_zero, List.set_cons_succ]
          refine wpAny_take (i := 22) (oi := { dst := some 35, op := Op.fieldAddr 26 (Operand.tmp 34) 1, type := 0, pos := "shift.go:52", after := #[{ on := 21, ground := Ground.data }, { on := 19, ground := Ground.guard }], guard := some (19, true) }) (v := undef) rfl (by kernel_rfl) (by kernel_rfl) (by kernel_rfl) (fun _ _ _ h => h) (.inr ⟨rfl, rfl⟩) ?_
          simp only [Act.put, List.setIfInBounds_toArray, List.set_cons_zero, List.set_cons_succ]
          refine wpAny_take (i := 23) (oi := { dst := some 36, op := Op.load 2 (Operand.tmp 2), type := 2, pos := "shift.go:52", after := #[{ on := 19, ground := Ground.guard }], guard := some (19, true) }) (v := undef) rfl (by kernel_rfl) (by kernel_rfl) (by kernel_rfl) (fun _ _ _ h => h) (.inr ⟨rfl, rfl⟩) ?_
          simp only [Act.put, List.setIfInBounds_toArray, List.set_cons_zero, List.set_cons_succ]
          refine wpAny_take (i := 24) (oi := { dst := some 37, op := Op.call { callee := Callee.value (Operand.func 71), args := #[Operand.tmp 35, Operand.tmp 36, Operand.const (Value.int IntKind.i64 702)], argTypes := #[98, 2, 3] }, type := 4, pos := "shift.go:52", after := #[{ on := 22, ground := Ground.data }, { on := 23, ground := Ground.data }, { on := 19, ground := Ground.chain }, { on := 19, ground := Ground.guard }], guard := some (19, true) }) (v := undef) rfl (by kernel_rfl) (by kernel_rfl) (by kernel_rfl) (fun _ _ _ h => h) (.inr ⟨rfl, rfl⟩) ?_
          simp only [Act.put, List.setIfInBounds_toArray, List.set_cons_zero, List.set_cons_succ]
          refine wpAny_take (i := 25) (oi := { dst := some 38, op := Op.unOp UnOp.not 4 (Operand.tmp 37), type := 4, pos := "shift.go:52", after := #[{ on := 24, ground := Ground.data }, { on := 19, ground := Ground.guard }], guard := some (19, true) }) (v := undef) rfl (by kernel_rfl) (by kernel_rfl) (by kernel_rfl) (fun _ _ _ h => h) (.inr ⟨rfl, rfl⟩) ?_
          simp only [Act.put, List.setIfInBounds_toArray, List.set_cons_zero, List.set_cons_succ]
          refine wpAny_take (i := 26) (oi := { dst := some 39, op := Op.pick (Operand.tmp 32) (Operand.tmp 38) (Operand.const (Value.bool false)), type := 4, pos := "shift.go:52", after := #[{ on := 19, ground := Ground.data }, { on := 25, ground := Ground.data }, { on := 13, ground := Ground.guard }], guard := some (13, false) }) (v := .bool false) rfl (by kernel_rfl) (by kernel_rfl) (by kernel_rfl) (fun _ _ _ h => h) (.inl ⟨rfl, fun _ => rfl⟩) ?_
          simp only [Act.put, List.setIfInBounds_toArray, List.set_cons_zero, List.set_cons_succ]
          refine wpAny_take (i := 27) (oi := { dst := some 40, op := Op.pick (Operand.tmp 26) (Operand.const (Value.bool true)) (Operand.tmp 39), type := 4, pos := "shift.go:52", after := #[{ on := 13, ground := Ground.data }, { on := 26, ground := Ground.data }], guard := none }) (v := .bool false) rfl (by kernel_rfl) (by kernel_rfl) (by kernel_rfl) (fun _ _ _ h => h) (.inl ⟨rfl, fun _ => rfl⟩) ?_
          simp only [Act.put, List.setIfInBounds_toArray, List.set_cons_zero, List.set_cons_succ]
          refine wpAny_done (by kernel_rfl) ?_ _
          all_goals
            try clear hS'
            clear hd0 hd1
            go_wp2
            refine ⟨.inr (.inr ⟨rfl, ?_, HPP.out, ?_⟩), by simp [intOf]⟩
            · rw [(show pasteR dr dc ⟨row, col, false, true⟩ = ⟨(row + dr), col, false, true⟩ by simp [pasteR, moved_on p1 p2 q1]), ← List.append_assoc]
              first | exact ⟨(HC.out.set hlb off (.int .i64 (row + dr))), (SR.out _ (row + dr) _ _ _ _ HB0.out)⟩ | exact ⟨((HC.out.set hlb off (.int .i64 (row + dr)))).drew, (SR.out _ (row + dr) _ _ _ _ HB0.out)⟩ | exact ⟨((HC.out.set hlb off (.int .i64 (row + dr)))).drewN _, (SR.out _ (row + dr) _ _ _ _ HB0.out)⟩
            · rw [(show pasteR dr dc ⟨row, col, false, true⟩ = ⟨(row + dr), col, false, true⟩ by simp [pasteR, moved_on p1 p2 q1])]
              have pp := place_on HP2.out
              simp only at pp
              simp [placeB]; omega
        · have AR := Lib.hid fun (W : World) h => add_no W b off row dr 65536 h p1 p2 (by omega) HD1.out q1
          go_wp2_with fail
          go_quiet (first
            | (go_at_call 71
               refine Calls.quiet_of_same (AR.out _ (by simp [d0]))))
          all_goals
            try clear hS'
            clear hd0 hd1
            go_wp2
            go_ret
            refine ⟨false, pasteR dr dc r, ⟨row, col, false, true⟩, rfl, ?_, ?_, ?_⟩
            · first | exact HC.out | exact (HC.out).drew | exact (HC.out).drewN _
            · rw [← List.append_assoc]; exact HB0.out
            · simp [mv2, paste_off HP2.out (.inl ⟨rfl, q1⟩)]
      · by_cases q2 : 0 ≤ col + dc ∧ col + dc < 702
        · have AC := Lib.hid fun (W : World) h h' => add_yes W b (off + 1) col dc 702 h h' p3 p4 (by omega) q2.1 q2.2
          go_wp2_with fail
          refine wp_region_any (by kernel_rfl) ?_
          change wpAny _ _ _ _ 28 _ _ wr.drew
          refine wpAny_take (i := 0) (oi := { dst := some 13, op := Op.move (Operand.tmp 6), type := 96, pos := "shift.go:52", after := #[], guard := none }) (v := .pointer (some ⟨b, off, none⟩)) rfl (by kernel_rfl) (by kernel_rfl) (by kernel_rfl) (fun _ _ _ h => h) (.inl ⟨rfl, fun _ => rfl⟩) ?_
          simp only [Act.put, List.setIfInBounds_toArray, List.set_cons_zero, List.set_cons_succ]
          refine wpAny_take (i := 1) (oi := { dst := some 14, op := Op.nilCheck (Operand.tmp 13), type := 0, pos := "shift.go:52", after := #[{ on := 0, ground := Ground.data }], guard := none }) (v := .pointer (some ⟨b, off, none⟩)) rfl (by kernel_rfl) (by kernel_rfl) (by kernel_rfl) (fun _ _ _ h => h) (.inl ⟨rfl, fun _ => rfl⟩) ?_
          simp only [Act.put, List.setIfInBounds_toArray, List.set_cons_zero, List.set_cons_succ]
          refine wpAny_take (i := 2) (oi := { dst := some 15, op := Op.fieldAddr 26 (Operand.tmp 14) 2, type := 0, pos := "shift.go:52", after := #[{ on := 1, ground := Ground.data }], guard := none }) (v := .pointer (some ⟨b, off + 2, none⟩)) rfl (by kernel_rfl) (by kernel_rfl) (by kernel_rfl) (fun _ _ _ h => h) (.inl ⟨rfl, fun _ => rfl⟩) ?_
          simp only [Act.put, List.setIfInBounds_toArray, List.set_cons_zero, List.set_cons_succ]
          refine wpAny_ready (rs := [3]) (by kernel_rfl) (by simp) (AllReady.cons (o := { dst := some 16, op := Op.load 4 (Operand.tmp 15), type := 4, pos := "shift.go:52", after := #[{ on := 2, ground := Ground.data }], guard := none }) rfl (fun K' hK => ?_) AllReady.nil)
          go_simp
          refine hK _ _ ?_
          clear hK K'
          refine wpAny_take (i := 4) (oi := { dst := some 17, op := Op.unOp UnOp.not 4 (Operand.tmp 16), type := 4, pos := "shift.go:52", after := #[{ on := 3, ground := Ground.data }], guard := none }) (v := .bool false) rfl (by kernel_rfl) (by kernel_rfl) (by kernel_rfl) (fun _ _ _ h => h) (.inl ⟨rfl, fun _ => rfl⟩) ?_
          simp only [Act.put, List.setIfInBounds_toArray, List.set_cons_zero, List.set_cons_succ]
          refine wpAny_take (i := 5) (oi := { dst := some 18, op := Op.move (Operand.tmp 17), type := 4, pos := "shift.go:52", after := #[{ on := 4, ground := Ground.data }], guard := none }) (v := .bool false) rfl (by kernel_rfl) (by kernel_rfl) (by kernel_rfl) (fun _ _ _ h => h) (.inl ⟨rfl, fun _ => rfl⟩) ?_
          simp only [Act.put, List.setIfInBounds_toArray, List.set_cons_zero, List.set_cons_succ]
          refine wpAny_take (i := 6) (oi := { dst := some 19, op := Op.move (Operand.tmp 6), type := 96, pos := "shift.go:52", after := #[{ on := 5, ground := Ground.guard }], guard := some (5, true) }) (v := undef) rfl (by kernel_rfl) (by kernel_rfl) (by kernel_rfl) (fun _ _ _ h => h) (.inr ⟨rfl, rfl⟩) ?_
          simp only [Act.put, List.setIfInBounds_toArray, List.set_cons_zero, List.set_cons_succ]
          refine wpAny_take (i := 7) (oi := { dst := some 20, op := Op.nilCheck (Operand.tmp 19), type := 0, pos := "shift.go:52", after := #[{ on := 6, ground := Ground.data }, { on := 5, ground := Ground.guard }], guard := some (5, true) }) (v := undef) rfl (by kernel_rfl) (by kernel_rfl) (by kernel_rfl) (fun _ _ _ h => h) (.inr ⟨rfl, rfl⟩) ?_
          simp only [Act.put, List.setIfInBounds_toArray, List.set_cons_zero, List.set_cons_succ]
          refine wpAny_take (i := 8) (oi := { dst := some 21, op := Op.fieldAddr 26 (Operand.tmp 20) 0, type := 0, pos := "shift.go:52", after := #[{ on := 7, ground := Ground.data }, { on := 5, ground := Ground.guard }], guard := some (5, true) }) (v := undef) rfl (by kernel_rfl) (by kernel_rfl) (by kernel_rfl) (fun _ _ _ h => h) (.inr ⟨rfl, rfl⟩) ?_
          simp only [Act.put, List.setIfInBounds_toArray, List.set_cons_zero, List.set_cons_succ]
          refine wpAny_take (i := 9) (oi := { dst := some 22, op := Op.load 2 (Operand.tmp 1), type := 2, pos := "shift.go:52", after := #[{ on := 5, ground := Ground.guard }], guard := some (5, true) }) (v := undef) rfl (by kernel_rfl) (by kernel_rfl) (by kernel_rfl) (fun _ _ _ h => h) (.inr ⟨rfl, rfl⟩) ?_
          simp only [Act.put, List.setIfInBounds_toArray, List.set_cons_zero, List.set_cons_succ]
          refine wpAny_take (i := 10) (oi := { dst := some 23, op := Op.call { callee := Callee.value (Operand.func 71), args := #[Operand.tmp 21, Operand.tmp 22, Operand.const (Value.int IntKind.i64 65536)], argTypes := #[98, 2, 3] }, type := 4, pos := "shift.go:52", after := #[{ on := 8, ground := Ground.data }, { on := 9, ground := Ground.data }, { on := 5, ground := Ground.chain }, { on := 5, ground := Ground.guard }], guard := some (5, true) }) (v := undef) rfl (by kernel_rfl) (by kernel_rfl) (by kernel_rfl) (fun _ _ _ h => h) (.inr ⟨rfl, rfl⟩) ?_
          simp only [Act.put, List.setIfInBounds_toArray, List.set_cons_zero, List.set_cons_succ]
          refine wpAny_take (i := 11) (oi := { dst := some 24, op := Op.unOp UnOp.not 4 (Operand.tmp 23), type := 4, pos := "shift.go:52", after := #[{ on := 10, ground := Ground.data }, { on := 5, ground := Ground.guard }], guard := some (5, true) }) (v := undef) rfl (by kernel_rfl) (by kernel_rfl) (by kernel_rfl) (fun _ _ _ h => h) (.inr ⟨rfl, rfl⟩) ?_
          simp only [Act.put, List.setIfInBounds_toArray, List.set_cons_zero, List.set_cons_succ]
          refine wpAny_take (i := 12) (oi := { dst := some 25, op := Op.pick (Operand.tmp 18) (Operand.tmp 24) (Operand.const (Value.bool false)), type := 4, pos := "shift.go:52", after := #[{ on := 5, ground := Ground.data }, { on := 11, ground := Ground.data }], guard := none }) (v := .bool false) rfl (by kernel_rfl) (by kernel_rfl) (by kernel_rfl) (fun _ _ _ h => h) (.inl ⟨rfl, fun _ => rfl⟩) ?_
          simp only [Act.put, List.setIfInBounds_toArray, List.set_cons_zero, List.set_cons_succ]
          refine wpAny_take (i := 13) (oi := { dst := some 26, op := Op.move (Operand.tmp 25), type := 4, pos := "shift.go:52", after := #[{ on := 12, ground := Ground.data }, { on := 10, ground := Ground.chain }], guard := none }) (v := .bool false) rfl (by kernel_rfl) (by kernel_rfl) (by kernel_rfl) (fun _ _ _ h => h) (.inl ⟨rfl, fun _ => rfl⟩) ?_
          simp only [Act.put, List.setIfInBounds_toArray, List.set_cons_zero, List.set_cons_succ]
          refine wpAny_take (i := 14) (oi := { dst := some 27, op := Op.move (Operand.tmp 6), type := 96, pos := "shift.go:52", after := #[{ on := 13, ground := Ground.guard }], guard := some (13, false) }) (v := .pointer (some ⟨b, off, none⟩)) rfl (by kernel_rfl) (by kernel_rfl) (by kernel_rfl) (fun _ _ _ h => h) (.inl ⟨rfl, fun _ => rfl⟩) ?_
          simp only [Act.put, List.setIfInBounds_toArray, List.set_cons_zero, List.set_cons_succ]
          refine wpAny_take (i := 15) (oi := { dst := some 28, op := Op.nilCheck (Operand.tmp 27), type := 0, pos := "shift.go:52", after := #[{ on := 14, ground := Ground.data }, { on := 13, ground := Ground.guard }], guard := some (13, false) }) (v := .pointer (some ⟨b, off, none⟩)) rfl (by kernel_rfl) (by kernel_rfl) (by kernel_rfl) (fun _ _ _ h => h) (.inl ⟨rfl, fun _ => rfl⟩) ?_
          simp only [Act.put, List.setIfInBounds_toArray, List.set_cons_zero, List.set_cons_succ]
          refine wpAny_take (i := 16) (oi := { dst := some 29, op := Op.fieldAddr 26 (Operand.tmp 28) 3, type := 0, pos := "shift.go:52", after := #[{ on := 15, ground := Ground.data }, { on := 13, ground := Ground.guard }], guard := some (13, false) }) (v := .pointer (some ⟨b, off + 3, none⟩)) rfl (by kernel_rfl) (by kernel_rfl) (by kernel_rfl) (fun _ _ _ h => h) (.inl ⟨rfl, fun _ => rfl⟩) ?_
          simp only [Act.put, List.setIfInBounds_toArray, List.set_cons_zero, List.set_cons_succ]
          refine wpAny_ready (rs := [17]) (by kernel_rfl) (by simp) (AllReady.cons (o := { dst := some 30, op := Op.load 4 (Operand.tmp 29), type := 4, pos := "shift.go:52", after := #[{ on := 16, ground := Ground.data }, { on := 13, ground := Ground.guard }], guard := some (13, false) }) rfl (fun K' hK => ?_) AllReady.nil)
          go_simp
          refine hK _ _ ?_
          clear hK K'
          refine wpAny_take (i := 18) (oi := { dst := some 31, op := Op.unOp UnOp.not 4 (Operand.tmp 30), type := 4, pos := "shift.go:52", after := #[{ on := 17, ground := Ground.data }, { on := 13, ground := Ground.guard }], guard := some (13, false) }) (v := .bool true) rfl (by kernel_rfl) (by kernel_rfl) (by kernel_rfl) (fun _ _ _ h => h) (.inl ⟨rfl, fun _ => rfl⟩) ?_
          simp only [Act.put, List.setIfInBounds_toArray, List.set_cons_zero, List.set_cons_succ]
          refine wpAny_take (i := 19) (oi := { dst := some 32, op := Op.move (Operand.tmp 31), type := 4, pos := "shift.go:52", after := #[{ on := 18, ground := Ground.data }, { on := 13, ground := Ground.chain }, { on := 13, ground := Ground.guard }], guard := some (13, false) }) (v := .bool true) rfl (by kernel_rfl) (by kernel_rfl) (by kernel_rfl) (fun _ _ _ h => h) (.inl ⟨rfl, fun _ => rfl⟩) ?_
          simp only [Act.put, List.setIfInBounds_toArray, List.set_cons_zero, List.set_cons_succ]
          refine wpAny_take (i := 20) (oi := { dst := some 33, op := Op.move (Operand.tmp 6), type := 96, pos := "shift.go:52", after := #[{ on := 19, ground := Ground.guard }], guard := some (19, true) }) (v := .pointer (some ⟨b, off, none⟩)) rfl (by kernel_rfl) (by kernel_rfl) (by kernel_rfl) (fun _ _ _ h => h) (.inl ⟨rfl, fun _ => rfl⟩) ?_
          simp only [Act.put, List.setIfInBounds_toArray, List.set_cons_zero, List.set_cons_succ]
          refine wpAny_take (i := 21) (oi := { dst := some 34, op := Op.nilCheck (Operand.tmp 33), type := 0, pos := "shift.go:52", after := #[{ on := 20, ground := Ground.data }, { on := 19, ground := Ground.guard }], guard := some (19, true) }) (v := .pointer (some ⟨b, off, none⟩)) rfl (by kernel_rfl) (by kernel_rfl) (by kernel_rfl) (fun _ _ _ h => h) (.inl ⟨rfl, fun _ => rfl⟩) ?_
          simp only [Act.put, List.setIfInBounds_toArray, List.set_cons_zero, List.set_cons_succ]
          refine wpAny_take (i := 22) (oi := { dst := some 35, op := Op.fieldAddr 26 (Operand.tmp 34) 1, type := 0, pos := "shift.go:52", after := #[{ on := 21, ground := Ground.data }, { on := 19, ground := Ground.guard }], guard := some (19, true) }) (v := .pointer (some ⟨b, off + 1, none⟩)) rfl (by kernel_rfl) (by kernel_rfl) (by kernel_rfl) (fun _ _ _ h => h) (.inl ⟨rfl, fun _ => rfl⟩) ?_
          simp only [Act.put, List.setIfInBounds_toArray, List.set_cons_zero, List.set_cons_succ]
          refine wpAny_ready (rs := [23]) (by kernel_rfl) (by simp) (AllReady.cons (o := { dst := some 36, op := Op.load 2 (Operand.tmp 2), type := 2, pos := "shift.go:52", after := #[{ on := 19, ground := Ground.guard }], guard := some (19, true) }) rfl (fun K' hK => ?_) AllReady.nil)
          go_simp
          refine hK _ _ ?_
          clear hK K'
          refine wpAny_ready (rs := [24]) (by kernel_rfl) (by simp) (AllReady.cons (o := { dst := some 37, op := Op.call { callee := Callee.value (Operand.func 71), args := #[Operand.tmp 35, Operand.tmp 36, Operand.const (Value.int IntKind.i64 702)], argTypes := #[98, 2, 3] }, type := 4, pos := "shift.go:52", after := #[{ on := 22, ground := Ground.data }, { on := 23, ground := Ground.data }, { on := 19, ground := Ground.chain }, { on := 19, ground := Ground.guard }], guard := some (19, true) }) rfl (fun K' hK => ?_) AllReady.nil)
          go_simp
          go_at_call 71
          with_reducible refine (AC.out _ (by simp [d1]) (by simp [fb])).mono ?_
          rintro e w2 ⟨rfl, rfl⟩
          refine hK _ _ ?_
          clear hK K'
          refine wpAny_take (i := 25) (oi := { dst := some 38, op := Op.unOp UnOp.not 4 (Operand.tmp 37), type := 4, pos := "shift.go:52", after := #[{ on := 24, ground := Ground.data }, { on := 19, ground := Ground.guard }], guard := some (19, true) }) (v := .bool false) rfl (by kernel_rfl) (by kernel_rfl) (by kernel_rfl) (fun _ _ _ h => h) (.inl ⟨rfl, fun _ => rfl⟩) ?_
          simp only [Act.put, List.setIfInBounds_toArray, List.set_cons_zero, List.set_cons_succ]
          refine wpAny_take (i := 26) (oi := { dst := some 39, op := Op.pick (Operand.tmp 32) (Operand.tmp 38) (Operand.const (Value.bool false)), type := 4, pos := "shift.go:52", after := #[{ on := 19, ground := Ground.data }, { on := 25, ground := Ground.data }, { on := 13, ground := Ground.guard }], guard := some (13, false) }) (v := .bool false) rfl (by kernel_rfl) (by kernel_rfl) (by kernel_rfl) (fun _ _ _ h => h) (.inl ⟨rfl, fun _ => rfl⟩) ?_
          simp only [Act.put, List.setIfInBounds_toArray, List.set_cons_zero, List.set_cons_succ]
          refine wpAny_take (i := 27) (oi := { dst := some 40, op := Op.pick (Operand.tmp 26) (Operand.const (Value.bool true)) (Operand.tmp 39), type := 4, pos := "shift.go:52", after := #[{ on := 13, ground := Ground.data }, { on := 26, ground := Ground.data }], guard := none }) (v := .bool false) rfl (by kernel_rfl) (by kernel_rfl) (by kernel_rfl) (fun _ _ _ h => h) (.inl ⟨rfl, fun _ => rfl⟩) ?_
          simp only [Act.put, List.setIfInBounds_toArray, List.set_cons_zero, List.set_cons_succ]
          refine wpAny_done (by kernel_rfl) ?_ _
          all_goals
            try clear hS'
            clear hd0 hd1
            go_wp2
            refine ⟨.inr (.inr ⟨rfl, ?_, HPP.out, ?_⟩), by simp [intOf]⟩
            · rw [(show pasteR dr dc ⟨row, col, true, false⟩ = ⟨row, (col + dc), true, false⟩ by simp [pasteR, moved_on p3 p4 q2]), ← List.append_assoc]
              first | exact ⟨(HC.out.set hlb (off + 1) (.int .i64 (col + dc))), (SC.out _ (col + dc) _ _ _ _ HB0.out)⟩ | exact ⟨((HC.out.set hlb (off + 1) (.int .i64 (col + dc)))).drew, (SC.out _ (col + dc) _ _ _ _ HB0.out)⟩ | exact ⟨((HC.out.set hlb (off + 1) (.int .i64 (col + dc)))).drewN _, (SC.out _ (col + dc) _ _ _ _ HB0.out)⟩
            · rw [(show pasteR dr dc ⟨row, col, true, false⟩ = ⟨row, (col + dc), true, false⟩ by simp [pasteR, moved_on p3 p4 q2])]
              have pp := place_on HP2.out
              simp only at pp
              simp [placeB]; omega
        · have AC := Lib.hid fun (W : World) h => add_no W b (off + 1) col dc 702 h p3 p4 (by omega) HD2.out q2
          go_wp2_with fail
          go_quiet (first
            | (go_at_call 71
               refine Calls.quiet_of_same (AC.out _ (by simp [d1]))))
          all_goals
            try clear hS'
            clear hd0 hd1
            go_wp2
            go_ret
            refine ⟨false, pasteR dr dc r, ⟨row, col, true, false⟩, rfl, ?_, ?_, ?_⟩
            · first | exact HC.out | exact (HC.out).drew | exact (HC.out).drewN _
            · rw [← List.append_assoc]; exact HB0.out
            · simp [mv2, paste_off HP2.out (.inr ⟨rfl, q2⟩)]
      · go_wp2_with fail
        go_quiet (fail)
        all_goals
          try clear hS'
          clear hd0 hd1
          go_wp2
          refine ⟨.inr (.inr ⟨rfl, ?_, HPP.out, ?_⟩), by simp [intOf]⟩
          · rw [(show pasteR dr dc ⟨row, col, true, true⟩ = ⟨row, col, true, true⟩ by simp [pasteR]), ← List.append_assoc]
            first | exact ⟨HC.out, HB0.out⟩ | exact ⟨(HC.out).drew, HB0.out⟩ | exact ⟨(HC.out).drewN _, HB0.out⟩
          · rw [(show pasteR dr dc ⟨row, col, true, true⟩ = ⟨row, col, true, true⟩ by simp [pasteR])]
            have pp := place_on HP2.out
            simp only at pp
            simp [placeB]; omega
    · have HC := Lib.hid hc; have HBk := Lib.hid hb; have HPP := Lib.hid hpp; have HPP2 := Lib.hid hpp2
      clear hc hb hpp hpp2
      go_wp2
      go_ret
      exact ⟨true, pasteR dr dc r, pasteR dr dc t, rfl, HC.out, HBk.out, by simp [mv2, HPP.out, HPP2.out]⟩
end Go.Proofs.Ytkjfeakbhfkldaa
