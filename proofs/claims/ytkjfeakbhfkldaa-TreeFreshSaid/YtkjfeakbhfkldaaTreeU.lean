/- Trees: the reference's reads. -/
import Derived.Test.YtkjfeakbhfkldaaTreeT
import Derived.Test.YtkjfeakbhfkldaaTreeQ
namespace Go.Proofs.Ytkjfeakbhfkldaa
open Go.RowKit
/-- A row of the caller's grew: other blocks are as they were; the row lies where it lay, or in a new block. -/
structure Grew (w w' : World) (v v' : Value) : Prop where
  by_ : w.grownBy w' v.ownBlock
  at_ : v'.ownBlock = v.ownBlock ∨ ∃ g, w.heap.size ≤ g ∧ v'.ownBlock = some g
theorem Grew.trans {w w1 w2 : World} {v v1 v2 : Value} (a : Grew w w1 v v1) (b : Grew w1 w2 v1 v2) : Grew w w2 v v2 := by
  have hs := a.by_.size
  refine ⟨⟨b.by_.os.trans a.by_.os, b.by_.tape.trans a.by_.tape, b.by_.output.trans a.by_.output, Nat.le_trans hs b.by_.size, fun k hk hne => ?_⟩, ?_⟩
  · rw [b.by_.block k (by omega) ?_, a.by_.block k hk hne]
    rcases a.at_ with e | ⟨g, hg, e⟩
    · rw [e]; exact hne
    · rw [e]; intro h; injection h with h; omega
  · rcases b.at_ with e | ⟨g, hg, e⟩
    · rcases a.at_ with e' | ⟨g, hg, e'⟩
      · exact .inl (e.trans e')
      · exact .inr ⟨g, hg, e.trans e'⟩
    · exact .inr ⟨g, by omega, e⟩
theorem Grew.refl (w : World) (v : Value) : Grew w w v v := ⟨⟨rfl, rfl, rfl, Nat.le_refl _, fun _ _ _ => rfl⟩, .inl rfl⟩
/-- Worlds that only made new blocks. -/
theorem Grew.of_below {w w' : World} (h : Below w.heap.size w w') (v : Value) : Grew w w' v v := ⟨⟨h.os, h.tape, h.output, h.size, fun k hk _ => h.block k hk⟩, .inl rfl⟩
theorem Grew.below {w w' : World} {v v' : Value} {B : Nat} (h : Grew w w' v v') (hB : B ≤ w.heap.size) (hv : ∀ k, v.ownBlock = some k → B ≤ k) : Below B w w' :=
  ((Below.refl B w).grown h.by_ hB hv)

def ReadsPost (h : Hd) (ks : Trees) (l : List Ar) (b0 : Nat) (v : Value) (w : World) (e : Ending) (w' : World) : Prop := ∃ v', e = .returned v' ∧ Grew w w' v v' ∧ ArRow b0 w' (l ++ readsT h ks) v'
def RReads (h : Hd) (ks : Trees) : Prop := ∀ (w : World) (B b0 : Nat) (ka : Option Addr) (kl kc : Nat) (l : List Ar) (v : Value), B ≤ b0 → b0 ≤ w.heap.size → TreeV w B h ks ka kl → ArRow b0 w l v → l.length + 1 + ks.nodes ≤ 100000 →
  Calls Try.prog 61 #[.agg #[.int .i64 h.kind, .int .i64 h.op, .int .i64 h.num, .string ⟨h.text.toArray⟩, .int .i64 h.ref.row, .int .i64 h.ref.col, .bool h.ref.pr, .bool h.ref.pc, .int .i64 h.to.row, .int .i64 h.to.col, .bool h.to.pr, .bool h.to.pc, .int .i64 h.fn, .slice ka kl kc], v] w (ReadsPost h ks l b0 v w)
/-- The loop: l0, v0: the row behind the node's own; w: the world at the loop's start. -/
def SRel (ks : Trees) (kl B b0 : Nat) (ka : Option Addr) (l0 : List Ar) (v0 : Value) (w wr : World) (v i : Value) : Prop :=
  ∃ (j : Nat) (rest : Trees) (l : List Ar), i = .int .i64 j ∧ j + rest.len = kl ∧ RowIn wr B rest ka j ∧ AllT RReads rest ∧ l.length + rest.nodes ≤ 100000 ∧ Grew w wr v0 v ∧ Hid (ArRow b0 wr l v) ∧ Hid (l ++ readsL rest = l0 ++ readsL ks)
theorem ArRow.kept {b0 : Nat} {w w' : World} {l : List Ar} {v : Value} (a : ArRow b0 w l v) (h : ∀ k, v.ownBlock = some k → w'.heap[k]? = w.heap[k]?) : ArRow b0 w' l v := by
  refine ⟨a.1, ?_⟩
  rcases a.2 with e | ⟨g, cap, cur, hv, hb, hg, r⟩
  · exact .inl e
  · exact .inr ⟨g, cap, cur, hv, hb, (h g (by rw [hv]; rfl)).trans hg, r⟩
set_option maxRecDepth 100000 in
set_option maxHeartbeats 4000000 in
theorem refReads_step (nd : Hd) (ks : Trees) (ih : AllT RReads ks) : RReads nd ks := by
  intro w B b0 ka kl kc l v hBb hb tv hv hn
  obtain ⟨i0, hi, hz0, hz1, hz2⟩ := info_parts infoAr
  have hm := tv.max
  have HI := Lib.hid ih; clear ih
  have HT := Lib.hid tv; clear tv
  have HV := Lib.hid hv; clear hv
  have HRB0 := Lib.hid (HT.out.row.kept (((Below.refl B w).alloc (Nat.le_trans hBb hb) (.cells #[.int .i64 nd.kind, .int .i64 nd.op, .int .i64 nd.num, .string ⟨nd.text.toArray⟩, .int .i64 nd.ref.row, .int .i64 nd.ref.col, .bool nd.ref.pr, .bool nd.ref.pc, .int .i64 nd.to.row, .int .i64 nd.to.col, .bool nd.to.pr, .bool nd.to.pc, .int .i64 nd.fn, .slice ka kl kc] 29)).alloc (by simp; omega) (.cells #[.int .i64 nd.ref.row, .int .i64 nd.ref.col] 89)) (Nat.le_refl _))
  have hvb : ∀ k, v.ownBlock = some k → b0 ≤ k ∧ k < w.heap.size := fun k hk => HV.out.lt k hk
  have HVB := Lib.hid hvb; clear hvb
  go_enter Try.func61, Try.ntmps61
  by_cases k5 : nd.kind = 5
  · have e5 : (nd.kind == 5) = true := by simp [k5]
    have hr : readN nd = [arOf nd.ref.row nd.ref.col nd.ref.row nd.ref.col] := by simp [readN, k5]
    have hz2' := hz2
    have K5 := Lib.hid k5; clear k5
    go_wp2_with fail
    refine (refOf_any _ _ _ _ _).mono ?_
    rintro e w2 ⟨rfl, b2⟩
    have bw : Below w.heap.size w w2 := (ext_alloc (ext_alloc (Below.refl _ _) _) _).trans (b2.mono (by simp; omega))
    have hz2 := b2.size
    have hzw : w.heap.size + 2 ≤ w2.heap.size := by simpa using hz2
    have hown : w2.ownsRow b0 47 4 v l.length (arCells l) := HV.out.kept fun k hk => bw.block k (HVB.out k hk).2
    have CB2 := Lib.hid ((b2.block w.heap.size (by simp; omega)).trans (heap_alloc2_old _ _ _))
    have RB2 := Lib.hid (HRB0.out.kept (b2.mono (by simp; omega : B ≤ _)) (Nat.le_refl _))
    have BW := Lib.hid bw
    clear b2 bw hz2
    go_wp2_with (at_builtin; refine wpList_append_own_at _ rfl _ _ 41 rfl b0 47 i0 _ 4 32 Try.underlying41 hi hz0 hz1 hz2' rfl (by decide) v l.length (arCells l) rfl (hown.alloc _) ⟨w2.heap.size, 0, none⟩ 1 1 (arOf nd.ref.row nd.ref.col nd.ref.row nd.ref.col).vals rfl rfl (World.news_of_block (heap_alloc_new w2 _)) (by simp [Value.oneCell', Ar.vals]) (by unfold maxLen; omega) (by omega) (by simp; omega) ?_)
    intro v' w3 hown3 hgrow _ hloc
    have g3 : Grew w w3 v v' := (Grew.of_below BW.out v).trans ⟨⟨hgrow.os, hgrow.tape, hgrow.output, Nat.le_trans (by simp) hgrow.size, fun k hk hne => (hgrow.block k (by simp; omega) hne).trans (Below.heap_alloc _ _ _ hk)⟩, hloc.imp id fun e => ⟨w2.heap.size + 1, by omega, by simpa using e⟩⟩
    have hs3 : w2.heap.size + 1 ≤ w3.heap.size := by have := hgrow.size; simpa using this
    have HRB : Hid (RowIn w3 B ks ka 0) := Lib.hid (RB2.out.kept (((Below.refl B w2).alloc (by omega) _).grown hgrow (by simp; omega) (fun k hk => Nat.le_trans hBb (HVB.out k hk).1)) (Nat.le_refl _))
    have HLEN : Hid ((l ++ readN nd).length + ks.nodes ≤ 100000) := Lib.hid (by rw [hr, List.length_append]; simp; omega)
    have HL : Hid (ArRow b0 w3 (l ++ readN nd) v') := Lib.hid (by rw [hr]; unfold ArRow; rw [arCells_app, List.length_append]; simpa [arCells] using hown3)
    have CB : Hid (∀ o, w3.cell? ⟨w.heap.size, o, none⟩ = (#[.int .i64 nd.kind, .int .i64 nd.op, .int .i64 nd.num, .string ⟨nd.text.toArray⟩, .int .i64 nd.ref.row, .int .i64 nd.ref.col, .bool nd.ref.pr, .bool nd.ref.pc, .int .i64 nd.to.row, .int .i64 nd.to.col, .bool nd.to.pr, .bool nd.to.pc, .int .i64 nd.fn, .slice ka kl kc] : Array Value)[o]?) := Lib.hid (cells_of_block ((hgrow.block w.heap.size (by simp; omega) (fun e => by have := (HVB.out _ e.symm).2; omega)).trans ((Below.heap_alloc _ _ _ (by omega)).trans CB2.out)))
    have LTB : Hid (w.heap.size < w3.heap.size) := Lib.hid (by omega)
    have NE : Hid (some w.heap.size ≠ v'.ownBlock) := Lib.hid (fun e => by
      rcases hloc with q | q
      · rw [q] at e; have := (HVB.out _ e.symm).2; omega
      · rw [q] at e; injection e with e; (try simp at e); omega)
    have GB : Hid (Grew w w3 v v') := Lib.hid g3
    have hsz0 : w.heap.size ≤ w3.heap.size := by omega
    clear hr g3 hown hown3 hgrow hloc
    go_wp2_with fail
    go_loopw [1, 6] (fun vv i wr => SRel ks kl B b0 ka (l ++ readN nd) v' w3 wr vv i) (fun _ i _ => kl - (intOf i).toNat)
    case atStart =>
      exact ⟨0, ks, _, rfl, by have := HT.out.len; omega, HRB.out, HI.out, HLEN.out, Grew.refl _ _, HL, Lib.hid rfl⟩
    case round =>
      obtain ⟨j, rest, ll, rfl, hj, hrow, hall, hlen, hg, HA, HE⟩ := hrel
      have cb : ∀ o, wr.cell? ⟨w.heap.size, o, none⟩ = (#[.int .i64 nd.kind, .int .i64 nd.op, .int .i64 nd.num, .string ⟨nd.text.toArray⟩, .int .i64 nd.ref.row, .int .i64 nd.ref.col, .bool nd.ref.pr, .bool nd.ref.pc, .int .i64 nd.to.row, .int .i64 nd.to.col, .bool nd.to.pr, .bool nd.to.pc, .int .i64 nd.fn, .slice ka kl kc] : Array Value)[o]? := fun o => (World.cell?_of_block (a := ⟨w.heap.size, o, none⟩) (hg.by_.block w.heap.size LTB.out NE.out)).trans (CB.out o)
      have hsz := hg.by_.size
      have hltb := LTB.out
      by_cases hlt : j < kl
      · obtain ⟨h', k', r', rfl⟩ := trees_cons (rest := rest) (by omega)
        obtain ⟨b1, off, ka', kl', kc', rfl, hb1, N1, tv1⟩ := hrow.head
        obtain ⟨hl1, c0, c1, c2, c3, c4, c5, c6, c7, c8, c9, c10, c11, c12, c13, d5, d6, d7, d9, d10, d11⟩ := N1.facts
        clear d5 d6 d7 d9 d10 d11 N1
        have HT1 := Lib.hid tv1; clear tv1
        have HC := Lib.hid (hall.1); have HAll := Lib.hid hall.2; clear hall
        have HRow := Lib.hid hrow.2; clear hrow
        have HG := Lib.hid hg; clear hg
        have HJ := Lib.hid hj; clear hj
        have hn1 : ll.length + 1 + k'.nodes ≤ 100000 ∧ ll.length + 1 + k'.nodes + r'.nodes ≤ 100000 := by simp only [Trees.nodes] at hlen; omega
        obtain ⟨hn1, hn2⟩ := hn1
        clear hlen
        go_wp2_with fail
        refine (HC.out _ B b0 ka' kl' kc' ll _ hBb (by omega) HT1.out HA.out hn1).mono ?_
        clear c0 c1 c2 c3 c4 c5 c6 c7 c8 c9 c10 c11 c12 c13 cb
        rintro e w2 ⟨v2, rfl, g2, a2⟩
        have A2 := Lib.hid a2; have G2 := Lib.hid g2
        clear a2 g2
        go_wp2
        exact ⟨⟨j + 1, r', ll ++ readsT h' k', by go_num, by have := HJ.out; simp only [Trees.len] at this; omega, HRow.out.kept (G2.out.below (by omega : B ≤ wr.heap.size) (fun k hk => Nat.le_trans hBb (HA.out.lt k hk).1)) (Nat.le_refl _), HAll.out, by have := readsT_le h' k'; simp only [List.length_append]; omega, HG.out.trans G2.out, A2, Lib.hid (by rw [← HE.out, readsL, readsT]; simp only [List.append_assoc])⟩, by simp [intOf]; omega⟩
      · have hz : rest.len = 0 := by omega
        obtain rfl := trees_nil hz
        have hq := HE.out
        rw [readsL, List.append_nil] at hq
        have HQ := Lib.hid hq
        have HG := Lib.hid hg
        clear hq hrow hall hg
        go_wp2
        go_ret
        refine ⟨_, rfl, GB.out.trans HG.out, ?_⟩
        have := HA.out
        rw [HQ.out, List.append_assoc] at this
        exact this
  by_cases k6 : nd.kind = 6
  · have e5 : (nd.kind == 5) = false := by simp [k5]
    have e6 : (nd.kind == 6) = true := by simp [k6]
    have hr : readN nd = [arOf nd.ref.row nd.ref.col nd.to.row nd.to.col] := by simp [readN, k6]
    have hz2' := hz2
    have K5 := Lib.hid k5; clear k5
    have K6 := Lib.hid k6; clear k6
    go_wp2_with fail
    refine (refOf_any _ _ _ _ _).mono ?_
    rintro e w2 ⟨rfl, b2⟩
    have bw : Below w.heap.size w w2 := (ext_alloc (ext_alloc (Below.refl _ _) _) _).trans (b2.mono (by simp; omega))
    have hz2 := b2.size
    have hzw : w.heap.size + 2 ≤ w2.heap.size := by simpa using hz2
    have hown : w2.ownsRow b0 47 4 v l.length (arCells l) := HV.out.kept fun k hk => bw.block k (HVB.out k hk).2
    have CB2 := Lib.hid ((b2.block w.heap.size (by simp; omega)).trans (heap_alloc2_old _ _ _))
    have RB2 := Lib.hid (HRB0.out.kept (b2.mono (by simp; omega : B ≤ _)) (Nat.le_refl _))
    have BW := Lib.hid bw
    clear b2 bw hz2
    go_wp2_with (at_builtin; refine wpList_append_own_at _ rfl _ _ 41 rfl b0 47 i0 _ 4 32 Try.underlying41 hi hz0 hz1 hz2' rfl (by decide) v l.length (arCells l) rfl (hown.alloc _) ⟨w2.heap.size, 0, none⟩ 1 1 (arOf nd.ref.row nd.ref.col nd.to.row nd.to.col).vals rfl rfl (World.news_of_block (heap_alloc_new w2 _)) (by simp [Value.oneCell', Ar.vals]) (by unfold maxLen; omega) (by omega) (by simp; omega) ?_)
    intro v' w3 hown3 hgrow _ hloc
    have g3 : Grew w w3 v v' := (Grew.of_below BW.out v).trans ⟨⟨hgrow.os, hgrow.tape, hgrow.output, Nat.le_trans (by simp) hgrow.size, fun k hk hne => (hgrow.block k (by simp; omega) hne).trans (Below.heap_alloc _ _ _ hk)⟩, hloc.imp id fun e => ⟨w2.heap.size + 1, by omega, by simpa using e⟩⟩
    have hs3 : w2.heap.size + 1 ≤ w3.heap.size := by have := hgrow.size; simpa using this
    have HRB : Hid (RowIn w3 B ks ka 0) := Lib.hid (RB2.out.kept (((Below.refl B w2).alloc (by omega) _).grown hgrow (by simp; omega) (fun k hk => Nat.le_trans hBb (HVB.out k hk).1)) (Nat.le_refl _))
    have HLEN : Hid ((l ++ readN nd).length + ks.nodes ≤ 100000) := Lib.hid (by rw [hr, List.length_append]; simp; omega)
    have HL : Hid (ArRow b0 w3 (l ++ readN nd) v') := Lib.hid (by rw [hr]; unfold ArRow; rw [arCells_app, List.length_append]; simpa [arCells] using hown3)
    have CB : Hid (∀ o, w3.cell? ⟨w.heap.size, o, none⟩ = (#[.int .i64 nd.kind, .int .i64 nd.op, .int .i64 nd.num, .string ⟨nd.text.toArray⟩, .int .i64 nd.ref.row, .int .i64 nd.ref.col, .bool nd.ref.pr, .bool nd.ref.pc, .int .i64 nd.to.row, .int .i64 nd.to.col, .bool nd.to.pr, .bool nd.to.pc, .int .i64 nd.fn, .slice ka kl kc] : Array Value)[o]?) := Lib.hid (cells_of_block ((hgrow.block w.heap.size (by simp; omega) (fun e => by have := (HVB.out _ e.symm).2; omega)).trans ((Below.heap_alloc _ _ _ (by omega)).trans CB2.out)))
    have LTB : Hid (w.heap.size < w3.heap.size) := Lib.hid (by omega)
    have NE : Hid (some w.heap.size ≠ v'.ownBlock) := Lib.hid (fun e => by
      rcases hloc with q | q
      · rw [q] at e; have := (HVB.out _ e.symm).2; omega
      · rw [q] at e; injection e with e; (try simp at e); omega)
    have GB : Hid (Grew w w3 v v') := Lib.hid g3
    have hsz0 : w.heap.size ≤ w3.heap.size := by omega
    clear hr g3 hown hown3 hgrow hloc
    go_wp2_with fail
    go_loopw [1, 6] (fun vv i wr => SRel ks kl B b0 ka (l ++ readN nd) v' w3 wr vv i) (fun _ i _ => kl - (intOf i).toNat)
    case atStart =>
      exact ⟨0, ks, _, rfl, by have := HT.out.len; omega, HRB.out, HI.out, HLEN.out, Grew.refl _ _, HL, Lib.hid rfl⟩
    case round =>
      obtain ⟨j, rest, ll, rfl, hj, hrow, hall, hlen, hg, HA, HE⟩ := hrel
      have cb : ∀ o, wr.cell? ⟨w.heap.size, o, none⟩ = (#[.int .i64 nd.kind, .int .i64 nd.op, .int .i64 nd.num, .string ⟨nd.text.toArray⟩, .int .i64 nd.ref.row, .int .i64 nd.ref.col, .bool nd.ref.pr, .bool nd.ref.pc, .int .i64 nd.to.row, .int .i64 nd.to.col, .bool nd.to.pr, .bool nd.to.pc, .int .i64 nd.fn, .slice ka kl kc] : Array Value)[o]? := fun o => (World.cell?_of_block (a := ⟨w.heap.size, o, none⟩) (hg.by_.block w.heap.size LTB.out NE.out)).trans (CB.out o)
      have hsz := hg.by_.size
      have hltb := LTB.out
      by_cases hlt : j < kl
      · obtain ⟨h', k', r', rfl⟩ := trees_cons (rest := rest) (by omega)
        obtain ⟨b1, off, ka', kl', kc', rfl, hb1, N1, tv1⟩ := hrow.head
        obtain ⟨hl1, c0, c1, c2, c3, c4, c5, c6, c7, c8, c9, c10, c11, c12, c13, d5, d6, d7, d9, d10, d11⟩ := N1.facts
        clear d5 d6 d7 d9 d10 d11 N1
        have HT1 := Lib.hid tv1; clear tv1
        have HC := Lib.hid (hall.1); have HAll := Lib.hid hall.2; clear hall
        have HRow := Lib.hid hrow.2; clear hrow
        have HG := Lib.hid hg; clear hg
        have HJ := Lib.hid hj; clear hj
        have hn1 : ll.length + 1 + k'.nodes ≤ 100000 ∧ ll.length + 1 + k'.nodes + r'.nodes ≤ 100000 := by simp only [Trees.nodes] at hlen; omega
        obtain ⟨hn1, hn2⟩ := hn1
        clear hlen
        go_wp2_with fail
        refine (HC.out _ B b0 ka' kl' kc' ll _ hBb (by omega) HT1.out HA.out hn1).mono ?_
        clear c0 c1 c2 c3 c4 c5 c6 c7 c8 c9 c10 c11 c12 c13 cb
        rintro e w2 ⟨v2, rfl, g2, a2⟩
        have A2 := Lib.hid a2; have G2 := Lib.hid g2
        clear a2 g2
        go_wp2
        exact ⟨⟨j + 1, r', ll ++ readsT h' k', by go_num, by have := HJ.out; simp only [Trees.len] at this; omega, HRow.out.kept (G2.out.below (by omega : B ≤ wr.heap.size) (fun k hk => Nat.le_trans hBb (HA.out.lt k hk).1)) (Nat.le_refl _), HAll.out, by have := readsT_le h' k'; simp only [List.length_append]; omega, HG.out.trans G2.out, A2, Lib.hid (by rw [← HE.out, readsL, readsT]; simp only [List.append_assoc])⟩, by simp [intOf]; omega⟩
      · have hz : rest.len = 0 := by omega
        obtain rfl := trees_nil hz
        have hq := HE.out
        rw [readsL, List.append_nil] at hq
        have HQ := Lib.hid hq
        have HG := Lib.hid hg
        clear hq hrow hall hg
        go_wp2
        go_ret
        refine ⟨_, rfl, GB.out.trans HG.out, ?_⟩
        have := HA.out
        rw [HQ.out, List.append_assoc] at this
        exact this
  · have e5 : (nd.kind == 5) = false := by simp [k5]
    have e6 : (nd.kind == 6) = false := by simp [k6]
    have hr : readN nd = [] := by simp [readN, k5, k6]
    have K5 := Lib.hid k5; have K6 := Lib.hid k6; clear k5 k6
    have HRB : Hid (RowIn _ B ks ka 0) := HRB0
    have HLEN : Hid ((l ++ readN nd).length + ks.nodes ≤ 100000) := Lib.hid (by rw [hr, List.append_nil]; omega)
    have HL : Hid (ArRow b0 ((w.alloc (.cells #[.int .i64 nd.kind, .int .i64 nd.op, .int .i64 nd.num, .string ⟨nd.text.toArray⟩, .int .i64 nd.ref.row, .int .i64 nd.ref.col, .bool nd.ref.pr, .bool nd.ref.pc, .int .i64 nd.to.row, .int .i64 nd.to.col, .bool nd.to.pr, .bool nd.to.pc, .int .i64 nd.fn, .slice ka kl kc] 29)).alloc (.cells #[.int .i64 nd.ref.row, .int .i64 nd.ref.col] 89)) (l ++ readN nd) v) := Lib.hid (by rw [hr, List.append_nil]; exact (HV.out.alloc _).alloc _)
    have CB : Hid (∀ o, ((w.alloc (.cells #[.int .i64 nd.kind, .int .i64 nd.op, .int .i64 nd.num, .string ⟨nd.text.toArray⟩, .int .i64 nd.ref.row, .int .i64 nd.ref.col, .bool nd.ref.pr, .bool nd.ref.pc, .int .i64 nd.to.row, .int .i64 nd.to.col, .bool nd.to.pr, .bool nd.to.pc, .int .i64 nd.fn, .slice ka kl kc] 29)).alloc (.cells #[.int .i64 nd.ref.row, .int .i64 nd.ref.col] 89)).cell? ⟨w.heap.size, o, none⟩ = (#[.int .i64 nd.kind, .int .i64 nd.op, .int .i64 nd.num, .string ⟨nd.text.toArray⟩, .int .i64 nd.ref.row, .int .i64 nd.ref.col, .bool nd.ref.pr, .bool nd.ref.pc, .int .i64 nd.to.row, .int .i64 nd.to.col, .bool nd.to.pr, .bool nd.to.pc, .int .i64 nd.fn, .slice ka kl kc] : Array Value)[o]?) := Lib.hid (cells_of_block (heap_alloc2_old _ _ _))
    have LTB : Hid (w.heap.size < ((w.alloc (.cells #[.int .i64 nd.kind, .int .i64 nd.op, .int .i64 nd.num, .string ⟨nd.text.toArray⟩, .int .i64 nd.ref.row, .int .i64 nd.ref.col, .bool nd.ref.pr, .bool nd.ref.pc, .int .i64 nd.to.row, .int .i64 nd.to.col, .bool nd.to.pr, .bool nd.to.pc, .int .i64 nd.fn, .slice ka kl kc] 29)).alloc (.cells #[.int .i64 nd.ref.row, .int .i64 nd.ref.col] 89)).heap.size) := Lib.hid (by simp; omega)
    have NE : Hid (some w.heap.size ≠ v.ownBlock) := Lib.hid (fun e => by have := (HVB.out _ e.symm).2; omega)
    have GB : Hid (Grew w ((w.alloc (.cells #[.int .i64 nd.kind, .int .i64 nd.op, .int .i64 nd.num, .string ⟨nd.text.toArray⟩, .int .i64 nd.ref.row, .int .i64 nd.ref.col, .bool nd.ref.pr, .bool nd.ref.pc, .int .i64 nd.to.row, .int .i64 nd.to.col, .bool nd.to.pr, .bool nd.to.pc, .int .i64 nd.fn, .slice ka kl kc] 29)).alloc (.cells #[.int .i64 nd.ref.row, .int .i64 nd.ref.col] 89)) v v) := Lib.hid (Grew.of_below (ext_alloc (ext_alloc (Below.refl _ _) _) _) v)
    have hsz0 : w.heap.size ≤ ((w.alloc (.cells #[.int .i64 nd.kind, .int .i64 nd.op, .int .i64 nd.num, .string ⟨nd.text.toArray⟩, .int .i64 nd.ref.row, .int .i64 nd.ref.col, .bool nd.ref.pr, .bool nd.ref.pc, .int .i64 nd.to.row, .int .i64 nd.to.col, .bool nd.to.pr, .bool nd.to.pc, .int .i64 nd.fn, .slice ka kl kc] 29)).alloc (.cells #[.int .i64 nd.ref.row, .int .i64 nd.ref.col] 89)).heap.size := by simp; omega
    clear hr
    go_wp2_with fail
    go_loopw [1, 6] (fun vv i wr => SRel ks kl B b0 ka (l ++ readN nd) v ((w.alloc (.cells #[.int .i64 nd.kind, .int .i64 nd.op, .int .i64 nd.num, .string ⟨nd.text.toArray⟩, .int .i64 nd.ref.row, .int .i64 nd.ref.col, .bool nd.ref.pr, .bool nd.ref.pc, .int .i64 nd.to.row, .int .i64 nd.to.col, .bool nd.to.pr, .bool nd.to.pc, .int .i64 nd.fn, .slice ka kl kc] 29)).alloc (.cells #[.int .i64 nd.ref.row, .int .i64 nd.ref.col] 89)) wr vv i) (fun _ i _ => kl - (intOf i).toNat)
    case atStart =>
      exact ⟨0, ks, _, rfl, by have := HT.out.len; omega, HRB.out, HI.out, HLEN.out, Grew.refl _ _, HL, Lib.hid rfl⟩
    case round =>
      obtain ⟨j, rest, ll, rfl, hj, hrow, hall, hlen, hg, HA, HE⟩ := hrel
      have cb : ∀ o, wr.cell? ⟨w.heap.size, o, none⟩ = (#[.int .i64 nd.kind, .int .i64 nd.op, .int .i64 nd.num, .string ⟨nd.text.toArray⟩, .int .i64 nd.ref.row, .int .i64 nd.ref.col, .bool nd.ref.pr, .bool nd.ref.pc, .int .i64 nd.to.row, .int .i64 nd.to.col, .bool nd.to.pr, .bool nd.to.pc, .int .i64 nd.fn, .slice ka kl kc] : Array Value)[o]? := fun o => (World.cell?_of_block (a := ⟨w.heap.size, o, none⟩) (hg.by_.block w.heap.size LTB.out NE.out)).trans (CB.out o)
      have hsz := hg.by_.size
      have hltb := LTB.out
      by_cases hlt : j < kl
      · obtain ⟨h', k', r', rfl⟩ := trees_cons (rest := rest) (by omega)
        obtain ⟨b1, off, ka', kl', kc', rfl, hb1, N1, tv1⟩ := hrow.head
        obtain ⟨hl1, c0, c1, c2, c3, c4, c5, c6, c7, c8, c9, c10, c11, c12, c13, d5, d6, d7, d9, d10, d11⟩ := N1.facts
        clear d5 d6 d7 d9 d10 d11 N1
        have HT1 := Lib.hid tv1; clear tv1
        have HC := Lib.hid (hall.1); have HAll := Lib.hid hall.2; clear hall
        have HRow := Lib.hid hrow.2; clear hrow
        have HG := Lib.hid hg; clear hg
        have HJ := Lib.hid hj; clear hj
        have hn1 : ll.length + 1 + k'.nodes ≤ 100000 ∧ ll.length + 1 + k'.nodes + r'.nodes ≤ 100000 := by simp only [Trees.nodes] at hlen; omega
        obtain ⟨hn1, hn2⟩ := hn1
        clear hlen
        go_wp2_with fail
        refine (HC.out _ B b0 ka' kl' kc' ll _ hBb (by omega) HT1.out HA.out hn1).mono ?_
        clear c0 c1 c2 c3 c4 c5 c6 c7 c8 c9 c10 c11 c12 c13 cb
        rintro e w2 ⟨v2, rfl, g2, a2⟩
        have A2 := Lib.hid a2; have G2 := Lib.hid g2
        clear a2 g2
        go_wp2
        exact ⟨⟨j + 1, r', ll ++ readsT h' k', by go_num, by have := HJ.out; simp only [Trees.len] at this; omega, HRow.out.kept (G2.out.below (by omega : B ≤ wr.heap.size) (fun k hk => Nat.le_trans hBb (HA.out.lt k hk).1)) (Nat.le_refl _), HAll.out, by have := readsT_le h' k'; simp only [List.length_append]; omega, HG.out.trans G2.out, A2, Lib.hid (by rw [← HE.out, readsL, readsT]; simp only [List.append_assoc])⟩, by simp [intOf]; omega⟩
      · have hz : rest.len = 0 := by omega
        obtain rfl := trees_nil hz
        have hq := HE.out
        rw [readsL, List.append_nil] at hq
        have HQ := Lib.hid hq
        have HG := Lib.hid hg
        clear hq hrow hall hg
        go_wp2
        go_ret
        refine ⟨_, rfl, GB.out.trans HG.out, ?_⟩
        have := HA.out
        rw [HQ.out, List.append_assoc] at this
        exact this
theorem refReads_any (h : Hd) (ks : Trees) : RReads h ks := refReads_step h ks (allT refReads_step ks)
end Go.Proofs.Ytkjfeakbhfkldaa
