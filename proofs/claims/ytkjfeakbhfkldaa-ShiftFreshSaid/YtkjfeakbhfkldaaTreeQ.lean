/- Trees: twin and Copy. -/
import Derived.Test.YtkjfeakbhfkldaaTreeI
import Derived.Test.YtkjfeakbhfkldaaTreeP
import Derived.Deep.RegionLaw
namespace Go.Proofs.Ytkjfeakbhfkldaa
open Go.RowKit

theorem block_set {w : World} {b i : Nat} {cs : Array Value} {T : TypeId} {fr : Nat × Nat} (hb : w.heap[b]? = some (.cells cs T fr)) (v : Value) : (w.setCell ⟨b, i, none⟩ v).heap[b]? = some (.cells (cs.setIfInBounds i v) T fr) := by
  simp only [World.setCell, Array.getElem?_modify, if_true, hb, Option.map_some, Option.isSome_none, Bool.false_eq_true, if_false]

structure TwoBlocks (w w1 : World) (c c' : Array Value) (T T' : TypeId) : Prop where
  cell : ∀ o, w1.cell? ⟨w.heap.size + 1, o, none⟩ = c'[o]?
  free : ∀ o, w1.frozen? ⟨w.heap.size + 1, o, none⟩ = false
  below : Below w.heap.size w w1
  blocks : w1.heap[w.heap.size]? = some (.cells c T (0, 0)) ∧ w1.heap[w.heap.size + 1]? = some (.cells c' T' (0, 0))
theorem cells_of_block {w : World} {b : Nat} {cs : Array Value} {T : TypeId} {fr : Nat × Nat} (h : w.heap[b]? = some (.cells cs T fr)) : ∀ o, w.cell? ⟨b, o, none⟩ = cs[o]? := fun o => by
  simp [World.cell?, h]
theorem frees_of_block {w : World} {b : Nat} {cs : Array Value} {T : TypeId} (h : w.heap[b]? = some (.cells cs T (0, 0))) : ∀ o, w.frozen? ⟨b, o, none⟩ = false := fun o => by
  simp [World.frozen?, h]
theorem block_grown {wr w2 w3 : World} {U : Nat} {O : Obj} {obj : Obj} {l : Value} (hU : wr.heap[U]? = some obj) (b2 : Below wr.heap.size wr w2) (hg : (w2.alloc O).grownBy w3 l.ownBlock) (hne : l.ownBlock ≠ some U) : w3.heap[U]? = some obj := by
  have h1 := lt_of_block hU
  have h2 := b2.size
  rw [hg.block U (by simp; omega) (fun e => hne e.symm), Below.heap_alloc _ _ _ (by omega), b2.block _ h1]
  exact hU
theorem fresh_made {w1 : World} {b0 : Nat} {v : Value} (h : w1.ownsRow b0 29 14 v 0 []) : Fresh w1 b0 .nil v (ownList v) :=
  ⟨⟨[], ownList v, [], slot_of h, ⟨rfl, rfl⟩, by simp⟩, by unfold ownList; split <;> simp, fun b hb => (h.lt b (mem_ownList.1 hb)).1, fun b hb => (h.lt b (mem_ownList.1 hb)).2⟩
theorem two_blocks_grown {w w1 : World} {c c' : Array Value} {T T' : TypeId} (h : ((w.alloc (.cells c T)).alloc (.cells c' T')).grownBy w1 none) : TwoBlocks w w1 c c' T T' := by
  have h0 : w1.heap[w.heap.size]? = some (.cells c T (0, 0)) := by rw [h.block _ (by simp; omega) (by simp)]; exact (heap_alloc2_old _ _ _).trans rfl
  have h1 : w1.heap[w.heap.size + 1]? = some (.cells c' T' (0, 0)) := by rw [h.block _ (by simp) (by simp)]; exact heap_alloc2_new _ _ _
  refine ⟨cells_of_block h1, frees_of_block h1, ?_, h0, h1⟩
  exact (ext_alloc (ext_alloc (Below.refl _ _) _) _).grown h (by simp; omega) (by simp)

def RTwin (h : Hd) (ks : Trees) : Prop := ∀ (w : World) (b off B : Nat) (ka : Option Addr) (kl kc : Nat), NodeAt w b off h (.slice ka kl kc) → B ≤ w.heap.size → TreeV w B h ks ka kl → ks.nodes ≤ 100000 →
  Calls Try.prog 54 #[.pointer (some ⟨b, off, none⟩)] w (OwnPost h ks w)
/-- The loop of twin: R the result's block, R + 1 the new node's. -/
def TRel (h : Hd) (ks : Trees) (_kl B : Nat) (ka : Option Addr) (w wr : World) (i : Value) : Prop :=
  ∃ (j : Nat) (dn rest : Trees) (F : List Nat) (l : Value), i = .int .i64 j ∧ j = dn.len ∧ dn.app rest = ks ∧ RowIn wr B rest ka j ∧ AllT RTwin rest ∧ rest.nodes ≤ 100000 ∧ Below w.heap.size w wr ∧ w.heap.size + 2 ≤ wr.heap.size ∧
    wr.heap[w.heap.size]? = some (.cells #[.int .i64 0, .int .i64 0, .int .i64 0, .string ⟨#[]⟩, .int .i64 0, .int .i64 0, .bool false, .bool false, .int .i64 0, .int .i64 0, .bool false, .bool false, .int .i64 0, .slice none 0 0] 29 (0, 0)) ∧ wr.heap[w.heap.size + 1]? = some (.cells #[.int .i64 h.kind, .int .i64 h.op, .int .i64 h.num, .string ⟨h.text.toArray⟩, .int .i64 h.ref.row, .int .i64 h.ref.col, .bool h.ref.pr, .bool h.ref.pc, .int .i64 h.to.row, .int .i64 h.to.col, .bool h.to.pr, .bool h.to.pc, .int .i64 h.fn, l] 29 (0, 0)) ∧ Hid (Fresh wr (w.heap.size + 2) dn l F)

set_option maxRecDepth 100000 in
set_option maxHeartbeats 8000000 in
theorem twin_step (nd : Hd) (ks : Trees) (ih : AllT RTwin ks) : RTwin nd ks := by
  intro w b off B ka kl kc N hB tv hn
  obtain ⟨i0, hi, hz0, hz1, hz2⟩ := info_parts infoExpr
  have hm := tv.max
  have hkl : kl ≤ 100000 := by rw [tv.len]; exact Nat.le_trans (len_le_nodes ks) hn
  obtain ⟨hl1, c0, c1, c2, c3, c4, c5, c6, c7, c8, c9, c10, c11, c12, c13, d5, d6, d7, d9, d10, d11⟩ := N.facts
  have HN := Lib.hid N; clear N
  have HI := Lib.hid ih; clear ih
  have HT := Lib.hid tv; clear tv
  go_enter Try.func54, Try.ntmps54
  by_cases hk : 0 < kl
  · go_wp2_with (at_make; refine wpList_make_own _ rfl _ _ 27 rfl (w.heap.size + 2) 29 i0 _ 14 Try.underlying27 hi hz0 hz1 .i64 .i64 _ kl rfl rfl rfl (by rw [hz2]; omega) (by unfold maxLen; omega) (by simp) ?_)
    intro w1 hown1 hgrow1
    have e0 := two_blocks_grown hgrow1
    have HE := Lib.hid e0.blocks
    obtain ⟨cu, fu, bl, -⟩ := e0
    have c13' : w1.cell? ⟨b, off + 13, none⟩ = some (.slice ka kl kc) := (HN.out.kept bl hl1).facts.c13
    have HO := Lib.hid hown1; have HB := Lib.hid bl
    clear hown1 hgrow1 bl c0 c1 c2 c3 c4 c5 c6 c7 c8 c9 c10 c11 c12 c13 d5 d6 d7 d9 d10 d11
    go_wp2
    clear cu fu c13'
    go_loopw [27] (fun i wr => TRel nd ks kl B ka w wr i) (fun i _ => kl - (intOf i).toNat)
    case atStart =>
      exact ⟨0, .nil, ks, _, _, rfl, rfl, rfl, HT.out.row.kept ((HB.out.mono hB).setCell (by simp; omega) _) (Nat.le_refl _), HI.out, hn, HB.out.setCell (by simp) _, by have := lt_of_block HE.out.2; simp [World.setCell]; omega, (Below.heap_setCell _ _ _ _ (by simp)).trans HE.out.1, (block_set HE.out.2 _).trans rfl, Lib.hid ((fresh_made HO.out).sets (fun k hk => Below.heap_setCell _ _ _ _ (by simp; omega)) (Nat.le_refl _) (by simp [World.setCell]))⟩
    case round =>
      obtain ⟨j, dn, rest, F, l, rfl, hj, happ, hrow, hall, hno, hbel, zb, hR, hU, HF⟩ := hrel
      have hlen : kl = j + rest.len := by rw [HT.out.len, ← happ, Trees.app_len, hj]
      have hl2 : ∃ a c, l = .slice a dn.len c := by
        obtain ⟨⟨cs, G, F', s, o, eF⟩, -, -, -⟩ := HF.out
        exact s.slice
      obtain ⟨la, lc, rfl⟩ := hl2
      have cb := cells_of_block hR
      have cb' := cells_of_block hU
      have fb := frees_of_block hR
      have fb' := frees_of_block hU
      have HR := Lib.hid hR; have HU := Lib.hid hU; clear hR hU
      have HA := Lib.hid happ; clear happ
      have HJ := Lib.hid hj; clear hj
      have HLen := Lib.hid hlen
      by_cases hlt : j < kl
      · obtain ⟨h', k', r', rfl⟩ := trees_cons (rest := rest) (by omega)
        clear hlen
        obtain ⟨b1, off1, ka', kl', kc', rfl, hb1, N1, tv1⟩ := hrow.head
        have hjl : dn.len ≤ 100000 := by have := HJ.out; omega
        have c13 : wr.cell? ⟨b, off + 13, none⟩ = some (.slice (some ⟨b1, off1, none⟩) kl kc) := (HN.out.kept hbel hl1).facts.c13
        have HN1 := Lib.hid N1; clear N1
        have HT1 := Lib.hid tv1; clear tv1
        have HC := Lib.hid (hall.1); have HAll := Lib.hid hall.2; clear hall
        have HRow := Lib.hid hrow.2; clear hrow
        have hno1 : k'.nodes ≤ 100000 := by simp only [Trees.nodes] at hno; omega
        have hno2 : r'.nodes ≤ 100000 := by simp only [Trees.nodes] at hno; omega
        clear hno
        have hlti : (j : Int) < (kl : Int) := by omega
        obtain ⟨⟨cs, G, F', s, o, eF⟩, once, new, lt⟩ := HF.out
        have hne : (Value.slice la dn.len lc).ownBlock ≠ some (w.heap.size + 1) := fun e => by have := new (w.heap.size + 1) (by rw [eF, s.block]; simp [mem_ownList.2 e]); omega
        have HS := Lib.hid s; have HO' := Lib.hid o; have HEF := Lib.hid eF; have HOn := Lib.hid once; have HNew := Lib.hid new; have HLt := Lib.hid lt
        clear s o eF once new lt
        have cU := cb' 13
        clear cb cb' fb
        go_wp2_with fail
        go_region_law (first
          | (go_simp
             go_at_call 54
             refine (HC.out _ b1 _ B ka' kl' kc' (HN1.out.kept (Below.refl _ _).drew hb1) (by simp; omega) (HT1.out.kept (Below.refl _ _).drew (Nat.le_refl _)) hno1).mono ?_
             rintro e w2 ⟨ka2, kl2, kc2, F2, rfl, b2', f2⟩
             have b2 : Below wr.heap.size wr w2 := ((Below.refl _ wr).drew).trans b2'
             have hsz := b2.size
             have lt2 : w.heap.size + 1 < w2.heap.size := by omega
             have ne2 : ¬ w2.heap.size = w.heap.size + 1 := by omega
             have ne2' : ¬ w.heap.size + 1 = w2.heap.size := by omega
             have s2 := HS.out.kept (w' := w2) fun b hb => b2.block b (HLt.out b (by rw [HEF.out]; simp [hb]))
             have hown : w2.ownsRow (w.heap.size + 2) 29 14 (.slice la dn.len lc) dn.len cs := s2.owns fun b hb => HNew.out b (by rw [HEF.out]; simp [hb])
             have hU2 : w2.heap[w.heap.size + 1]? = some _ := (b2.block _ (by omega)).trans HU.out
             have cu2 := cells_of_block hU2
             have fu2 := frees_of_block hU2
             have HF2 := Lib.hid f2
             have cu2a : ∀ O : Obj, (w2.alloc O).cell? ⟨w.heap.size + 1, 13, none⟩ = some (.slice la dn.len lc) := fun O => by rw [World.cell?_alloc_lt _ _ _ lt2]; exact cu2 13
             clear s2 b2' hU2 f2)
          | (refine step_append_lies _ rfl (.tmp 31) (.tmp 39) 27 rfl (w.heap.size + 2) 29 i0 _ 14 120 Try.underlying27 hi hz0 hz1 hz2 rfl (by decide) (.slice la dn.len lc) dn.len cs (by simp [Act.eval]) (hown.alloc _) ⟨w2.heap.size, 0, none⟩ 1 1 (h'.vals (.slice ka2 kl2 kc2)) (by simp [Act.eval]) rfl (World.news_of_block (heap_alloc_new w2 _)) (by simp [Value.oneCell', Hd.vals]) (by decide) (by unfold maxLen; omega) (by omega) (by simp; omega) _ rfl ?_
             intro g cap w3 hown3 hgrow hat hlt3
             have hU3 := block_grown HU.out b2 hgrow hne
             have cu3 := cells_of_block hU3
             have fu3 := frees_of_block hU3
             have HU3 := Lib.hid hU3
             have HG3 := Lib.hid hgrow
             have HO3 := Lib.hid hown3
             clear hU3 hgrow hown3))
        all_goals
          have eG := HS.out.block
          have hEF := HEF.out
          rw [eG] at hEF
          have hloc : (Value.slice (some ⟨g, 0, none⟩) (dn.len + 1) cap).ownBlock = (Value.slice la dn.len lc).ownBlock ∨ (Value.slice (some ⟨g, 0, none⟩) (dn.len + 1) cap).ownBlock = some (w2.heap.size + 1) := hat.imp (fun e => e.symm) (fun e => by subst e; simp [Value.ownBlock])
          have f3 := Fresh.step HO'.out (by rw [← hEF]; exact HOn.out) (by rw [← hEF]; exact HNew.out) (by rw [← hEF]; exact HLt.out) b2 HF2.out HT1.out.ok zb HG3.out HO3.out hloc
          have hnk : ∀ k, (Value.slice la dn.len lc).ownBlock = some k → w.heap.size + 2 ≤ k := fun k hk => HNew.out k (by rw [hEF]; simp [mem_ownList.2 hk])
          have q3 : Below (w.heap.size + 2) wr w3 := (b2.mono (by omega)).trans ((((Below.refl (w.heap.size + 2) w2).alloc (by omega) _).grown HG3.out (by simp; omega) hnk).mono (by simp))
          have F4 := Lib.hid (f3.sets (w' := w3.setCell ⟨w.heap.size + 1, 13, none⟩ (.slice (some ⟨g, 0, none⟩) (dn.len + 1) cap)) (fun k hk => Below.heap_setCell _ _ _ _ (by simp; omega)) (Nat.le_refl _) (by simp [World.setCell]))
          have R4 := Lib.hid ((Below.heap_setCell w3 ⟨w.heap.size + 1, 13, none⟩ (.slice (some ⟨g, 0, none⟩) (dn.len + 1) cap) w.heap.size (by simp)).trans ((q3.block _ (by omega)).trans HR.out))
          have U4 := Lib.hid ((block_set HU3.out (i := 13) (.slice (some ⟨g, 0, none⟩) (dn.len + 1) cap)).trans rfl)
          have Q4 := Lib.hid ((q3.mono (by omega : w.heap.size ≤ w.heap.size + 2)).setCell (p := ⟨w.heap.size + 1, 13, none⟩) (by simp) (.slice (some ⟨g, 0, none⟩) (dn.len + 1) cap))
          have z4 : wr.heap.size ≤ w3.heap.size := q3.size
          clear f3 q3 hnk hloc hEF eG cu2 cu2a cu3 fu2 fu3 cU fb' hown c13 hat
          go_wp2
          exact ⟨⟨j + 1, dn.app (.cons h' k' .nil), r', _, _, by go_num, by rw [Trees.app_len, HJ.out]; rfl, by rw [Trees.app_cons]; exact HA.out, HRow.out.kept (Q4.out.mono hB) (Nat.le_refl _), HAll.out, hno2, hbel.trans Q4.out, by simp [World.setCell]; omega, R4.out, U4.out, F4⟩, by simp [intOf]; omega⟩
      · have hz : rest.len = 0 := by omega
        obtain rfl := trees_nil hz
        have happ := HA.out
        rw [Trees.app_nil] at happ
        subst happ
        clear hrow hall
        go_wp2
        refine bodyPost_ret (v := .agg #[.int .i64 nd.kind, .int .i64 nd.op, .int .i64 nd.num, .string ⟨nd.text.toArray⟩, .int .i64 nd.ref.row, .int .i64 nd.ref.col, .bool nd.ref.pr, .bool nd.ref.pc, .int .i64 nd.to.row, .int .i64 nd.to.col, .bool nd.to.pr, .bool nd.to.pc, .int .i64 nd.fn, .slice la dn.len lc]) (by simp [results, Try.results54, go_sem, cb]) rfl ?_
        obtain ⟨own, once, new, lt⟩ := HF.out
        refine ⟨la, dn.len, lc, F, rfl, ?_, own.kept (fun b hb => ?_), once, fun b hb => by have := new b hb; omega, fun b hb => by simpa [World.setCell] using lt b hb⟩
        · repeat (refine Below.setCell ?_ (by simp) _)
          exact hbel
        · have := new b hb
          repeat rw [Below.heap_setCell _ _ _ _ (by simp; omega)]

  · go_wp2_with fail
    clear c0 c1 c2 c3 c4 c5 c6 c7 c8 c9 c10 c11 c12 c13 d5 d6 d7 d9 d10 d11
    go_loopw [27] (fun i wr => TRel nd ks kl B ka w wr i) (fun i _ => kl - (intOf i).toNat)
    case atStart =>
      exact ⟨0, .nil, ks, [], _, rfl, rfl, rfl, HT.out.row.kept (((Below.refl _ _).alloc hB _).alloc (by simp; omega) _) (Nat.le_refl _), HI.out, hn, ext_alloc (ext_alloc (Below.refl _ _) _) _, by simp, (heap_alloc2_old _ _ _).trans rfl, heap_alloc2_new _ _ _, Lib.hid ⟨⟨[], [], [], ⟨rfl, .inl ⟨rfl, rfl, rfl⟩⟩, ⟨rfl, rfl⟩, rfl⟩, List.nodup_nil, by simp, by simp⟩⟩
    case round =>
      obtain ⟨j, dn, rest, F, l, rfl, hj, happ, hrow, hall, hno, hbel, zb, hR, hU, HF⟩ := hrel
      have hlen : kl = j + rest.len := by rw [HT.out.len, ← happ, Trees.app_len, hj]
      have hl2 : ∃ a c, l = .slice a dn.len c := by
        obtain ⟨⟨cs, G, F', s, o, eF⟩, -, -, -⟩ := HF.out
        exact s.slice
      obtain ⟨la, lc, rfl⟩ := hl2
      have cb := cells_of_block hR
      have cb' := cells_of_block hU
      have fb := frees_of_block hR
      have fb' := frees_of_block hU
      have HR := Lib.hid hR; have HU := Lib.hid hU; clear hR hU
      have HA := Lib.hid happ; clear happ
      have HJ := Lib.hid hj; clear hj
      have HLen := Lib.hid hlen
      by_cases hlt : j < kl
      · obtain ⟨h', k', r', rfl⟩ := trees_cons (rest := rest) (by omega)
        clear hlen
        obtain ⟨b1, off1, ka', kl', kc', rfl, hb1, N1, tv1⟩ := hrow.head
        have hjl : dn.len ≤ 100000 := by have := HJ.out; omega
        have c13 : wr.cell? ⟨b, off + 13, none⟩ = some (.slice (some ⟨b1, off1, none⟩) kl kc) := (HN.out.kept hbel hl1).facts.c13
        have HN1 := Lib.hid N1; clear N1
        have HT1 := Lib.hid tv1; clear tv1
        have HC := Lib.hid (hall.1); have HAll := Lib.hid hall.2; clear hall
        have HRow := Lib.hid hrow.2; clear hrow
        have hno1 : k'.nodes ≤ 100000 := by simp only [Trees.nodes] at hno; omega
        have hno2 : r'.nodes ≤ 100000 := by simp only [Trees.nodes] at hno; omega
        clear hno
        have hlti : (j : Int) < (kl : Int) := by omega
        obtain ⟨⟨cs, G, F', s, o, eF⟩, once, new, lt⟩ := HF.out
        have hne : (Value.slice la dn.len lc).ownBlock ≠ some (w.heap.size + 1) := fun e => by have := new (w.heap.size + 1) (by rw [eF, s.block]; simp [mem_ownList.2 e]); omega
        have HS := Lib.hid s; have HO' := Lib.hid o; have HEF := Lib.hid eF; have HOn := Lib.hid once; have HNew := Lib.hid new; have HLt := Lib.hid lt
        clear s o eF once new lt
        have cU := cb' 13
        clear cb cb' fb
        go_wp2_with fail
        go_region_law (first
          | (go_simp
             go_at_call 54
             refine (HC.out _ b1 _ B ka' kl' kc' (HN1.out.kept (Below.refl _ _).drew hb1) (by simp; omega) (HT1.out.kept (Below.refl _ _).drew (Nat.le_refl _)) hno1).mono ?_
             rintro e w2 ⟨ka2, kl2, kc2, F2, rfl, b2', f2⟩
             have b2 : Below wr.heap.size wr w2 := ((Below.refl _ wr).drew).trans b2'
             have hsz := b2.size
             have lt2 : w.heap.size + 1 < w2.heap.size := by omega
             have ne2 : ¬ w2.heap.size = w.heap.size + 1 := by omega
             have ne2' : ¬ w.heap.size + 1 = w2.heap.size := by omega
             have s2 := HS.out.kept (w' := w2) fun b hb => b2.block b (HLt.out b (by rw [HEF.out]; simp [hb]))
             have hown : w2.ownsRow (w.heap.size + 2) 29 14 (.slice la dn.len lc) dn.len cs := s2.owns fun b hb => HNew.out b (by rw [HEF.out]; simp [hb])
             have hU2 : w2.heap[w.heap.size + 1]? = some _ := (b2.block _ (by omega)).trans HU.out
             have cu2 := cells_of_block hU2
             have fu2 := frees_of_block hU2
             have HF2 := Lib.hid f2
             have cu2a : ∀ O : Obj, (w2.alloc O).cell? ⟨w.heap.size + 1, 13, none⟩ = some (.slice la dn.len lc) := fun O => by rw [World.cell?_alloc_lt _ _ _ lt2]; exact cu2 13
             clear s2 b2' hU2 f2)
          | (refine step_append_lies _ rfl (.tmp 31) (.tmp 39) 27 rfl (w.heap.size + 2) 29 i0 _ 14 120 Try.underlying27 hi hz0 hz1 hz2 rfl (by decide) (.slice la dn.len lc) dn.len cs (by simp [Act.eval]) (hown.alloc _) ⟨w2.heap.size, 0, none⟩ 1 1 (h'.vals (.slice ka2 kl2 kc2)) (by simp [Act.eval]) rfl (World.news_of_block (heap_alloc_new w2 _)) (by simp [Value.oneCell', Hd.vals]) (by decide) (by unfold maxLen; omega) (by omega) (by simp; omega) _ rfl ?_
             intro g cap w3 hown3 hgrow hat hlt3
             have hU3 := block_grown HU.out b2 hgrow hne
             have cu3 := cells_of_block hU3
             have fu3 := frees_of_block hU3
             have HU3 := Lib.hid hU3
             have HG3 := Lib.hid hgrow
             have HO3 := Lib.hid hown3
             clear hU3 hgrow hown3))
        all_goals
          have eG := HS.out.block
          have hEF := HEF.out
          rw [eG] at hEF
          have hloc : (Value.slice (some ⟨g, 0, none⟩) (dn.len + 1) cap).ownBlock = (Value.slice la dn.len lc).ownBlock ∨ (Value.slice (some ⟨g, 0, none⟩) (dn.len + 1) cap).ownBlock = some (w2.heap.size + 1) := hat.imp (fun e => e.symm) (fun e => by subst e; simp [Value.ownBlock])
          have f3 := Fresh.step HO'.out (by rw [← hEF]; exact HOn.out) (by rw [← hEF]; exact HNew.out) (by rw [← hEF]; exact HLt.out) b2 HF2.out HT1.out.ok zb HG3.out HO3.out hloc
          have hnk : ∀ k, (Value.slice la dn.len lc).ownBlock = some k → w.heap.size + 2 ≤ k := fun k hk => HNew.out k (by rw [hEF]; simp [mem_ownList.2 hk])
          have q3 : Below (w.heap.size + 2) wr w3 := (b2.mono (by omega)).trans ((((Below.refl (w.heap.size + 2) w2).alloc (by omega) _).grown HG3.out (by simp; omega) hnk).mono (by simp))
          have F4 := Lib.hid (f3.sets (w' := w3.setCell ⟨w.heap.size + 1, 13, none⟩ (.slice (some ⟨g, 0, none⟩) (dn.len + 1) cap)) (fun k hk => Below.heap_setCell _ _ _ _ (by simp; omega)) (Nat.le_refl _) (by simp [World.setCell]))
          have R4 := Lib.hid ((Below.heap_setCell w3 ⟨w.heap.size + 1, 13, none⟩ (.slice (some ⟨g, 0, none⟩) (dn.len + 1) cap) w.heap.size (by simp)).trans ((q3.block _ (by omega)).trans HR.out))
          have U4 := Lib.hid ((block_set HU3.out (i := 13) (.slice (some ⟨g, 0, none⟩) (dn.len + 1) cap)).trans rfl)
          have Q4 := Lib.hid ((q3.mono (by omega : w.heap.size ≤ w.heap.size + 2)).setCell (p := ⟨w.heap.size + 1, 13, none⟩) (by simp) (.slice (some ⟨g, 0, none⟩) (dn.len + 1) cap))
          have z4 : wr.heap.size ≤ w3.heap.size := q3.size
          clear f3 q3 hnk hloc hEF eG cu2 cu2a cu3 fu2 fu3 cU fb' hown c13 hat
          go_wp2
          exact ⟨⟨j + 1, dn.app (.cons h' k' .nil), r', _, _, by go_num, by rw [Trees.app_len, HJ.out]; rfl, by rw [Trees.app_cons]; exact HA.out, HRow.out.kept (Q4.out.mono hB) (Nat.le_refl _), HAll.out, hno2, hbel.trans Q4.out, by simp [World.setCell]; omega, R4.out, U4.out, F4⟩, by simp [intOf]; omega⟩
      · have hz : rest.len = 0 := by omega
        obtain rfl := trees_nil hz
        have happ := HA.out
        rw [Trees.app_nil] at happ
        subst happ
        clear hrow hall
        go_wp2
        refine bodyPost_ret (v := .agg #[.int .i64 nd.kind, .int .i64 nd.op, .int .i64 nd.num, .string ⟨nd.text.toArray⟩, .int .i64 nd.ref.row, .int .i64 nd.ref.col, .bool nd.ref.pr, .bool nd.ref.pc, .int .i64 nd.to.row, .int .i64 nd.to.col, .bool nd.to.pr, .bool nd.to.pc, .int .i64 nd.fn, .slice la dn.len lc]) (by simp [results, Try.results54, go_sem, cb]) rfl ?_
        obtain ⟨own, once, new, lt⟩ := HF.out
        refine ⟨la, dn.len, lc, F, rfl, ?_, own.kept (fun b hb => ?_), once, fun b hb => by have := new b hb; omega, fun b hb => by simpa [World.setCell] using lt b hb⟩
        · repeat (refine Below.setCell ?_ (by simp) _)
          exact hbel
        · have := new b hb
          repeat rw [Below.heap_setCell _ _ _ _ (by simp; omega)]

theorem twin_any (h : Hd) (ks : Trees) : RTwin h ks := twin_step h ks (allT twin_step ks)

set_option maxRecDepth 100000 in
set_option maxHeartbeats 4000000 in
theorem copy_any (nd : Hd) (ks : Trees) (w : World) (B : Nat) (ka : Option Addr) (kl kc : Nat) (hB : B ≤ w.heap.size) (tv : TreeV w B nd ks ka kl) :
    Calls Try.prog 19 #[.agg #[.int .i64 nd.kind, .int .i64 nd.op, .int .i64 nd.num, .string ⟨nd.text.toArray⟩, .int .i64 nd.ref.row, .int .i64 nd.ref.col, .bool nd.ref.pr, .bool nd.ref.pc, .int .i64 nd.to.row, .int .i64 nd.to.col, .bool nd.to.pr, .bool nd.to.pc, .int .i64 nd.fn, .slice ka kl kc]] w (CopyPost nd ks w) := by
  have HT := Lib.hid tv; clear tv
  go_enter Try.func19, Try.ntmps19
  go_wp2_with fail
  have N0 := (node_box w nd (.slice ka kl kc)).kept (ext_alloc (Below.refl _ _) (.cells #[.int .i64 0, .int .i64 0, .int .i64 0, .string ⟨#[]⟩, .int .i64 0, .int .i64 0, .bool false, .bool false, .int .i64 0, .int .i64 0, .bool false, .bool false, .int .i64 0, .slice none 0 0] 29)) (by simp)
  have b0 : Below B w ((w.alloc (.cells #[.int .i64 nd.kind, .int .i64 nd.op, .int .i64 nd.num, .string ⟨nd.text.toArray⟩, .int .i64 nd.ref.row, .int .i64 nd.ref.col, .bool nd.ref.pr, .bool nd.ref.pc, .int .i64 nd.to.row, .int .i64 nd.to.col, .bool nd.to.pr, .bool nd.to.pc, .int .i64 nd.fn, .slice ka kl kc] 29)).alloc (.cells #[.int .i64 0, .int .i64 0, .int .i64 0, .string ⟨#[]⟩, .int .i64 0, .int .i64 0, .bool false, .bool false, .int .i64 0, .int .i64 0, .bool false, .bool false, .int .i64 0, .slice none 0 0] 29)) := ((Below.refl _ _).alloc hB _).alloc (by simp; omega) _
  have b0' : Below w.heap.size w ((w.alloc (.cells #[.int .i64 nd.kind, .int .i64 nd.op, .int .i64 nd.num, .string ⟨nd.text.toArray⟩, .int .i64 nd.ref.row, .int .i64 nd.ref.col, .bool nd.ref.pr, .bool nd.ref.pc, .int .i64 nd.to.row, .int .i64 nd.to.col, .bool nd.to.pr, .bool nd.to.pc, .int .i64 nd.fn, .slice ka kl kc] 29)).alloc (.cells #[.int .i64 0, .int .i64 0, .int .i64 0, .string ⟨#[]⟩, .int .i64 0, .int .i64 0, .bool false, .bool false, .int .i64 0, .int .i64 0, .bool false, .bool false, .int .i64 0, .slice none 0 0] 29)) := ext_alloc (ext_alloc (Below.refl _ _) _) _
  have hz : ((w.alloc (.cells #[.int .i64 nd.kind, .int .i64 nd.op, .int .i64 nd.num, .string ⟨nd.text.toArray⟩, .int .i64 nd.ref.row, .int .i64 nd.ref.col, .bool nd.ref.pr, .bool nd.ref.pc, .int .i64 nd.to.row, .int .i64 nd.to.col, .bool nd.to.pr, .bool nd.to.pc, .int .i64 nd.fn, .slice ka kl kc] 29)).alloc (.cells #[.int .i64 0, .int .i64 0, .int .i64 0, .string ⟨#[]⟩, .int .i64 0, .int .i64 0, .bool false, .bool false, .int .i64 0, .int .i64 0, .bool false, .bool false, .int .i64 0, .slice none 0 0] 29)).heap.size = w.heap.size + 2 := by simp
  refine (walk_any _ (all_spec (B := w.heap.size + 2) (by rw [hz]; exact Nat.le_refl _)) nd ks w.heap.size 0 ka kl kc () (by omega) N0 ((HT.out.kept b0 (Nat.le_refl _)).mono (by omega)) trivial).mono ?_
  rintro e w2 ⟨n, d, t, s', ok, rfl, -, b2, yes, no⟩
  rw [← hz] at b2
  obtain ⟨zb, cb, cb'⟩ := kept_block2 b2
  obtain ⟨fb, fb'⟩ := kept_free2 b2
  have N2 := Lib.hid (N0.kept b2 (by simp; omega))
  have T2 := Lib.hid (HT.out.kept (b0.trans (b2.mono (by simp; omega))) (Nat.le_refl _))
  have B2 := Lib.hid b2; have B0 := Lib.hid b0'
  have hz2 := b2.size
  clear N0 b0 b0' b2
  by_cases f : Fine nd ks
  · obtain ⟨rfl, y1, y2, y3, -⟩ := yes f
    have F0 := Lib.hid f
    clear yes no y1 y2 y3 f
    go_wp2_with fail
    refine (twin_any nd ks _ _ _ B ka kl kc N2.out (by simp at hz2; omega) T2.out (fine_nodes F0.out)).mono ?_
    rintro e w3 ⟨ka3, kl3, kc3, F, rfl, b3, fr⟩
    have b4 := B2.out.trans (b3.mono B2.out.size)
    obtain ⟨zb4, cb4, cb4'⟩ := kept_block2 b4
    obtain ⟨fb4, fb4'⟩ := kept_free2 b4
    have HF := Lib.hid fr
    have hz3 : w.heap.size + 2 ≤ w2.heap.size := by simp at hz2; omega
    have B4 := Lib.hid b4
    clear fr b4 b3 cb cb' fb fb'
    go_wp2
    refine bodyPost_ret (v := .tuple #[.agg #[.int .i64 nd.kind, .int .i64 nd.op, .int .i64 nd.num, .string ⟨nd.text.toArray⟩, .int .i64 nd.ref.row, .int .i64 nd.ref.col, .bool nd.ref.pr, .bool nd.ref.pc, .int .i64 nd.to.row, .int .i64 nd.to.col, .bool nd.to.pr, .bool nd.to.pc, .int .i64 nd.fn, .slice ka3 kl3 kc3], .int .i64 0]) (by simp [results, Try.results19, go_sem, cb4']) rfl ?_
    refine ⟨?_, .inl ⟨F0.out, ka3, kl3, kc3, F, rfl, HF.out.sets (fun b hb => ?_) (by omega) (by simp [World.setCell])⟩⟩
    · repeat (refine Below.setCell ?_ (by simp) _)
      exact B0.out.trans (B4.out.mono (by simp; omega))
    · repeat rw [Below.heap_setCell _ _ _ _ (by simp; omega)]
  · obtain rfl := no f
    have F0 := Lib.hid f
    clear yes no f
    go_wp2
    refine bodyPost_ret (v := .tuple #[.agg #[.int .i64 0, .int .i64 0, .int .i64 0, .string ⟨#[]⟩, .int .i64 0, .int .i64 0, .bool false, .bool false, .int .i64 0, .int .i64 0, .bool false, .bool false, .int .i64 0, .slice none 0 0], .int .i64 2]) (by simp [results, Try.results19, go_sem, cb']) rfl ?_
    refine ⟨?_, .inr ⟨F0.out, rfl⟩⟩
    repeat (refine Below.setCell ?_ (by simp) _)
    exact B0.out.trans (B2.out.mono (by simp; omega))

end Go.Proofs.Ytkjfeakbhfkldaa
