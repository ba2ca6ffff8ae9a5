/- Trees: the reference's Own and Copy. -/
import Derived.Test.YtkjfeakbhfkldaaTreeO
import Derived.Test.YtkjfeakbhfkldaaTreeF
import Derived.Deep.AppendLies
namespace Go.Proofs.Ytkjfeakbhfkldaa
open Go.RowKit

theorem infoExpr : (Try.prog.info? 29).map (fun i => (i.zero, i.size, i.bytes)) = some (some (.agg #[.int .i64 0, .int .i64 0, .int .i64 0, .string ⟨#[]⟩, .int .i64 0, .int .i64 0, .bool false, .bool false, .int .i64 0, .int .i64 0, .bool false, .bool false, .int .i64 0, .slice none 0 0]), 14, 120) := by kernel_rfl

/-- A new tree was handed back: the node as a value, its kids in memory of their own. -/
def OwnPost (h : Hd) (ks : Trees) (w : World) (e : Ending) (w' : World) : Prop :=
  ∃ ka kl kc F, e = .returned (.agg #[.int .i64 h.kind, .int .i64 h.op, .int .i64 h.num, .string ⟨h.text.toArray⟩, .int .i64 h.ref.row, .int .i64 h.ref.col, .bool h.ref.pr, .bool h.ref.pc, .int .i64 h.to.row, .int .i64 h.to.col, .bool h.to.pr, .bool h.to.pc, .int .i64 h.fn, .slice ka kl kc]) ∧ Below w.heap.size w w' ∧ Fresh w' w.heap.size ks (.slice ka kl kc) F
def ROwn (h : Hd) (ks : Trees) : Prop := ∀ (w : World) (B : Nat) (ka : Option Addr) (kl kc : Nat), B ≤ w.heap.size → TreeV w B h ks ka kl → ks.nodes ≤ 100000 →
  Calls Try.prog 62 #[.agg #[.int .i64 h.kind, .int .i64 h.op, .int .i64 h.num, .string ⟨h.text.toArray⟩, .int .i64 h.ref.row, .int .i64 h.ref.col, .bool h.ref.pr, .bool h.ref.pc, .int .i64 h.to.row, .int .i64 h.to.col, .bool h.to.pr, .bool h.to.pc, .int .i64 h.fn, .slice ka kl kc]] w (OwnPost h ks w)
def ORel (ks : Trees) (_kl B : Nat) (ka : Option Addr) (b0 : Nat) (w wr : World) (l i : Value) : Prop :=
  ∃ (j : Nat) (dn rest : Trees) (F : List Nat), i = .int .i64 j ∧ j = dn.len ∧ dn.app rest = ks ∧ RowIn wr B rest ka j ∧ AllT ROwn rest ∧ rest.nodes ≤ 100000 ∧ Below w.heap.size w wr ∧ Hid (Fresh wr b0 dn l F)
theorem len_le_nodes : ∀ t : Trees, t.len ≤ t.nodes
  | .nil => Nat.le_refl _
  | .cons _ k r => by have := len_le_nodes r; simp only [Trees.len, Trees.nodes]; omega

set_option maxRecDepth 100000 in
set_option maxHeartbeats 4000000 in
theorem refOwn_step (nd : Hd) (ks : Trees) (ih : AllT ROwn ks) : ROwn nd ks := by
  intro w B ka kl kc hB tv hn
  obtain ⟨i0, hi, hz0, hz1, hz2⟩ := info_parts infoExpr
  have hm := tv.max
  have hkl : kl ≤ 100000 := by rw [tv.len]; exact Nat.le_trans (len_le_nodes ks) hn
  have HI := Lib.hid ih; clear ih
  have HT := Lib.hid tv; clear tv
  go_enter Try.func62, Try.ntmps62
  go_wp2_with fail
  go_loopw [3, 4] (fun l i wr => ORel ks kl B ka (w.heap.size + 2) ((w.alloc (.cells #[.int .i64 nd.kind, .int .i64 nd.op, .int .i64 nd.num, .string ⟨nd.text.toArray⟩, .int .i64 nd.ref.row, .int .i64 nd.ref.col, .bool nd.ref.pr, .bool nd.ref.pc, .int .i64 nd.to.row, .int .i64 nd.to.col, .bool nd.to.pr, .bool nd.to.pc, .int .i64 nd.fn, .slice ka kl kc] 29)).alloc (.cells #[.int .i64 0, .int .i64 0, .int .i64 0, .string ⟨#[]⟩, .int .i64 0, .int .i64 0, .bool false, .bool false, .int .i64 0, .int .i64 0, .bool false, .bool false, .int .i64 0, .slice none 0 0] 29)) wr l i) (fun _ i _ => kl - (intOf i).toNat)
  case atStart =>
    exact ⟨0, .nil, ks, [], rfl, rfl, rfl, HT.out.row.kept (((Below.refl _ _).alloc hB _).alloc (by simp; omega) _) (Nat.le_refl _), HI.out, hn, Below.refl _ _, Lib.hid ⟨⟨[], [], [], ⟨rfl, .inl ⟨rfl, rfl, rfl⟩⟩, ⟨rfl, rfl⟩, rfl⟩, List.nodup_nil, by simp, by simp⟩⟩
  case round =>
    obtain ⟨j, dn, rest, F, rfl, hj, happ, hrow, hall, hno, hbel, HF⟩ := hrel
    obtain ⟨zb, cb, cb'⟩ := kept_block2 hbel
    have hlen : kl = j + rest.len := by rw [HT.out.len, ← happ, Trees.app_len, hj]
    have HA := Lib.hid happ; clear happ
    have HJ := Lib.hid hj; clear hj
    have HLen := Lib.hid hlen; 
    by_cases hlt : j < kl
    · obtain ⟨h', k', r', rfl⟩ := trees_cons (rest := rest) (by omega)
      clear hlen
      obtain ⟨b1, off, ka', kl', kc', rfl, hb1, N1, tv1⟩ := hrow.head
      obtain ⟨hl1, c0, c1, c2, c3, c4, c5, c6, c7, c8, c9, c10, c11, c12, c13, d5, d6, d7, d9, d10, d11⟩ := N1.facts
      clear d5 d6 d7 d9 d10 d11 N1
      have HT1 := Lib.hid tv1; clear tv1
      have HC := Lib.hid (hall.1); have HAll := Lib.hid hall.2; clear hall
      have HRow := Lib.hid hrow.2; clear hrow
      have hno1 : k'.nodes ≤ 100000 := by simp only [Trees.nodes] at hno; omega
      have hno2 : r'.nodes ≤ 100000 := by simp only [Trees.nodes] at hno; omega
      clear hno
      go_wp2_with fail
      refine (HC.out _ B ka' kl' kc' (by omega) HT1.out hno1).mono ?_
      clear c0 c1 c2 c3 c4 c5 c6 c7 c8 c9 c10 c11 c12 c13
      rintro e w2 ⟨ka2, kl2, kc2, F2, rfl, b2, f2⟩
      obtain ⟨⟨cs, G, F', s, o, eF⟩, once, new, lt⟩ := HF.out
      have s2 := s.kept fun b hb => b2.block b (lt b (by rw [eF]; simp [hb]))
      have hown : w2.ownsRow (w.heap.size + 2) 29 14 u3 dn.len cs := s2.owns fun b hb => new b (by rw [eF]; simp [hb])
      have hsz := b2.size
      have hjl : dn.len ≤ 100000 := by have := HJ.out; omega
      have HO := Lib.hid o; have HS := Lib.hid s; have HE := Lib.hid eF; have HOn := Lib.hid once; have HNew := Lib.hid new; have HLt := Lib.hid lt; have HF2 := Lib.hid f2
      clear o s eF once new lt f2 s2 HF
      go_wp2_with (at_builtin; refine wpList_append_own_at _ rfl _ _ 27 rfl (w.heap.size + 2) 29 i0 _ 14 120 Try.underlying27 hi hz0 hz1 hz2 rfl (by decide) u3 dn.len cs rfl (hown.alloc _) ⟨w2.heap.size, 0, none⟩ 1 1 (h'.vals (.slice ka2 kl2 kc2)) rfl rfl (World.news_of_block (heap_alloc_new w2 _)) (by simp [Value.oneCell', Hd.vals]) (by unfold maxLen; omega) (by omega) (by simp; omega) ?_)
      intro v' w3 hown3 hgrow _ hloc
      have hb0 : w.heap.size + 2 ≤ wr.heap.size := by omega
      have eG := HS.out.block
      have hEF := HE.out
      rw [eG] at hEF
      have f3 := Fresh.step HO.out (by rw [← hEF]; exact HOn.out) (by rw [← hEF]; exact HNew.out) (by rw [← hEF]; exact HLt.out) b2 HF2.out HT1.out.ok hb0 hgrow hown3 hloc
      have b3 := (hbel.trans (b2.mono hbel.size)).trans ((((Below.refl (w.heap.size + 2) w2).alloc (by omega) _).grown hgrow (by simp; omega) (fun k hk => HNew.out k (by rw [hEF]; simp [mem_ownList.2 hk]))).mono (by simp))
      have F3 := Lib.hid f3
      have B3 := Lib.hid b3
      have hrow3 : RowIn w3 B r' (some ⟨b1, off, none⟩) (j + 1) := HRow.out.kept (((b2.mono (by omega : B ≤ wr.heap.size)).trans ((Below.refl B w2).alloc (by omega) _)).grown hgrow (by simp; omega) (fun k hk => by have := HNew.out k (by rw [hEF]; simp [mem_ownList.2 hk]); omega)) (Nat.le_refl _)
      have HR3 := Lib.hid hrow3
      clear f3 b3 hrow3 hown hown3 hgrow hloc eG hEF cb cb'
      go_wp2
      exact ⟨⟨j + 1, dn.app (.cons h' k' .nil), r', _, by go_num, by rw [Trees.app_len, HJ.out]; rfl, by rw [Trees.app_cons]; exact HA.out, HR3.out, HAll.out, hno2, B3.out, F3⟩, by simp [intOf]; omega⟩
    · have hz : rest.len = 0 := by omega
      obtain rfl := trees_nil hz
      have happ := HA.out
      rw [Trees.app_nil] at happ
      subst happ
      obtain ⟨fb, fb'⟩ := kept_free2 hbel
      have hsl : ∃ a c, u3 = .slice a dn.len c := by
        obtain ⟨⟨cs, G, F', s, o, eF⟩, -, -, -⟩ := HF.out
        exact s.slice
      obtain ⟨a3, c3, rfl⟩ := hsl
      clear hrow hall
      go_wp2
      refine bodyPost_ret (v := .agg #[.int .i64 nd.kind, .int .i64 nd.op, .int .i64 nd.num, .string ⟨nd.text.toArray⟩, .int .i64 nd.ref.row, .int .i64 nd.ref.col, .bool nd.ref.pr, .bool nd.ref.pc, .int .i64 nd.to.row, .int .i64 nd.to.col, .bool nd.to.pr, .bool nd.to.pc, .int .i64 nd.fn, .slice a3 dn.len c3]) (by simp [results, Try.results62, go_sem, cb']) rfl ?_
      obtain ⟨own, once, new, lt⟩ := HF.out
      refine ⟨a3, dn.len, c3, F, rfl, ?_, own.kept (fun b hb => ?_), once, fun b hb => by have := new b hb; omega, fun b hb => by simpa [World.setCell] using lt b hb⟩
      · repeat (refine Below.setCell ?_ (by simp) _)
        exact (ext_alloc (ext_alloc (Below.refl _ _) _) _).trans (hbel.mono (by simp; omega))
      · have := new b hb
        repeat rw [Below.heap_setCell _ _ _ _ (by simp; omega)]
theorem refOwn_any (h : Hd) (ks : Trees) : ROwn h ks := refOwn_step h ks (allT refOwn_step ks)

/-- A copy was handed back, or that the tree is too great. -/
def CopyPost (h : Hd) (ks : Trees) (w : World) (e : Ending) (w' : World) : Prop :=
  Below w.heap.size w w' ∧ ((Fine h ks ∧ ∃ ka kl kc F, e = .returned (.tuple #[.agg #[.int .i64 h.kind, .int .i64 h.op, .int .i64 h.num, .string ⟨h.text.toArray⟩, .int .i64 h.ref.row, .int .i64 h.ref.col, .bool h.ref.pr, .bool h.ref.pc, .int .i64 h.to.row, .int .i64 h.to.col, .bool h.to.pr, .bool h.to.pc, .int .i64 h.fn, .slice ka kl kc], .int .i64 0]) ∧ Fresh w' w.heap.size ks (.slice ka kl kc) F) ∨
    (¬ Fine h ks ∧ e = .returned (.tuple #[.agg #[.int .i64 0, .int .i64 0, .int .i64 0, .string ⟨#[]⟩, .int .i64 0, .int .i64 0, .bool false, .bool false, .int .i64 0, .int .i64 0, .bool false, .bool false, .int .i64 0, .slice none 0 0], .int .i64 2])))
theorem fine_nodes {h : Hd} {ks : Trees} (f : Fine h ks) : ks.nodes ≤ 100000 := by have := f.1; omega
theorem Fresh.sets {w w' : World} {b0 b1 : Nat} {ts : Trees} {v : Value} {F : List Nat} (f : Fresh w b0 ts v F) (h : ∀ b, b0 ≤ b → w'.heap[b]? = w.heap[b]?) (hb : b1 ≤ b0) (hs : w.heap.size ≤ w'.heap.size) : Fresh w' b1 ts v F :=
  ⟨f.own.kept fun b hb => h b (f.new b hb), f.once, fun b hm => Nat.le_trans hb (f.new b hm), fun b hm => Nat.lt_of_lt_of_le (f.lt b hm) hs⟩

set_option maxRecDepth 100000 in
set_option maxHeartbeats 4000000 in
theorem refCopy_any (nd : Hd) (ks : Trees) (w : World) (B : Nat) (ka : Option Addr) (kl kc : Nat) (hB : B ≤ w.heap.size) (tv : TreeV w B nd ks ka kl) :
    Calls Try.prog 50 #[.agg #[.int .i64 nd.kind, .int .i64 nd.op, .int .i64 nd.num, .string ⟨nd.text.toArray⟩, .int .i64 nd.ref.row, .int .i64 nd.ref.col, .bool nd.ref.pr, .bool nd.ref.pc, .int .i64 nd.to.row, .int .i64 nd.to.col, .bool nd.to.pr, .bool nd.to.pc, .int .i64 nd.fn, .slice ka kl kc]] w (CopyPost nd ks w) := by
  have HT := Lib.hid tv; clear tv
  go_enter Try.func50, Try.ntmps50
  go_wp2_with fail
  refine (refSize_any nd ks _ B ka kl kc (by simp; omega) (HT.out.kept (((Below.refl _ _).alloc hB _).alloc (by simp; omega) _) (Nat.le_refl _))).mono ?_
  rintro e w2 ⟨rfl, b2⟩
  obtain ⟨zb, cb, cb'⟩ := kept_block2 b2
  obtain ⟨fb, fb'⟩ := kept_free2 b2
  by_cases f : Fine nd ks
  · obtain ⟨s1, s2, s3⟩ := size_yes f
    have g1 : sizeN nd ks ≤ 512 := by have := f.1; omega
    have F0 := Lib.hid f
    clear s1 s2 s3 f
    go_wp2_with fail
    refine (refOwn_any nd ks _ B ka kl kc (by omega) (HT.out.kept ((((Below.refl _ _).alloc hB _).alloc (by simp; omega) _).trans (b2.mono (by simp; omega))) (Nat.le_refl _)) (fine_nodes F0.out)).mono ?_
    rintro e w3 ⟨ka3, kl3, kc3, F, rfl, b3, fr⟩
    have b4 := b2.trans (b3.mono b2.size)
    obtain ⟨zb4, cb4, cb4'⟩ := kept_block2 b4
    obtain ⟨fb4, fb4'⟩ := kept_free2 b4
    have HF := Lib.hid fr
    have hz3 : w.heap.size + 2 ≤ w2.heap.size := by omega
    have B4 := Lib.hid b4
    clear fr b4 b3 cb cb' fb fb' b2
    go_wp2
    refine bodyPost_ret (v := .tuple #[.agg #[.int .i64 nd.kind, .int .i64 nd.op, .int .i64 nd.num, .string ⟨nd.text.toArray⟩, .int .i64 nd.ref.row, .int .i64 nd.ref.col, .bool nd.ref.pr, .bool nd.ref.pc, .int .i64 nd.to.row, .int .i64 nd.to.col, .bool nd.to.pr, .bool nd.to.pc, .int .i64 nd.fn, .slice ka3 kl3 kc3], .int .i64 0]) (by simp [results, Try.results50, go_sem, cb4']) rfl ?_
    refine ⟨?_, .inl ⟨F0.out, ka3, kl3, kc3, F, rfl, HF.out.sets (fun b hb => ?_) (by omega) (by simp [World.setCell])⟩⟩
    · repeat (refine Below.setCell ?_ (by simp) _)
      exact (ext_alloc (ext_alloc (Below.refl _ _) _) _).trans (B4.out.mono (by simp; omega))
    · repeat rw [Below.heap_setCell _ _ _ _ (by simp; omega)]
  · obtain ⟨s1, s2, s3⟩ := size_no f
    have g1 : 512 < sizeN nd ks := by omega
    have F0 := Lib.hid f
    clear s1 s2 s3 f
    go_wp2
    refine bodyPost_ret (v := .tuple #[.agg #[.int .i64 0, .int .i64 0, .int .i64 0, .string ⟨#[]⟩, .int .i64 0, .int .i64 0, .bool false, .bool false, .int .i64 0, .int .i64 0, .bool false, .bool false, .int .i64 0, .slice none 0 0], .int .i64 2]) (by simp [results, Try.results50, go_sem, cb']) rfl ?_
    refine ⟨?_, .inr ⟨F0.out, rfl⟩⟩
    repeat (refine Below.setCell ?_ (by simp) _)
    exact (ext_alloc (ext_alloc (Below.refl _ _) _) _).trans (b2.mono (by simp; omega))
end Go.Proofs.Ytkjfeakbhfkldaa
