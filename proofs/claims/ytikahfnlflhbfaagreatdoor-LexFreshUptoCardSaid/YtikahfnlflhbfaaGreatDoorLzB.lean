/- The document's own answer for references: a reference read, a place's one text read. -/
import Derived.Test.YtikahfnlflhbfaaGreatDoorLzY
import Derived.Test.YtikahfnlflhbfaaGreatDoorLxSf
namespace Go.Proofs.YtikahfnlflhbfaaGreatDoor
open Go.RowKit Go.Lib

theorem kpC {N : Nat} {A : Array Value} {W W' : World} (b : Below W.heap.size W W') (h : N < W.heap.size) (c : ∀ o, W.cell? ⟨N, o, none⟩ = A[o]?) : ∀ o, W'.cell? ⟨N, o, none⟩ = A[o]? := fun o => (b.cell (p := ⟨N, o, none⟩) h).trans (c o)
theorem kpA {N : Nat} {A : Array Value} {W : World} (O : Obj) (h : N < W.heap.size) (c : ∀ o, W.cell? ⟨N, o, none⟩ = A[o]?) : ∀ o, (W.alloc O).cell? ⟨N, o, none⟩ = A[o]? := fun o => (World.cell?_alloc_past _ _ _ h).trans (c o)
theorem nwA {A : Array Value} {T : TypeId} (W : World) : ∀ o, (W.alloc (.cells A T)).cell? ⟨W.heap.size, o, none⟩ = A[o]? := fun _ => World.cell?_alloc_at _ _ _ _ rfl
theorem form_facts {l : List UInt8} {x : Fm} (h : form l = some x) : 1 ≤ x.n ∧ x.n ≤ l.length ∧ 0 ≤ x.row ∧ 0 ≤ x.col ∧ x.row ≤ 65536 := by
  obtain ⟨ws, ds, rest, P⟩ := form_parts h
  have h1 := P.n
  have h2 := congrArg List.length P.eq
  simp only [List.length_append] at h2
  have h3 := List.length_pos_iff.2 P.w0
  have h4 := digV_pos P.d P.d0 P.z
  have h5 := colN_ge P.w
  refine ⟨by omega, by omega, ?_, by rw [P.col]; exact h5, ?_⟩
  · rw [P.row, rowN]; split <;> omega
  · rw [P.row, rowN]; split <;> omega
theorem placeB_iff {r c : Int} (h0 : 0 ≤ r) (h1 : 0 ≤ c) : placeB ⟨r, c, false, false⟩ = decide (c < 702 ∧ r < 65536) := by
  rw [Bool.eq_iff_iff]
  simp [placeB]
  omega

set_option maxRecDepth 10000 in
set_option maxHeartbeats 2000000 in
theorem rfReadRef_any (s : ByteArray) (w : World) (hs : s.size ≤ 140737488355328) : Calls Tryz.prog 31 #[.string s] w (RrPost s.data.toList w) := by
  go_enter Tryz.func31, Tryz.ntmps31
  go_wp2_with fail
  refine (rfForm_any s _ hs).mono ?_
  rintro e w2 ⟨he, b2⟩
  have z2 := (kept_block b2).1
  have k1 := (kept_block b2).2
  have f1 : ∀ o, w2.frozen? ⟨w.heap.size, o, none⟩ = false := fun o => by
    rw [b2.frozen (p := ⟨w.heap.size, o, none⟩) (by simp)]
    exact World.frozen?_alloc_at _ _ _ _ rfl
  have b1 := ((ext_alloc (Below.refl _ w) (.cells #[.int .i64 0, .int .i64 0, .bool false, .bool false] 55)).trans (b2.mono (by simp)))
  clear b2
  cases hf : form s.data.toList with
  | none =>
    simp only [FmVal, hf] at he
    subst he
    have k0 := kpA (.cells #[.int .i64 0, .int .i64 0, .int .i64 0, .bool false, .bool false] 64) z2 k1
    have f0 : ∀ o, (w2.alloc (.cells #[.int .i64 0, .int .i64 0, .int .i64 0, .bool false, .bool false] 64)).frozen? ⟨w.heap.size, o, none⟩ = false := fun o => (World.frozen?_alloc_past _ _ _ z2).trans (f1 o)
    have B2 := Lib.hid (ext_alloc b1 (.cells #[.int .i64 0, .int .i64 0, .int .i64 0, .bool false, .bool false] 64))
    have HF := Lib.hid (show RefVal (refAns s.data.toList) = .tuple #[.agg #[.int .i64 0, .int .i64 0, .bool false, .bool false], .int .i64 0, .int .i64 20] by simp only [refAns, hf]; rfl)
    have kz : ∀ (a b c d : Value) (O : Obj) (o : Nat), (((((w2.setCell ⟨w.heap.size, 0, none⟩ a).setCell ⟨w.heap.size, 1, none⟩ b).setCell ⟨w.heap.size, 2, none⟩ c).setCell ⟨w.heap.size, 3, none⟩ d).alloc O).cell? ⟨w.heap.size, o, none⟩ = ((((w2.setCell ⟨w.heap.size, 0, none⟩ a).setCell ⟨w.heap.size, 1, none⟩ b).setCell ⟨w.heap.size, 2, none⟩ c).setCell ⟨w.heap.size, 3, none⟩ d).cell? ⟨w.heap.size, o, none⟩ := fun a b c d O o => World.cell?_alloc_past _ _ _ (by simpa using z2)
    have KZ := Lib.hid kz
    have B1 := Lib.hid b1
    clear hf b1 kz B2
    go_wp2
    exact bodyPost_ret (v := .tuple #[.agg #[.int .i64 0, .int .i64 0, .bool false, .bool false], .int .i64 0, .int .i64 20]) (by simp [results, Tryz.results31, go_sem, k1, KZ.out]) rfl ⟨by rw [HF.out], (by repeat (first | (with_reducible exact B1.out) | (with_reducible refine Below.setCell ?_ (by exact Nat.le_refl _) _) | (with_reducible refine ext_alloc ?_ _)))⟩
  | some x =>
    obtain ⟨n, c, r, pc, pr⟩ := x
    obtain ⟨y1, y2, y3, y4, y5⟩ := form_facts hf
    simp only at y1 y2 y3 y4 y5
    simp only [FmVal, hf] at he
    subst he
    have k0 := kpA (.cells #[.int .i64 n, .int .i64 c, .int .i64 r, .bool pc, .bool pr] 64) z2 k1
    have f0 : ∀ o, (w2.alloc (.cells #[.int .i64 n, .int .i64 c, .int .i64 r, .bool pc, .bool pr] 64)).frozen? ⟨w.heap.size, o, none⟩ = false := fun o => (World.frozen?_alloc_past _ _ _ z2).trans (f1 o)
    have n0 := nwA (A := #[.int .i64 n, .int .i64 c, .int .i64 r, .bool pc, .bool pr]) (T := 64) w2
    have B2 := Lib.hid (ext_alloc b1 (.cells #[.int .i64 n, .int .i64 c, .int .i64 r, .bool pc, .bool pr] 64))
    have hb0 : ((n : Int) == 0) = false := by rw [beq_eq_false_iff_ne]; omega
    have hp := placeB_iff y3 y4
    have HRA := Lib.hid (show refAns s.data.toList = if c < 702 ∧ r < 65536 then ⟨⟨r, c, pr, pc⟩, n, 0⟩ else ⟨.zero, n, 10⟩ by simp only [refAns, hf])
    clear hf b1
    by_cases q : c < 702 ∧ r < 65536
    · rw [decide_eq_true q] at hp
      have HP := Lib.hid hp
      have HF := Lib.hid (show RefVal (refAns s.data.toList) = .tuple #[.agg #[.int .i64 r, .int .i64 c, .bool pr, .bool pc], .int .i64 n, .int .i64 0] by rw [HRA.out, if_pos q]; rfl)
      clear hp q y1 y2 y3 y4 y5 HRA
      go_wp2_with fail
      refine (rfMay_any r c _).mono ?_
      rintro e w3 ⟨he, b3⟩
      rw [HP.out] at he
      subst he
      have z3 : w.heap.size < w3.heap.size := Nat.lt_of_lt_of_le z2 (Nat.le_trans (by simp) b3.size)
      have k3 := kpC b3 (by simp; omega) k0
      have n3 := kpC b3 (by simp) n0
      have f3 : ∀ o, w3.frozen? ⟨w.heap.size, o, none⟩ = false := fun o => (b3.frozen (p := ⟨w.heap.size, o, none⟩) (by simp; omega)).trans (f0 o)
      have B3 := Lib.hid (B2.out.trans (b3.mono B2.out.size))
      clear b3 k0 n0 f0
      have k0 := k3
      go_wp2_with fail
      go_region
      all_goals
        go_wp2
        exact bodyPost_ret (v := .tuple #[.agg #[.int .i64 r, .int .i64 c, .bool pr, .bool pc], .int .i64 n, .int .i64 0]) (by simp [results, Tryz.results31, go_sem, k0]) rfl ⟨by rw [HF.out], (by repeat (first | (with_reducible exact B3.out) | (with_reducible refine Below.setCell ?_ (by exact Nat.le_refl _) _) | (with_reducible refine Below.drew ?_)))⟩
    · rw [decide_eq_false q] at hp
      have HP := Lib.hid hp
      have HF := Lib.hid (show RefVal (refAns s.data.toList) = .tuple #[.agg #[.int .i64 0, .int .i64 0, .bool false, .bool false], .int .i64 n, .int .i64 10] by rw [HRA.out, if_neg q]; rfl)
      clear hp q y1 y2 y3 y4 y5 HRA
      go_wp2_with fail
      refine (rfMay_any r c _).mono ?_
      rintro e w3 ⟨he, b3⟩
      rw [HP.out] at he
      subst he
      have z3 : w.heap.size < w3.heap.size := Nat.lt_of_lt_of_le z2 (Nat.le_trans (by simp) b3.size)
      have k3 := kpC b3 (by simp; omega) k0
      have n3 := kpC b3 (by simp) n0
      have f3 : ∀ o, w3.frozen? ⟨w.heap.size, o, none⟩ = false := fun o => (b3.frozen (p := ⟨w.heap.size, o, none⟩) (by simp; omega)).trans (f0 o)
      have B3 := Lib.hid (B2.out.trans (b3.mono B2.out.size))
      clear b3 k0 n0 f0
      have k0 := k3
      go_wp2_with fail
      go_region
      all_goals
        go_wp2
        exact bodyPost_ret (v := .tuple #[.agg #[.int .i64 0, .int .i64 0, .bool false, .bool false], .int .i64 n, .int .i64 10]) (by simp [results, Tryz.results31, go_sem, k0]) rfl ⟨by rw [HF.out], (by repeat (first | (with_reducible exact B3.out) | (with_reducible refine Below.setCell ?_ (by exact Nat.le_refl _) _) | (with_reducible refine Below.drew ?_)))⟩
end Go.Proofs.YtikahfnlflhbfaaGreatDoor
