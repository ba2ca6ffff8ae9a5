/- References' texts: a place's one text read; areas; the order. -/
import Derived.Test.YtnhgeojcelegbaaDoorSpF
import Derived.Test.YtnhgeojcelegbaaDoorSpQ
import Derived.Lib.Small
namespace Go.Proofs.YtnhgeojcelegbaaDoor
open Go.RowKit Go.Lib

theorem contains36 (l : List UInt8) : decide (0 ≤ indexByte l 36) = l.any (· == 36) := by
  induction l with
  | nil => rfl
  | cons a r ih =>
    unfold indexByte
    have hg := indexByte_ge r 36
    by_cases h : (a == 36) = true
    · simp [h]
    · rw [if_neg h, List.any_cons, ← ih]
      simp only [h, Bool.false_or]
      split
      · rename_i q
        simp at q; simp [q]
      · rename_i q
        simp at q
        rw [decide_eq_decide]
        omega
theorem upper_eq (l : List UInt8) : (toUpperA l == l) = !(l.any lowB) := by
  induction l with
  | nil => rfl
  | cons a r ih =>
    have e : toUpperA (a :: r) = upperB a :: toUpperA r := rfl
    have h1 : (upperB a == a) = !(lowB a) := by
      have hi : isLowerB a = lowB a := by
        unfold isLowerB lowB
        rw [Bool.eq_iff_iff]
        simp [UInt8.le_iff_toNat_le]
      unfold upperB
      rw [hi]
      cases hl : lowB a with
      | false => simp
      | true =>
        simp only [if_true]
        rw [beq_eq_false_iff_ne.2]; rfl
        intro q
        have := congrArg UInt8.toNat q
        simp only [lowB, Bool.and_eq_true, decide_eq_true_eq] at hl
        rw [UInt8.toNat_sub_of_le _ _ (by rw [UInt8.le_iff_toNat_le]; simp; omega)] at this
        simp at this; omega
    rw [e, List.cons_beq_cons, ih, h1, List.any_cons, Bool.not_or]
def ReadPost (l : List UInt8) (w : World) (e : Ending) (w' : World) : Prop := e = .returned (.tuple #[.agg #[.int .i64 (spotAns l).1, .int .i64 (spotAns l).2.1], .int .i64 (spotAns l).2.2]) ∧ Below w.heap.size w w'
set_option maxRecDepth 10000 in
set_option maxHeartbeats 2000000 in
theorem spRead_any (s : ByteArray) (w : World) (L : LaidW w) (hs : s.size ≤ 140737488355328) : Calls Tryd.prog 23 #[.string s] w (ReadPost s.data.toList w) := by
  have HL := Lib.hid L
  clear L
  go_enter Tryd.func23, Tryd.ntmps23
  go_wp2_with fail
  refine (readRef_any s _ (HL.out.kept (ext_alloc (Below.refl _ w) _)) hs).mono ?_
  rintro e w2 ⟨rfl, b2⟩
  obtain ⟨A, hA⟩ : ∃ A, A = refAns s.data.toList := ⟨_, rfl⟩
  rw [← hA]
  obtain ⟨⟨row, col, pr, pc⟩, n, er⟩ := A
  simp only [RefVal]
  have HA := Lib.hid hA
  have z2 := (kept_block b2).1
  have k2 := (kept_block b2).2
  have f2 : ∀ o, w2.frozen? ⟨w.heap.size, o, none⟩ = false := fun o => by
    rw [b2.frozen (p := ⟨w.heap.size, o, none⟩) (by simp)]
    exact World.frozen?_alloc_at _ _ _ _ rfl
  have B2 := Lib.hid ((ext_alloc (Below.refl _ w) (.cells #[.int .i64 0, .int .i64 0] 39)).trans (b2.mono (by simp)))
  clear b2 hA
  have kz : ∀ (a b : Value) (O : Obj) (o : Nat), (((w2.setCell ⟨w.heap.size, 0, none⟩ a).setCell ⟨w.heap.size, 1, none⟩ b).alloc O).cell? ⟨w.heap.size, o, none⟩ = ((w2.setCell ⟨w.heap.size, 0, none⟩ a).setCell ⟨w.heap.size, 1, none⟩ b).cell? ⟨w.heap.size, o, none⟩ := fun a b O o => World.cell?_alloc_past _ _ _ (by simpa using z2)
  have KZ := Lib.hid kz
  clear kz
  by_cases h20 : er = 20
  · subst h20
    go_wp2
    exact bodyPost_ret (v := .tuple #[.agg #[.int .i64 0, .int .i64 0], .int .i64 20]) (by simp [results, Tryd.results23, go_sem, k2, KZ.out]) rfl ⟨by rw [spotAns_eq, ← HA.out, if_pos (by simp)], (ext_alloc ((B2.out.setCell (Nat.le_refl _) _).setCell (Nat.le_refl _) _) _)⟩
  · by_cases hn : n = s.size
    · subst hn
      go_wp2_with fail
      refine (Tryd.strings_Contains_one s 36 _).mono ?_
      rintro e w' ⟨rfl, rfl⟩
      rw [contains36]
      obtain ⟨b, hb⟩ : ∃ b, s.data.toList.any (· == 36) = b := ⟨_, rfl⟩
      rw [hb]
      have HB := Lib.hid hb
      clear hb
      cases b
      · have hlt : ∀ (j : Nat) (b : UInt8), s.data.toList[j]? = some b → b.toNat < 128 := fun j b hj => by
          have h := HA.out
          unfold refAns at h
          cases hf : form s.data.toList with
          | none => rw [hf] at h; simp only [RefA.mk.injEq] at h; omega
          | some f =>
            rw [hf] at h
            simp only at h
            have hfn : f.n = s.data.toList.length := by
              rw [← Lib.size_eq]
              split at h <;> (simp only [RefA.mk.injEq] at h; omega)
            exact (whole_facts hf hfn).2 b (List.mem_of_getElem? hj)
        have HLT := Lib.hid hlt
        clear hlt
        go_wp2_with fail
        refine (Tryd.strings_ToUpper_ascii s _ hs HLT.out).mono ?_
        rintro e w3 ⟨rfl, b3⟩
        obtain ⟨u, hu⟩ : ∃ u : ByteArray, u = ⟨(toUpperA s.data.toList).toArray⟩ := ⟨_, rfl⟩
        rw [← hu]
        obtain ⟨c, hc⟩ : ∃ c, s.data.toList.any lowB = c := ⟨_, rfl⟩
        have hcmp : (u.toList == s.toList) = !c := by rw [ByteArray.toList_eq, ByteArray.toList_eq, hu, ← hc]; exact upper_eq _
        have k3 := (kept_block b3).2
        have k4 : ∀ o, w3.cell? ⟨w.heap.size, o, none⟩ = (#[.int .i64 0, .int .i64 0] : Array Value)[o]? := fun o => (b3.cell (p := ⟨w.heap.size, o, none⟩) (by simp; omega)).trans ((World.cell?_alloc_past _ _ _ z2).trans (k2 o))
        have f4 : ∀ o, w3.frozen? ⟨w.heap.size, o, none⟩ = false := fun o => (b3.frozen (p := ⟨w.heap.size, o, none⟩) (by simp; omega)).trans ((World.frozen?_alloc_past _ _ _ z2).trans (f2 o))
        have B3 := Lib.hid ((ext_alloc B2.out (.cells #[.int .i64 row, .int .i64 col, .bool pr, .bool pc] 28)).trans (b3.mono (by simp; omega)))
        have HC := Lib.hid hc
        clear hu hc b3 k2 f2
        cases c
        · go_wp2
          exact bodyPost_ret (v := .tuple #[.agg #[.int .i64 row, .int .i64 col], .int .i64 er]) (by simp [results, Tryd.results23, go_sem, k4]) rfl ⟨by rw [spotAns_eq, ← HA.out, if_neg (by rintro (h | h | h | h); exact h20 h; exact h (Lib.size_eq s); rw [HB.out] at h; cases h; rw [HC.out] at h; cases h)], ((B3.out.setCell (Nat.le_refl _) _).setCell (Nat.le_refl _) _)⟩
        · go_wp2
          exact bodyPost_ret (v := .tuple #[.agg #[.int .i64 0, .int .i64 0], .int .i64 20]) (by simp [results, Tryd.results23, go_sem, k4]) rfl ⟨by rw [spotAns_eq, ← HA.out, if_pos (by simp [HC.out])], ((B3.out.setCell (Nat.le_refl _) _).setCell (Nat.le_refl _) _)⟩
      · go_wp2
        exact bodyPost_ret (v := .tuple #[.agg #[.int .i64 0, .int .i64 0], .int .i64 20]) (by simp [results, Tryd.results23, go_sem, k2, KZ.out]) rfl ⟨by rw [spotAns_eq, ← HA.out, if_pos (by simp [HB.out])], (ext_alloc ((B2.out.setCell (Nat.le_refl _) _).setCell (Nat.le_refl _) _) _)⟩
    · go_wp2
      exact bodyPost_ret (v := .tuple #[.agg #[.int .i64 0, .int .i64 0], .int .i64 20]) (by simp [results, Tryd.results23, go_sem, k2, KZ.out]) rfl ⟨by rw [spotAns_eq, ← HA.out, if_pos (by refine .inr (.inl ?_); rw [← Lib.size_eq]; exact hn)], (ext_alloc ((B2.out.setCell (Nat.le_refl _) _).setCell (Nat.le_refl _) _) _)⟩
end Go.Proofs.YtnhgeojcelegbaaDoor
