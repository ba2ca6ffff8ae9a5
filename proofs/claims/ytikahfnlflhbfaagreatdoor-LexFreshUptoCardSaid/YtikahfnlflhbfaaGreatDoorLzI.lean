/- The document's own answer for words: the longest of some texts that stands there. -/
import Derived.Test.YtikahfnlflhbfaaGreatDoorLzH
import Derived.BigQuiet
namespace Go.Proofs.YtikahfnlflhbfaaGreatDoor
open Go.RowKit Go.Lib

def gotA (p : Nat) (g : GotL) : Array Value := #[.int .i64 g.kind, .string (strB g.text), .int .i64 0, .int .i64 (if g.err = 0 then ((p + g.n : Nat) : Int) else 0), .int .i64 g.err]
theorem gotV_a (p : Nat) (g : GotL) : GotV p g = .agg (gotA p g) := rfl
/-- Five cells, written anew. -/
theorem set5 {w : World} {N : Nat} {A : Array Value} (hA : A.size = 5) (h : ∀ o, w.cell? ⟨N, o, none⟩ = A[o]?) (a b c d e : Value) : ∀ o, (((((w.setCell ⟨N, 0, none⟩ a).setCell ⟨N, 1, none⟩ b).setCell ⟨N, 2, none⟩ c).setCell ⟨N, 3, none⟩ d).setCell ⟨N, 4, none⟩ e).cell? ⟨N, o, none⟩ = (#[a, b, c, d, e] : Array Value)[o]? := by
  have step : ∀ (w : World) (B : Array Value) (k : Nat) (v : Value), B.size = 5 → k < 5 → (∀ o, w.cell? ⟨N, o, none⟩ = B[o]?) → ∀ o, (w.setCell ⟨N, k, none⟩ v).cell? ⟨N, o, none⟩ = (B.setIfInBounds k v)[o]? := by
    intro w B k v hB hk hw o
    rw [Array.getElem?_setIfInBounds]
    by_cases e : k = o
    · subst e
      rw [if_pos rfl, if_pos (by omega), World.cell?_setCell_same _ _ _ ((hw k).trans (Array.getElem?_eq_getElem (by omega)))]
    · rw [if_neg e, World.cell?_setCell_other _ _ _ _ (by intro h; simp only [Addr.mk.injEq] at h; omega), hw o]
  obtain ⟨l, rfl⟩ : ∃ l, A = ⟨l⟩ := ⟨A.toList, rfl⟩
  have hl : l.length = 5 := by simpa using hA
  match l, hl with
  | [x0, x1, x2, x3, x4], _ =>
    have h0 := step w #[x0, x1, x2, x3, x4] 0 a rfl (by decide) h
    have h1 := step _ #[a, x1, x2, x3, x4] 1 b rfl (by decide) h0
    have h2 := step _ #[a, b, x2, x3, x4] 2 c rfl (by decide) h1
    have h3 := step _ #[a, b, c, x3, x4] 3 d rfl (by decide) h2
    exact step _ #[a, b, c, d, x4] 4 e rfl (by decide) h3
theorem oth5 {w : World} {N M : Nat} (hne : N ≠ M) (a b c d e : Value) (o : Nat) : (((((w.setCell ⟨N, 0, none⟩ a).setCell ⟨N, 1, none⟩ b).setCell ⟨N, 2, none⟩ c).setCell ⟨N, 3, none⟩ d).setCell ⟨N, 4, none⟩ e).cell? ⟨M, o, none⟩ = w.cell? ⟨M, o, none⟩ := by
  have step : ∀ (w : World) (k : Nat) (v : Value), (w.setCell ⟨N, k, none⟩ v).cell? ⟨M, o, none⟩ = w.cell? ⟨M, o, none⟩ := fun w k v => World.cell?_setCell_other _ _ _ _ (by intro h; simp only [Addr.mk.injEq] at h; omega)
  rw [step, step, step, step, step]
theorem fr5 {w : World} {N : Nat} (a b c d e : Value) (q : Addr) : (((((w.setCell ⟨N, 0, none⟩ a).setCell ⟨N, 1, none⟩ b).setCell ⟨N, 2, none⟩ c).setCell ⟨N, 3, none⟩ d).setCell ⟨N, 4, none⟩ e).frozen? q = w.frozen? q := by
  simp only [World.frozen?_setCell]
theorem bel5 {w wr : World} {W N : Nat} (h : Below W w wr) (hN : W ≤ N) (a b c d e : Value) : Below W w (((((wr.setCell ⟨N, 0, none⟩ a).setCell ⟨N, 1, none⟩ b).setCell ⟨N, 2, none⟩ c).setCell ⟨N, 3, none⟩ d).setCell ⟨N, 4, none⟩ e) := ((((h.setCell hN _).setCell hN _).setCell hN _).setCell hN _).setCell hN _
theorem size5 {w : World} {N : Nat} (a b c d e : Value) : (((((w.setCell ⟨N, 0, none⟩ a).setCell ⟨N, 1, none⟩ b).setCell ⟨N, 2, none⟩ c).setCell ⟨N, 3, none⟩ d).setCell ⟨N, 4, none⟩ e).heap.size = w.heap.size := by simp [World.setCell]
/-- The texts, lying in a block. -/
def TextsAt (base : Nat) (ts : List (List UInt8)) (w : World) : Prop := ∀ (j : Nat) (t : List UInt8), ts[j]? = some t → w.cell? ⟨base, j, none⟩ = some (.string (strB t))
theorem TextsAt.kept {base : Nat} {ts : List (List UInt8)} {w w' : World} (h : TextsAt base ts w) (hb : base < w.heap.size) (b : Below w.heap.size w w') : TextsAt base ts w' := fun j t e => (b.cell (p := ⟨base, j, none⟩) hb).trans (h j t e)
def LsRel (p : Nat) (r : List UInt8) (kind : Int) (ts : List (List UInt8)) (w : World) (i : Value) (wr : World) : Prop :=
  ∃ (k : Nat) (g : GotL), i = .int .i64 k ∧ k ≤ ts.length ∧ Hid (listedL r kind (ts.drop k) g = listedL r kind ts (noneL 21)) ∧ w.heap.size + 1 < wr.heap.size ∧ Hid (Below w.heap.size w wr) ∧
    Hid (∀ o, wr.cell? ⟨w.heap.size, o, none⟩ = (#[.int .i64 0, .string ⟨#[]⟩, .int .i64 0, .int .i64 0, .int .i64 0] : Array Value)[o]?) ∧ Hid (∀ o, wr.frozen? ⟨w.heap.size, o, none⟩ = false) ∧
    Hid (∀ o, wr.cell? ⟨w.heap.size + 1, o, none⟩ = (gotA p g)[o]?) ∧ Hid (∀ o, wr.frozen? ⟨w.heap.size + 1, o, none⟩ = false)
theorem LsRel.kept {p : Nat} {r : List UInt8} {kind : Int} {ts : List (List UInt8)} {w wr wd : World} {i : Value} (h : LsRel p r kind ts w i wr) (b : Below wr.heap.size wr wd) : LsRel p r kind ts w i wd := by
  obtain ⟨k, g, h1, h2, h3, h4, h5, h6, h7, h8, h9⟩ := h
  exact ⟨k, g, h1, h2, h3, Nat.lt_of_lt_of_le h4 b.size, Lib.hid (h5.out.trans (b.mono h5.out.size)), Lib.hid (kpC b (by omega) h6.out), Lib.hid fun o => (b.frozen (p := ⟨w.heap.size, o, none⟩) (by simp; omega)).trans (h7.out o), Lib.hid (kpC b h4 h8.out), Lib.hid fun o => (b.frozen (p := ⟨w.heap.size + 1, o, none⟩) h4).trans (h9.out o)⟩
theorem listedL_step {r : List UInt8} {kind : Int} {ts : List (List UInt8)} {k : Nat} {t : List UInt8} (h : ts[k]? = some t) (g : GotL) : listedL r kind (ts.drop k) g = listedL r kind (ts.drop (k + 1)) (if r.take t.length = t ∧ g.text.length < t.length then ⟨kind, t, t.length, 0⟩ else g) := by
  obtain ⟨hl, e⟩ := List.getElem?_eq_some_iff.1 h
  rw [List.drop_eq_getElem_cons hl, e]; rfl
set_option maxRecDepth 100000 in
set_option maxHeartbeats 4000000 in
theorem rf8Listed_any (s : ByteArray) (p base : Nat) (ts : List (List UInt8)) (kind : Int) (w : World) (hp : p ≤ s.size) (hs : s.size ≤ 65535) (hb : base < w.heap.size) (hT : TextsAt base ts w) (hn : ts.length ≤ 1000) (hl : ∀ t ∈ ts, t.length ≤ 1000) :
    Calls Tryz.prog 20 #[.string s, .int .i64 p, .slice (some ⟨base, 0, none⟩) ts.length ts.length, .int .i64 kind] w (GotPost p (listedL (s.data.toList.drop p) kind ts (noneL 21)) w) := by
  have HLEN : Hid (s.data.toList.length = s.size) := Lib.hid (Lib.size_eq s).symm
  have HT := Lib.hid hT
  obtain ⟨r, hr⟩ : ∃ r, r = s.data.toList.drop p := ⟨_, rfl⟩
  have HR := Lib.hid hr
  rw [← hr]
  have HL := Lib.hid hl
  clear hT hr hl
  go_enter Tryz.func20, Tryz.ntmps20
  go_wp2
  go_loopw [10] (fun i wr => LsRel p r kind ts w i wr) (fun i _ => ts.length - (intOf i).toNat)
  case atStart =>
    refine ⟨0, noneL 21, rfl, Nat.zero_le _, Lib.hid rfl, by simp, Lib.hid (ext_alloc (ext_alloc (Below.refl _ _) _) _), Lib.hid fun o => ?_, Lib.hid fun o => ?_, Lib.hid fun o => ?_, Lib.hid fun o => ?_⟩
    · exact kpA _ (by simp) (nwA (A := #[.int .i64 0, .string ⟨#[]⟩, .int .i64 0, .int .i64 0, .int .i64 0]) (T := 38) w) o
    · exact (World.frozen?_alloc_past _ _ _ (by simp)).trans (World.frozen?_alloc_at _ _ _ _ rfl)
    · have := nwA (A := #[.int .i64 0, .string ⟨#[]⟩, .int .i64 0, .int .i64 0, .int .i64 21]) (T := 38) (w.alloc (.cells #[.int .i64 0, .string ⟨#[]⟩, .int .i64 0, .int .i64 0, .int .i64 0] 38)) o
      rw [show (w.alloc (.cells #[.int .i64 0, .string ⟨#[]⟩, .int .i64 0, .int .i64 0, .int .i64 0] 38)).heap.size = w.heap.size + 1 by simp] at this
      exact this
    · exact World.frozen?_alloc_at _ _ _ _ (by simp)
  case round =>
    obtain ⟨k, g, rfl, hk, HG, hz, HB, HC, HF, HC1, HF1⟩ := hrel
    by_cases hlt : k < ts.length
    · obtain ⟨t, ht⟩ : ∃ t, ts[k]? = some t := ⟨_, List.getElem?_eq_getElem hlt⟩
      have kt : wr.cell? ⟨base, k, none⟩ = some (.string (strB t)) := (HB.out.cell (p := ⟨base, k, none⟩) hb).trans (HT.out k t ht)
      have kg : wr.cell? ⟨w.heap.size + 1, 1, none⟩ = some (.string (strB g.text)) := HC1.out 1
      have cg : ∀ o, o < 5 → ∃ v, wr.cell? ⟨w.heap.size + 1, o, none⟩ = some v := fun o ho => ⟨_, (HC1.out o).trans (Array.getElem?_eq_getElem (by show o < 5; exact ho))⟩
      have fg := HF1.out
      have htl : t.length ≤ 1000 := HL.out t (List.mem_of_getElem? ht)
      have hst := listedL_step (r := r) (kind := kind) ht g
      obtain ⟨tx, htx⟩ : ∃ tx, strB t = tx := ⟨_, rfl⟩
      obtain ⟨gx, hgx⟩ : ∃ gx, strB g.text = gx := ⟨_, rfl⟩
      have htz : t.length = tx.size := by rw [← htx, strB_size]
      have hgz : g.text.length = gx.size := by rw [← hgx, strB_size]
      rw [htx] at kt
      rw [hgx] at kg
      have hsm : tx.size ≤ 1000 := by omega
      have HTX := Lib.hid htx
      have HST := Lib.hid hst
      have HTZ := Lib.hid htz
      have hrl : r.length = s.size - p := by rw [HR.out, List.length_drop, HLEN.out]
      have hno : ¬ (p + tx.size ≤ s.size ∧ r.take t.length = t ∧ gx.size < tx.size) → Hid (listedL r kind (ts.drop (k + 1)) g = listedL r kind ts (noneL 21)) := fun h => Lib.hid (by
        rw [← HG.out, hst, if_neg]
        rintro ⟨h1, h2⟩
        have h3 := congrArg List.length h1
        rw [List.length_take, hrl] at h3
        exact h ⟨by omega, h1, by omega⟩)
      have hyes : r.take t.length = t → gx.size < tx.size → Hid (listedL r kind (ts.drop (k + 1)) ⟨kind, t, t.length, 0⟩ = listedL r kind ts (noneL 21)) := fun h1 h2 => Lib.hid (by
        rw [← HG.out, hst, if_pos ⟨h1, by omega⟩])
      have hcut : ∀ h : p + tx.size ≤ s.size, ((s.extract p (p + tx.size)).toList == tx.toList) = decide (r.take t.length = t) := fun h => by
        rw [Lib.toList_data, ext_list, show p + tx.size - p = t.length by omega, ← HR.out, ← htx, strB_is]; exact beq_dec _ _
      clear hst htx hgx htz hgz hrl ht
      have hno2 : ¬ (p + tx.size ≤ s.size ∧ r.take t.length = t ∧ gx.size < tx.size) → LsRel p r kind ts w (.int .i64 ((k + 1 : Nat) : Int)) wr := fun h => ⟨k + 1, g, rfl, by omega, hno h, hz, HB, HC, HF, HC1, HF1⟩
      have HNO := Lib.hid hno2
      have HYES := Lib.hid hyes
      clear hno hyes hno2
      have hw1 : IntKind.i64.wrap ((p : Int) + (tx.size : Int)) = (p : Int) + (tx.size : Int) := IntWalk.i64_in _ (by omega)
      have h01 : 0 ≤ (p : Int) + (tx.size : Int) := by omega
      have hn1 : ((p : Int) + (tx.size : Int)).toNat = p + tx.size := by omega
      by_cases c1 : p + tx.size ≤ s.size
      · have hc := hcut c1
        have d1 : decide ((p : Int) + (tx.size : Int) ≤ (s.size : Int)) = true := by simp; omega
        by_cases c2 : r.take t.length = t
        · rw [decide_eq_true c2] at hc
          by_cases c3 : gx.size < tx.size
          · have HY := HYES.out c2 c3
            have d2 : decide ((gx.size : Int) < (tx.size : Int)) = true := by simp; omega
            clear hcut c2
            go_upto_region 6 with (fail)
            go_quiet (fail)
            generalize hD : World.drewN wr _ = wd
            have hb0 : Below wr.heap.size wr wd := by rw [← hD]; exact below_draws8 wr _
            have zd : w.heap.size + 1 < wd.heap.size := Nat.lt_of_lt_of_le hz hb0.size
            have HBd := Lib.hid (HB.out.trans (hb0.mono HB.out.size))
            have HCd := Lib.hid (kpC hb0 (by omega) HC.out)
            have HFd : Hid (∀ o, wd.frozen? ⟨w.heap.size, o, none⟩ = false) := Lib.hid fun o => (hb0.frozen (p := ⟨w.heap.size, o, none⟩) (by simp; omega)).trans (HF.out o)
            have HC1d := Lib.hid (kpC hb0 hz HC1.out)
            have ktd : wd.cell? ⟨base, k, none⟩ = some (.string tx) := (hb0.cell (p := ⟨base, k, none⟩) (by simp; omega)).trans kt
            have cgd : ∀ o, wd.cell? ⟨w.heap.size + 1, o, none⟩ = (gotA p g)[o]? := HC1d.out
            have fgd : ∀ o, wd.frozen? ⟨w.heap.size + 1, o, none⟩ = false := fun o => (hb0.frozen (p := ⟨w.heap.size + 1, o, none⟩) hz).trans (HF1.out o)
            have HF1d := Lib.hid fgd
            unfold gotA at cgd
            clear hD hb0 kt kg cg fg HB HC HF HC1 HF1
            go_wp2_with fail
            go_roundw
            case rel =>
              refine ⟨k + 1, ⟨kind, t, t.length, 0⟩, by go_num, by omega, HY, by rw [size5]; exact zd, Lib.hid (bel5 HBd.out (Nat.le_succ _) _ _ _ _ _), Lib.hid fun o => (oth5 (by omega) _ _ _ _ _ o).trans (HCd.out o), Lib.hid fun o => (fr5 _ _ _ _ _ _).trans (HFd.out o), Lib.hid fun o => ?_, Lib.hid fun o => (fr5 _ _ _ _ _ _).trans (HF1d.out o)⟩
              have e : gotA p ⟨kind, t, t.length, 0⟩ = #[.int .i64 kind, .string tx, .int .i64 0, .int .i64 ((p : Int) + (tx.size : Int)), .int .i64 0] := by
                rw [gotA, HTX.out]
                simp only [if_true]
                rw [HTZ.out, Int.natCast_add]
              rw [e]
              exact set5 (by rfl) HC1d.out _ _ _ _ _ o
            case measure => simp [intOf]; omega
          · have HN := Lib.hid (HNO.out (fun h => c3 h.2.2))
            have d2 : decide ((gx.size : Int) < (tx.size : Int)) = false := by simp; omega
            clear hcut c2
            go_upto_region 6 with (fail)
            go_quiet (fail)
            generalize hD : World.drewN wr _ = wd
            have hb0 : Below wr.heap.size wr wd := by rw [← hD]; exact below_draws8 wr _
            have HW := Lib.hid (HN.out.kept hb0)
            clear hD hb0
            go_wp2_with fail
            go_roundw
            case rel => exact HW.out
            case measure => simp [intOf]; omega
        · rw [decide_eq_false c2] at hc
          have HN := Lib.hid (HNO.out (fun h => c2 h.2.1))
          clear hcut c2
          go_upto_region 6 with (fail)
          go_quiet (fail)
          generalize hD : World.drewN wr _ = wd
          have hb0 : Below wr.heap.size wr wd := by rw [← hD]; exact below_draws8 wr _
          have HW := Lib.hid (HN.out.kept hb0)
          clear hD hb0
          go_wp2_with fail
          go_roundw
          case rel => exact HW.out
          case measure => simp [intOf]; omega
      · have HN := Lib.hid (HNO.out (fun h => c1 h.1))
        have d1 : decide ((p : Int) + (tx.size : Int) ≤ (s.size : Int)) = false := by simp; omega
        clear hcut
        go_upto_region 6 with (fail)
        go_quiet (fail)
        generalize hD : World.drewN wr _ = wd
        have hb0 : Below wr.heap.size wr wd := by rw [← hD]; exact below_draws8 wr _
        have HW := Lib.hid (HN.out.kept hb0)
        clear hD hb0
        go_wp2_with fail
        go_roundw
        case rel => exact HW.out
        case measure => simp [intOf]; omega
    · have hkk : k = ts.length := by omega
      have hg := HG.out
      rw [List.drop_of_length_le (by omega)] at hg
      obtain ⟨nx, hnx⟩ : ∃ nx : Int, (if g.err = 0 then ((p + g.n : Nat) : Int) else 0) = nx := ⟨_, rfl⟩
      have hga : gotA p g = #[.int .i64 g.kind, .string (strB g.text), .int .i64 0, .int .i64 nx, .int .i64 g.err] := by rw [← hnx]; rfl
      have HV : Hid (GotV p (listedL r kind ts (noneL 21)) = .agg #[.int .i64 g.kind, .string (strB g.text), .int .i64 0, .int .i64 nx, .int .i64 g.err]) := Lib.hid (by rw [← hg, ← hga]; rfl)
      clear hg hkk
      have k0 := HC.out
      have k1 := HC1.out
      have f0 := HF.out
      rw [hga] at k1
      clear hga hnx
      go_wp2_with fail
      exact bodyPost_ret (v := .agg #[.int .i64 g.kind, .string (strB g.text), .int .i64 0, .int .i64 nx, .int .i64 g.err]) (by simp [results, Tryz.results20, go_sem, k0]) rfl ⟨by rw [HV.out], (by repeat (first | (with_reducible exact HB.out) | (with_reducible refine Below.setCell ?_ (by exact Nat.le_refl _) _)))⟩
end Go.Proofs.YtikahfnlflhbfaaGreatDoor
