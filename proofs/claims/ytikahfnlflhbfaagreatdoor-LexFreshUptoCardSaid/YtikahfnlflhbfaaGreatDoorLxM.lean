/- A formula's words: a text is cut. -/
import Derived.Test.YtikahfnlflhbfaaGreatDoorLxK
import Derived.Test.YtikahfnlflhbfaaGreatDoorLxT
import Derived.Lib.OthersKept
namespace Go.Proofs.YtikahfnlflhbfaaGreatDoor
open Go.RowKit Go.Lib

theorem word_ascii {k : Int} {t u v : List UInt8} (h : WordOK k t u v) : (∀ c, u.head? = some c → c.toNat < 128) ∧ (∀ c, u.getLast? = some c → c.toNat < 128) := by
  have all : (∀ c ∈ u, c.toNat < 128) → (∀ c, u.head? = some c → c.toNat < 128) ∧ (∀ c, u.getLast? = some c → c.toNat < 128) := fun h => ⟨fun c hc => h c (List.mem_of_mem_head? hc), fun c hc => h c (List.mem_of_mem_getLast? hc)⟩
  have of_in : u.all inB = true → ∀ c ∈ u, c.toNat < 128 := fun ha c hc => (in_lt8 (List.all_eq_true.1 ha c hc)).2
  have of_tab : ∀ tab : List (List UInt8), (∀ y ∈ tab, ∀ c ∈ y, c.toNat < 128) → u ∈ tab → ∀ c ∈ u, c.toNat < 128 := fun tab ht hu => ht u hu
  rcases h with ⟨rfl, h0, ha, -⟩ | ⟨rfl, rfl, hv⟩ | ⟨rfl, ha, hd, h0, -⟩ | ⟨rfl, hn, hv, rfl⟩ | ⟨rfl, hc, hv, hi, rfl⟩ | ⟨rfl, hu, ht⟩ | ⟨rfl, hu, ht, -⟩
  · exact all (of_in (by rw [List.all_eq_true] at ha ⊢; exact fun c hc => inB_of (Or.inl (ha c hc))))
  · refine ⟨fun c hc => by simp at hc; subst hc; decide, fun c hc => ?_⟩
    rw [← List.cons_append, List.getLast?_append] at hc
    simp at hc; subst hc; decide
  · exact all (of_in ha)
  · exact all (of_in (nameB_all hn).2.1)
  · exact all (of_in (nameB_all (truth_name hc)).2.1)
  · exact all (of_tab errTab (by decide) hu)
  · exact all (of_tab opTab (by decide) hu)
theorem one_ascii {s : ByteArray} {p : Nat} (hp : p < s.size) {k : Int} {t : List UInt8} {n : Nat} (h : oneL (s.data.toList.drop p) = ⟨k, t, n, 0⟩) :
    (Utf8.decode s p).2 = 1 ∧ 1 ≤ n ∧ p + n ≤ s.size ∧ ∀ c, s.data.toList[p + n - 1]? = some c → c.toNat < 128 := by
  obtain ⟨hW, hn⟩ := one_inv h
  have hn1 := (oneL_n (r := s.data.toList.drop p) (by rw [h])).1
  rw [h] at hn1
  simp only at hn1
  rw [List.length_drop, ← Lib.size_eq] at hn
  obtain ⟨h1, h2⟩ := word_ascii hW
  have hb : s[p].toNat < 128 := h1 _ (by rw [List.head?_take, if_neg (by omega), drop_byte hp]; rfl)
  refine ⟨by rw [decode_ascii s p hp hb], hn1, by omega, fun c hc => h2 c ?_⟩
  rw [List.getLast?_eq_getElem?, take_len (by rw [List.length_drop, ← Lib.size_eq]; omega), List.getElem?_take, if_pos (by omega), List.getElem?_drop, show p + (n - 1) = p + n - 1 by omega]
  exact hc
theorem step_in {s : ByteArray} {p n : Nat} (h : p < n) (hn : n ≤ s.size) (ha : ∀ c, s.data.toList[n - 1]? = some c → c.toNat < 128) : p + (Utf8.decode s p).2 ≤ n := by
  by_cases hk : (Utf8.decode s p).2 ≤ n - p
  · omega
  · by_cases h1 : n - 1 = p
    · have hp : p < s.size := by omega
      have := ha s[p] (by rw [h1]; exact get8 hp)
      rw [decode_ascii s p hp this] at hk
      omega
    · obtain ⟨c, hc, h128⟩ := decode_tail s p (n - 1 - p) (by omega) (by omega)
      rw [show p + (n - 1 - p) = n - 1 by omega] at hc
      have := ha c hc
      omega
theorem blankI_of (x : Nat) : blankI (x : Int) = blankN x := by
  unfold blankI blankN
  have e : ∀ n : Nat, ((x : Int) == (n : Int)) = (x == n) := fun n => by rw [Bool.eq_iff_iff, beq_iff_eq, beq_iff_eq]; omega
  rw [← e 9, ← e 10, ← e 13, ← e 32, ← e 160, ← e 12288]
  rfl
theorem CutS.iterAt {C : Nat} {s : ByteArray} {ws : List WordL} {w : World} {pos' : Nat} (h : CutS C s ws w) : CutS C s ws (w.iterAt (C + 1) s pos') := by
  obtain ⟨⟨v, h1, h2⟩, h3⟩ := h
  refine ⟨⟨v, ?_, h2.kept fun k hk => ?_⟩, by rw [Lib.iterAt_size]; exact h3⟩
  · rw [Lib.iterAt_other _ _ _ _ _ (by omega)]; exact h1
  · exact Lib.iterAt_other _ _ _ _ _ (by have := (h2.lt k hk).1; omega)
def CutPost (w : World) (a : CutA) (e : Ending) (w' : World) : Prop :=
  ∃ v, e = .returned (.tuple #[v, .int .i64 a.to, .int .i64 a.err]) ∧ Below w.heap.size w w' ∧ WdRow w.heap.size w' a.words v
def CutRel (s : ByteArray) (C : Nat) (w : World) (nv : Value) (wr : World) : Prop :=
  ∃ (pos nx : Nat) (acc : List WordL), nv = .int .i64 nx ∧ wr.heap[C + 1]? = some (.stringIter s pos) ∧ Hid (CutS C s acc wr) ∧ Hid (Below C w wr) ∧ pos ≤ s.size ∧ nx ≤ s.size ∧ acc.length ≤ nx ∧
    Hid (pos < nx → ∀ c, s.data.toList[nx - 1]? = some c → c.toNat < 128) ∧ Hid (cutAt s.data.toList (max pos nx) acc = cutAt s.data.toList 0 [])
theorem WdRow.base {b0 b1 : Nat} {w : World} {l : List WordL} {v : Value} (h : WdRow b0 w l v) (hb : b1 ≤ b0) : WdRow b1 w l v := by
  refine ⟨h.1, ?_⟩
  rcases h.2 with e | ⟨g, cap, cur, hv, hbb, r⟩
  · exact .inl e
  · exact .inr ⟨g, cap, cur, hv, by omega, r⟩
set_option maxRecDepth 100000 in
set_option maxHeartbeats 4000000 in
theorem lexCut_any (s : ByteArray) (w : World) (L : LaidX w) (hmax : s.size ≤ 9223372036854775807) : Calls Tryz.prog 8 #[.string s] w (CutPost w (cutL s.data.toList)) := by
  have HL := Lib.hid L
  have hlen : s.data.toList.length = s.size := (Lib.size_eq s).symm
  have HLN := Lib.hid hlen
  obtain ⟨C, hC⟩ : ∃ C, C = w.heap.size := ⟨_, rfl⟩
  have HCC := Lib.hid hC
  by_cases h65 : 65535 < s.size
  · have hg : cutL s.data.toList = ⟨[], 0, 2⟩ := by unfold cutL; rw [if_pos (by rw [hlen]; exact h65)]
    have HG := Lib.hid hg
    clear hg hlen hC L
    rw [HG.out]
    go_enter Tryz.func8, Tryz.ntmps8
    go_wp2
    go_ret3
    exact ⟨_, rfl, Below.refl _ _, WdRow.nil _ _⟩
  · have hg : cutL s.data.toList = cutAt s.data.toList 0 [] := by unfold cutL; rw [if_neg (by rw [hlen]; exact h65)]
    obtain ⟨A, hA⟩ : ∃ A, cutAt s.data.toList 0 [] = A := ⟨_, rfl⟩
    rw [hg, hA]
    have HA := Lib.hid hA
    clear hg hlen L hA hC
    go_enter Tryz.func8, Tryz.ntmps8
    go_wp2_with fail
    rw [← HCC.out]
    go_loopw [6] (fun nv wr => CutRel s C w nv wr) (fun _ wr => s.size - wr.iterPos (C + 1))
    case atStart =>
      have hb : Below C w ((w.alloc (.cells #[.string s, .slice none 0 0] 42)).alloc (.stringIter s 0)) := by
        rw [HCC.out]; exact ext_alloc (ext_alloc (Below.refl _ _) _) _
      have h0 : ((w.alloc (.cells #[.string s, .slice none 0 0] 42)).alloc (.stringIter s 0)).heap[C]? = some (.cells #[.string s, .slice none 0 0] 42 (0, 0)) := by
        rw [HCC.out]; exact heap_alloc2_old _ _ _
      have h1 : ((w.alloc (.cells #[.string s, .slice none 0 0] 42)).alloc (.stringIter s 0)).heap[C + 1]? = some (.stringIter s 0) := by
        rw [HCC.out]
        have := heap_alloc_new (w.alloc (.cells #[.string s, .slice none 0 0] 42)) (.stringIter s 0)
        rwa [show (w.alloc (.cells #[.string s, .slice none 0 0] 42)).heap.size = w.heap.size + 1 by simp] at this
      have hz : C + 1 < ((w.alloc (.cells #[.string s, .slice none 0 0] 42)).alloc (.stringIter s 0)).heap.size := by
        rw [HCC.out]; simp
      exact ⟨0, 0, [], rfl, h1, Lib.hid ⟨⟨_, h0, WdRow.nil _ _⟩, hz⟩, Lib.hid hb, Nat.zero_le _, Nat.zero_le _, Nat.zero_le _, Lib.hid (fun h => absurd h (by omega)), Lib.hid rfl⟩
    case round =>
      obtain ⟨pos, nx, acc, rfl, hit, HS, HB, hp, hnx0, hac, HN, HCUT⟩ := hrel
      by_cases hlt : pos < s.size
      · have hnx : ∀ ty, (Instr.next (.pointer (some ⟨C + 1, 0, none⟩)) true ty).run Tryz.prog wr = .ok (.tuple #[.bool true, .int .i64 pos, .int .i32 (Utf8.decode s pos).1]) (wr.iterAt (C + 1) s (pos + (Utf8.decode s pos).2)) := fun ty => Lib.run_next_any_at wr (C + 1) s pos ty hit hlt
        have hw1 := decode_pos s pos
        have hw2 := decode_end s pos hlt
        obtain ⟨y, hy⟩ : ∃ y : Int, y = ((Utf8.decode s pos).1 : Int) := ⟨_, rfl⟩
        obtain ⟨pos2, hp2⟩ : ∃ pos2, pos2 = pos + (Utf8.decode s pos).2 := ⟨_, rfl⟩
        rw [← hy, ← hp2] at hnx
        obtain ⟨wr2, hwr2⟩ : ∃ wr2, wr2 = wr.iterAt (C + 1) s pos2 := ⟨_, rfl⟩
        have HS2 : Hid (CutS C s acc wr2) := Lib.hid (by rw [hwr2]; exact HS.out.iterAt)
        have HB2 : Hid (Below C w wr2) := Lib.hid (by rw [hwr2]; exact Lib.below_iterAt HB.out (by omega) s pos2)
        have HI2 : Hid (wr2.heap[C + 1]? = some (.stringIter s pos2)) := Lib.hid (by rw [hwr2]; exact Lib.iterAt_heap wr (C + 1) s pos pos2 hit)
        have HI1 : Hid (wr.iterPos (C + 1) = pos) := Lib.hid (by simp only [World.iterPos, hit])
        have HI3 : Hid (∀ W : World, W.heap[C + 1]? = some (.stringIter s pos2) → W.iterPos (C + 1) = pos2) := Lib.hid fun W h => by simp only [World.iterPos, h]
        rw [← hwr2] at hnx
        have hlt2 : pos < pos2 := by omega
        have hle2 : pos2 ≤ s.size := by omega
        have HY := Lib.hid hy; have HP2 := Lib.hid hp2
        clear hw1 hw2 hy hp2 hwr2 hit
        by_cases hin : pos < nx
        · have hn2 : pos2 ≤ nx := by rw [HP2.out]; exact step_in hin hnx0 (HN.out hin)
          have HCUT2 : Hid (cutAt s.data.toList (max pos2 nx) acc = cutAt s.data.toList 0 []) := Lib.hid (by rw [← HCUT.out]; congr 1; omega)
          have HN2 : Hid (pos2 < nx → ∀ c, s.data.toList[nx - 1]? = some c → c.toNat < 128) := Lib.hid fun _ => HN.out hin
          go_wp2
          go_roundw
          case rel => exact ⟨pos2, nx, acc, rfl, HI2.out, HS2, HB2, hle2, hnx0, hac, HN2, HCUT2⟩
          case measure => rw [HI3.out _ HI2.out, HI1.out]; omega
        · have hmx : max pos nx = pos := by omega
          have hc1 := HCUT.out
          rw [hmx] at hc1
          have HC1 := Lib.hid hc1
          have hbd := blank_decode s pos hlt
          obtain ⟨b, hb⟩ : ∃ b, blankN (Utf8.decode s pos).1 = b := ⟨_, rfl⟩
          rw [hb] at hbd
          have HBL : Hid (blankI y = b) := Lib.hid (by rw [HY.out, blankI_of, hb])
          have HBD := Lib.hid hbd
          clear hb hbd hc1 hmx
          cases b
          · have HB0 : Hid (blankL (s.data.toList.drop pos) = 0) := Lib.hid (HBD.out.2 rfl)
            have HL2 : Hid (LaidX wr2) := Lib.hid (HL.out.kept (HCC.out ▸ HB2.out))
            have CW : Hid (Calls Tryz.prog 14 #[.pointer (some ⟨C, 0, none⟩), .int .i64 pos, .int .i32 y] wr2 (WordPost C s acc wr2 pos (oneL (s.data.toList.drop pos)))) := Lib.hid (lxWord_any C s acc pos y wr2 HS2.out HL2.out hlt (by omega) (by omega) HY.out)
            go_wp2_with (go_at_call 13; refine (lxBlank_is _ _ HBL _).mono ?_; rintro e w' ⟨rfl, rfl⟩)
            refine (CW.out).mono ?_
            rintro e w3 hpost
            unfold WordPost at hpost
            have hplt : pos < s.data.toList.length := by rw [HLN.out]; exact hlt
            by_cases he : (oneL (s.data.toList.drop pos)).err = 0
            · rw [if_pos he] at hpost
              obtain ⟨rfl, h1, h2⟩ := hpost
              obtain ⟨o1, o2, o3, o4⟩ := one_ascii hlt (one_eta he)
              have hq := cutAt_word (acc := acc) hplt HB0.out he
              obtain ⟨g, hg⟩ : ∃ g, oneL (s.data.toList.drop pos) = g := ⟨_, rfl⟩
              rw [hg] at h1 hq o2 o3 o4
              obtain ⟨nx2, hnx2⟩ : ∃ nx2, nx2 = pos + g.n := ⟨_, rfl⟩
              rw [hg]
              rw [← hnx2] at hq o3 o4
              rw [← hnx2]
              have hp21 : pos2 ≤ nx2 := by rw [HP2.out, o1]; omega
              have HQ : Hid (cutAt s.data.toList (max pos2 nx2) (acc ++ [⟨g.kind, g.text, (pos : Int)⟩]) = cutAt s.data.toList 0 []) := Lib.hid (by
                rw [← HC1.out, hq]; congr 1; omega)
              have H1 := Lib.hid h1
              have HI4 : Hid (w3.heap[C + 1]? = some (.stringIter s pos2)) := Lib.hid (h2.it.trans HI2.out)
              have HB4 : Hid (Below C w w3) := Lib.hid (HB2.out.trans h2.bel)
              have HN4 : Hid (pos2 < nx2 → ∀ c, s.data.toList[nx2 - 1]? = some c → c.toNat < 128) := Lib.hid fun _ => o4
              have hlen4 : (acc ++ [(⟨g.kind, g.text, (pos : Int)⟩ : WordL)]).length ≤ nx2 := by rw [List.length_append]; simp; omega
              have HLL := Lib.hid hlen4
              clear hg hq h1 h2 he hplt o1 o2 o4 hlen4 hnx2
              go_wp2
              go_roundw
              case rel => exact ⟨pos2, nx2, _, rfl, HI4.out, H1, HB4, hle2, o3, HLL.out, HN4, HQ⟩
              case measure => rw [HI3.out _ HI4.out, HI1.out]; omega
            · rw [if_neg he] at hpost
              obtain ⟨rfl, h1, h2⟩ := hpost
              have hq := cutAt_err (acc := acc) hplt HB0.out he
              rw [HC1.out, HA.out] at hq
              obtain ⟨ee, hee⟩ : ∃ ee, (oneL (s.data.toList.drop pos)).err = ee := ⟨_, rfl⟩
              rw [hee] at hq he
              rw [hee]
              have h3 : (ee == 0) = false := by rw [beq_eq_false_iff_ne]; exact he
              have h4 : (ee != 0) = true := by rw [bne_iff_ne]; exact he
              have HQ := Lib.hid hq
              have HB4 : Hid (Below C w w3) := Lib.hid (HB2.out.trans h2.bel)
              clear hee hq h1 h2 hplt he
              go_wp2
              go_ret3
              rw [HQ.out]
              exact ⟨_, rfl, by rw [← HCC.out]; exact HB4.out, WdRow.nil _ _⟩
          · have hq := cutAt_blank (acc := acc) (l := s.data.toList) (p := pos) (by rw [HLN.out]; exact hlt) (by rw [HBD.out.1 rfl]; exact decode_pos s pos)
            rw [HBD.out.1 rfl, ← HP2.out] at hq
            have HQ : Hid (cutAt s.data.toList (max pos2 nx) acc = cutAt s.data.toList 0 []) := Lib.hid (by rw [← HC1.out, hq]; congr 1; omega)
            have HN2 : Hid (pos2 < nx → ∀ c, s.data.toList[nx - 1]? = some c → c.toNat < 128) := Lib.hid fun h => by omega
            clear hq
            go_wp2_with (go_at_call 13; refine (lxBlank_is _ _ HBL _).mono ?_; rintro e w' ⟨rfl, rfl⟩)
            go_roundw
            case rel => exact ⟨pos2, nx, acc, rfl, HI2.out, HS2, HB2, hle2, hnx0, hac, HN2, HQ⟩
            case measure => rw [HI3.out _ HI2.out, HI1.out]; omega
      · have hnx : ∀ ty, (Instr.next (.pointer (some ⟨C + 1, 0, none⟩)) true ty).run Tryz.prog wr = .ok (.tuple #[.bool false]) wr := fun ty => Lib.run_next_end_at wr (C + 1) s pos ty hit hlt
        have hq : A = ⟨acc, 0, 0⟩ := by rw [← HA.out, ← HCUT.out, cutAt_end (by rw [HLN.out]; omega)]
        have HQ := Lib.hid hq
        obtain ⟨⟨v, hv1, hv2⟩, hv3⟩ := HS.out
        have c1 := blk_at8 hv1 1
        have HV := Lib.hid hv2
        clear hq hv1 hv2 hit
        go_wp2
        go_ret3
        rw [HQ.out]
        exact ⟨v, rfl, by rw [← HCC.out]; exact HB.out, by rw [← HCC.out]; exact HV.out.base (by omega)⟩
end Go.Proofs.YtikahfnlflhbfaaGreatDoor
