/- LexBlanks: the walk. -/
import Derived.Test.YtikahfnlflhbfaaDoorLxBw
import Derived.Test.YtikahfnlflhbfaaDoorLxO
import Derived.IntWalk
import Derived.Deep.CutRange
namespace Go.Proofs.YtikahfnlflhbfaaDoor
open Go.RowKit Go.Lib

def HowAt (w : World) (a : Option Addr) (n : Nat) : Prop := n ≤ 9223372036854775807 ∧ ∀ j, j < n → ∃ b off, ∃ c : UInt8, a = some ⟨b, off, none⟩ ∧ b < w.heap.size ∧ w.cell? ⟨b, off + j, none⟩ = some (.int .u8 (c.toNat : Int))
theorem spell_len {k : Int} {t u v : List UInt8} (h : WordOK k t u v) : (spellL k t).length ≤ u.length ∧ 1 ≤ (spellL k t).length ∧ t.length ≤ u.length := by
  have h1 : 1 ≤ u.length := by
    obtain ⟨c, x, e, -⟩ := word_first h
    rw [e]; simp
  have cap : ∀ x : List UInt8, (capL8 x).length = x.length := fun x => List.length_map _
  have esc : ∀ l : List UInt8, l.length ≤ (escL l).length := by
    intro l
    induction l with
    | nil => simp
    | cons c r ih => by_cases h : c = 34 <;> simp [escL, h] <;> omega
  rcases h with ⟨rfl, h0, ha, hv, rfl, hm⟩ | ⟨rfl, rfl, hv⟩ | ⟨rfl, ha, hd, h0, hv, rfl, -⟩ | ⟨rfl, hn, hv, rfl⟩ | ⟨rfl, hc, hv, hi, rfl⟩ | ⟨rfl, hu, rfl⟩ | ⟨rfl, hu, rfl, -⟩
  · obtain ⟨s1, s2, s3, s4, s5⟩ := strip_facts u h0 ha
    have e : spellL 1 (stripZ u) = stripZ u := rfl
    rw [e]
    exact ⟨s5, List.length_pos_iff.2 s1, s5⟩
  · have := esc t
    have e : spellL 2 t = 34 :: (escL t ++ [34]) := rfl
    rw [e]
    simp only [List.length_cons, List.length_append, List.length_nil]
    omega
  · have e : spellL 3 t = t := rfl
    rw [e]; omega
  · have e : spellL 4 (capL8 u) = capL8 u := rfl
    rw [e, cap]; omega
  · have e : spellL 5 (capL8 u) = capL8 u := rfl
    rw [e, cap]; omega
  · have e : spellL 6 t = t := rfl
    rw [e]; omega
  · have e : spellL 7 t = t := rfl
    rw [e]; omega
theorem chain_len {l : List UInt8} {e : Nat} {w : WordL} {ws : List WordL} (h : Chain l e (w :: ws)) : (spellL w.kind w.text).length ≤ l.length ∧ 1 ≤ (spellL w.kind w.text).length ∧ w.text.length ≤ l.length ∧ 1 ≤ w.kind := by
  obtain ⟨a, n, h1, h2, h3, hw, h5, h6, h7⟩ := h
  obtain ⟨hW, hn⟩ := one_inv hw
  obtain ⟨a1, a2, a3⟩ := spell_len hW
  have hf := (word_facts hw).1
  rw [take_len hn] at a1 a3
  exact ⟨by omega, a2, by omega, hf⟩
theorem cutL_len {l : List UInt8} {ws : List WordL} {nx : Int} (h : cutL l = ⟨ws, nx, 0⟩) : l.length ≤ 65535 := by
  unfold cutL at h
  split at h
  · simp only [CutA.mk.injEq] at h; omega
  · omega
theorem spelled_any (x : WordL) (w : World) (hs : x.text.length ≤ 100000) : Calls Tryd.prog 7 #[.agg #[.int .i64 x.kind, .string (strB x.text), .int .i64 x.at_]] w (SpPost (spellL x.kind x.text) w) := by
  have e : (strB x.text).data.toList = x.text := rfl
  by_cases h2 : x.kind = 2
  · have := spelled_quote x.at_ (strB x.text) w (by rw [strB_size]; exact hs)
    rw [e] at this
    unfold spellL
    rw [if_pos h2, h2]
    exact this
  · have := spelled_plain x.kind x.at_ (strB x.text) w (by rw [bne_iff_ne]; exact h2)
    rw [e] at this
    unfold spellL
    rw [if_neg h2]
    exact this
def BRel (l : List UInt8) (w1 : World) (Bl : Nat) (a : Option Addr) (kc n : Nat) (bv iv : Value) (wr : World) : Prop :=
  ∃ (done rest : List WordL) (bb : List UInt8) (last : Int), iv = .int .i64 (done.length : Int) ∧ done.length + rest.length = n ∧ Hid (BlS w1 Bl a kc (done ++ rest) bb bv wr) ∧ Hid (StB bb done last) ∧ bb.length ≤ 60000 ∧
    Hid ((done = [] ∧ last = 0) ∨ (∃ d x, done = d ++ [x] ∧ x.kind = last ∧ 1 ≤ last)) ∧ Hid (∃ e, Chain l e rest) ∧ Hid (last = 4 → ∃ y r, rest = y :: r ∧ y.kind = 7 ∧ y.text = [40])
set_option maxRecDepth 1000000 in
set_option maxHeartbeats 16000000 in
theorem lexBlanks_any (s : ByteArray) (ha : Option Addr) (hl hc : Nat) (w : World) (L : LaidX w) (hmax : s.size ≤ 9223372036854775807) (HH : Hid (HowAt w ha hl)) : Calls Tryd.prog 3 #[.string s, .slice ha hl hc] w (TruePost w) := by
  have HL := Lib.hid L
  have hlen : s.data.toList.length = s.size := (Lib.size_eq s).symm
  have HLN := Lib.hid hlen
  obtain ⟨⟨ws, nx, er⟩, hA⟩ : ∃ A, cutL s.data.toList = A := ⟨_, rfl⟩
  have HA := Lib.hid hA
  have hhl := HH.out.1
  clear L hlen hA
  go_enter Tryd.func3, Tryd.ntmps3
  go_wp2_with (go_at_call 5; refine (begun8_any _ HL.out).mono ?_; rintro e w1 ⟨rfl, b1⟩)
  have HL1 := Lib.hid (HL.out.kept b1)
  have B1 := Lib.hid b1
  have C2 := Lib.hid (cut_const HA.out hmax w1 HL1.out)
  clear b1
  refine (C2.out).mono ?_
  rintro e w2 ⟨v2, rfl, b2, r2⟩
  obtain ⟨a2, kc2, rfl, A2, hnil⟩ := r2.at_
  have B2 := Lib.hid (B1.out.trans (b2.mono B1.out.size))
  have R2 := Lib.hid r2
  have BB2 := Lib.hid b2
  have HL2 := Lib.hid (HL1.out.kept b2)
  have hws := A2.1
  clear b2 r2 A2 C2
  by_cases he : er = 0
  · subst he
    have hch := (cutL_ok HA.out).2
    have hl65 := cutL_len HA.out
    rw [HLN.out] at hl65
    have HCH := Lib.hid hch
    have HNIL := Lib.hid hnil
    obtain ⟨Bl, hBl⟩ : ∃ Bl, Bl = w2.heap.size := ⟨_, rfl⟩
    have HBL := Lib.hid hBl
    clear hch hBl hnil
    go_wp2_with fail
    rw [← HBL.out]
    go_loopw [9, 10] (fun bv iv wr => BRel s.data.toList w1 Bl a2 kc2 ws.length bv iv wr) (fun _ iv _ => ws.length - (intOf iv).toNat)
    case atStart =>
      have hnew := heap_alloc_new w2 (.cells gapStrs 9)
      refine ⟨[], ws, [], 0, rfl, by simp, Lib.hid ⟨?_, R2.out.kept fun k hk => Below.heap_alloc _ _ _ (R2.out.lt k hk).2, fun k hk => by rw [HBL.out]; exact (R2.out.lt k hk).2, ?_, World.ownsRow_nil _ _ _ _, by rw [HBL.out]; exact BB2.out.size, by rw [HBL.out]; simp⟩, Lib.hid StB.start, by simp, Lib.hid (Or.inl ⟨rfl, rfl⟩), Lib.hid ⟨0, HCH.out⟩, Lib.hid (fun h => by cases h)⟩
      · exact BB2.out.alloc BB2.out.size _
      · rw [HBL.out]; exact blk_at8 hnew
    case round =>
      obtain ⟨done, rest, bb, last, rfl, hdl, HS, HST, hbb, HLS, HCR, H4⟩ := hrel
      by_cases hlt : done.length < ws.length
      · obtain ⟨x, r, hxr⟩ : ∃ x r, rest = x :: r := by
          cases rest with
          | nil => simp at hdl; omega
          | cons x r => exact ⟨x, r, rfl⟩
        subst hxr
        obtain ⟨g0, rfl, hg0⟩ : ∃ g, a2 = some ⟨g, 0, none⟩ ∧ w1.heap.size ≤ g := by
          rcases HNIL.out with h | h
          · rw [h] at hlt; simp at hlt
          · exact h
        obtain ⟨e0, hch⟩ := HCR.out
        obtain ⟨⟨u, v0, hW⟩, e1, hch1⟩ := chain_word hch
        obtain ⟨l1, l2, l3, l4⟩ := chain_len hch
        rw [HLN.out] at l1 l3
        have HW := Lib.hid hW; have HCH0 := Lib.hid hch; have HCH1 : Hid (∃ e, Chain s.data.toList e r) := Lib.hid ⟨e1, hch1⟩
        have hdl2 : done.length + r.length + 1 = ws.length := by simp at hdl; omega
        obtain ⟨gp, hgp⟩ : ∃ gp, gp = decide (last ≠ 0 ∧ last ≠ 4) := ⟨_, rfl⟩
        have HGP := Lib.hid hgp
        have HHr : Hid (HowAt wr ha hl) := Lib.hid (by
          have hb := B1.out.trans (HS.out.bel.mono B1.out.size)
          refine ⟨HH.out.1, fun j hj => ?_⟩
          obtain ⟨b, off, c, e, lt, hc⟩ := HH.out.2 j hj
          exact ⟨b, off, c, e, Nat.lt_of_lt_of_le lt hb.size, (hb.cell (p := ⟨b, off + j, none⟩) lt).trans hc⟩)
        obtain ⟨k, hk⟩ : ∃ k, done.length = k := ⟨_, rfl⟩
        rw [hk] at hlt hdl2
        rw [hk]
        have HK := Lib.hid hk
        clear hW hch hch1 hgp hdl hk
        go_upto_region 11 with (fail)
        go_cut [42] from 26 to 78 (fun v W => v = .bool gp ∧ W = wr)
        case first =>
          rcases HLS.out with ⟨rfl, hz⟩ | ⟨d, y, rfl, hy, hy1⟩
          · have hv : gp = false := by rw [HGP.out, hz]; simp
            have HV := Lib.hid hv
            have hk0 : k = 0 := HK.out.symm
            subst hk0
            clear hv hz
            go_wp2_with fail
            go_meet
            case rel => exact ⟨by rw [HV.out], rfl⟩
          · have hkd : d.length + 1 = k := by rw [← HK.out]; simp
            have hrow := HS.out.row.get (j := k - 1) (x := y) (by rw [show k - 1 = d.length by omega]; simp)
            obtain ⟨c0, -, -⟩ := hrow
            rw [hy] at c0
            have q1 : IntKind.i64.wrap ((k : Int) - 1) = (k : Int) - 1 := IntWalk.i64_in _ (by omega)
            have q2 : 0 ≤ (k : Int) - 1 := by omega
            have q3 : ((k : Int) - 1).toNat = k - 1 := by omega
            have q4 : k - 1 < ws.length := by omega
            have q5 : 0 < k := by omega
            have hv : gp = (last != 4) := by
              rw [HGP.out, Bool.eq_iff_iff]
              simp; omega
            have HV := Lib.hid hv
            have HY := Lib.hid hy
            clear hv hy
            obtain ⟨lb, hlb⟩ : ∃ lb, (last != 4) = lb := ⟨_, rfl⟩
            have HLB := Lib.hid hlb
            go_wp2_with fail
            go_meet
            case rel => exact ⟨by rw [HV.out, HLB.out], rfl⟩
        case rest =>
          obtain ⟨rfl, hwc⟩ := hcut
          obtain rfl := hwc.symm
          clear hwc
          go_upto_if 42 with (fail)
          go_cut [9] from 26 to 78 (fun v W => ∃ g : List UInt8, Hid (BlS w1 Bl (some ⟨g0, 0, none⟩) kc2 (done ++ x :: r) (bb ++ g) v W) ∧ Hid (gp = true → g ∈ gapTab) ∧ Hid (gp = false → g = []) ∧ g.length ≤ 4)
          case first =>
            cases gp
            · go_wp2_with fail
              go_meet
              case rel => exact ⟨[], by rw [List.append_nil]; exact HS, Lib.hid (fun h => by cases h), Lib.hid (fun _ => rfl), by simp⟩
            · go_upto_if 45 with (fail)
              go_cut [11] from 26 to 78 (fun v W => ∃ kk : Nat, v = .int .i64 (kk : Int) ∧ kk ≤ 255 ∧ W = wr)
              case first =>
                by_cases hh0 : 0 < hl
                · have hmod : k % hl < hl := Nat.mod_lt _ hh0
                  obtain ⟨b', off', c', rfl, hb', hc'⟩ := HHr.out.2 (k % hl) hmod
                  have m1 : Int.tmod (k : Int) (hl : Int) = ((k % hl : Nat) : Int) := by rw [Int.ofNat_tmod]
                  have m2 : ¬ hl = 0 := by omega
                  have hcl := c'.toNat_lt
                  go_wp2_with fail
                  go_meet
                  case rel => exact ⟨c'.toNat, rfl, by omega, rfl⟩
                · go_wp2_with fail
                  go_meet
                  case rel => exact ⟨0, rfl, by omega, rfl⟩
              case rest =>
                obtain ⟨kk, rfl, hkk, hwc⟩ := hcut
                obtain rfl := hwc.symm
                clear hwc
                obtain ⟨gs, hgs, hgm, hgl⟩ := gap_at (j := kk % 8) (Nat.mod_lt _ (by decide))
                have m1 : Int.tmod (kk : Int) 8 = ((kk % 8 : Nat) : Int) := by rw [show (8 : Int) = ((8 : Nat) : Int) from rfl, Int.ofNat_tmod]
                have m3 : kk % 8 < 8 := Nat.mod_lt _ (by decide)
                have cg := (HS.out.blk (kk % 8)).trans hgs
                have hsz := HS.out.sz
                obtain ⟨i0, hi, hz0, hz1, hz2⟩ := info_parts u8_info8
                have HGM := Lib.hid hgm
                clear hgs hgm
                go_wp2_with (at_builtin; refine wpList_append_own_string _ rfl _ _ 22 9 rfl (Bl + 1) 5 i0 Tryd.underlying22 Tryd.underlying9 hi hz0 hz1 hz2 _ bb.length (bytes8 bb) rfl HS.out.own gs rfl (by unfold maxLen; omega) (by omega) hsz ?_; intro v' w5 hown' hgrow _)
                have HO := Lib.hid hown'; have HGR := Lib.hid hgrow
                clear hown' hgrow
                go_meet
                case rel => exact ⟨gs.data.toList, Lib.hid (HS.out.grow HGR.out (by rw [bytes8_app, List.length_append, ← Lib.size_eq]; exact HO.out)), Lib.hid (fun _ => HGM.out), Lib.hid (fun h => by cases h), by rw [← Lib.size_eq]; exact hgl⟩
          case rest =>
            obtain ⟨g, HSG, HG1, HG2, hg4⟩ := hcut
            obtain ⟨ab, cb, rfl⟩ : ∃ ab cb, u9 = .slice ab (bb ++ g).length cb := by
              rcases HSG.out.own.2 with ⟨e, h0⟩ | ⟨gg, cap, cur, e, -⟩
              · exact ⟨none, 0, by rw [e, h0]⟩
              · exact ⟨_, _, e⟩
            have hkx : (done ++ x :: r)[k]? = some x := by rw [← HK.out]; simp
            obtain ⟨c0, c1, c2⟩ := HSG.out.row.get hkx
            have hfz : wc.frozen? ⟨g0, k * 3 + 2, none⟩ = false := by
              rcases HSG.out.row.2 with ⟨e, _⟩ | ⟨gg, cap, cur, e, _, hgg, _⟩
              · simp at e
              · simp only [Value.slice.injEq, Option.some.injEq, Addr.mk.injEq, and_true] at e
                obtain ⟨rfl, -⟩ := e
                simp [World.frozen?, hgg]
            have hg0c : g0 < wc.heap.size := by have := HSG.out.rlt g0 rfl; have := HSG.out.sz; omega
            obtain ⟨ln, hln⟩ : ∃ ln, (bb ++ g).length = ln := ⟨_, rfl⟩
            have hlnb : ln ≤ 60004 := by rw [← hln, List.length_append]; omega
            rw [hln]
            have HLN2 := Lib.hid hln
            have HKX := Lib.hid hkx
            clear hln hkx
            go_upto_region 17 with (fail)
            obtain ⟨w6, hw6⟩ : ∃ w6, w6 = wc.setCell ⟨g0, k * 3 + 2, none⟩ (.int .i64 (ln : Int)) := ⟨_, rfl⟩
            rw [← hw6]
            have HS6 : Hid (BlS w1 Bl (some ⟨g0, 0, none⟩) kc2 (done ++ ⟨x.kind, x.text, (ln : Int)⟩ :: r) (bb ++ g) (.slice ab ln cb) w6) := Lib.hid (by
              rw [hw6, ← HK.out]
              have h := HSG.out
              rw [HLN2.out] at h
              exact h.set)
            clear hw6 c0 c1 c2 hfz hg0c
            have hkx2 : (done ++ (⟨x.kind, x.text, (ln : Int)⟩ : WordL) :: r)[k]? = some ⟨x.kind, x.text, (ln : Int)⟩ := by rw [← HK.out]; simp
            obtain ⟨c0, c1, c2⟩ := HS6.out.row.get hkx2
            simp only at c0 c1 c2
            have CS : Hid (Calls Tryd.prog 7 #[.agg #[.int .i64 x.kind, .string (strB x.text), .int .i64 (ln : Int)]] w6 (SpPost (spellL x.kind x.text) w6)) := Lib.hid (spelled_any ⟨x.kind, x.text, (ln : Int)⟩ w6 (by show x.text.length ≤ _; omega))
            obtain ⟨sp, hsp⟩ : ∃ sp, spellL x.kind x.text = sp := ⟨_, rfl⟩
            rw [hsp] at CS l1 l2
            have HSP := Lib.hid hsp
            obtain ⟨i0, hi, hz0, hz1, hz2⟩ := info_parts u8_info8
            clear hkx2 hsp
            go_wp2_with fail
            refine (CS.out).mono ?_
            rintro e w7 ⟨ad, cap, rfl, b7, hc7⟩
            have HS7 := Lib.hid (HS6.out.below b7)
            have hsz7 := HS7.out.sz
            have HC7 := Lib.hid hc7
            have hown7 : w7.ownsRow (Bl + 1) 5 1 (.slice ab ln cb) ln (bytes8 (bb ++ g)) := by
              have := HS7.out.own
              rwa [HLN2.out] at this
            have HO7 := Lib.hid hown7
            clear b7 hc7 hown7 c0 c1 c2
            go_wp2_with (at_builtin; refine wpList_append_own _ rfl _ _ 22 rfl (Bl + 1) 5 i0 (.int .u8 0) 1 1 Tryd.underlying22 hi hz0 hz1 hz2 rfl (by decide) _ _ _ rfl HO7.out ad sp.length cap (bytes8 sp) rfl (by simp [bytes8]) HC7.out (fun u hu => by unfold bytes8 at hu; obtain ⟨q, _, rfl⟩ := List.mem_map.1 hu; rfl) (by unfold maxLen; omega) (by omega) hsz7 ?_)
            intro v8 w8 hown8 hgrow8 _
            obtain ⟨g8, cap8, rfl, -, -⟩ := World.ownsRow.form hown8 (by omega)
            have HS8 : Hid (BlS w1 Bl (some ⟨g0, 0, none⟩) kc2 ((done ++ [⟨x.kind, x.text, (ln : Int)⟩]) ++ r) (bb ++ g ++ sp) (.slice (some ⟨g8, 0, none⟩) (ln + sp.length) cap8) w8) := Lib.hid (by
              rw [List.append_assoc, List.singleton_append]
              refine HS7.out.grow hgrow8 ?_
              rw [bytes8_app, List.length_append, HLN2.out]
              exact hown8)
            clear hown8 hgrow8
            have HBW := Lib.hid (B1.out.trans (HS8.out.bel.mono B1.out.size))
            by_cases hbig : 60000 < ln + sp.length
            · have hb2 : (60000 : Int) < (ln : Int) + (sp.length : Int) := by omega
              have hb3 : decide ((60000 : Int) < (ln : Int) + (sp.length : Int)) = true := by simpa using hb2
              go_wp2
              go_ret
              exact ⟨rfl, HBW.out⟩
            · have hb2 : ¬ (60000 : Int) < (ln : Int) + (sp.length : Int) := by omega
              have hb3 : decide ((60000 : Int) < (ln : Int) + (sp.length : Int)) = false := by simpa using hb2
              go_wp2
              go_roundw
              case rel =>
                refine ⟨done ++ [⟨x.kind, x.text, (ln : Int)⟩], r, bb ++ g ++ sp, x.kind, ?_, ?_, HS8, Lib.hid ?_, ?_, Lib.hid (Or.inr ⟨done, _, rfl, rfl, l4⟩), HCH1, Lib.hid (chain_four HCH0.out)⟩
                · rw [List.length_append, HK.out]; simp
                · rw [List.length_append, HK.out]; simp; omega
                · have h := HST.out.step (g := g) HW.out ?_ ?_
                  · rw [HSP.out, HLN2.out] at h
                    exact h
                  · cases hgp : gp
                    · refine Or.inr ⟨HG2.out hgp, ?_⟩
                      have := HGP.out
                      rw [hgp] at this
                      have h5 : last = 0 ∨ last = 4 := by
                        have := of_decide_eq_false this.symm
                        omega
                      rcases h5 with h5 | h5
                      · exact Or.inl h5
                      · obtain ⟨y, r', hy, hy1, hy2⟩ := H4.out h5
                        injection hy with hy3 hy4
                        refine Or.inr ⟨h5, ?_⟩
                        rw [hy3, hy1, hy2]; rfl
                    · exact Or.inl (HG1.out hgp)
                  · intro hg h5
                    cases hgp : gp
                    · rw [HG2.out hgp] at hg
                      exact absurd hg (by decide)
                    · have := HGP.out
                      rw [hgp] at this
                      have := of_decide_eq_true this.symm
                      exact this.2 h5
                · rw [List.length_append, HLN2.out]; omega
              case measure => simp [intOf]; omega
      · have hr : rest = [] := List.length_eq_zero_iff.1 (by omega)
        subst hr
        have h4 : last ≠ 4 := fun e => by obtain ⟨y, r, h, -⟩ := H4.out e; cases h
        have hcut := HST.out.done h4 (by omega)
        have hn : ws.length = done.length := by simpa using hdl.symm
        have hS := HS.out
        rw [List.append_nil] at hS
        have HLr : LaidX wr := HL1.out.kept hS.bel
        have CC := Lib.hid (cut_const (s := strB bb) (a := ⟨done, 0, 0⟩) hcut (by rw [strB_size]; omega) wr HLr)
        have hback : ∀ v3, wr.ownsRow (Bl + 1) 5 1 v3 bb.length (bytes8 bb) → (convert 22 9 v3).run Tryd.prog wr = .ok (.string (strB bb)) wr := fun v3 h => owns_string8 h
        have hb3 := hback _ hS.own
        have HS5 := Lib.hid hS
        have HN := Lib.hid hn
        have HC := Lib.hid hcut
        clear hback hS HLr h4 hcut hn
        go_wp2_with fail
        refine (CC.out).mono ?_
        rintro e w4 ⟨v4, rfl, b4, r4⟩
        obtain ⟨a4, kc4, rfl, A4, -⟩ := r4.at_
        have B4 := Lib.hid b4
        have CE : Hid (Calls Tryd.prog 8 #[.slice a4 done.length kc4, .slice a2 ws.length kc2] w4 fun e w' => e = .returned (.bool true) ∧ Below w4.heap.size w4 w') := Lib.hid (by
          obtain ⟨a5, kc5, e5, A5, -⟩ := HS5.out.row.at_
          simp only [Value.slice.injEq] at e5
          obtain ⟨rfl, -, rfl⟩ := e5
          rw [HN.out]
          refine (lawEq8_any done done w4 w4.heap.size wr.heap.size a4 a2 kc4 kc2 A4 (A5.kept B4.out (Nat.le_refl _)) (Nat.le_refl _) B4.out.size).mono ?_
          rintro e w' ⟨rfl, hb⟩
          exact ⟨ret_bool8 (by simp), hb⟩)
        clear A4 b4 r4 hb3
        go_wp2_with (go_at_call 8; (with_reducible refine (CE.out).mono ?_); rintro e w5 ⟨rfl, b5⟩)
        go_ret
        have hb := HS5.out.bel
        exact ⟨rfl, B1.out.trans (((hb.trans (B4.out.mono hb.size)).trans (b5.mono (Nat.le_trans hb.size B4.out.size))).mono B1.out.size)⟩
  · have he1 : (er != 0) = true := by rw [bne_iff_ne]; exact he
    have he2 : (er == 0) = false := by rw [beq_eq_false_iff_ne]; exact he
    clear hnil
    go_wp2
    go_ret
    exact ⟨rfl, B2.out⟩
end Go.Proofs.YtikahfnlflhbfaaDoor
