/- The document's own answer for formulas' texts: its small functions, the texts' kinds 1 to 6. -/
import Derived.Test.YtnhgeojcelegbaaDoorPrG
import Derived.Test.YtnhgeojcelegbaaDoorSpZa
import Derived.Test.YtnhgeojcelegbaaDoorPrR
import Derived.Lib.AppendStr
import Derived.Maps.AppendAt
namespace Go.Proofs.YtnhgeojcelegbaaDoor
open Go.RowKit Go.Lib

theorem wpList_load_nd {ops : Array Oper} {Q : Exit → Act → World → Prop} {rest : List Oper} {a : Act} {o : Oper} {s : Operand} {w : World} {b off : Nat} {h : Hd} {ka : Option Addr} {kl kc : Nat} (hg : o.guard = none) (ho : o.op = Op.load 30 s) (ha : a.eval s = .pointer (some ⟨b, off, none⟩)) (nd : NodeAt w b off h (.slice ka kl kc)) (hw : wpList Tryd.prog ops Q rest (a.put o.dst (.agg #[.int .i64 h.kind, .int .i64 h.op, .int .i64 h.num, .string ⟨h.text.toArray⟩, .int .i64 h.ref.row, .int .i64 h.ref.col, .bool h.ref.pr, .bool h.ref.pc, .int .i64 h.to.row, .int .i64 h.to.col, .bool h.to.pr, .bool h.to.pc, .int .i64 h.fn, (.slice ka kl kc)])) w) : wpList Tryd.prog ops Q (o :: rest) a w :=
  wpList_load_mid hg _ s ho b off ha [.int .i64 h.kind, .int .i64 h.op, .int .i64 h.num, .string ⟨h.text.toArray⟩, .int .i64 h.ref.row, .int .i64 h.ref.col, .bool h.ref.pr, .bool h.ref.pc, .int .i64 h.to.row, .int .i64 h.to.col, .bool h.to.pr, .bool h.to.pc, .int .i64 h.fn, (.slice ka kl kc)] _ (fun j v hv => nd.2 j v hv) Tryd.underlying30 rfl infoExprP hw

end Go.Proofs.YtnhgeojcelegbaaDoor

namespace Go.Proofs.YtnhgeojcelegbaaDoor
open Go.RowKit Go.Lib

set_option maxRecDepth 100000 in
set_option maxHeartbeats 2000000 in
theorem rxOf_any (n : Int) (w : World) (h0 : 0 ≤ n) (h1 : n ≤ 9223372036854775807) : Calls Tryd.prog 102 #[.int .i64 n] w fun e w' => e = .returned (.agg #[.bool false, .bool false, .int .u64 n]) ∧ Below w.heap.size w w' := by
  go_enter Tryd.func102, Tryd.ntmps102
  go_wp2
  exact bodyPost_ret (v := .agg #[.bool false, .bool false, .int .u64 n]) (by simp [results, Tryd.results102, go_sem]) rfl ⟨rfl, ext_alloc (Below.refl _ _) _⟩
def DR (n m : Nat) (t : List UInt8) : Prop := (t = [] ∧ m = n) ∨ (t ≠ [] ∧ ((m = 0 ∧ decDigits n = t) ∨ (0 < m ∧ decDigits n = decDigits m ++ t)))
theorem dr_step {n m : Nat} {t : List UInt8} (h : DR n m t) (hm : 0 < m ∨ t = []) : DR n (m / 10) (digL (m % 10) ++ t) := by
  right
  refine ⟨by simp [digL], ?_⟩
  have e : decDigits n = decDigits m ++ t := by
    rcases h with ⟨rfl, rfl⟩ | ⟨h1, ⟨h2, h3⟩ | ⟨h2, h3⟩⟩
    · simp
    · rcases hm with hm | hm
      · omega
      · exact absurd hm h1
    · exact h3
  by_cases q : m < 10
  · left
    refine ⟨by omega, ?_⟩
    rw [e, decDigits, dif_pos q, Nat.mod_eq_of_lt q]; rfl
  · right
    refine ⟨by omega, ?_⟩
    rw [e]
    conv => lhs; rw [decDigits, dif_neg q]
    simp [digL]
theorem cut1 (b : UInt8) (w : World) : (convert 65 9 (.slice (some ⟨w.heap.size, 0, none⟩) 1 1)).run Tryd.prog (w.alloc (.cells #[.int .u8 b.toNat] 5)) = .ok (.string (strB [b])) (w.alloc (.cells #[.int .u8 b.toNat] 5)) :=
  run_convert_bytes_back (w.alloc (.cells #[.int .u8 b.toNat] 5)) 65 9 5 ⟨w.heap.size, 0, none⟩ 1 [b] Tryd.underlying65 Tryd.underlying5 Tryd.underlying9 fun j hj => by
    match j, hj with
    | 0, _ => simp [Addr.add]
theorem cutD (m : Nat) (w : World) : (convert 65 9 (.slice (some ⟨w.heap.size, 0, none⟩) 1 1)).run Tryd.prog (w.alloc (.cells #[.int .u8 (48 + (m : Int) % 10)] 5)) = .ok (.string (strB (digL (m % 10)))) (w.alloc (.cells #[.int .u8 (48 + (m : Int) % 10)] 5)) := by
  have e : (48 + (m : Int) % 10) = ((UInt8.ofNat (48 + m % 10)).toNat : Int) := by
    have : (UInt8.ofNat (48 + m % 10)).toNat = 48 + m % 10 := by simp [UInt8.toNat_ofNat']; omega
    rw [this]; omega
  rw [e]
  exact cut1 _ w
def strEmp (v : Value) : Nat := match v with
  | .string s => if s.size = 0 then 1 else 0
  | _ => 0
set_option maxRecDepth 100000 in
set_option maxHeartbeats 2000000 in
theorem rxText_any (n : Nat) (w : World) (h1 : n ≤ 9223372036854775807) : Calls Tryd.prog 76 #[.int .i64 n] w fun e w' => e = .returned (.string (strB (itoa n))) ∧ Below w.heap.size w w' := by
  have hI : itoa n = decDigits n := by unfold itoa; rw [if_neg (by omega), Int.toNat_natCast]
  rw [hI]
  clear hI
  go_enter Tryd.func76, Tryd.ntmps76
  go_wp2_with fail
  refine (rxOf_any n w (by omega) (by omega)).mono ?_
  rintro e w1 ⟨rfl, b1⟩
  have B1 := Lib.hid (ext_alloc b1 (.cells #[.bool false, .bool false, .int .u64 n] 129))
  have N1 := nwA (A := #[.bool false, .bool false, .int .u64 n]) (T := 129) w1
  clear b1
  have hq : w1.heap.size < (w1.alloc (.cells #[.bool false, .bool false, .int .u64 n] 129)).heap.size := by simp
  go_wp2_with fail
  generalize hw2 : w1.alloc (.cells #[.bool false, .bool false, .int .u64 n] 129) = w2 at *
  generalize w1.heap.size = q at *
  clear hw2
  have HN1 := Lib.hid N1
  clear N1
  go_loopw [4, 5] (fun v4 v5 wr => ∃ (t : List UInt8) (m : Nat), v4 = .string (strB t) ∧ v5 = .int .u64 m ∧ Hid (DR n m t) ∧ t.length ≤ 20 ∧ Hid (m < 10 ^ (20 - t.length)) ∧ m ≤ 9223372036854775807 ∧ Below w2.heap.size w2 wr) (fun v4 v5 _ => strEmp v4 + 2 * (intOf v5).toNat)
  case atStart => exact ⟨[], n, rfl, rfl, Lib.hid (.inl ⟨rfl, rfl⟩), by simp, Lib.hid (by simp; omega), h1, Below.refl _ _⟩
  case round =>
    obtain ⟨t, m, rfl, rfl, HD, ht, HM, hm, hb⟩ := hrel
    have HB := Lib.hid hb
    have hz0 : wr.cell? ⟨q, 0, none⟩ = some (.bool false) := by have h := kpC hb hq HN1.out 0; simpa using h
    clear hb
    have hts : (strB t).size ≤ 20 := by rw [strB_size]; exact ht
    by_cases hgo : 0 < m ∨ t = []
    · have hlen : t.length + 1 ≤ 20 := by
        by_cases q20 : t.length = 20
        · have := HM.out
          rw [q20] at this
          simp at this
          rcases hgo with h | h
          · omega
          · rw [h] at q20; simp at q20
        · omega
      have hM2 : m / 10 < 10 ^ (20 - (t.length + 1)) := by
        have := HM.out
        rw [show 20 - t.length = (20 - (t.length + 1)) + 1 by omega, Nat.pow_succ] at this
        rw [Nat.div_lt_iff_lt_mul (by omega)]; exact this
      have HM2 := Lib.hid hM2
      have HD2 := Lib.hid (dr_step HD.out hgo)
      have hcut := cutD m wr
      have q1 : (9223372036854775807 < (strB (digL (m % 10))).size + (strB t).size) = False := eq_false (by rw [strB_size (digL _)]; simp [digL]; omega)
      have HAPP := Lib.hid (strB_app (digL (m % 10)) t)
      have hl1 : (digL (m % 10) ++ t).length = t.length + 1 := by simp [digL]
      have HL1 := Lib.hid hl1
      have hz : (strB (digL (m % 10)) ++ strB t).size ≠ 0 := by rw [strB_app, strB_size, hl1]; omega
      have HZ := Lib.hid hz
      clear hM2 hl1 hz
      rcases hgo with hg | hg
      · have hmI : 0 < (m : Int) := by omega
        go_wp2
        go_roundw
        case rel => exact ⟨digL (m % 10) ++ t, m / 10, congrArg Value.string HAPP.out, by go_num, HD2, (by have := HL1.out; omega), Lib.hid (by rw [HL1.out]; exact HM2.out), by omega, HB.out.trans ((ext_alloc (Below.refl _ _) _).mono HB.out.size)⟩
        case measure => simp only [strEmp, intOf]; rw [if_neg HZ.out]; split <;> omega
      · subst hg
        by_cases hm0 : m = 0
        · subst hm0
          have hcut0 : (convert 65 9 (.slice (some ⟨wr.heap.size, 0, none⟩) 1 1)).run Tryd.prog (wr.alloc (.cells #[.int .u8 48] 5)) = .ok (.string (strB (digL 0))) (wr.alloc (.cells #[.int .u8 48] 5)) := by have h := cutD 0 wr; simpa using h
          have q0 : (9223372036854775807 < (strB (digL 0)).size + (strB []).size) = False := eq_false (by rw [strB_size, strB_size]; simp [digL])
          have he1 : (strB []).toList = [] := by rw [ByteArray.toList_eq]; rfl
          clear hcut q1
          go_wp2
          go_roundw
          case rel => exact ⟨digL 0 ++ [], 0, congrArg Value.string (strB_app _ _), rfl, HD2, (by simp [digL]), Lib.hid (by simp [digL]), by omega, HB.out.trans ((ext_alloc (Below.refl _ _) _).mono HB.out.size)⟩
          case measure => simp [strEmp, intOf, strB, digL, ByteArray.size]
        · have hmI : 0 < (m : Int) := by omega
          go_wp2
          go_roundw
          case rel => exact ⟨digL (m % 10) ++ [], m / 10, congrArg Value.string HAPP.out, by go_num, HD2, (by have := HL1.out; omega), Lib.hid (by rw [HL1.out]; exact HM2.out), by omega, HB.out.trans ((ext_alloc (Below.refl _ _) _).mono HB.out.size)⟩
          case measure => simp only [strEmp, intOf]; rw [if_neg HZ.out]; split <;> omega
    · simp only [not_or] at hgo
      obtain ⟨hm0, ht0⟩ := hgo
      obtain rfl : m = 0 := by omega
      have hne : (strB t).toList ≠ [] := by rw [ByteArray.toList_eq]; exact ht0
      have hne2 : (strB t).toList.isEmpty = false := by cases h : (strB t).toList with | nil => exact absurd h hne | cons _ _ => rfl
      have HE := Lib.hid (show decDigits n = t by
        rcases HD.out with ⟨h, -⟩ | ⟨-, ⟨-, h⟩ | ⟨h, -⟩⟩
        · exact absurd h ht0
        · exact h
        · omega)
      clear hm0 ht0 hm
      go_wp2
      go_ret
      exact ⟨by rw [HE.out]; rfl, B1.out.trans (HB.out.mono B1.out.size)⟩
set_option maxRecDepth 100000 in
set_option maxHeartbeats 2000000 in
theorem rxError_any (n : Int) (w : World) (h0 : 1 ≤ n) (h1 : n ≤ 6) : Calls Tryd.prog 77 #[.int .i64 n] w fun e w' => e = .returned (.string (strB (errL n))) ∧ Below w.heap.size w w' := by
  rcases (show n = 1 ∨ n = 2 ∨ n = 3 ∨ n = 4 ∨ n = 5 ∨ n = 6 by omega) with rfl | rfl | rfl | rfl | rfl | rfl
  all_goals
    go_enter Tryd.func77, Tryd.ntmps77
    go_wp2
    go_ret
    exact ⟨rfl, ext_alloc (Below.refl _ _) _⟩
set_option maxRecDepth 100000 in
set_option maxHeartbeats 2000000 in
theorem rxSign_any (n : Int) (w : World) (h0 : 1 ≤ n) (h1 : n ≤ 12) : Calls Tryd.prog 80 #[.int .i64 n] w fun e w' => e = .returned (.string (strB (signL n))) ∧ Below w.heap.size w w' := by
  rcases (show n = 1 ∨ n = 2 ∨ n = 3 ∨ n = 4 ∨ n = 5 ∨ n = 6 ∨ n = 7 ∨ n = 8 ∨ n = 9 ∨ n = 10 ∨ n = 11 ∨ n = 12 by omega) with rfl | rfl | rfl | rfl | rfl | rfl | rfl | rfl | rfl | rfl | rfl | rfl
  all_goals
    go_enter Tryd.func80, Tryd.ntmps80
    go_wp2
    go_ret
    exact ⟨rfl, ext_alloc (Below.refl _ _) _⟩
set_option maxRecDepth 100000 in
set_option maxHeartbeats 2000000 in
theorem rxLevel_any (h : Hd) (ka : Option Addr) (kl kc : Nat) (w : World) (ho : h.kind = 8 → 1 ≤ h.op ∧ h.op ≤ 12) : Calls Tryd.prog 79 #[.agg #[.int .i64 h.kind, .int .i64 h.op, .int .i64 h.num, .string ⟨h.text.toArray⟩, .int .i64 h.ref.row, .int .i64 h.ref.col, .bool h.ref.pr, .bool h.ref.pc, .int .i64 h.to.row, .int .i64 h.to.col, .bool h.to.pr, .bool h.to.pc, .int .i64 h.fn, (.slice ka kl kc)]] w fun e w' => e = .returned (.int .i64 (levH h)) ∧ Below w.heap.size w w' := by
  obtain ⟨kind, op, num, text, ref, tr, fn⟩ := h
  simp only at ho ⊢
  by_cases k8 : kind = 8
  · obtain ⟨o1, o2⟩ := ho k8
    subst k8
    clear ho
    rcases (show op = 1 ∨ op = 2 ∨ op = 3 ∨ op = 4 ∨ op = 5 ∨ op = 6 ∨ 7 ≤ op by omega) with rfl | rfl | rfl | rfl | rfl | rfl | o7
    rotate_right
    · have b1 : (op == 1) = false := beq_eq_false_iff_ne.2 (by omega)
      have b2 : (op == 2) = false := beq_eq_false_iff_ne.2 (by omega)
      have b3 : (op == 3) = false := beq_eq_false_iff_ne.2 (by omega)
      have b4 : (op == 4) = false := beq_eq_false_iff_ne.2 (by omega)
      have b5 : (op == 5) = false := beq_eq_false_iff_ne.2 (by omega)
      have b6 : (op == 6) = false := beq_eq_false_iff_ne.2 (by omega)
      have HE := Lib.hid (show levH ⟨8, op, num, text, ref, tr, fn⟩ = 1 by
        rcases (show op = 7 ∨ op = 8 ∨ op = 9 ∨ op = 10 ∨ op = 11 ∨ op = 12 by omega) with rfl | rfl | rfl | rfl | rfl | rfl <;> rfl)
      go_enter Tryd.func79, Tryd.ntmps79
      go_wp2
      go_ret
      exact ⟨by rw [HE.out]; rfl, ext_alloc (Below.refl _ _) _⟩
    all_goals
      go_enter Tryd.func79, Tryd.ntmps79
      go_wp2
      go_ret
      exact ⟨rfl, ext_alloc (Below.refl _ _) _⟩
  · by_cases k7 : kind = 7
    · subst k7
      by_cases o3 : op = 3
      · subst o3
        go_enter Tryd.func79, Tryd.ntmps79
        go_wp2
        go_ret
        exact ⟨rfl, ext_alloc (Below.refl _ _) _⟩
      · have hb : (op == 3) = false := beq_eq_false_iff_ne.2 o3
        have HE := Lib.hid (show levH ⟨7, op, num, text, ref, tr, fn⟩ = 6 by simp [levH, o3])
        go_enter Tryd.func79, Tryd.ntmps79
        go_wp2
        go_ret
        exact ⟨by rw [HE.out]; rfl, ext_alloc (Below.refl _ _) _⟩
    · have hb8 : (kind != 8) = true := by simpa using k8
      have hb7 : (kind == 7) = false := beq_eq_false_iff_ne.2 k7
      have HE := Lib.hid (show levH ⟨kind, op, num, text, ref, tr, fn⟩ = 8 by simp [levH, k8, k7])
      clear k8 k7
      go_enter Tryd.func79, Tryd.ntmps79
      go_wp2
      go_ret
      exact ⟨by rw [HE.out]; rfl, ext_alloc (Below.refl _ _) _⟩
end Go.Proofs.YtnhgeojcelegbaaDoor

namespace Go.Proofs.YtnhgeojcelegbaaDoor
open Go.RowKit Go.Lib

theorem u8_infoP : (Tryd.prog.info? 5).map (fun i => (i.zero, i.size, i.bytes)) = some (some (.int .u8 0), 1, 1) := by kernel_rfl
/-- A row grew: other blocks are as they were; the row lies where it lay, or in a new block. -/
structure Grw (w w' : World) (v v' : Value) : Prop where
  by_ : w.grownBy w' v.ownBlock
  at_ : v'.ownBlock = v.ownBlock ∨ ∃ g, w.heap.size ≤ g ∧ v'.ownBlock = some g
theorem Grw.trans {w w1 w2 : World} {v v1 v2 : Value} (a : Grw w w1 v v1) (b : Grw w1 w2 v1 v2) : Grw w w2 v v2 := by
  have hs := a.by_.size
  refine ⟨⟨b.by_.os.trans a.by_.os, b.by_.tape.trans a.by_.tape, b.by_.output.trans a.by_.output, Nat.le_trans hs b.by_.size, fun k hk hne => ?_⟩, ?_⟩
  · rw [b.by_.block k (by omega) ?_, a.by_.block k hk hne]
    rcases a.at_ with e | ⟨g, hg, e⟩
    · rw [e]; exact hne
    · rw [e]; intro h; injection h with h; omega
  · rcases b.at_ with e | ⟨g, hg, e⟩
    · rcases a.at_ with e' | ⟨g, hg, e'⟩
      · exact .inl (e.trans e')
      · exact .inr ⟨g, hg, e.trans e'⟩
    · exact .inr ⟨g, by omega, e⟩
theorem Grw.refl (w : World) (v : Value) : Grw w w v v := ⟨⟨rfl, rfl, rfl, Nat.le_refl _, fun _ _ _ => rfl⟩, .inl rfl⟩
theorem Grw.of_below {w w' : World} (h : Below w.heap.size w w') (v : Value) : Grw w w' v v := ⟨⟨h.os, h.tape, h.output, h.size, fun k hk _ => h.block k hk⟩, .inl rfl⟩
/-- Where the row lies behind an append of a text: the run's own answer tells. -/
theorem string_loc {P : Program} {w : World} {base : Nat} {t u ty e : TypeId} {i : TypeInfo} (ht : P.underlying t = some (.slice e)) (hu : P.underlying u = some .string) (hi : P.info? e = some i) (hz : i.zero = some (.int .u8 0)) (hsize : i.size = 1) (hby : i.bytes = 1)
    {v : Value} {n : Nat} {xs : List Value} (hown : w.ownsRow base e 1 v n xs) (s : ByteArray) (hbytes : n + s.size ≤ 140737488355328) {v' : Value} {w' : World} (hr : (Builtin.append_ #[t, u] ty #[v, .string s]).run P w = .ok v' w') : v'.ownBlock = v.ownBlock ∨ ∃ g, w.heap.size ≤ g ∧ v'.ownBlock = some g := by
  rcases hown.2 with ⟨rfl, rfl⟩ | ⟨gb, cap, cur, rfl, hbg, hg, hnc, hcm, hcs, htake⟩
  · by_cases hm : s.size = 0
    · left
      have hf := run_firstCells_string (P := P) w 1 s
      rw [hm] at hf
      have h2 : (Builtin.append_ #[t, u] ty #[.slice none 0 0, .string s]).run P w = .ok (.slice none 0 0) w := by
        simp [Builtin.append_, run_underlying ht, run_underlying hu, sizeOf, typeInfo, hi, hsize, Builtin.lenOf, hm, hf]
      rw [h2] at hr
      injection hr with h1 _
      rw [← h1]
    · right
      have h2 := run_append_nil_string (P := P) w t u ty e i (.int .u8 0) ht hu hi hz s (by omega) (by omega) (by rw [hby]; omega)
      rw [h2] at hr
      injection hr with h1 _
      exact ⟨w.heap.size, Nat.le_refl _, by rw [← h1]; rfl⟩
  · by_cases hroom : n + s.size ≤ cap
    · left
      have h2 := run_append_room_string (P := P) w t u ty e i ht hu hi hsize gb n cap cur hg s hroom (by have : cur.size = cap := by simpa using hcs
                                                                                                         omega)
      rw [h2] at hr
      injection hr with h1 _
      rw [← h1]; rfl
    · right
      have hxl : xs.length = n := by simpa using hown.1
      have holds : ∀ j u, xs[j]? = some u → w.cell? ((⟨gb, 0, none⟩ : Addr).add j) = some u := hown.cells (g := gb) rfl
      have h2 := run_append_grow_string (P := P) w t u ty e i (.int .u8 0) ht hu hi hz ⟨gb, 0, none⟩ n cap xs (by rw [hsize]; simpa using hxl) holds s (by omega) (by omega) (by rw [hby]; exact growslice_fits (by omega) (by omega))
      rw [h2] at hr
      injection hr with h1 _
      exact ⟨w.heap.size, Nat.le_refl _, by rw [← h1]; rfl⟩
/-- A row of bytes of the call's own: l; what the world keeps. -/
structure RxW (base : Nat) (wa : World) (va : Value) (l : List UInt8) (v : Value) (W : World) : Prop where
  own : W.ownsRow base 5 1 v l.length (byteCells l)
  bel : Below base wa W
  oth : OthersKept 5 none wa W
  hb : base ≤ wa.heap.size
  gr : Grw wa W va v
theorem RxW.size {base : Nat} {wa W : World} {va : Value} {l : List UInt8} {v : Value} (h : RxW base wa va l v W) : base ≤ W.heap.size := Nat.le_trans h.hb h.bel.size
theorem RxW.below {base : Nat} {wa W W' : World} {va : Value} {l : List UInt8} {v : Value} (h : RxW base wa va l v W) (b : Below W.heap.size W W') : RxW base wa va l v W' :=
  ⟨h.own.kept (row := none) ⟨b.os, b.tape, b.output, b.size, fun k hk _ => b.block k hk⟩ (Classical.em _), h.bel.trans (b.mono h.size), h.oth.trans (oth_below b), h.hb, h.gr.trans (Grw.of_below b v)⟩
theorem RxW.at0 {base : Nat} {wa W : World} {va : Value} {l : List UInt8} {v : Value} (h : RxW base wa va l v W) : RxW base W v l v W := ⟨h.own, Below.refl _ _, OthersKept.refl _ _ _, h.size, Grw.refl _ _⟩
theorem RxW.join {base : Nat} {wa W W' : World} {va : Value} {l l' : List UInt8} {v v' : Value} (h : RxW base wa va l v W) (k : RxW base W v l' v' W') : RxW base wa va l' v' W' := ⟨k.own, h.bel.trans k.bel, h.oth.trans k.oth, h.hb, h.gr.trans k.gr⟩
theorem blk_others0 {e T : TypeId} {b : Nat} {W W' : World} {cs : Array Value} {fz : Nat × Nat} (k : OthersKept e none W W') (h : W.heap[b]? = some (.cells cs T fz)) (hT : T ≠ e) : W'.heap[b]? = some (.cells cs T fz) :=
  k b _ h (by simp) (fun c f q => hT (by simp only [Obj.cells.injEq] at q; exact q.2.1))
theorem RxW.app {base : Nat} {wa W W' : World} {va : Value} {l t : List UInt8} {v v' : Value} (h : RxW base wa va l v W) (own : W'.ownsRow base 5 1 v' (l ++ t).length (byteCells (l ++ t))) (g : W.grownBy W' v.ownBlock) (at_ : v'.ownBlock = v.ownBlock ∨ ∃ g, W.heap.size ≤ g ∧ v'.ownBlock = some g) : RxW base wa va (l ++ t) v' W' := by
  refine ⟨own, h.bel.grown g h.size (fun j hj => (h.own.lt j hj).1), h.oth.trans fun k o ho _ hne => ?_, h.hb, h.gr.trans ⟨g, at_⟩⟩
  rw [g.block k (Array.getElem?_eq_some_iff.1 ho).1 ?_]; exact ho
  intro e
  rcases h.own.2 with ⟨h1, h2⟩ | ⟨gb, cap, cur, h1, h2, h3, h4⟩
  · rw [h1] at e; simp [Value.ownBlock] at e
  · rw [h1] at e
    simp [Value.ownBlock] at e
    subst e
    rw [h3] at ho
    exact hne _ _ (Option.some.inj ho).symm
section
variable {ops : Array Oper} {rest : List Oper} {o : Oper} {a : Act} {Q : Exit → Act → World → Prop} {base : Nat} {wa w : World} {va : Value} {l : List UInt8} {v : Value} {sl x : Operand}
theorem rx_str {s : ByteArray} (hgd : o.guard = none) (ho : o.op = .call { callee := .builtin .append, args := #[sl, x], argTypes := #[65, 9] }) (hs : a.eval sl = v) (hx : a.eval x = .string s) (P : RxW base wa va l v w) (hl : l.length + s.size ≤ 1099511627776)
    (h : ∀ v' w', RxW base wa va (l ++ s.data.toList) v' w' → wpList Tryd.prog ops Q rest (a.put o.dst v') w') : wpList Tryd.prog ops Q (o :: rest) a w := by
  obtain ⟨i0, hi, hz0, hz1, hz2⟩ := info_parts u8_infoP
  refine wpList_plain hgd fun K hK => ?_
  obtain ⟨v', w', hr, own, g, -⟩ := run_append_own_string (P := Tryd.prog) w base 65 9 o.type 5 i0 Tryd.underlying65 Tryd.underlying9 hi hz0 hz1 hz2 v l.length (byteCells l) P.own s (by unfold maxLen; omega) (by omega) P.size
  have loc := string_loc Tryd.underlying65 Tryd.underlying9 hi hz0 hz1 hz2 P.own s (by omega) hr
  unfold Oper.wp execOp
  simp only [ho, resolve, invoke, builtin, Sem.run_bind, Sem.run_pure, Result.andThen_ok, List.map_toArray, List.map_cons, List.map_nil, hs, hx, hr]
  refine hK _ _ (h v' w' (P.app ?_ g loc))
  rw [List.length_append, byteCells_append, ← strCells_eq, show s.data.toList.length = s.size from (Lib.size_eq s).symm]
  exact own
theorem rx_byte (c : UInt8) {k : Nat} {cap : Nat} (hgd : o.guard = none) (ho : o.op = .call { callee := .builtin .append, args := #[sl, x], argTypes := #[65, 65] }) (hs : a.eval sl = v) (hx : a.eval x = .slice (some ⟨k, 0, none⟩) 1 cap) (P : RxW base wa va l v w) (hc : w.cell? ⟨k, 0, none⟩ = some (.int .u8 c.toNat)) (hl : l.length + 1 ≤ 1099511627776)
    (h : ∀ v' w', RxW base wa va (l ++ [c]) v' w' → wpList Tryd.prog ops Q rest (a.put o.dst v') w') : wpList Tryd.prog ops Q (o :: rest) a w := by
  obtain ⟨i0, hi, hz0, hz1, hz2⟩ := info_parts u8_infoP
  refine wpList_append_own_at w hgd sl x 65 ho base 5 i0 (.int .u8 0) 1 1 Tryd.underlying65 hi hz0 hz1 hz2 rfl (by decide) v l.length (byteCells l) hs P.own ⟨k, 0, none⟩ 1 cap [.int .u8 c.toNat] hx rfl ?_ ?_ (by unfold maxLen; omega) (by omega) P.size ?_
  · intro j u hj
    match j, hj with
    | 0, hj => simp at hj; subst hj; simpa [Addr.add] using hc
  · intro u hu; simp at hu; subst hu; rfl
  · intro v' w' own g _ loc
    refine h v' w' (P.app ?_ g (loc.imp id fun e => ⟨w.heap.size, Nat.le_refl _, e⟩))
    rw [List.length_append, byteCells_append]
    exact own
end
theorem dupQ_snoc (t : List UInt8) (k : Nat) (c : UInt8) (h : t[k]? = some c) : dupQ (t.take (k + 1)) = dupQ (t.take k) ++ (if c = 34 then [34, 34] else [c]) := by
  rw [dupQ_eq, dupQ_eq, List.take_add_one, h]
  simp
def RxP (base : Nat) (wa : World) (va : Value) (l : List UInt8) (e : Ending) (w' : World) : Prop := ∃ v', e = .returned v' ∧ RxW base wa va l v' w'
def RxS (base : Nat) (h : Hd) (ks : Trees) : Prop :=
  ∀ (W wa : World) (va v : Value) (l : List UInt8) (ka : Option Addr) (kl kc : Nat), RxW base wa va l v W → TreeV wa base h ks ka kl → l.length + roomH h ks ≤ 274877906944 → h.bytes + ks.bytes ≤ 16384 → treeFits h ks = true →
    Calls Tryd.prog 33 #[v, .agg #[.int .i64 h.kind, .int .i64 h.op, .int .i64 h.num, .string ⟨h.text.toArray⟩, .int .i64 h.ref.row, .int .i64 h.ref.col, .bool h.ref.pr, .bool h.ref.pc, .int .i64 h.to.row, .int .i64 h.to.col, .bool h.to.pr, .bool h.to.pc, .int .i64 h.fn, (.slice ka kl kc)]] W (RxP base wa va (l ++ textL h ks))
set_option maxRecDepth 100000 in
set_option maxHeartbeats 2000000 in
theorem rx_k1 {base : Nat} (op num : Int) (text : List UInt8) (ref tr : RefT) (fn : Int) (ks : Trees) : RxS base ⟨1, op, num, text, ref, tr, fn⟩ ks := by
  intro W wa va v l ka kl kc P tv hl hy hf
  have hg := good_of (h := ⟨1, op, num, text, ref, tr, fn⟩) (n := ks.len) (by simp only [treeFits, Bool.and_eq_true] at hf; exact hf.1)
  simp only at hg
  have HP0 := Lib.hid P
  have P1 := Lib.hid ((P.below (ext_alloc (Below.refl _ _) (.cells #[.int .i64 1, .int .i64 op, .int .i64 num, .string ⟨text.toArray⟩, .int .i64 ref.row, .int .i64 ref.col, .bool ref.pr, .bool ref.pc, .int .i64 tr.row, .int .i64 tr.col, .bool tr.pr, .bool tr.pc, .int .i64 fn, .slice ka kl kc] 30))).at0)
  have bx : (W.alloc (.cells #[.int .i64 1, .int .i64 op, .int .i64 num, .string ⟨text.toArray⟩, .int .i64 ref.row, .int .i64 ref.col, .bool ref.pr, .bool ref.pc, .int .i64 tr.row, .int .i64 tr.col, .bool tr.pr, .bool tr.pc, .int .i64 fn, .slice ka kl kc] 30)).heap[W.heap.size]? = some (.cells #[.int .i64 1, .int .i64 op, .int .i64 num, .string ⟨text.toArray⟩, .int .i64 ref.row, .int .i64 ref.col, .bool ref.pr, .bool ref.pc, .int .i64 tr.row, .int .i64 tr.col, .bool tr.pr, .bool tr.pc, .int .i64 fn, .slice ka kl kc] 30 (0, 0)) := heap_alloc_new W _
  have tw := (tv.kept P.bel (Nat.le_refl _)).kept (ext_alloc (Below.refl _ W) (.cells #[.int .i64 1, .int .i64 op, .int .i64 num, .string ⟨text.toArray⟩, .int .i64 ref.row, .int .i64 ref.col, .bool ref.pr, .bool ref.pc, .int .i64 tr.row, .int .i64 tr.col, .bool tr.pr, .bool tr.pc, .int .i64 fn, .slice ka kl kc] 30)) P.size
  have back : ∀ l' v' w', RxW base (W.alloc (.cells #[.int .i64 1, .int .i64 op, .int .i64 num, .string ⟨text.toArray⟩, .int .i64 ref.row, .int .i64 ref.col, .bool ref.pr, .bool ref.pc, .int .i64 tr.row, .int .i64 tr.col, .bool tr.pr, .bool tr.pc, .int .i64 fn, .slice ka kl kc] 30)) v l' v' w' → RxW base wa va l' v' w' := fun l' v' w' p => (P.below (ext_alloc (Below.refl _ _) (.cells #[.int .i64 1, .int .i64 op, .int .i64 num, .string ⟨text.toArray⟩, .int .i64 ref.row, .int .i64 ref.col, .bool ref.pr, .bool ref.pc, .int .i64 tr.row, .int .i64 tr.col, .bool tr.pr, .bool tr.pc, .int .i64 fn, .slice ka kl kc] 30))).join p
  have BACK := Lib.hid back
  have TV := Lib.hid tw
  clear P tv tw back
  go_enter Tryd.func33, Tryd.ntmps33
  go_upto_region 1 with (fail)
  generalize W.alloc (.cells #[.int .i64 1, .int .i64 op, .int .i64 num, .string ⟨text.toArray⟩, .int .i64 ref.row, .int .i64 ref.col, .bool ref.pr, .bool ref.pc, .int .i64 tr.row, .int .i64 tr.col, .bool tr.pr, .bool tr.pc, .int .i64 fn, .slice ka kl kc] 30) = W1 at *
  generalize W.heap.size = q at *
  have hq : q < W1.heap.size := (Array.getElem?_eq_some_iff.1 bx).1
  have box : ∀ l' v' w', RxW base W1 v l' v' w' → w'.heap[q]? = some (.cells #[.int .i64 1, .int .i64 op, .int .i64 num, .string ⟨text.toArray⟩, .int .i64 ref.row, .int .i64 ref.col, .bool ref.pr, .bool ref.pc, .int .i64 tr.row, .int .i64 tr.col, .bool tr.pr, .bool tr.pc, .int .i64 fn, .slice ka kl kc] 30 (0, 0)) := fun l' v' w' p => blk_others0 p.oth bx (by decide)
  have BOX := Lib.hid box
  have c0 : W1.cell? ⟨q, 0, none⟩ = some (.int .i64 1) := by simp [World.cell?, bx]
  have c2 : W1.cell? ⟨q, 2, none⟩ = some (.int .i64 num) := by simp [World.cell?, bx]
  have hn0 : 0 ≤ num := by
    simp only [treeFits, Bool.and_eq_true, fitsV, fitsB, decide_eq_true_eq] at hf
    have := hf.1.1.1.1.1.1.2
    simpa using this
  have inum := TV.out.ok.num
  simp only at inum
  obtain ⟨n, rfl⟩ : ∃ n : Nat, num = n := ⟨num.toNat, by omega⟩
  clear bx box
  have hil := itoaR_len inum
  have hn1 : n ≤ 9223372036854775807 := by have := inum.2; omega
  have hl2 : l.length + 200 ≤ 274877906944 := by simp only [roomH] at hl; omega
  clear hg hf hy hl inum hn0
  go_wp2_with fail
  refine (rxText_any n W1 hn1).mono ?_
  rintro e w2 ⟨rfl, b2⟩
  have P2 := Lib.hid (P1.out.below b2)
  clear b2
  go_wp2_with (refine rx_str rfl rfl rfl rfl P2.out (by rw [strB_size]; omega) ?_)
  intro v3 w3 P3
  have H3 := Lib.hid P3
  clear P3
  go_wp2
  go_ret
  exact ⟨_, rfl, BACK.out _ _ _ H3.out⟩
set_option maxRecDepth 100000 in
set_option maxHeartbeats 2000000 in
theorem rx_k2 {base : Nat} (op num : Int) (text : List UInt8) (ref tr : RefT) (fn : Int) (ks : Trees) : RxS base ⟨2, op, num, text, ref, tr, fn⟩ ks := by
  intro W wa va v l ka kl kc P tv hl hy hf
  have hg := good_of (h := ⟨2, op, num, text, ref, tr, fn⟩) (n := ks.len) (by simp only [treeFits, Bool.and_eq_true] at hf; exact hf.1)
  simp only at hg
  have HP0 := Lib.hid P
  have P1 := Lib.hid ((P.below (ext_alloc (Below.refl _ _) (.cells #[.int .i64 2, .int .i64 op, .int .i64 num, .string ⟨text.toArray⟩, .int .i64 ref.row, .int .i64 ref.col, .bool ref.pr, .bool ref.pc, .int .i64 tr.row, .int .i64 tr.col, .bool tr.pr, .bool tr.pc, .int .i64 fn, .slice ka kl kc] 30))).at0)
  have bx : (W.alloc (.cells #[.int .i64 2, .int .i64 op, .int .i64 num, .string ⟨text.toArray⟩, .int .i64 ref.row, .int .i64 ref.col, .bool ref.pr, .bool ref.pc, .int .i64 tr.row, .int .i64 tr.col, .bool tr.pr, .bool tr.pc, .int .i64 fn, .slice ka kl kc] 30)).heap[W.heap.size]? = some (.cells #[.int .i64 2, .int .i64 op, .int .i64 num, .string ⟨text.toArray⟩, .int .i64 ref.row, .int .i64 ref.col, .bool ref.pr, .bool ref.pc, .int .i64 tr.row, .int .i64 tr.col, .bool tr.pr, .bool tr.pc, .int .i64 fn, .slice ka kl kc] 30 (0, 0)) := heap_alloc_new W _
  have tw := (tv.kept P.bel (Nat.le_refl _)).kept (ext_alloc (Below.refl _ W) (.cells #[.int .i64 2, .int .i64 op, .int .i64 num, .string ⟨text.toArray⟩, .int .i64 ref.row, .int .i64 ref.col, .bool ref.pr, .bool ref.pc, .int .i64 tr.row, .int .i64 tr.col, .bool tr.pr, .bool tr.pc, .int .i64 fn, .slice ka kl kc] 30)) P.size
  have back : ∀ l' v' w', RxW base (W.alloc (.cells #[.int .i64 2, .int .i64 op, .int .i64 num, .string ⟨text.toArray⟩, .int .i64 ref.row, .int .i64 ref.col, .bool ref.pr, .bool ref.pc, .int .i64 tr.row, .int .i64 tr.col, .bool tr.pr, .bool tr.pc, .int .i64 fn, .slice ka kl kc] 30)) v l' v' w' → RxW base wa va l' v' w' := fun l' v' w' p => (P.below (ext_alloc (Below.refl _ _) (.cells #[.int .i64 2, .int .i64 op, .int .i64 num, .string ⟨text.toArray⟩, .int .i64 ref.row, .int .i64 ref.col, .bool ref.pr, .bool ref.pc, .int .i64 tr.row, .int .i64 tr.col, .bool tr.pr, .bool tr.pc, .int .i64 fn, .slice ka kl kc] 30))).join p
  have BACK := Lib.hid back
  have TV := Lib.hid tw
  clear P tv tw back
  go_enter Tryd.func33, Tryd.ntmps33
  go_upto_region 1 with (fail)
  generalize W.alloc (.cells #[.int .i64 2, .int .i64 op, .int .i64 num, .string ⟨text.toArray⟩, .int .i64 ref.row, .int .i64 ref.col, .bool ref.pr, .bool ref.pc, .int .i64 tr.row, .int .i64 tr.col, .bool tr.pr, .bool tr.pc, .int .i64 fn, .slice ka kl kc] 30) = W1 at *
  generalize W.heap.size = q at *
  have hq : q < W1.heap.size := (Array.getElem?_eq_some_iff.1 bx).1
  have box : ∀ l' v' w', RxW base W1 v l' v' w' → w'.heap[q]? = some (.cells #[.int .i64 2, .int .i64 op, .int .i64 num, .string ⟨text.toArray⟩, .int .i64 ref.row, .int .i64 ref.col, .bool ref.pr, .bool ref.pc, .int .i64 tr.row, .int .i64 tr.col, .bool tr.pr, .bool tr.pc, .int .i64 fn, .slice ka kl kc] 30 (0, 0)) := fun l' v' w' p => blk_others0 p.oth bx (by decide)
  have BOX := Lib.hid box
  have c0 : W1.cell? ⟨q, 0, none⟩ = some (.int .i64 2) := by simp [World.cell?, bx]
  have c3 : W1.cell? ⟨q, 3, none⟩ = some (.string ⟨text.toArray⟩) := by simp [World.cell?, bx]
  clear bx box
  have hs : text.length ≤ 16384 := by simp only [Hd.bytes, if_true] at hy; omega
  have hl2 : l.length + 200 + 2 * text.length ≤ 274877906944 := by simp only [roomH] at hl; omega
  obtain ⟨s, hs1⟩ : ∃ s : ByteArray, s = ⟨text.toArray⟩ := ⟨_, rfl⟩
  have hdt : s.data.toList = text := by rw [hs1]
  have hsz : s.size = text.length := by rw [Lib.size_eq, hdt]
  have HD := Lib.hid hdt; have HSZ := Lib.hid hsz
  have hz2 : s.size ≤ 16384 := by omega
  have bs3 : ∀ l' v' w', RxW base W1 v l' v' w' → w'.cell? ⟨q, 3, none⟩ = some (.string s) := fun l' v' w' p => by simp [World.cell?, BOX.out _ _ _ p, hs1]
  have B3 := Lib.hid bs3
  clear hg hf hy hl bs3 hdt hsz hs1
  go_wp2_with (refine rx_byte 34 rfl rfl rfl rfl (P1.out.below (ext_alloc (Below.refl _ _) _)) (World.cell?_alloc_at _ _ _ _ rfl) (by first | omega | (simp only [List.length_append]; omega) | (simp only [List.length_append, List.length_cons, List.length_nil]; omega)) ?_)
  intro v2 w2 P2
  have H2 := Lib.hid P2
  clear P2 c0 c3 hq
  go_wp2_with fail
  go_loopw [0, 5] (fun v0 v5 wr => ∃ k : Nat, v5 = .int .i64 k ∧ k ≤ text.length ∧ Hid (RxW base W1 v (l ++ [34] ++ dupQ (text.take k)) v0 wr)) (fun _ v5 _ => text.length - (intOf v5).toNat)
  case atStart => exact ⟨0, rfl, Nat.zero_le _, Lib.hid (by rw [List.take_zero, show dupQ [] = [] from by rw [dupQ_eq]; rfl, List.append_nil]; exact H2.out)⟩
  case round =>
    obtain ⟨k, rfl, hk, H⟩ := hrel
    have c3 := B3.out _ _ _ H.out
    have hdl : (dupQ (text.take k)).length ≤ 2 * k := Nat.le_trans (dupQ_len _) (by rw [List.length_take]; omega)
    by_cases hlt : k < s.size
    · have hg : text[k]? = some (s[k]'hlt) := by rw [← HD.out, List.getElem?_eq_getElem (by simpa using hlt)]; rfl
      have hsn := dupQ_snoc text k _ hg
      have hk2 : k < text.length := by have := HSZ.out; omega
      by_cases h34 : s[k]'hlt = 34
      · have hb : (((s[k]'hlt).toNat : Int) == 34) = true := by rw [h34]; rfl
        rw [if_pos h34] at hsn
        have HSN := Lib.hid hsn; have H34 := Lib.hid h34
        clear hg hsn h34
        go_wp2_with (refine rx_byte 34 rfl rfl rfl rfl (H.out.below (ext_alloc (Below.refl _ _) _)) (World.cell?_alloc_at _ _ _ _ rfl) (by first | omega | (simp only [List.length_append]; omega) | (simp only [List.length_append, List.length_cons, List.length_nil]; omega)) ?_)
        intro v3 w3 P3
        have c3b := B3.out _ _ _ P3
        have H3 := Lib.hid P3
        clear P3 c3
        go_wp2_with (refine rx_byte (s[k]'hlt) rfl rfl rfl rfl (H3.out.below (ext_alloc (Below.refl _ _) _)) (World.cell?_alloc_at _ _ _ _ rfl) (by first | omega | (simp only [List.length_append]; omega) | (simp only [List.length_append, List.length_cons, List.length_nil]; omega)) ?_)
        intro v4 w4 P4
        have H4 := Lib.hid P4
        clear P4 c3b
        go_wp2
        go_roundw
        case rel => exact ⟨k + 1, by go_num, by omega, Lib.hid (by have h := H4.out; rw [H34.out] at h; rw [HSN.out]; simpa using h)⟩
        case measure => simp [intOf]; omega
      · have hb : (((s[k]'hlt).toNat : Int) == 34) = false := by
          rw [beq_eq_false_iff_ne]
          intro e
          exact h34 (UInt8.toNat_inj.1 (by have : (34 : UInt8).toNat = 34 := rfl; omega))
        rw [if_neg h34] at hsn
        have HSN := Lib.hid hsn
        clear hg hsn h34
        go_wp2_with (refine rx_byte (s[k]'hlt) rfl rfl rfl rfl (H.out.below (ext_alloc (Below.refl _ _) _)) (World.cell?_alloc_at _ _ _ _ rfl) (by first | omega | (simp only [List.length_append]; omega) | (simp only [List.length_append, List.length_cons, List.length_nil]; omega)) ?_)
        intro v4 w4 P4
        have H4 := Lib.hid P4
        clear P4 c3
        go_wp2
        go_roundw
        case rel => exact ⟨k + 1, by go_num, by omega, Lib.hid (by have h := H4.out; rw [HSN.out]; simpa using h)⟩
        case measure => simp [intOf]; omega
    · have hke : text.take k = text := List.take_of_length_le (by have := HSZ.out; omega)
      rw [hke] at H hdl
      clear hke
      go_wp2_with (refine rx_byte 34 rfl rfl rfl rfl (H.out.below (ext_alloc (Below.refl _ _) _)) (World.cell?_alloc_at _ _ _ _ rfl) (by first | omega | (simp only [List.length_append]; omega) | (simp only [List.length_append, List.length_cons, List.length_nil]; omega)) ?_)
      intro v3 w3 P3
      have H3 := Lib.hid P3
      clear P3
      go_wp2
      go_ret
      exact ⟨_, rfl, BACK.out _ _ _ (by have h := H3.out; rw [show textL ⟨2, op, num, text, ref, tr, fn⟩ ks = [34] ++ dupQ text ++ [34] from rfl]; simpa using h)⟩
set_option maxRecDepth 100000 in
set_option maxHeartbeats 2000000 in
theorem rx_k3 {base : Nat} (op num : Int) (text : List UInt8) (ref tr : RefT) (fn : Int) (ks : Trees) : RxS base ⟨3, op, num, text, ref, tr, fn⟩ ks := by
  intro W wa va v l ka kl kc P tv hl hy hf
  have hg := good_of (h := ⟨3, op, num, text, ref, tr, fn⟩) (n := ks.len) (by simp only [treeFits, Bool.and_eq_true] at hf; exact hf.1)
  simp only at hg
  have HP0 := Lib.hid P
  have P1 := Lib.hid ((P.below (ext_alloc (Below.refl _ _) (.cells #[.int .i64 3, .int .i64 op, .int .i64 num, .string ⟨text.toArray⟩, .int .i64 ref.row, .int .i64 ref.col, .bool ref.pr, .bool ref.pc, .int .i64 tr.row, .int .i64 tr.col, .bool tr.pr, .bool tr.pc, .int .i64 fn, .slice ka kl kc] 30))).at0)
  have bx : (W.alloc (.cells #[.int .i64 3, .int .i64 op, .int .i64 num, .string ⟨text.toArray⟩, .int .i64 ref.row, .int .i64 ref.col, .bool ref.pr, .bool ref.pc, .int .i64 tr.row, .int .i64 tr.col, .bool tr.pr, .bool tr.pc, .int .i64 fn, .slice ka kl kc] 30)).heap[W.heap.size]? = some (.cells #[.int .i64 3, .int .i64 op, .int .i64 num, .string ⟨text.toArray⟩, .int .i64 ref.row, .int .i64 ref.col, .bool ref.pr, .bool ref.pc, .int .i64 tr.row, .int .i64 tr.col, .bool tr.pr, .bool tr.pc, .int .i64 fn, .slice ka kl kc] 30 (0, 0)) := heap_alloc_new W _
  have tw := (tv.kept P.bel (Nat.le_refl _)).kept (ext_alloc (Below.refl _ W) (.cells #[.int .i64 3, .int .i64 op, .int .i64 num, .string ⟨text.toArray⟩, .int .i64 ref.row, .int .i64 ref.col, .bool ref.pr, .bool ref.pc, .int .i64 tr.row, .int .i64 tr.col, .bool tr.pr, .bool tr.pc, .int .i64 fn, .slice ka kl kc] 30)) P.size
  have back : ∀ l' v' w', RxW base (W.alloc (.cells #[.int .i64 3, .int .i64 op, .int .i64 num, .string ⟨text.toArray⟩, .int .i64 ref.row, .int .i64 ref.col, .bool ref.pr, .bool ref.pc, .int .i64 tr.row, .int .i64 tr.col, .bool tr.pr, .bool tr.pc, .int .i64 fn, .slice ka kl kc] 30)) v l' v' w' → RxW base wa va l' v' w' := fun l' v' w' p => (P.below (ext_alloc (Below.refl _ _) (.cells #[.int .i64 3, .int .i64 op, .int .i64 num, .string ⟨text.toArray⟩, .int .i64 ref.row, .int .i64 ref.col, .bool ref.pr, .bool ref.pc, .int .i64 tr.row, .int .i64 tr.col, .bool tr.pr, .bool tr.pc, .int .i64 fn, .slice ka kl kc] 30))).join p
  have BACK := Lib.hid back
  have TV := Lib.hid tw
  clear P tv tw back
  go_enter Tryd.func33, Tryd.ntmps33
  go_upto_region 1 with (fail)
  generalize W.alloc (.cells #[.int .i64 3, .int .i64 op, .int .i64 num, .string ⟨text.toArray⟩, .int .i64 ref.row, .int .i64 ref.col, .bool ref.pr, .bool ref.pc, .int .i64 tr.row, .int .i64 tr.col, .bool tr.pr, .bool tr.pc, .int .i64 fn, .slice ka kl kc] 30) = W1 at *
  generalize W.heap.size = q at *
  have hq : q < W1.heap.size := (Array.getElem?_eq_some_iff.1 bx).1
  have box : ∀ l' v' w', RxW base W1 v l' v' w' → w'.heap[q]? = some (.cells #[.int .i64 3, .int .i64 op, .int .i64 num, .string ⟨text.toArray⟩, .int .i64 ref.row, .int .i64 ref.col, .bool ref.pr, .bool ref.pc, .int .i64 tr.row, .int .i64 tr.col, .bool tr.pr, .bool tr.pc, .int .i64 fn, .slice ka kl kc] 30 (0, 0)) := fun l' v' w' p => blk_others0 p.oth bx (by decide)
  have BOX := Lib.hid box
  have c0 : W1.cell? ⟨q, 0, none⟩ = some (.int .i64 3) := by simp [World.cell?, bx]
  have c2 : W1.cell? ⟨q, 2, none⟩ = some (.int .i64 num) := by simp [World.cell?, bx]
  clear bx box
  have hl2 : l.length + 200 ≤ 274877906944 := by simp only [roomH] at hl; omega
  have hn := hg.2.1 trivial
  clear hg hf hy hl
  rcases hn with rfl | rfl
  all_goals
    go_wp2_with (refine rx_str rfl rfl rfl rfl P1.out (by first | exact Nat.le_trans (Nat.add_le_add_left (by decide : ByteArray.size ⟨#[70, 65, 76, 83, 69]⟩ ≤ 5) _) (by omega) | exact Nat.le_trans (Nat.add_le_add_left (by decide : ByteArray.size ⟨#[84, 82, 85, 69]⟩ ≤ 5) _) (by omega)) ?_)
    intro v3 w3 P3
    have H3 := Lib.hid P3
    clear P3
    go_wp2
    go_ret
    exact ⟨_, rfl, BACK.out _ _ _ H3.out⟩
set_option maxRecDepth 100000 in
set_option maxHeartbeats 2000000 in
theorem rx_k4 {base : Nat} (op num : Int) (text : List UInt8) (ref tr : RefT) (fn : Int) (ks : Trees) : RxS base ⟨4, op, num, text, ref, tr, fn⟩ ks := by
  intro W wa va v l ka kl kc P tv hl hy hf
  have hg := good_of (h := ⟨4, op, num, text, ref, tr, fn⟩) (n := ks.len) (by simp only [treeFits, Bool.and_eq_true] at hf; exact hf.1)
  simp only at hg
  have HP0 := Lib.hid P
  have P1 := Lib.hid ((P.below (ext_alloc (Below.refl _ _) (.cells #[.int .i64 4, .int .i64 op, .int .i64 num, .string ⟨text.toArray⟩, .int .i64 ref.row, .int .i64 ref.col, .bool ref.pr, .bool ref.pc, .int .i64 tr.row, .int .i64 tr.col, .bool tr.pr, .bool tr.pc, .int .i64 fn, .slice ka kl kc] 30))).at0)
  have bx : (W.alloc (.cells #[.int .i64 4, .int .i64 op, .int .i64 num, .string ⟨text.toArray⟩, .int .i64 ref.row, .int .i64 ref.col, .bool ref.pr, .bool ref.pc, .int .i64 tr.row, .int .i64 tr.col, .bool tr.pr, .bool tr.pc, .int .i64 fn, .slice ka kl kc] 30)).heap[W.heap.size]? = some (.cells #[.int .i64 4, .int .i64 op, .int .i64 num, .string ⟨text.toArray⟩, .int .i64 ref.row, .int .i64 ref.col, .bool ref.pr, .bool ref.pc, .int .i64 tr.row, .int .i64 tr.col, .bool tr.pr, .bool tr.pc, .int .i64 fn, .slice ka kl kc] 30 (0, 0)) := heap_alloc_new W _
  have tw := (tv.kept P.bel (Nat.le_refl _)).kept (ext_alloc (Below.refl _ W) (.cells #[.int .i64 4, .int .i64 op, .int .i64 num, .string ⟨text.toArray⟩, .int .i64 ref.row, .int .i64 ref.col, .bool ref.pr, .bool ref.pc, .int .i64 tr.row, .int .i64 tr.col, .bool tr.pr, .bool tr.pc, .int .i64 fn, .slice ka kl kc] 30)) P.size
  have back : ∀ l' v' w', RxW base (W.alloc (.cells #[.int .i64 4, .int .i64 op, .int .i64 num, .string ⟨text.toArray⟩, .int .i64 ref.row, .int .i64 ref.col, .bool ref.pr, .bool ref.pc, .int .i64 tr.row, .int .i64 tr.col, .bool tr.pr, .bool tr.pc, .int .i64 fn, .slice ka kl kc] 30)) v l' v' w' → RxW base wa va l' v' w' := fun l' v' w' p => (P.below (ext_alloc (Below.refl _ _) (.cells #[.int .i64 4, .int .i64 op, .int .i64 num, .string ⟨text.toArray⟩, .int .i64 ref.row, .int .i64 ref.col, .bool ref.pr, .bool ref.pc, .int .i64 tr.row, .int .i64 tr.col, .bool tr.pr, .bool tr.pc, .int .i64 fn, .slice ka kl kc] 30))).join p
  have BACK := Lib.hid back
  have TV := Lib.hid tw
  clear P tv tw back
  go_enter Tryd.func33, Tryd.ntmps33
  go_upto_region 1 with (fail)
  generalize W.alloc (.cells #[.int .i64 4, .int .i64 op, .int .i64 num, .string ⟨text.toArray⟩, .int .i64 ref.row, .int .i64 ref.col, .bool ref.pr, .bool ref.pc, .int .i64 tr.row, .int .i64 tr.col, .bool tr.pr, .bool tr.pc, .int .i64 fn, .slice ka kl kc] 30) = W1 at *
  generalize W.heap.size = q at *
  have hq : q < W1.heap.size := (Array.getElem?_eq_some_iff.1 bx).1
  have box : ∀ l' v' w', RxW base W1 v l' v' w' → w'.heap[q]? = some (.cells #[.int .i64 4, .int .i64 op, .int .i64 num, .string ⟨text.toArray⟩, .int .i64 ref.row, .int .i64 ref.col, .bool ref.pr, .bool ref.pc, .int .i64 tr.row, .int .i64 tr.col, .bool tr.pr, .bool tr.pc, .int .i64 fn, .slice ka kl kc] 30 (0, 0)) := fun l' v' w' p => blk_others0 p.oth bx (by decide)
  have BOX := Lib.hid box
  have c0 : W1.cell? ⟨q, 0, none⟩ = some (.int .i64 4) := by simp [World.cell?, bx]
  have c2 : W1.cell? ⟨q, 2, none⟩ = some (.int .i64 num) := by simp [World.cell?, bx]
  clear bx box
  have hl2 : l.length + 200 ≤ 274877906944 := by simp only [roomH] at hl; omega
  obtain ⟨hn1, hn2⟩ := hg.2.2.1 trivial
  have he := errL_len num
  clear hg hf hy hl
  go_wp2_with fail
  refine (rxError_any num W1 hn1 hn2).mono ?_
  rintro e w2 ⟨rfl, b2⟩
  have P2 := Lib.hid (P1.out.below b2)
  clear b2
  go_wp2_with (refine rx_str rfl rfl rfl rfl P2.out (by rw [strB_size]; omega) ?_)
  intro v3 w3 P3
  have H3 := Lib.hid P3
  clear P3
  go_wp2
  go_ret
  exact ⟨_, rfl, BACK.out _ _ _ H3.out⟩
set_option maxRecDepth 100000 in
set_option maxHeartbeats 2000000 in
theorem rx_k5 {base : Nat} (op num : Int) (text : List UInt8) (ref tr : RefT) (fn : Int) (ks : Trees) : RxS base ⟨5, op, num, text, ref, tr, fn⟩ ks := by
  intro W wa va v l ka kl kc P tv hl hy hf
  have hg := good_of (h := ⟨5, op, num, text, ref, tr, fn⟩) (n := ks.len) (by simp only [treeFits, Bool.and_eq_true] at hf; exact hf.1)
  simp only at hg
  have HP0 := Lib.hid P
  have P1 := Lib.hid ((P.below (ext_alloc (Below.refl _ _) (.cells #[.int .i64 5, .int .i64 op, .int .i64 num, .string ⟨text.toArray⟩, .int .i64 ref.row, .int .i64 ref.col, .bool ref.pr, .bool ref.pc, .int .i64 tr.row, .int .i64 tr.col, .bool tr.pr, .bool tr.pc, .int .i64 fn, .slice ka kl kc] 30))).at0)
  have bx : (W.alloc (.cells #[.int .i64 5, .int .i64 op, .int .i64 num, .string ⟨text.toArray⟩, .int .i64 ref.row, .int .i64 ref.col, .bool ref.pr, .bool ref.pc, .int .i64 tr.row, .int .i64 tr.col, .bool tr.pr, .bool tr.pc, .int .i64 fn, .slice ka kl kc] 30)).heap[W.heap.size]? = some (.cells #[.int .i64 5, .int .i64 op, .int .i64 num, .string ⟨text.toArray⟩, .int .i64 ref.row, .int .i64 ref.col, .bool ref.pr, .bool ref.pc, .int .i64 tr.row, .int .i64 tr.col, .bool tr.pr, .bool tr.pc, .int .i64 fn, .slice ka kl kc] 30 (0, 0)) := heap_alloc_new W _
  have tw := (tv.kept P.bel (Nat.le_refl _)).kept (ext_alloc (Below.refl _ W) (.cells #[.int .i64 5, .int .i64 op, .int .i64 num, .string ⟨text.toArray⟩, .int .i64 ref.row, .int .i64 ref.col, .bool ref.pr, .bool ref.pc, .int .i64 tr.row, .int .i64 tr.col, .bool tr.pr, .bool tr.pc, .int .i64 fn, .slice ka kl kc] 30)) P.size
  have back : ∀ l' v' w', RxW base (W.alloc (.cells #[.int .i64 5, .int .i64 op, .int .i64 num, .string ⟨text.toArray⟩, .int .i64 ref.row, .int .i64 ref.col, .bool ref.pr, .bool ref.pc, .int .i64 tr.row, .int .i64 tr.col, .bool tr.pr, .bool tr.pc, .int .i64 fn, .slice ka kl kc] 30)) v l' v' w' → RxW base wa va l' v' w' := fun l' v' w' p => (P.below (ext_alloc (Below.refl _ _) (.cells #[.int .i64 5, .int .i64 op, .int .i64 num, .string ⟨text.toArray⟩, .int .i64 ref.row, .int .i64 ref.col, .bool ref.pr, .bool ref.pc, .int .i64 tr.row, .int .i64 tr.col, .bool tr.pr, .bool tr.pc, .int .i64 fn, .slice ka kl kc] 30))).join p
  have BACK := Lib.hid back
  have TV := Lib.hid tw
  clear P tv tw back
  go_enter Tryd.func33, Tryd.ntmps33
  go_upto_region 1 with (fail)
  generalize W.alloc (.cells #[.int .i64 5, .int .i64 op, .int .i64 num, .string ⟨text.toArray⟩, .int .i64 ref.row, .int .i64 ref.col, .bool ref.pr, .bool ref.pc, .int .i64 tr.row, .int .i64 tr.col, .bool tr.pr, .bool tr.pc, .int .i64 fn, .slice ka kl kc] 30) = W1 at *
  generalize W.heap.size = q at *
  have hq : q < W1.heap.size := (Array.getElem?_eq_some_iff.1 bx).1
  have box : ∀ l' v' w', RxW base W1 v l' v' w' → w'.heap[q]? = some (.cells #[.int .i64 5, .int .i64 op, .int .i64 num, .string ⟨text.toArray⟩, .int .i64 ref.row, .int .i64 ref.col, .bool ref.pr, .bool ref.pc, .int .i64 tr.row, .int .i64 tr.col, .bool tr.pr, .bool tr.pc, .int .i64 fn, .slice ka kl kc] 30 (0, 0)) := fun l' v' w' p => blk_others0 p.oth bx (by decide)
  have BOX := Lib.hid box
  have c0 : W1.cell? ⟨q, 0, none⟩ = some (.int .i64 5) := by simp [World.cell?, bx]
  have c4 : W1.cell? ⟨q, 4, none⟩ = some (.int .i64 ref.row) := by simp [World.cell?, bx]
  have c5 : W1.cell? ⟨q, 5, none⟩ = some (.int .i64 ref.col) := by simp [World.cell?, bx]
  have c6 : W1.cell? ⟨q, 6, none⟩ = some (.bool ref.pr) := by simp [World.cell?, bx]
  have c7 : W1.cell? ⟨q, 7, none⟩ = some (.bool ref.pc) := by simp [World.cell?, bx]
  clear bx box
  have hl2 : l.length + 200 ≤ 274877906944 := by simp only [roomH] at hl; omega
  have hr := refTextL_len ref
  clear hg hf hy hl
  go_wp2_with fail
  refine (rfRefText_any ref W1).mono ?_
  rintro e w2 ⟨rfl, b2⟩
  have P2 := Lib.hid (P1.out.below b2)
  clear b2
  go_wp2_with (refine rx_str rfl rfl rfl rfl P2.out (by rw [strB_size]; omega) ?_)
  intro v3 w3 P3
  have H3 := Lib.hid P3
  clear P3
  go_wp2
  go_ret
  exact ⟨_, rfl, BACK.out _ _ _ H3.out⟩
set_option maxRecDepth 100000 in
set_option maxHeartbeats 2000000 in
theorem rx_k6 {base : Nat} (op num : Int) (text : List UInt8) (ref tr : RefT) (fn : Int) (ks : Trees) : RxS base ⟨6, op, num, text, ref, tr, fn⟩ ks := by
  intro W wa va v l ka kl kc P tv hl hy hf
  have hg := good_of (h := ⟨6, op, num, text, ref, tr, fn⟩) (n := ks.len) (by simp only [treeFits, Bool.and_eq_true] at hf; exact hf.1)
  simp only at hg
  have HP0 := Lib.hid P
  have P1 := Lib.hid ((P.below (ext_alloc (Below.refl _ _) (.cells #[.int .i64 6, .int .i64 op, .int .i64 num, .string ⟨text.toArray⟩, .int .i64 ref.row, .int .i64 ref.col, .bool ref.pr, .bool ref.pc, .int .i64 tr.row, .int .i64 tr.col, .bool tr.pr, .bool tr.pc, .int .i64 fn, .slice ka kl kc] 30))).at0)
  have bx : (W.alloc (.cells #[.int .i64 6, .int .i64 op, .int .i64 num, .string ⟨text.toArray⟩, .int .i64 ref.row, .int .i64 ref.col, .bool ref.pr, .bool ref.pc, .int .i64 tr.row, .int .i64 tr.col, .bool tr.pr, .bool tr.pc, .int .i64 fn, .slice ka kl kc] 30)).heap[W.heap.size]? = some (.cells #[.int .i64 6, .int .i64 op, .int .i64 num, .string ⟨text.toArray⟩, .int .i64 ref.row, .int .i64 ref.col, .bool ref.pr, .bool ref.pc, .int .i64 tr.row, .int .i64 tr.col, .bool tr.pr, .bool tr.pc, .int .i64 fn, .slice ka kl kc] 30 (0, 0)) := heap_alloc_new W _
  have tw := (tv.kept P.bel (Nat.le_refl _)).kept (ext_alloc (Below.refl _ W) (.cells #[.int .i64 6, .int .i64 op, .int .i64 num, .string ⟨text.toArray⟩, .int .i64 ref.row, .int .i64 ref.col, .bool ref.pr, .bool ref.pc, .int .i64 tr.row, .int .i64 tr.col, .bool tr.pr, .bool tr.pc, .int .i64 fn, .slice ka kl kc] 30)) P.size
  have back : ∀ l' v' w', RxW base (W.alloc (.cells #[.int .i64 6, .int .i64 op, .int .i64 num, .string ⟨text.toArray⟩, .int .i64 ref.row, .int .i64 ref.col, .bool ref.pr, .bool ref.pc, .int .i64 tr.row, .int .i64 tr.col, .bool tr.pr, .bool tr.pc, .int .i64 fn, .slice ka kl kc] 30)) v l' v' w' → RxW base wa va l' v' w' := fun l' v' w' p => (P.below (ext_alloc (Below.refl _ _) (.cells #[.int .i64 6, .int .i64 op, .int .i64 num, .string ⟨text.toArray⟩, .int .i64 ref.row, .int .i64 ref.col, .bool ref.pr, .bool ref.pc, .int .i64 tr.row, .int .i64 tr.col, .bool tr.pr, .bool tr.pc, .int .i64 fn, .slice ka kl kc] 30))).join p
  have BACK := Lib.hid back
  have TV := Lib.hid tw
  clear P tv tw back
  go_enter Tryd.func33, Tryd.ntmps33
  go_upto_region 1 with (fail)
  generalize W.alloc (.cells #[.int .i64 6, .int .i64 op, .int .i64 num, .string ⟨text.toArray⟩, .int .i64 ref.row, .int .i64 ref.col, .bool ref.pr, .bool ref.pc, .int .i64 tr.row, .int .i64 tr.col, .bool tr.pr, .bool tr.pc, .int .i64 fn, .slice ka kl kc] 30) = W1 at *
  generalize W.heap.size = q at *
  have hq : q < W1.heap.size := (Array.getElem?_eq_some_iff.1 bx).1
  have box : ∀ l' v' w', RxW base W1 v l' v' w' → w'.heap[q]? = some (.cells #[.int .i64 6, .int .i64 op, .int .i64 num, .string ⟨text.toArray⟩, .int .i64 ref.row, .int .i64 ref.col, .bool ref.pr, .bool ref.pc, .int .i64 tr.row, .int .i64 tr.col, .bool tr.pr, .bool tr.pc, .int .i64 fn, .slice ka kl kc] 30 (0, 0)) := fun l' v' w' p => blk_others0 p.oth bx (by decide)
  have BOX := Lib.hid box
  have c0 : W1.cell? ⟨q, 0, none⟩ = some (.int .i64 6) := by simp [World.cell?, bx]
  have c4 : W1.cell? ⟨q, 4, none⟩ = some (.int .i64 ref.row) := by simp [World.cell?, bx]
  have c5 : W1.cell? ⟨q, 5, none⟩ = some (.int .i64 ref.col) := by simp [World.cell?, bx]
  have c6 : W1.cell? ⟨q, 6, none⟩ = some (.bool ref.pr) := by simp [World.cell?, bx]
  have c7 : W1.cell? ⟨q, 7, none⟩ = some (.bool ref.pc) := by simp [World.cell?, bx]
  clear bx box
  have hl2 : l.length + 200 ≤ 274877906944 := by simp only [roomH] at hl; omega
  have hr := refTextL_len ref
  have hr2 := refTextL_len tr
  clear hg hf hy hl
  go_wp2_with fail
  refine (rfRefText_any ref W1).mono ?_
  rintro e w2 ⟨rfl, b2⟩
  have P2 := Lib.hid (P1.out.below b2)
  have bx2 := BOX.out _ _ _ (P1.out.below b2)
  clear b2 c0 c4 c5 c6 c7
  have c8 : w2.cell? ⟨q, 8, none⟩ = some (.int .i64 tr.row) := by simp [World.cell?, bx2]
  have c9 : w2.cell? ⟨q, 8 + 1, none⟩ = some (.int .i64 tr.col) := by simp [World.cell?, bx2]
  have c10 : w2.cell? ⟨q, 8 + 2, none⟩ = some (.bool tr.pr) := by simp [World.cell?, bx2]
  have c11 : w2.cell? ⟨q, 8 + 3, none⟩ = some (.bool tr.pc) := by simp [World.cell?, bx2]
  have e9 : w2.cell? ⟨q, 9, none⟩ = some (.int .i64 tr.col) := c9
  have e10 : w2.cell? ⟨q, 10, none⟩ = some (.bool tr.pr) := c10
  have e11 : w2.cell? ⟨q, 11, none⟩ = some (.bool tr.pc) := c11
  clear bx2
  go_wp2_with fail
  refine (rfRefText_any tr w2).mono ?_
  rintro e w3 ⟨rfl, b3⟩
  have P3 := Lib.hid (P2.out.below b3)
  clear b3 c8 c9 c10 c11 e9 e10 e11
  go_wp2_with (refine rx_str rfl rfl rfl rfl P3.out (by rw [strB_size]; omega) ?_)
  intro v4 w4 P4
  have H4 := Lib.hid P4
  clear P4
  have hz4 : (strB (refTextL ref)).data.toList = refTextL ref := rfl
  rw [hz4] at H4
  clear hz4
  go_wp2_with (refine rx_byte 58 rfl rfl rfl rfl (H4.out.below (ext_alloc (Below.refl _ _) _)) (World.cell?_alloc_at _ _ _ _ rfl) (by first | omega | (simp only [List.length_append]; omega) | (simp only [List.length_append, List.length_cons, List.length_nil]; omega)) ?_)
  intro v5 w5 P5
  have H5 := Lib.hid P5
  clear P5
  go_wp2_with (refine rx_str rfl rfl rfl rfl H5.out (by rw [strB_size]; simp only [List.length_append, List.length_cons, List.length_nil]; omega) ?_)
  intro v6 w6 P6
  have H6 := Lib.hid P6
  clear P6
  go_wp2
  go_ret
  exact ⟨_, rfl, BACK.out _ _ _ (by
    have h := H6.out
    rw [show (strB (refTextL tr)).data.toList = refTextL tr from rfl] at h
    rw [show textL ⟨6, op, num, text, ref, tr, fn⟩ ks = refTextL ref ++ [58] ++ refTextL tr from rfl]
    simpa using h)⟩
end Go.Proofs.YtnhgeojcelegbaaDoor
