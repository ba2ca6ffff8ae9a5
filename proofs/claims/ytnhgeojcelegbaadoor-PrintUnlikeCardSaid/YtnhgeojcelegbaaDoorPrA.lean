/- print.Formula's closures: what they share; level and ref. -/
import Derived.Test.YtnhgeojcelegbaaDoorPrS
import Derived.Test.YtnhgeojcelegbaaDoorTreeH
import Derived.BigQuiet
import Derived.Deep.QuietTactic
namespace Go.Proofs.YtnhgeojcelegbaaDoor
open Go.RowKit Go.Lib

/-- The numbers of the blocks that the closures share: the builder, the map, and the variables two, level, ref, lay, from. -/
structure Ns where
  n5 : Nat
  m : Nat
  n6 : Nat
  n7 : Nat
  n8 : Nat
  n9 : Nat
  n10 : Nat
structure Ns.ok (N : Ns) : Prop where
  m : N.m ≠ N.n5
  a6 : N.n6 ≠ N.n5
  a7 : N.n7 ≠ N.n5
  a8 : N.n8 ≠ N.n5
  a9 : N.n9 ≠ N.n5
  a10 : N.n10 ≠ N.n5
def levV (N : Ns) : Value := .func (.func 36) #[] #[.pointer (some ⟨N.n6, 0, none⟩)]
def refV (N : Ns) : Value := .func (.func 37) #[] #[.pointer (some ⟨N.n5, 0, none⟩)]
def fromV (N : Ns) : Value := .func (.func 39) #[] #[.pointer (some ⟨N.n7, 0, none⟩), .pointer (some ⟨N.n9, 0, none⟩), .pointer (some ⟨N.n5, 0, none⟩)]
def layV (N : Ns) : Value := .func (.func 40) #[] #[.pointer (some ⟨N.n5, 0, none⟩), .pointer (some ⟨N.n8, 0, none⟩), .pointer (some ⟨N.n10, 0, none⟩), .pointer (some ⟨N.n6, 0, none⟩), .pointer (some ⟨N.n9, 0, none⟩)]
/-- The world while a formula is laid: bs is written. -/
structure PrW (w0 : World) (N : Ns) (wa : World) (bs : List UInt8) (W : World) : Prop where
  bel : Below w0.heap.size w0 W
  bld : IsBuilderF 69 5 w0.heap.size N.n5 (byteCells bs) W
  map : W.ownsMap Tryd.prog 3 sgR N.m 12 (signsD 12)
  c6 : W.heap[N.n6]? = some (.cells #[.map (some N.m)] 73 (0, 0))
  c7 : W.heap[N.n7]? = some (.cells #[levV N] 78 (0, 0))
  c8 : W.heap[N.n8]? = some (.cells #[refV N] 81 (0, 0))
  c9 : W.heap[N.n9]? = some (.cells #[layV N] 82 (0, 0))
  c10 : W.heap[N.n10]? = some (.cells #[fromV N] 83 (0, 0))
  ok : N.ok
  oth : OthersKept 5 (some N.n5) wa W
theorem oth_below {e : TypeId} {b : Option Nat} {W W' : World} (hb : Below W.heap.size W W') : OthersKept e b W W' := fun k _ h _ _ => (hb.block k (Array.getElem?_eq_some_iff.1 h).1).trans h
theorem blk_below {W W' : World} {b : Nat} {o : Obj} (hb : Below W.heap.size W W') (h : W.heap[b]? = some o) : W'.heap[b]? = some o := (hb.block b (Array.getElem?_eq_some_iff.1 h).1).trans h
theorem bldF_below {T e : TypeId} {B b : Nat} {p : Value} {bs : List Value} {W W' : World} (h : BuilderAtF T e B b p bs W) (hb : Below W.heap.size W W') : BuilderAtF T e B b p bs W' := by
  have hlt := h.lt
  obtain ⟨hB, v, hv, hown, hne⟩ := h
  exact ⟨hB, v, (hb.block b hlt).trans hv, hown.kept (row := none) ⟨hb.os, hb.tape, hb.output, hb.size, fun k hk _ => hb.block k hk⟩ (Classical.em _), hne⟩
theorem PrW.below {w0 wa W W' : World} {N : Ns} {bs : List UInt8} (h : PrW w0 N wa bs W) (hb : Below W.heap.size W W') : PrW w0 N wa bs W' :=
  ⟨h.bel.trans (hb.mono h.bel.size), h.bld.elim (fun x => .inl (bldF_below x hb)) (fun x => .inr (bldF_below x hb)),
   h.map.kept (row := none) ⟨hb.os, hb.tape, hb.output, hb.size, fun k hk _ => hb.block k hk⟩ (by simp),
   blk_below hb h.c6, blk_below hb h.c7, blk_below hb h.c8, blk_below hb h.c9, blk_below hb h.c10, h.ok, h.oth.trans (oth_below hb)⟩
theorem PrW.drew {w0 wa W : World} {N : Ns} {bs : List UInt8} (h : PrW w0 N wa bs W) : PrW w0 N wa bs W.drew := h.below ((Below.refl _ _).drew)
theorem PrW.alloc {w0 wa W : World} {N : Ns} {bs : List UInt8} (h : PrW w0 N wa bs W) (o : Obj) : PrW w0 N wa bs (W.alloc o) := h.below (ext_alloc (Below.refl _ _) o)
theorem blk_others {e T : TypeId} {n b : Nat} {W W' : World} {cs : Array Value} {fz : Nat × Nat} (k : OthersKept e (some n) W W') (h : W.heap[b]? = some (.cells cs T fz)) (hn : b ≠ n) (hT : T ≠ e) : W'.heap[b]? = some (.cells cs T fz) :=
  k b _ h (fun q => hn (Option.some.inj q)) (fun c f q => hT (by simp only [Obj.cells.injEq] at q; exact q.2.1))
theorem PrW.at {w0 wa wb W : World} {N : Ns} {bs : List UInt8} (h : PrW w0 N wa bs W) (k : OthersKept 5 (some N.n5) wb W) : PrW w0 N wb bs W := ⟨h.bel, h.bld, h.map, h.c6, h.c7, h.c8, h.c9, h.c10, h.ok, k⟩
/-- Bytes have been written. -/
theorem PrW.write {w0 wa W W' : World} {N : Ns} {bs cs : List UInt8} {p : Value} (h : PrW w0 N wa bs W) (q : p = .pointer (some ⟨N.n5, 0, none⟩)) (hb : BuilderAtF 69 5 w0.heap.size N.n5 p (byteCells bs ++ byteCells cs) W') (bel : Below w0.heap.size W W') (k : OthersKept 5 (some N.n5) W W') : PrW w0 N wa (bs ++ cs) W' := by
  subst q
  refine ⟨h.bel.trans bel, .inr (by rw [byteCells_append]; exact hb), ?_, blk_others k h.c6 h.ok.a6 (by decide), blk_others k h.c7 h.ok.a7 (by decide), blk_others k h.c8 h.ok.a8 (by decide), blk_others k h.c9 h.ok.a9 (by decide), blk_others k h.c10 h.ok.a10 (by decide), h.ok, h.oth.trans k⟩
  obtain ⟨es, clock, hm, F, hs, hD⟩ := h.map
  exact ⟨es, clock, k _ _ hm (fun q => h.ok.m (Option.some.inj q)) (fun c f q => by cases q), F, hs, hD⟩
/-- A step of the laying: bs is turned to bs'. -/
def LayP (w0 : World) (N : Ns) (wa : World) (bs : List UInt8) (e : Ending) (w' : World) : Prop := e = .returned (.tuple #[]) ∧ PrW w0 N wa bs w'
theorem prByte {w0 wa W : World} {N : Ns} {bs : List UInt8} (c : UInt8) (h : PrW w0 N wa bs W) (hl : bs.length ≤ 1099511627776) : Calls Tryd.prog 34 #[.pointer (some ⟨N.n5, 0, none⟩), .int .u8 c.toNat] W fun e w' => e = .returned .nilIface ∧ PrW w0 N wa (bs ++ [c]) w' :=
  (Tryd.Builder_WriteByte_k w0.heap.size N.n5 (byteCells bs) c.toNat W h.bld (by rw [byteCells_length]; omega) h.bel.size).mono fun e w' ⟨he, hb, bel, k⟩ => ⟨he, h.write rfl hb bel k⟩
theorem prStr {w0 wa W : World} {N : Ns} {bs : List UInt8} (l : List UInt8) (h : PrW w0 N wa bs W) (hl : bs.length + l.length ≤ 1099511627776) : Calls Tryd.prog 38 #[.pointer (some ⟨N.n5, 0, none⟩), .string (strB l)] W fun e w' => (∃ v, e = .returned v) ∧ PrW w0 N wa (bs ++ l) w' :=
  (Tryd.Builder_WriteString_k w0.heap.size N.n5 (byteCells bs) (strB l) W h.bld (by rw [byteCells_length, strB_size]; omega) h.bel.size).mono fun e w' ⟨he, hb, bel, k⟩ => ⟨⟨_, he⟩, h.write rfl hb bel k⟩

/-- What fits: fields by kinds. -/
theorem good_of {h : Hd} {n : Nat} (f : fitsV h n = true) : (1 ≤ h.kind ∧ h.kind ≤ 9) ∧ (h.kind = 3 → h.num = 0 ∨ h.num = 1) ∧ (h.kind = 4 → 1 ≤ h.num ∧ h.num ≤ 6) ∧ (h.kind = 7 → 1 ≤ h.op ∧ h.op ≤ 3 ∧ n = 1) ∧ (h.kind = 8 → 1 ≤ h.op ∧ h.op ≤ 12 ∧ n = 2) ∧ (h.kind = 9 → 1 ≤ h.fn ∧ h.fn ≤ 76) := by
  unfold fitsV fitsB at f
  simp only [Bool.and_eq_true, Bool.or_eq_true, decide_eq_true_eq, Bool.not_eq_true', decide_eq_false_iff_not] at f
  obtain ⟨⟨⟨⟨⟨⟨⟨f1, f2⟩, f3⟩, f4⟩, f5⟩, f6⟩, f7⟩, f8⟩ := f
  refine ⟨f8, fun e => ?_, fun e => ?_, fun e => ?_, fun e => ?_, fun e => ?_⟩
  · rw [e] at f3; simpa using f3
  · rw [e] at f3; simpa using f3
  · rw [e] at f1 f2 f7; simp at f1 f2 f7; omega
  · rw [e] at f1 f2 f7; simp at f1 f2 f7; omega
  · rw [e] at f7; simp at f7; omega
theorem fieldSign (s : ByteArray) (n : Int) (w : World) : (Instr.field 77 (.agg #[.string s, .int .i64 n]) 1).run Tryd.prog w = .ok (.int .i64 n) w := by kernel_rfl
set_option maxRecDepth 100000 in
set_option maxHeartbeats 2000000 in
theorem level_any (h : Hd) (W : World) (N : Ns) (b off : Nat) (kv : Value) (nd : NodeAt W b off h kv) (c6 : W.heap[N.n6]? = some (.cells #[.map (some N.m)] 73 (0, 0))) (own : W.ownsMap Tryd.prog 3 sgR N.m 12 (signsD 12)) (ho : h.kind = 8 → 1 ≤ h.op ∧ h.op ≤ 12) :
    Calls Tryd.prog 36 #[.pointer (some ⟨b, off, none⟩), .pointer (some ⟨N.n6, 0, none⟩)] W fun e w' => e = .returned (.int .i64 (levH h)) ∧ ∃ n, w' = W.drewN n := by
  obtain ⟨c0, c1⟩ := And.intro nd.facts.c0 nd.facts.c1
  have d6 : W.cell? ⟨N.n6, 0, none⟩ = some (.map (some N.m)) := by simp [World.cell?, c6]
  obtain ⟨kind, op, num, text, ref, tr, fn⟩ := h
  simp only at c0 c1 ho ⊢
  by_cases k8 : kind = 8
  · obtain ⟨o1, o2⟩ := ho k8
    subst k8
    obtain ⟨k, rfl⟩ : ∃ k : Nat, op = k := ⟨op.toNat, by omega⟩
    have hl := look_sign own.drew (k := k) (by omega) (by omega)
    have hfl := fieldSign (strB (signL k)) (levN k) W.drew
    have HE := Lib.hid (show levH ⟨8, (k : Int), num, text, ref, tr, fn⟩ = levN k by simp [levH])
    clear ho own nd
    go_enter Tryd.func36, Tryd.ntmps36
    go_upto_region 2 with (fail)
    go_region
    all_goals
      go_wp2
      go_ret
      exact ⟨by rw [HE.out]; rfl, 1, rfl⟩
  · by_cases k7 : kind = 7
    · subst k7
      by_cases o3 : op = 3
      · subst o3
        go_enter Tryd.func36, Tryd.ntmps36
        go_wp2
        go_ret
        exact ⟨rfl, 0, rfl⟩
      · have hb : (op == 3) = false := beq_eq_false_iff_ne.2 o3
        have HE := Lib.hid (show levH ⟨7, op, num, text, ref, tr, fn⟩ = 6 by simp [levH, o3])
        go_enter Tryd.func36, Tryd.ntmps36
        go_wp2
        go_ret
        exact ⟨by rw [HE.out]; rfl, 0, rfl⟩
    · have hb8 : (kind == 8) = false := beq_eq_false_iff_ne.2 k8
      have hb7 : (kind == 7) = false := beq_eq_false_iff_ne.2 k7
      have HE := Lib.hid (show levH ⟨kind, op, num, text, ref, tr, fn⟩ = 8 by simp [levH, k8, k7])
      clear k8 k7
      go_enter Tryd.func36, Tryd.ntmps36
      go_wp2
      go_ret
      exact ⟨by rw [HE.out]; rfl, 0, rfl⟩
set_option maxRecDepth 100000 in
set_option maxHeartbeats 2000000 in
theorem ref_any (r : RefT) (w0 wa W : World) (N : Ns) (bs : List UInt8) (P : PrW w0 N wa bs W) (T : TabW w0) (hl : bs.length ≤ 549755813888) :
    Calls Tryd.prog 37 #[.agg #[.int .i64 r.row, .int .i64 r.col, .bool r.pr, .bool r.pc], .pointer (some ⟨N.n5, 0, none⟩)] W (LayP w0 N wa (bs ++ refTextL r)) := by
  have HP := Lib.hid (P.alloc (.cells #[.int .i64 r.row, .int .i64 r.col, .bool r.pr, .bool r.pc] 28))
  have HT := Lib.hid T
  clear P T
  have hlen : (refTextL r).length ≤ 1000 := by
    unfold refTextL
    split
    · rename_i hp
      simp only [placeB, Bool.and_eq_true, decide_eq_true_eq] at hp
      have h1 := pinL_len r.pc; have h2 := pinL_len r.pr; have h3 := lettersL_len r.col
      have h4 := decDigits_len 5 (r.row + 1).toNat (by simp; omega)
      simp only [List.length_append]; omega
    · simp
  go_enter Tryd.func37, Tryd.ntmps37
  go_wp2_with fail
  refine (refTextT_any r _ (HT.out.kept HP.out.bel)).mono ?_
  rintro e w2 ⟨rfl, b2⟩
  have P2 := Lib.hid (HP.out.below b2)
  clear b2
  go_wp2_with fail
  refine (prStr (refTextL r) P2.out (by omega)).mono ?_
  rintro e w3 ⟨⟨v, rfl⟩, P3⟩
  have H3 := Lib.hid P3
  clear P3
  go_wp2
  exact bodyPost_ret (v := .tuple #[]) (by simp [results, Tryd.results37, go_sem]) rfl ⟨rfl, H3.out⟩
end Go.Proofs.YtnhgeojcelegbaaDoor
