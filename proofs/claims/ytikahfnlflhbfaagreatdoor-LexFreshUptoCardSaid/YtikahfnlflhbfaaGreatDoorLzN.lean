/- Lists of words: compared; law8's Eq, blank. -/
import Derived.Test.YtikahfnlflhbfaaGreatDoorLxM
import Derived.BigQuiet
import Derived.Deep.QuietTactic
namespace Go.Proofs.YtikahfnlflhbfaaGreatDoor
open Go.RowKit Go.Lib

theorem ret_bool8 {a b : Bool} (h : a = b) : Ending.returned (.bool a) = Ending.returned (.bool b) := by rw [h]
theorem ext_draws8 {a b : World} (h : Below a.heap.size a b) (n : Nat) : Below a.heap.size a (b.drewN n) := h.trans ((below_draws8 b n).mono h.size)
theorem _root_.Go.World.ownsRow.cellOf {w : World} {base : Nat} {e : TypeId} {size : Nat} {g n cap : Nat} {xs : List Value} (h : w.ownsRow base e size (.slice (some ⟨g, 0, none⟩) n cap) n xs) (j : Nat) (hj : j < xs.length) : w.cell? ⟨g, j, none⟩ = xs[j]? := by
  have := World.ownsRow.cells h (g := g) rfl j xs[j] (List.getElem?_eq_getElem hj)
  rw [List.getElem?_eq_getElem hj, ← this]
  congr 1
  simp [Addr.add]
/-- A list of words lies from an address on, in a block below B. -/
def WdAt (w : World) (B : Nat) (l : List WordL) (a : Option Addr) : Prop :=
  l.length ≤ 9223372036854775807 ∧ ∀ j x, l[j]? = some x → ∃ b off, a = some ⟨b, off, none⟩ ∧ b < B ∧ b < w.heap.size ∧
    w.cell? ⟨b, off + j * 3, none⟩ = some (.int .i64 x.kind) ∧ w.cell? ⟨b, off + j * 3 + 1, none⟩ = some (.string (strB x.text)) ∧ w.cell? ⟨b, off + j * 3 + 2, none⟩ = some (.int .i64 x.at_)
theorem WdAt.kept {w w' : World} {B B' : Nat} {l : List WordL} {a : Option Addr} (h : WdAt w B' l a) (hb : Below B w w') (hB : B' ≤ B) : WdAt w' B' l a :=
  ⟨h.1, fun j x hj => by
    obtain ⟨b, off, e, lt, lt2, c0, c1, c2⟩ := h.2 j x hj
    exact ⟨b, off, e, lt, Nat.lt_of_lt_of_le lt2 hb.size, (hb.cell (p := ⟨b, _, none⟩) (Nat.lt_of_lt_of_le lt hB)).trans c0, (hb.cell (p := ⟨b, _, none⟩) (Nat.lt_of_lt_of_le lt hB)).trans c1, (hb.cell (p := ⟨b, _, none⟩) (Nat.lt_of_lt_of_le lt hB)).trans c2⟩⟩
theorem WdAt.nil (w : World) (B : Nat) (a : Option Addr) : WdAt w B [] a := ⟨by simp, fun j x h => by simp at h⟩
theorem wdCells_get : ∀ (l : List WordL) (j : Nat) (x : WordL), l[j]? = some x → (wdCells l)[j * 3]? = some (.int .i64 x.kind) ∧ (wdCells l)[j * 3 + 1]? = some (.string (strB x.text)) ∧ (wdCells l)[j * 3 + 2]? = some (.int .i64 x.at_)
  | [], j, x, h => by simp at h
  | y :: r, 0, x, h => by simp at h; subst h; simp [wdCells, WordL.vals]
  | y :: r, j + 1, x, h => by
    have := wdCells_get r j x (by simpa using h)
    have e : (j + 1) * 3 = j * 3 + 1 + 1 + 1 := by omega
    rw [e]
    simpa [wdCells, WordL.vals] using this
theorem WdRow.at_ {b0 : Nat} {w : World} {l : List WordL} {v : Value} (h : WdRow b0 w l v) : ∃ a kc, v = .slice a l.length kc ∧ WdAt w w.heap.size l a ∧ (l = [] ∨ ∃ g, a = some ⟨g, 0, none⟩ ∧ b0 ≤ g) := by
  unfold WdRow at h
  rcases Nat.eq_zero_or_pos l.length with z | z
  · rcases h.2 with ⟨e, _⟩ | ⟨g, cap, cur, e, _⟩
    · exact ⟨none, 0, by rw [e, z], ⟨by omega, fun j x hj => by rw [List.length_eq_zero_iff.1 z] at hj; simp at hj⟩, .inl (List.length_eq_zero_iff.1 z)⟩
    · exact ⟨_, _, e, ⟨by omega, fun j x hj => by rw [List.length_eq_zero_iff.1 z] at hj; simp at hj⟩, .inl (List.length_eq_zero_iff.1 z)⟩
  · obtain ⟨g, cap, e, hb, hg⟩ := World.ownsRow.form h z
    have hm : l.length ≤ 9223372036854775807 := by
      rcases h.2 with ⟨_, h0⟩ | ⟨g', cap', cur, e', _, _, h1, h2, _⟩
      · omega
      · rw [e] at e'; simp only [Value.slice.injEq] at e'; have : maxLen = 9223372036854775807 := rfl; omega
    subst e
    refine ⟨_, cap, rfl, ⟨hm, fun j x hj => ⟨g, 0, rfl, hg, hg, ?_⟩⟩, .inr ⟨g, rfl, hb⟩⟩
    have hl := (List.getElem?_eq_some_iff.1 hj).1
    have hwl := wdCells_len l
    obtain ⟨c0, c1, c2⟩ := wdCells_get l j x hj
    refine ⟨?_, ?_, ?_⟩
    · rw [Nat.zero_add, h.cellOf _ (by omega)]; exact c0
    · rw [Nat.zero_add, h.cellOf _ (by omega)]; exact c1
    · rw [Nat.zero_add, h.cellOf _ (by omega)]; exact c2
theorem strB_inj {a b : List UInt8} (h : strB a = strB b) : a = b := by
  have := congrArg (fun x : ByteArray => x.data.toList) h
  simpa [strB] using this
theorem strB_toList (l : List UInt8) : (strB l).toList = l := by rw [Lib.toList_data]; rfl
@[go_sem ↓ high] theorem run_neq_word (k a k' a' : Int) (t t' : List UInt8) (w : World) :
    (binOp .neq 34 (.agg #[.int .i64 k, .string (strB t), .int .i64 a]) (.agg #[.int .i64 k', .string (strB t'), .int .i64 a'])).run Tryz.prog w = .ok (.bool (!decide ((⟨k, t, a⟩ : WordL) = ⟨k', t', a'⟩))) w := by
  simp only [WordL.mk.injEq]
  by_cases h1 : k = k' <;> by_cases h2 : t = t' <;> by_cases h3 : a = a' <;> simp [go_sem, h1, h2, h3, strB_toList]

def EqPost (l m : List WordL) (w : World) (e : Ending) (w' : World) : Prop := e = .returned (.bool (decide (l = m))) ∧ Below w.heap.size w w'
set_option maxRecDepth 100000 in
set_option maxHeartbeats 1000000 in
theorem lawEq8_any (l m : List WordL) (w : World) (B B' : Nat) (a a' : Option Addr) (kc kc' : Nat) (A : WdAt w B l a) (A' : WdAt w B' m a') (hB : B ≤ w.heap.size) (hB' : B' ≤ w.heap.size) :
    Calls Tryz.prog 9 #[.slice a l.length kc, .slice a' m.length kc'] w (EqPost l m w) := by
  have hl := A.1; have hm := A'.1
  have HA := Lib.hid A; have HA' := Lib.hid A'; clear A A'
  go_enter Tryz.func9, Tryz.ntmps9
  by_cases q : l.length = m.length
  · go_wp2_with fail
    go_loopw [5] (fun i wr => ∃ j : Nat, i = .int .i64 j ∧ j ≤ l.length ∧ Hid (l.take j = m.take j) ∧ Below w.heap.size w wr) (fun i _ => l.length - (intOf i).toNat)
    case atStart => exact ⟨0, rfl, Nat.zero_le _, Lib.hid rfl, Below.refl _ _⟩
    case round =>
      obtain ⟨j, rfl, hj, he, hb⟩ := hrel
      by_cases hlt : j < l.length
      · obtain ⟨x, hx⟩ : ∃ x, l[j]? = some x := ⟨l[j], List.getElem?_eq_getElem hlt⟩
        obtain ⟨y, hy⟩ : ∃ y, m[j]? = some y := ⟨m[j]'(by omega), List.getElem?_eq_getElem _⟩
        obtain ⟨b, off, rfl, -, lt, c0, c1, c2⟩ := (HA.out.kept hb hB).2 j x hx
        obtain ⟨b', off', rfl, -, lt', d0, d1, d2⟩ := (HA'.out.kept hb hB').2 j y hy
        have hsz := hb.size
        have HX := Lib.hid hx; have HY := Lib.hid hy; have HB := Lib.hid hb
        clear hx hy hb
        by_cases e : x = y
        · obtain rfl := e
          go_wp2_with fail
          go_quiet (fail)
          go_wp2
          exact ⟨⟨j + 1, by go_num, by omega, Lib.hid (by rw [List.take_add_one, List.take_add_one, he.out, HX.out, HY.out]), ⟨HB.out.os, HB.out.tape, HB.out.output, HB.out.size, HB.out.block⟩⟩, by simp [intOf]; omega⟩
        · have hq : l ≠ m := fun q' => e (by have h1 := HX.out; have h2 := HY.out; rw [q', h2] at h1; exact (Option.some.inj h1).symm)
          have HQ := Lib.hid hq; clear hq
          go_wp2_with fail
          go_quiet (fail)
          go_wp2
          go_ret
          exact ⟨ret_bool8 (by simp [HQ.out]), ext_draws8 HB.out _⟩
      · have hq : l = m := by
          have := he.out
          rw [List.take_of_length_le (by omega), List.take_of_length_le (by omega)] at this
          exact this
        have HQ := Lib.hid hq
        clear hq he
        go_wp2
        go_ret
        exact ⟨ret_bool8 (by simp [HQ.out]), hb⟩
  · have hn : l ≠ m := fun e => q (by rw [e])
    have HN := Lib.hid hn; clear hn
    go_wp2
    go_ret
    exact ⟨ret_bool8 (by simp [HN.out]), Below.refl _ _⟩
end Go.Proofs.YtikahfnlflhbfaaGreatDoor
