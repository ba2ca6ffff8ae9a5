/- Lists of areas: compared. -/
import Derived.Test.YtkjfeakbhfkldaaTreeT
import Derived.BigQuiet
import Derived.Deep.QuietTactic
namespace Go.Proofs.Ytkjfeakbhfkldaa
open Go.RowKit

/-- A list of areas lies from an address on, in a block below B. -/
def ArAt (w : World) (B : Nat) (l : List Ar) (a : Option Addr) : Prop :=
  l.length ≤ 9223372036854775807 ∧ ∀ j x, l[j]? = some x → ∃ b off, a = some ⟨b, off, none⟩ ∧ b < B ∧ b < w.heap.size ∧
    w.cell? ⟨b, off + j * 4, none⟩ = some (.int .i64 x.top) ∧ w.cell? ⟨b, off + j * 4 + 1, none⟩ = some (.int .i64 x.left) ∧ w.cell? ⟨b, off + j * 4 + 2, none⟩ = some (.int .i64 x.bottom) ∧ w.cell? ⟨b, off + j * 4 + 3, none⟩ = some (.int .i64 x.right)
theorem ArAt.kept {w w' : World} {B B' : Nat} {l : List Ar} {a : Option Addr} (h : ArAt w B' l a) (hb : Below B w w') (hB : B' ≤ B) : ArAt w' B' l a :=
  ⟨h.1, fun j x hj => by
    obtain ⟨b, off, e, lt, lt2, c0, c1, c2, c3⟩ := h.2 j x hj
    exact ⟨b, off, e, lt, Nat.lt_of_lt_of_le lt2 hb.size, (hb.cell (p := ⟨b, _, none⟩) (Nat.lt_of_lt_of_le lt hB)).trans c0, (hb.cell (p := ⟨b, _, none⟩) (Nat.lt_of_lt_of_le lt hB)).trans c1, (hb.cell (p := ⟨b, _, none⟩) (Nat.lt_of_lt_of_le lt hB)).trans c2, (hb.cell (p := ⟨b, _, none⟩) (Nat.lt_of_lt_of_le lt hB)).trans c3⟩⟩
theorem arCells_get : ∀ (l : List Ar) (j : Nat) (x : Ar), l[j]? = some x → (arCells l)[j * 4]? = some (.int .i64 x.top) ∧ (arCells l)[j * 4 + 1]? = some (.int .i64 x.left) ∧ (arCells l)[j * 4 + 2]? = some (.int .i64 x.bottom) ∧ (arCells l)[j * 4 + 3]? = some (.int .i64 x.right)
  | [], j, x, h => by simp at h
  | y :: r, 0, x, h => by simp at h; subst h; simp [arCells, Ar.vals]
  | y :: r, j + 1, x, h => by
    have := arCells_get r j x (by simpa using h)
    have e : (j + 1) * 4 = j * 4 + 1 + 1 + 1 + 1 := by omega
    rw [e]
    simpa [arCells, Ar.vals] using this
theorem ArRow.at_ {b0 : Nat} {w : World} {l : List Ar} {v : Value} (h : ArRow b0 w l v) : ∃ a kc, v = .slice a l.length kc ∧ ArAt w w.heap.size l a ∧ (l = [] ∨ ∃ g, a = some ⟨g, 0, none⟩ ∧ b0 ≤ g) := by
  unfold ArRow at h
  rcases Nat.eq_zero_or_pos l.length with z | z
  · rcases h.2 with ⟨e, _⟩ | ⟨g, cap, cur, e, _⟩
    · exact ⟨none, 0, by rw [e, z], ⟨by omega, fun j x hj => by rw [List.length_eq_zero_iff.1 z] at hj; simp at hj⟩, .inl (List.length_eq_zero_iff.1 z)⟩
    · exact ⟨_, _, e, ⟨by omega, fun j x hj => by rw [List.length_eq_zero_iff.1 z] at hj; simp at hj⟩, .inl (List.length_eq_zero_iff.1 z)⟩
  · obtain ⟨g, cap, e, hb, hg⟩ := World.ownsRow.form h z
    have hm : l.length ≤ 9223372036854775807 := by
      rcases h.2 with ⟨_, h0⟩ | ⟨g', cap', cur, e', _, _, h1, h2, _⟩
      · omega
      · rw [e] at e'; simp only [Value.slice.injEq] at e'; have : maxLen = 9223372036854775807 := rfl; omega
    subst e
    refine ⟨_, cap, rfl, ⟨hm, fun j x hj => ⟨g, 0, rfl, hg, hg, ?_⟩⟩, .inr ⟨g, rfl, hb⟩⟩
    have hl := (List.getElem?_eq_some_iff.1 hj).1
    obtain ⟨c0, c1, c2, c3⟩ := arCells_get l j x hj
    refine ⟨?_, ?_, ?_, ?_⟩
    · rw [Nat.zero_add, h.cellAt _ (by omega)]; exact c0
    · rw [Nat.zero_add, h.cellAt _ (by omega)]; exact c1
    · rw [Nat.zero_add, h.cellAt _ (by omega)]; exact c2
    · rw [Nat.zero_add, h.cellAt _ (by omega)]; exact c3

@[go_sem ↓ high] theorem run_neq_area (a b c d a' b' c' d' : Int) (w : World) :
    (binOp .neq 47 (.agg #[.int .i64 a, .int .i64 b, .int .i64 c, .int .i64 d]) (.agg #[.int .i64 a', .int .i64 b', .int .i64 c', .int .i64 d'])).run Try.prog w = .ok (.bool (!decide ((⟨a, b, c, d⟩ : Ar) = ⟨a', b', c', d'⟩))) w := by
  simp only [Ar.mk.injEq]
  by_cases h1 : a = a' <;> by_cases h2 : b = b' <;> by_cases h3 : c = c' <;> by_cases h4 : d = d' <;> simp [go_sem, h1, h2, h3, h4]

def AreasPost (l m : List Ar) (w : World) (e : Ending) (w' : World) : Prop := e = .returned (.bool (decide (l = m))) ∧ Below w.heap.size w w'

set_option maxRecDepth 100000 in
set_option maxHeartbeats 1000000 in
theorem areas_any (l m : List Ar) (w : World) (B B' : Nat) (a a' : Option Addr) (kc kc' : Nat) (A : ArAt w B l a) (A' : ArAt w B' m a') (hB : B ≤ w.heap.size) (hB' : B' ≤ w.heap.size) :
    Calls Try.prog 28 #[.slice a l.length kc, .slice a' m.length kc'] w (AreasPost l m w) := by
  have hl := A.1; have hm := A'.1
  have HA := Lib.hid A; have HA' := Lib.hid A'; clear A A'
  go_enter Try.func28, Try.ntmps28
  by_cases q : l.length = m.length
  · go_wp2_with fail
    go_loopw [5] (fun i wr => ∃ j : Nat, i = .int .i64 j ∧ j ≤ l.length ∧ Hid (l.take j = m.take j) ∧ Below w.heap.size w wr) (fun i _ => l.length - (intOf i).toNat)
    case atStart => exact ⟨0, rfl, Nat.zero_le _, Lib.hid rfl, Below.refl _ _⟩
    case round =>
      obtain ⟨j, rfl, hj, he, hb⟩ := hrel
      by_cases hlt : j < l.length
      · obtain ⟨x, hx⟩ : ∃ x, l[j]? = some x := ⟨l[j], List.getElem?_eq_getElem hlt⟩
        obtain ⟨y, hy⟩ : ∃ y, m[j]? = some y := ⟨m[j]'(by omega), List.getElem?_eq_getElem _⟩
        obtain ⟨b, off, rfl, -, lt, c0, c1, c2, c3⟩ := (HA.out.kept hb hB).2 j x hx
        obtain ⟨b', off', rfl, -, lt', d0, d1, d2, d3⟩ := (HA'.out.kept hb hB').2 j y hy
        have hsz := hb.size
        have HX := Lib.hid hx; have HY := Lib.hid hy; have HB := Lib.hid hb
        clear hx hy hb
        by_cases e : x = y
        · obtain rfl := e
          go_wp2_with fail
          go_quiet (fail)
          go_wp2
          exact ⟨⟨j + 1, by go_num, by omega, Lib.hid (by rw [List.take_add_one, List.take_add_one, he.out, HX.out, HY.out]), ⟨HB.out.os, HB.out.tape, HB.out.output, HB.out.size, HB.out.block⟩⟩, by simp [intOf]; omega⟩
        · have hq : l ≠ m := fun q' => e (by have h1 := HX.out; have h2 := HY.out; rw [q', h2] at h1; exact (Option.some.inj h1).symm)
          have HQ := Lib.hid hq; clear hq
          go_wp2_with fail
          go_quiet (fail)
          go_wp2
          go_ret
          exact ⟨ret_bool (by simp [HQ.out]), ext_drewN HB.out _⟩
      · have hq : l = m := by
          have := he.out
          rw [List.take_of_length_le (by omega), List.take_of_length_le (by omega)] at this
          exact this
        have HQ := Lib.hid hq
        clear hq he
        go_wp2
        go_ret
        exact ⟨ret_bool (by simp [HQ.out]), hb⟩
  · have hn : l ≠ m := fun e => q (by rw [e])
    have HN := Lib.hid hn; clear hn
    go_wp2
    go_ret
    exact ⟨ret_bool (by simp [HN.out]), Below.refl _ _⟩
end Go.Proofs.Ytkjfeakbhfkldaa
