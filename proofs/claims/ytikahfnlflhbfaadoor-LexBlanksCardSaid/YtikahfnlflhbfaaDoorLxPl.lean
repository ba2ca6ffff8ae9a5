/- LexPlaces: words stand where they are told to; ahead of a fault all is words. -/
import Derived.Test.YtikahfnlflhbfaaDoorLxO
namespace Go.Proofs.YtikahfnlflhbfaaDoor
open Go.RowKit Go.Lib

/-- Where the next word begins, or the text ends. -/
def gapEnd (l : List UInt8) : List WordL → Nat
  | [] => l.length
  | y :: _ => y.at_.toNat
theorem chain_gap {l : List UInt8} {e : Nat} : ∀ {ws : List WordL}, Chain l e ws → e ≤ gapEnd l ws ∧ gapEnd l ws ≤ l.length ∧ ∀ k c, e ≤ k → k < gapEnd l ws → l[k]? = some c → blankB c = true
  | [], h => ⟨h.1, Nat.le_refl _, fun k c h1 _ hc => h.2 k c h1 hc⟩
  | y :: ws, ⟨a, n, h1, h2, h3, _, h5, _⟩ => by
    have e1 : gapEnd l (y :: ws) = a := by show y.at_.toNat = a; rw [h1]; rfl
    rw [e1]
    exact ⟨h2, by omega, h3⟩
theorem chain_next {l : List UInt8} {e : Nat} {c : UInt8} {ws : List WordL} (h : Chain l e ws) (hc : l[e]? = some c) (hb : blankB c = false) : ∃ y r, ws = y :: r ∧ y.at_ = (e : Int) := by
  cases ws with
  | nil => rw [h.2 e c (Nat.le_refl _) hc] at hb; cases hb
  | cons y r =>
    obtain ⟨a, n, h1, h2, h3, -⟩ := h
    by_cases q : e = a
    · exact ⟨y, r, rfl, by rw [h1, q]⟩
    · rw [h3 e c (Nat.le_refl _) (by omega) hc] at hb; cases hb
theorem cutL_ok {l : List UInt8} {ws : List WordL} {nx : Int} (h : cutL l = ⟨ws, nx, 0⟩) : nx = 0 ∧ Chain l 0 ws := by
  unfold cutL at h
  split at h
  · simp only [CutA.mk.injEq] at h; omega
  · obtain ⟨h0, r, h1, h2⟩ := cut_chain l l.length 0 [] ws nx (by omega) (Nat.zero_le _) h
    rw [List.nil_append] at h1
    rw [h1]
    exact ⟨h0, h2⟩
theorem cutL_bad {l : List UInt8} {ws : List WordL} {nx e : Int} (h : cutL l = ⟨ws, nx, e⟩) (he : e ≠ 0) :
    (65535 < l.length ∧ ws = [] ∧ nx = 0 ∧ e = 2) ∨ (l.length ≤ 65535 ∧ ws = [] ∧ (e = 12 ∨ e = 21) ∧ ∃ q : Nat, nx = q ∧ q < l.length ∧ ∃ ws', cutL (l.take q) = ⟨ws', 0, 0⟩) := by
  unfold cutL at h
  split at h
  · rename_i hl
    simp only [CutA.mk.injEq] at h
    obtain ⟨rfl, rfl, rfl⟩ := h
    exact Or.inl ⟨hl, rfl, rfl, rfl⟩
  · rename_i hl
    obtain ⟨h0, h1, q, h2, _, h4, _, ws', h5⟩ := cut_fault l l.length 0 [] ws nx e (by omega) (Nat.zero_le _) h he
    refine Or.inr ⟨by omega, h0, h1, q, h2, h4, ws', ?_⟩
    unfold cutL
    rw [if_neg (by rw [List.length_take]; omega)]
    exact h5
theorem ext_head (s : ByteArray) (q : Nat) : (s.extract 0 q).data.toList = s.data.toList.take q := by
  rw [Lib.extract_data, List.drop_zero, Nat.sub_zero]
def PRel (l : List UInt8) (ws : List WordL) (w1 : World) (ev iv : Value) (wr : World) : Prop :=
  ∃ (k e : Nat) (rest : List WordL), iv = .int .i64 k ∧ ev = .int .i64 e ∧ k ≤ ws.length ∧ e ≤ l.length ∧ Hid (ws.drop k = rest) ∧ Hid (Chain l e rest) ∧ Hid (Below w1.heap.size w1 wr)
theorem drop_step {ws rest : List WordL} {k : Nat} {x : WordL} (h : ws.drop k = x :: rest) : ws[k]? = some x ∧ ws.drop (k + 1) = rest := by
  constructor
  · rw [← List.head?_drop, h]; rfl
  · rw [← List.drop_drop, h]; rfl
set_option maxRecDepth 1000000 in
set_option maxHeartbeats 16000000 in
theorem lexPlaces_bad (s : ByteArray) (w : World) (L : LaidX w) (hmax : s.size ≤ 9223372036854775807) (ws : List WordL) (nx er : Int) (he : er ≠ 0) (HA : Hid (cutL s.data.toList = ⟨ws, nx, er⟩)) : Calls Tryd.prog 4 #[.string s] w (TruePost w) := by
  have HL := Lib.hid L
  have hlen : s.data.toList.length = s.size := (Lib.size_eq s).symm
  have HLN := Lib.hid hlen
  clear L hlen
  go_enter Tryd.func4, Tryd.ntmps4
  go_wp2_with (go_at_call 5; refine (begun8_any _ HL.out).mono ?_; rintro e w1 ⟨rfl, b1⟩)
  have HL1 := Lib.hid (HL.out.kept b1)
  have B1 := Lib.hid b1
  have C2 := Lib.hid (cut_const HA.out hmax w1 HL1.out)
  clear b1
  refine (C2.out).mono ?_
  rintro e w2 ⟨v2, rfl, b2, r2⟩
  obtain ⟨a2, kc2, rfl, A2, -⟩ := r2.at_
  have B2 := Lib.hid (B1.out.trans (b2.mono B1.out.size))
  have HA2 := Lib.hid A2
  have HL2 := Lib.hid (HL1.out.kept b2)
  clear b2 r2 A2 C2
  rcases cutL_bad HA.out he with ⟨h1, rfl, rfl, rfl⟩ | ⟨h1, rfl, h2, q, rfl, h3, ws', h4⟩
  · rw [HLN.out] at h1
    have h5 : (65535 : Int) < (s.size : Int) := by omega
    go_wp2
    go_ret
    exact ⟨rfl, B2.out⟩
  · rw [HLN.out] at h1 h3
    have C3 := Lib.hid (cut_const (s := s.extract 0 q) (a := ⟨ws', 0, 0⟩) (by rw [ext_head]; exact h4) (by rw [Lib.size_eq, ext_head, List.length_take]; omega) w2 HL2.out)
    have f1 : ((q : Int) == (s.size : Int)) = false := by rw [beq_eq_false_iff_ne]; omega
    have f2 : decide ((q : Int) = (s.size : Int)) = false := by simp; omega
    have f3 : decide (q = s.size) = false := by simp; omega
    have f4 : ¬ ((s.size : Int) < (q : Int)) := by omega
    have f5 : ¬ ((65535 : Int) < (s.size : Int)) := by omega
    have f6 : ¬ ((q : Int) < 0) := by omega
    clear h4
    by_cases q0 : 0 < q
    · by_cases q3 : q ≤ 3000
      · rcases h2 with rfl | rfl
        all_goals
          go_wp2_with (go_at_call 6; (with_reducible refine (C3.out).mono ?_); rintro e w3 ⟨v3, rfl, b3, r3⟩)
          go_ret
          exact ⟨rfl, B2.out.trans (b3.mono B2.out.size)⟩
      · rcases h2 with rfl | rfl
        all_goals
          go_wp2
          go_ret
          exact ⟨rfl, B2.out⟩
    · rcases h2 with rfl | rfl
      all_goals
        go_wp2
        go_ret
        exact ⟨rfl, B2.out⟩
end Go.Proofs.YtikahfnlflhbfaaDoor
