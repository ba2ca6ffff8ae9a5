/- Comp: an operation's code is its kids' codes with what stands between and behind them. No program in sight. -/
import Derived.Test.YtlmpiobdgkmmgaaGreatDoorKeC
namespace Go.Proofs.YtlmpiobdgkmmgaaGreatDoor

/-- From s on ps has the operations of c. -/
def OpsAt (ps : List PI) (s : Nat) (c : List PI) : Prop := ∀ (k : Nat) (x : PI), c[k]? = some x → ∃ y, ps[s + k]? = some y ∧ y.op = x.op
/-- From s on ps has the codes of the trees that are left, the next one the i-th, with IErrs between; then one instruction. -/
def Seg (ps : List PI) : Trees → Nat → Nat → Prop
  | .nil, _, s => s + 1 = ps.length
  | .cons h k r, i, s => mayE h k = 0 ∧ OpsAt ps s (codeT h k).1 ∧ s + (codeT h k).1.length < ps.length ∧ (r.len = 0 → Seg ps r (i + 1) (s + (codeT h k).1.length)) ∧ (0 < r.len → ps[s + (codeT h k).1.length]? = some ⟨7, (ps.length : Nat), (i : Nat), 0, 0, []⟩ ∧ Seg ps r (i + 1) (s + (codeT h k).1.length + 1))
theorem codeT_yes {h : Hd} {k : Trees} (m : mayE h k = 0) : codeT h k = valT h k 0 [] := if_pos m
theorem opsAt_val {h : Hd} {k : Trees} (m : mayE h k = 0) {pre post : List PI} (n : Nat) (cs : List PV) : OpsAt (pre ++ ((valT h k n cs).1 ++ post)) pre.length (codeT h k).1 := fun i x hx => by
  obtain ⟨a, ha⟩ := ops_valT h k
  rw [codeT_yes m] at hx
  have h1 := ha 0 []
  have h2 := ha n cs
  have e : ((valT h k n cs).1.map fun p => p.op)[i]? = some x.op := by
    rw [h2, ← h1, List.getElem?_map, hx]; rfl
  rw [List.getElem?_map, Option.map_eq_some_iff] at e
  obtain ⟨y, hy, hop⟩ := e
  have hl := (List.getElem?_eq_some_iff.1 hy).1
  exact ⟨y, by rw [List.getElem?_append_right (by omega), show pre.length + i - pre.length = i by omega, List.getElem?_append_left hl]; exact hy, hop⟩
theorem len_val {h : Hd} {k : Trees} (m : mayE h k = 0) (n : Nat) (cs : List PV) : (codeT h k).1.length = (valT h k n cs).1.length := by
  obtain ⟨a, ha⟩ := ops_valT h k
  rw [codeT_yes m, ha.len, ha.len]
def AllM : Trees → Prop
  | .nil => True
  | .cons h k r => mayE h k = 0 ∧ AllM r
theorem kcs_nil {r : Trees} (h : r.len = 0) : r = .nil := by
  cases r with
  | nil => rfl
  | cons h k r => simp [Trees.len] at h
theorem seg_vals (E : Int) (x : PI) : ∀ (ks : Trees) (b n : Nat) (cs : List PV) (pre ps : List PI), AllM ks → ps = pre ++ ((valsF E (b : Int) (kcs ks) n cs).1 ++ [x]) → pre.length = n → E = (ps.length : Nat) → Seg ps ks b n
  | .nil, b, n, cs, pre, ps, _, e, hn, _ => by
    simp only [kcs, valsF, nilF, List.nil_append] at e
    simp only [Seg, e, List.length_append, List.length_singleton]
    omega
  | .cons h k .nil, b, n, cs, pre, ps, ⟨m, _⟩, e, hn, hE => by
    simp only [kcs, valsF] at e
    have e : ps = pre ++ ((valT h k n cs).1 ++ [x]) := e
    have hl := len_val m n cs
    have hp : ps.length = n + ((codeT h k).1.length + 1) := by rw [e, hl]; simp only [List.length_append, List.length_singleton]; omega
    refine ⟨m, ?_, by omega, fun _ => by show _ + 1 = ps.length; omega, fun q => by simp [Trees.len] at q⟩
    rw [e, ← hn]
    exact opsAt_val m _ cs
  | .cons h k (.cons h2 k2 r), b, n, cs, pre, ps, ⟨m, hm⟩, e, hn, hE => by
    have e : ps = pre ++ (((valT h k n cs).1 ++ ([⟨7, E, (b : Int), 0, 0, []⟩] ++ (valsF E ((b : Int) + 1) (kcs (.cons h2 k2 r)) (n + (valT h k n cs).1.length + 1) (valT h k n cs).2).1)) ++ [x]) := e
    have hl := len_val m n cs
    have e2 : ps = (pre ++ ((valT h k n cs).1 ++ [⟨7, E, (b : Int), 0, 0, []⟩])) ++ ((valsF E ((b + 1 : Nat) : Int) (kcs (.cons h2 k2 r)) (n + (valT h k n cs).1.length + 1) (valT h k n cs).2).1 ++ [x]) := by
      rw [e, Int.natCast_add, Int.natCast_one]
      simp only [List.append_assoc]
    have hp : n + (codeT h k).1.length < ps.length := by rw [e2, hl]; simp only [List.length_append, List.length_singleton]; omega
    refine ⟨m, ?_, hp, fun q => by simp [Trees.len] at q, fun _ => ⟨?_, ?_⟩⟩
    · rw [e, List.append_assoc, ← hn]
      exact opsAt_val m _ cs
    · rw [← hE, hl, e, List.getElem?_append_right (by omega), show n + (valT h k n cs).1.length - pre.length = (valT h k n cs).1.length by omega, List.append_assoc, List.getElem?_append_right (Nat.le_refl _), Nat.sub_self]
      rfl
    · rw [hl]
      exact seg_vals E x (.cons h2 k2 r) (b + 1) _ _ _ ps hm e2 (by simp only [List.length_append, List.length_singleton]; omega) hE
theorem deep_le : ∀ {h : Hd} {k r : Trees}, 1 + k.deep ≤ (Trees.cons h k r).deep := by intro h k r; simp only [Trees.deep]; omega
theorem allM_of : ∀ {ks : Trees} {d b : Nat}, ks.nodes ≤ 511 → ks.deep ≤ d → d ≤ 63 → ks.bytes ≤ b → b ≤ 16384 → allFits ks = true → AllM ks
  | .nil, _, _, _, _, _, _, _, _ => trivial
  | .cons h k r, d, b, hn, hd, hd2, hb, hb2, hf => by
    unfold allFits at hf
    simp only [Bool.and_eq_true] at hf
    simp only [Trees.nodes] at hn
    simp only [Trees.deep] at hd
    simp only [Trees.bytes] at hb
    refine ⟨?_, allM_of (d := d) (b := b) (by omega) (by omega) hd2 (by omega) hb2 hf.2⟩
    unfold mayE
    rw [if_pos (show Fine h k from ⟨by omega, by omega, by omega⟩), if_pos (by unfold treeFits; rw [hf.1.1, hf.1.2]; rfl)]
/-- An operation's last instruction. -/
def lastI (h : Hd) (n : Nat) : PI := if h.kind = 7 then ⟨4, h.op, 0, 0, 0, []⟩ else if h.kind = 8 then ⟨5, h.op, 0, 0, 0, []⟩ else ⟨6, h.fn, (n : Nat), 0, 0, []⟩
theorem parts_of {h : Hd} {ks : Trees} (m : mayE h ks = 0) (hk : h.kind = 7 ∨ h.kind = 8 ∨ (h.kind = 9 ∧ ((infoRow h.fn).cls = 1 ∨ (infoRow h.fn).cls = 2))) : Seg (codeT h ks).1 ks 0 0 ∧ (codeT h ks).1[(codeT h ks).1.length - 1]? = some (lastI h ks.len) ∧ 0 < (codeT h ks).1.length := by
  obtain ⟨f, F, fit, hn, an⟩ := goodT m
  obtain ⟨f1, f2, f3⟩ := id f
  have AM : AllM ks := allM_of (d := 63) (b := 16384) (by omega) (by omega) (Nat.le_refl _) (by omega) (Nat.le_refl _) fit
  have key : ∃ E : Int, (valT h ks 0 []).1 = (valsF E 0 (kcs ks) 0 []).1 ++ [lastI h ks.len] ∧ E = ((valT h ks 0 []).1.length : Nat) := by
    unfold valT valF lastI
    rcases hk with k | k | ⟨k, c⟩
    · rw [if_neg (by omega), if_neg (by omega), if_neg (by omega), if_neg (by omega), if_neg (by omega), if_neg (by omega), if_pos k, if_pos k]
      have hl := (F.k7 k).2.2
      match ks, hl with
      | .cons h1 k1 r, hl =>
        obtain rfl := kcs_nil (r := r) (by simpa [Trees.len] using hl)
        exact ⟨_, rfl, rfl⟩
    · rw [if_neg (by omega), if_neg (by omega), if_neg (by omega), if_neg (by omega), if_neg (by omega), if_neg (by omega), if_neg (by omega), if_pos k, if_neg (by omega), if_pos k]
      have hl := (F.k8 k).2.2
      match ks, hl with
      | .cons h1 k1 (.cons h2 k2 r), hl =>
        obtain rfl := kcs_nil (r := r) (by simpa [Trees.len] using hl)
        refine ⟨_, ?_, rfl⟩
        simp only [kcs, seqF, headF, insF, valsF, nth, List.getD_cons_zero, List.getD_cons_succ, List.append_assoc, List.length_append, List.length_singleton, Nat.zero_add]
        refine congrArg _ (congrArg (· ++ _) (congrArg (fun z : Int => [(⟨7, z, 0, 0, 0, []⟩ : PI)]) ?_))
        omega
    · rw [if_neg (by omega), if_neg (by omega), if_neg (by omega), if_neg (by omega), if_neg (by omega), if_neg (by omega), if_neg (by omega), if_neg (by omega), if_neg (by omega), if_neg (by omega)]
      unfold callF
      rw [clsOf_call k, if_pos c, kcs_len]
      refine ⟨((0 + (valsF 0 0 (kcs ks) 0 []).1.length + 1 : Nat) : Int), rfl, ?_⟩
      simp only [endF, seqF, insF, List.length_append, List.length_singleton]
      rw [vals_len (ops_kcs ks) ((0 + (valsF 0 0 (kcs ks) 0 []).1.length + 1 : Nat) : Int)]
      omega
  obtain ⟨E, h1, h2⟩ := key
  rw [codeT_yes m]
  refine ⟨seg_vals E (lastI h ks.len) ks 0 0 [] [] _ AM (by rw [List.nil_append]; exact h1) rfl h2, ?_, by rw [h1]; simp⟩
  rw [h1]
  simp only [List.length_append, List.length_singleton, Nat.add_sub_cancel]
  rw [List.getElem?_append_right (Nat.le_refl _), Nat.sub_self]
  rfl
end Go.Proofs.YtlmpiobdgkmmgaaGreatDoor
