/- Law 17: sizes; trees as arguments. -/
import Derived.Test.YtlmpiobdgkmmgaaGreatDoorKeA
import Derived.Test.YtlmpiobdgkmmgaaGreatDoorKcA
import Derived.ProofKit
import Derived.SizedLaws
import Derived.OpenShut
import Derived.Test.YtlmpiobdgkmmgaaGreatDoorKcP
set_option maxRecDepth 1000000
set_option maxHeartbeats 16000000
namespace Go.Proofs.YtlmpiobdgkmmgaaGreatDoor
open Go.RowKit
theorem longS_app (a b : List PI) : longS (a ++ b) = longS a + longS b := by simp [longS]
theorem longS_cons (p : PI) (b : List PI) : longS (p :: b) = p.t.length + longS b := by simp [longS]
def OpOk (l : List PI) : Prop := ∀ p ∈ l, 1 ≤ p.op ∧ p.op ≤ 20
theorem OpOk.app {a b : List PI} (h : OpOk a) (k : OpOk b) : OpOk (a ++ b) := fun p hp => (List.mem_append.1 hp).elim (h p) (k p)
theorem OpOk.cons {x : PI} {b : List PI} (h : 1 ≤ x.op ∧ x.op ≤ 20) (k : OpOk b) : OpOk (x :: b) := fun p hp => (List.mem_cons.1 hp).elim (fun e => e ▸ h) (k p)
theorem OpOk.nil : OpOk [] := fun p hp => by simp at hp
def FS (f : CF) (m : Nat) : Prop := ∀ n cs, (f n cs).1.length ≤ m ∧ longS (f n cs).1 ≤ m ∧ OpOk (f n cs).1 ∧ (f n cs).2.length ≤ cs.length + (f n cs).1.length
theorem FS.mono {f : CF} {m m' : Nat} (h : FS f m) (hm : m ≤ m') : FS f m' := fun n cs => ⟨Nat.le_trans (h n cs).1 hm, Nat.le_trans (h n cs).2.1 hm, (h n cs).2.2⟩
theorem fs_nil : FS nilF 0 := fun _ _ => ⟨Nat.le_refl _, Nat.le_refl _, OpOk.nil, Nat.le_refl _⟩
theorem fs_ins (x : PI) (ht : x.t = []) (ho : 1 ≤ x.op ∧ x.op ≤ 20) : FS (insF x) 1 := fun _ _ => ⟨Nat.le_refl _, by simp [insF, longS, ht], OpOk.nil.cons ho, Nat.le_succ _⟩
theorem fs_con (v : PV) : FS (conF v) 1 := fun _ cs => ⟨Nat.le_refl _, by simp [conF, longS], OpOk.nil.cons ⟨by simp, by simp⟩, pushC_len cs v⟩
theorem fs_err (e : Int) : FS (errF e) 1 := fs_con _
theorem fs_seq {f g : CF} {a c : Nat} (h : FS f a) (k : FS g c) : FS (seqF f g) (a + c) := fun n cs => by
 have h1 := h n cs
 have h2 := k (n + (f n cs).1.length) (f n cs).2
 unfold seqF
 refine ⟨by simp only [List.length_append]; omega, by simp only [longS_app]; omega, h1.2.2.1.app h2.2.2.1, by simp only [List.length_append]; omega⟩
theorem fs_end {F : Int → CF} {x : PI} {m : Nat} (ht : x.t = []) (ho : 1 ≤ x.op ∧ x.op ≤ 20) (h : ∀ e, FS (F e) m) : FS (endF F x) (m + 1) := fun n cs => fs_seq (h _) (fs_ins x ht ho) n cs
theorem fs_head {F : Int → CF} {x : Int → PI} {m : Nat} (ht : ∀ e, (x e).t = []) (ho : ∀ e, 1 ≤ (x e).op ∧ (x e).op ≤ 20) (h : ∀ e, FS (F e) m) : FS (headF F x) (m + 1) := fun n cs => (fs_seq (fs_ins _ (ht _) (ho _)) (h _)).mono (by omega) n cs
theorem fs_arm {e : Int} {f : CF} {m : Nat} (h : FS f m) : FS (armF e f) (m + 2) := fun n cs => by
 have h1 := h (n + 1) cs
 unfold armF
 refine ⟨by simp only [List.length_cons, List.length_append, List.length_nil]; omega, by simp only [longS_app, longS_cons, List.length_nil]; simp [longS] at h1 ⊢; omega, OpOk.cons ⟨by simp, by simp⟩ (h1.2.2.1.app (OpOk.nil.cons ⟨by simp, by simp⟩)), by simp only [List.length_cons, List.length_append, List.length_nil]; omega⟩
def KS (k : KC) (m : Nat) : Prop := ∃ v a, FS k.v v ∧ FS k.a a ∧ v + 2 ≤ 5 * m ∧ a + 3 ≤ 5 * m
def KSs : List KC → Nat → Prop
 | [], _ => True
 | k :: r, m => ∃ a c, a + c ≤ m ∧ KS k a ∧ KSs r c
theorem fs_vals (e : Int) : ∀ (l : List KC) (m : Nat) (b : Int), KSs l m → ∃ c, FS (valsF e b l) c ∧ c + l.length ≤ 5 * m
 | [], m, _, _ => ⟨0, fs_nil, by simp⟩
 | [k], m, _, ⟨a, c, h, ⟨v, _, h1, _, h2, _⟩, _⟩ => ⟨v, h1, by simp; omega⟩
 | k :: k2 :: r, m, b, ⟨a, c, h, ⟨v, _, h1, _, h2, _⟩, hr⟩ => by
  obtain ⟨c1, h3, h4⟩ := fs_vals e (k2 :: r) c (b + 1) hr
  refine ⟨v + (1 + c1), fs_seq h1 (fs_seq (fs_ins _ rfl ⟨by simp, by simp⟩) h3), ?_⟩
  simp only [List.length_cons] at h4 ⊢
  omega
theorem fs_walk (e : Int) : ∀ (l : List KC) (m : Nat) (i : Int), KSs l m → ∃ c, FS (walkF e i l) c ∧ c + l.length ≤ 5 * m
 | [], m, _, _ => ⟨0, fs_nil, by simp⟩
 | k :: r, m, i, ⟨a, c, h, ⟨v, w, h1, h5, h2, h6⟩, hr⟩ => by
  obtain ⟨c1, h3, h4⟩ := fs_walk e r c (i + 1) hr
  by_cases q : isAr k = true
  ·refine ⟨w + 1 + c1, fs_seq (by rw [if_pos q]; exact fs_seq h5 (fs_ins _ rfl ⟨by simp, by simp⟩)) h3, ?_⟩
   simp only [List.length_cons] at h4 ⊢
   omega
  ·refine ⟨v + c1, fs_seq (by rw [if_neg q]; exact h1) h3, ?_⟩
   simp only [List.length_cons] at h4 ⊢
   omega
theorem fs_chs (e : Int) : ∀ (l : List KC) (m : Nat), KSs l m → ∃ c, FS (chsF e l) c ∧ c + l.length ≤ 5 * m
 | [], m, _ => ⟨0, fs_nil, by simp⟩
 | [k], m, ⟨a, c, h, ⟨v, _, h1, _, h2, _⟩, _⟩ => ⟨v, h1, by simp; omega⟩
 | k :: k2 :: r, m, ⟨a, c, h, ⟨v, _, h1, _, h2, _⟩, hr⟩ => by
  obtain ⟨c1, h3, h4⟩ := fs_chs e (k2 :: r) c hr
  refine ⟨v + (1 + c1), fs_seq h1 (fs_seq (fs_ins _ rfl ⟨by simp, by simp⟩) h3), ?_⟩
  simp only [List.length_cons] at h4 ⊢
  omega
theorem fs_sw (e : Int) : ∀ (l : List KC) (m : Nat), KSs l m → ∃ c, FS (swF e l) c ∧ c ≤ 5 * m + 2
 | [], m, _ => ⟨2, fs_seq (fs_ins _ rfl ⟨by simp, by simp⟩) (fs_err _), by omega⟩
 | [k], m, ⟨a, c, h, ⟨v, _, h1, _, h2, _⟩, _⟩ => ⟨1 + v, fs_seq (fs_ins _ rfl ⟨by simp, by simp⟩) h1, by omega⟩
 | k :: k2 :: r, m, ⟨a, c, h, ⟨v, _, h1, _, h2, _⟩, ⟨a2, c2, h', ⟨v2, _, h1', _, h2', _⟩, hr⟩⟩ => by
  obtain ⟨c1, h3, h4⟩ := fs_sw e r c2 hr
  exact ⟨v + (1 + (v2 + 2 + c1)), fs_seq h1 (fs_seq (fs_ins _ rfl ⟨by simp, by simp⟩) (fs_seq (fs_arm h1') h3)), by omega⟩
theorem kss_mono : ∀ {l : List KC} {m m' : Nat}, KSs l m → m ≤ m' → KSs l m'
 | [], _, _, _, _ => trivial
 | _ :: _, _, _, ⟨a, c, h, k, r⟩, hm => ⟨a, c, by omega, k, r⟩
theorem ks_nil : FS (nth [] 0).v 0 ∧ FS (nth [] 0).a 0 := ⟨fs_nil, fs_nil⟩
theorem kss_first : ∀ {l : List KC} {m : Nat}, KSs l m → ∃ v a c m', FS (nth l 0).v v ∧ FS (nth l 0).a a ∧ KSs l.tail c ∧ v ≤ m' ∧ a ≤ m' ∧ m' + 5 * c ≤ 5 * m
 | [], m, _ => ⟨0, 0, m, 0, fs_nil, fs_nil, trivial, Nat.le_refl _, Nat.le_refl _, by omega⟩
 | k :: r, m, ⟨a, c, h, ⟨v, w, h1, h2, h3, h4⟩, hr⟩ => ⟨v, w, c, 5 * a, h1, h2, hr, by omega, by omega, by omega⟩
theorem fs_if {l : List KC} {m : Nat} (h : KSs l m) : ∃ v c, FS (nth l 0).v v ∧ FS (ifF l) c ∧ v + c ≤ 5 * m + 3 := by
 obtain ⟨v0, _, c0, m0, h0, _, k0, e0, _, g0⟩ := kss_first h
 obtain ⟨v1, _, c1, m1, h1, _, k1, e1, _, g1⟩ := kss_first k0
 obtain ⟨v2, _, c2, m2, h2, _, k2, e2, _, g2⟩ := kss_first k1
 rw [nth_tail] at h1
 rw [nth_tail, nth_tail] at h2
 simp only [Nat.zero_add, Nat.reduceAdd] at h1 h2
 have hs : FS (elseF l) (v2 + 1) := by
  unfold elseF
  split
  ·exact h2.mono (by omega)
  ·exact (fs_con _).mono (by omega)
 refine ⟨v0, v1 + (v2 + 1) + 2, h0, fun n cs => ?_, by omega⟩
 have q1 := h1 (n + 1) cs
 have q2 := hs (n + 1 + ((nth l 1).v (n + 1) cs).1.length + 1) ((nth l 1).v (n + 1) cs).2
 unfold ifF
 refine ⟨by simp only [List.length_cons, List.length_append]; omega, ?_, OpOk.cons ⟨by simp, by simp⟩ (q1.2.2.1.app (OpOk.cons ⟨by simp, by simp⟩ q2.2.2.1)), by simp only [List.length_cons, List.length_append]; omega⟩
 simp only [longS_cons, longS_app, List.length_nil]
 omega
theorem chsT_len : ∀ (l : List KC) (n : Nat) (cs : List PV), (chsT l n cs).length = l.length
 | [], _, _ => rfl
 | [_], _, _ => rfl
 | k :: k2 :: r, n, cs => by simp only [chsT, List.length_cons, chsT_len (k2 :: r)]
theorem fs_choose {l : List KC} {m : Nat} (h : ∀ e, ∃ c, FS (chsF e l) c ∧ c + l.length ≤ m) : FS (fun n cs => headF (fun e => chsF e l) (fun e => ⟨10, e, 0, 0, 0, chsT l (n + 1) cs⟩) n cs) (m + 1) := fun n cs => by
 obtain ⟨c, h1, h2⟩ := h ((n + 1 + (chsF 0 l (n + 1) cs).1.length : Nat) : Int)
 have h3 := h1 (n + 1) cs
 unfold headF seqF insF
 simp only [List.length_singleton]
 refine ⟨by simp only [List.length_append, List.length_singleton]; omega, ?_, OpOk.app (OpOk.nil.cons ⟨by simp, by simp⟩) h3.2.2.1, by simp only [List.length_append, List.length_singleton]; omega⟩
 rw [longS_app, longS_cons]
 simp only [chsT_len]
 simp [longS] at h3 ⊢
 omega
theorem fs_lazy (h : Hd) {l : List KC} {m : Nat} (hk : KSs l m) : FS (lazyF h l) (5 * m + 3) := by
 obtain ⟨v0, _, c0, m0, h0, _, k0, e0, _, g0⟩ := kss_first hk
 obtain ⟨v1, _, c1, m1, h1, _, k1, e1, _, g1⟩ := kss_first k0
 rw [nth_tail] at h1
 unfold lazyF
 by_cases a1 : h.fn = 42
 ·rw [if_pos a1]
  obtain ⟨v, c, q1, q2, q3⟩ := fs_if hk
  exact (fs_seq q1 q2).mono (by omega)
 rw [if_neg a1]
 by_cases a2 : h.fn = 43 ∨ h.fn = 44
 ·rw [if_pos a2]
  exact (fs_seq h0 (fs_head (fun _ => rfl) (fun _ => ⟨by simp, by simp⟩) fun _ => h1)).mono (by omega)
 rw [if_neg a2]
 by_cases a3 : h.fn = 45
 ·rw [if_pos a3]
  have q : ∀ e, ∃ c, FS (chsF e l.tail) c ∧ c + l.tail.length ≤ 5 * c0 := fun e => fs_chs e l.tail c0 k0
  exact (fs_seq h0 (fs_choose q)).mono (by omega)
 ·rw [if_neg a3]
  have q : ∀ e, FS (swF e l.tail) (5 * c0 + 2) := fun e => by
   obtain ⟨c, q1, q2⟩ := fs_sw e l.tail c0 k0
   exact q1.mono (by omega)
  exact (fs_seq h0 (fs_head (fun _ => rfl) (fun _ => ⟨by simp, by simp⟩) q)).mono (by omega)
theorem fs_rc (r : Rc) : FS (rcF r) 1 := by
 unfold rcF
 split
 ·exact (fs_ins _ rfl ⟨by simp, by simp⟩)
 ·exact fs_err _
theorem fs_area (h : Hd) {l : List KC} {m : Nat} (hk : KSs l m) : FS (areaF h l) (5 * m + 2) := by
 obtain ⟨v0, a0, c0, m0, h0, h0', k0, e0, e0', g0⟩ := kss_first hk
 unfold areaF
 split
 ·exact (fs_rc _).mono (by omega)
 split
 ·exact (fs_rc _).mono (by omega)
 split
 ·exact (fs_err _).mono (by omega)
 split
 ·exact (fs_err _).mono (by omega)
 split
 ·exact (fs_seq h0 (fs_ins _ rfl ⟨by simp, by simp⟩)).mono (by omega)
 ·have q : ∀ e : Int, FS (valsF (e + 1) 1 l.tail) (5 * c0) := fun e => by
   obtain ⟨c, q1, q2⟩ := fs_vals (e + 1) l.tail c0 1 k0
   exact q1.mono (by omega)
  exact (fs_seq h0' (fun n cs => fs_seq (fs_head (x := fun e => ⟨7, e + 1, 0, 0, 0, []⟩) (fun _ => rfl) (fun _ => ⟨by simp, by simp⟩) q) (fs_ins _ rfl (by show (1 : Int) ≤ (if h.fn = 53 then 19 else 18) ∧ (if h.fn = 53 then 19 else 18) ≤ (20 : Int); split <;> omega)) n cs)).mono (by omega)
theorem fs_call (h : Hd) {l : List KC} {m : Nat} (hk : KSs l m) : FS (callF h l) (5 * m + 3) := by
 obtain ⟨v0, a0, c0, m0, h0, h0', k0, e0, e0', g0⟩ := kss_first hk
 unfold callF
 split
 ·have q : ∀ e : Int, FS (valsF e 0 l) (5 * m) := fun e => by
   obtain ⟨c, q1, q2⟩ := fs_vals e l m 0 hk
   exact q1.mono (by omega)
  exact (fs_end rfl ⟨by simp, by simp⟩ q).mono (by omega)
 split
 ·exact fs_lazy h hk
 split
 ·split
  ·exact (fs_ins _ rfl ⟨by simp, by simp⟩).mono (by omega)
  ·exact (fs_seq h0' (fs_ins _ rfl ⟨by simp, by simp⟩)).mono (by omega)
 split
 ·exact (fs_seq (fs_area h hk) (fs_ins _ rfl ⟨by simp, by simp⟩)).mono (by omega)
 ·have q : ∀ e : Int, FS (walkF e 0 l) (5 * m) := fun e => by
   obtain ⟨c, q1, q2⟩ := fs_walk e l m 0 hk
   exact q1.mono (by omega)
  exact (fs_end rfl ⟨by simp, by simp⟩ q).mono (by omega)
theorem fs_val (h : Hd) {l : List KC} {m : Nat} (hk : KSs l m) : FS (valF h l) (5 * m + 3) := by
 obtain ⟨v0, a0, c0, m0, h0, h0', k0, e0, e0', g0⟩ := kss_first hk
 obtain ⟨v1, _, c1, m1, h1, _, k1, e1, _, g1⟩ := kss_first k0
 rw [nth_tail] at h1
 unfold valF
 split
 ·exact (fs_con _).mono (by omega)
 split
 ·exact (fs_con _).mono (by omega)
 split
 ·exact (fs_con _).mono (by omega)
 split
 ·exact (fs_err _).mono (by omega)
 split
 ·exact (fs_ins _ rfl ⟨by simp, by simp⟩).mono (by omega)
 split
 ·exact (fs_err _).mono (by omega)
 split
 ·exact (fs_seq h0 (fs_ins _ rfl ⟨by simp, by simp⟩)).mono (by omega)
 split
 ·exact (fs_seq h0 (fs_head (fun _ => rfl) (fun _ => ⟨by simp, by simp⟩) fun _ => fs_seq h1 (fs_ins _ rfl ⟨by simp, by simp⟩))).mono (by omega)
 ·exact fs_call h hk
theorem kss_kcs : ∀ ks : Trees, KSs (kcs ks) ks.nodes
 | .nil => trivial
 | .cons h k r => ⟨1 + k.nodes, r.nodes, Nat.le_refl _, ⟨5 * k.nodes + 3, 5 * k.nodes + 2, fs_val h (kss_kcs k), fs_area h (kss_kcs k), by omega, by omega⟩, kss_kcs r⟩
theorem fs_valT (h : Hd) (ks : Trees) : FS (valT h ks) (5 * ks.nodes + 3) := fs_val h (kss_kcs ks)
theorem fs_areaT (h : Hd) (ks : Trees) : FS (areaT h ks) (5 * ks.nodes + 2) := fs_area h (kss_kcs ks)
theorem FS.long {f : CF} {m : Nat} (h : FS f m) (n : Nat) (cs : List PV) : longS (f n cs).1 ≤ m := (h n cs).2.1
theorem codeT_size (h : Hd) (ks : Trees) : (codeT h ks).1.length ≤ 5 * (1 + ks.nodes) ∧ longS (codeT h ks).1 ≤ 5 * (1 + ks.nodes) ∧ OpOk (codeT h ks).1 ∧ (codeT h ks).2.length ≤ 5 * (1 + ks.nodes) := by
 unfold codeT
 split
 ·have := fs_valT h ks 0 []
  unfold valT at this ⊢
  simp only [List.length_nil, Nat.zero_add] at this
  exact ⟨by omega, by omega, this.2.2.1, by omega⟩
 ·exact ⟨by simp, by simp [longS], OpOk.nil, by simp⟩
theorem codeT_none {h : Hd} {ks : Trees} (m : mayE h ks ≠ 0) : codeT h ks = ([], []) := by
 unfold codeT
 rw [if_neg m]
theorem CodeV.ofT {b b' : Nat} {W : World} {vI vC : Value} {h : Hd} {ks : Trees} (c : CodeV b W vI vC (codeT h ks).1 (codeT h ks).2) (hb : W.heap.size ≤ b') (f : mayE h ks = 0 → 1 + ks.nodes ≤ 100000) : CodeA W b' vI vC (codeT h ks).1 (codeT h ks).2 := by
 by_cases m : mayE h ks = 0
 ·obtain ⟨h1, h2, h3, h4⟩ := codeT_size h ks
  have := f m
  refine c.toA hb (fun p hp => ?_) (by omega) (by omega) (by omega)
  have q := h3 p hp
  show (Lit.int .i64 p.op).wf = true
  simp only [Lit.wf, IntKind.min, IntKind.max, IntKind.signed, IntKind.bits, Bool.and_eq_true, decide_eq_true_eq, if_true]
  omega
 ·rw [codeT_none m] at c ⊢
  exact c.toA hb (fun p hp => by simp at hp) (by simp) (by simp) (by simp [longS])
theorem may_nodes {h : Hd} {ks : Trees} (m : mayE h ks = 0) : 1 + ks.nodes ≤ 512 := by
 unfold mayE at m
 split at m
 ·rename_i f; exact f.1
 ·cases m
end Go.Proofs.YtlmpiobdgkmmgaaGreatDoor
namespace Go.Proofs.YtlmpiobdgkmmgaaGreatDoor
open Go.RowKit
theorem cellsInt : Tryz.prog.cellsOf 3 = 1 := by kernel_rfl
theorem cellsI64 : Tryz.prog.cellsOf 2 = 1 := by kernel_rfl
theorem cellsBool : Tryz.prog.cellsOf 4 = 1 := by kernel_rfl
theorem cellsString : Tryz.prog.cellsOf 9 = 1 := by kernel_rfl
theorem cellsRef : Tryz.prog.cellsOf 32 = 4 := by kernel_rfl
theorem cellsExpr : Tryz.prog.cellsOf 34 = 14 := by kernel_rfl
theorem cellsExprs : Tryz.prog.cellsOf 22 = 1 := by kernel_rfl
theorem cell_lt {w : World} {a : Addr} {v : Value} (h : w.cell? a = some v) : a.block < w.heap.size ∧ a.spot = none := by
 unfold World.cell? at h
 split at h
 ·rename_i hb
  refine ⟨(Array.getElem?_eq_some_iff.1 hb).1, ?_⟩
  cases hs : a.spot with
  | none => rfl
  | some _ => simp [hs] at h
 ·cases h
theorem addr_add (b o n : Nat) : (⟨b, o, none⟩ : Addr).add n = ⟨b, o + n, none⟩ := by unfold Addr.add; split <;> simp_all
theorem cells_get {w : World} {base : Nat} {a : Addr} {n : Nat} {cs : List Value} (h : w.cells? base a n = some cs) : cs.length = n ∧ ∀ i, i < n → w.cell? (a.add i) = cs[i]? := by
 unfold World.cells? at h
 split at h
 ·exact ⟨by simpa using mapM_some_length h, fun i hi => mapM_some_get h i i (by simp [hi])⟩
 ·cases h
section
variable {H : Type} {enc : TypeId × Value → H} {W : World} {base : Nat} {sp : Nat → Bool} {held : Bool}
theorem fieldAt {fs : Array Field} {cs : List Value} {xs : List (DataW H × List MemPlace)} {n : Nat} (hf : ∀ (i : Nat) (f : Field), fs[i]? = some f → DataW.trod enc Tryz.prog W base sp held n f.type ((cs.drop f.offset).take (Tryz.prog.cellsOf f.type)) = xs[i]?)
 (i : Nat) (T : TypeId) (off : Nat) (e : (fs[i]?).map (fun f => (f.type, f.offset)) = some (T, off)) : DataW.trod enc Tryz.prog W base sp held n T ((cs.drop off).take (Tryz.prog.cellsOf T)) = xs[i]? := by
 obtain ⟨f, h1, h2⟩ := Option.map_eq_some_iff.1 e
 simp only [Prod.mk.injEq] at h2
 obtain ⟨rfl, rfl⟩ := h2
 exact hf i f h1
theorem i64_of {n : Int} (h : (Lit.int .i64 n).wf = true) : I64 n := bounds_i64 h
theorem ref_of_trod {fuel : Nat} {cs : List Value} {y : DataW H × List MemPlace} (h : DataW.trod enc Tryz.prog W base sp held fuel 32 cs = some y) :
 ∃ r : RefT, cs = [.int .i64 r.row, .int .i64 r.col, .bool r.pr, .bool r.pc] ∧ I64 r.row ∧ I64 r.col := by
 obtain ⟨xs, n, rfl, rfl, hl, hn, hf⟩ := DataW.trod_struct Tryz.underlying32 h
 rw [cellsRef] at hl
 match cs, hl, xs, hn with
 | [c0, c1, c2, c3], _, [x0, x1, x2, x3], _ =>
  have f0 := fieldAt hf 0 3 0 rfl; have f1 := fieldAt hf 1 3 1 rfl; have f2 := fieldAt hf 2 4 2 rfl; have f3 := fieldAt hf 3 4 3 rfl
  simp only [cellsInt, cellsBool, List.drop, List.take, List.getElem?_cons_zero, List.getElem?_cons_succ] at f0 f1 f2 f3
  obtain ⟨a, e0, -, w0⟩ := DataW.trod_int Tryz.underlying3 f0
  obtain ⟨b, e1, -, w1⟩ := DataW.trod_int Tryz.underlying3 f1
  obtain ⟨c, e2, -⟩ := DataW.trod_bool Tryz.underlying4 f2
  obtain ⟨d, e3, -⟩ := DataW.trod_bool Tryz.underlying4 f3
  simp only [List.cons.injEq, and_true] at e0 e1 e2 e3
  subst e0 e1 e2 e3
  exact ⟨⟨a, b, c, d⟩, rfl, i64_of w0, i64_of w1⟩
theorem rowIn_of {w : World} {B b off : Nat} : ∀ (n j : Nat), (∀ i, j ≤ i → i < j + n → b < B ∧ ∃ h ks ka kl kc, NodeAt w b (off + i * 14) h (.slice ka kl kc) ∧ TreeV w B h ks ka kl) →
 ∃ ts : Trees, ts.len = n ∧ RowIn w B ts (some ⟨b, off, none⟩) j
 | 0, _, _ => ⟨.nil, rfl, trivial⟩
 | n + 1, j, h => by
  obtain ⟨hb, hd, ks, ka, kl, kc, N, tv⟩ := h j (Nat.le_refl _) (by omega)
  obtain ⟨ts, hl, hr⟩ := rowIn_of n (j + 1) fun i h1 h2 => h i (by omega) (by omega)
  exact ⟨.cons hd ks ts, by simp [Trees.len, hl], ⟨b, off, ka, kl, kc, rfl, hb, N, tv.len, tv.max, tv.ok, tv.row⟩, hr⟩
theorem weights_all_mem {P : Program} {e : TypeId} : ∀ {l : List (DataW H)} {d : DataW H}, d ∈ l → ∀ n ∈ d.weights P e, n ∈ DataW.weightsAll P e l
 | x :: r, d, hd, n, hn => by
  simp only [DataW.weightsAll, List.mem_append]
  rcases List.mem_cons.1 hd with rfl | hd
  ·exact .inl hn
  ·exact .inr (weights_all_mem hd n hn)
theorem tree_of_trod : ∀ (fuel : Nat) {cs : List Value} {y : DataW H × List MemPlace}, DataW.trod enc Tryz.prog W base sp held fuel 34 cs = some y → (∀ n ∈ y.1.weights Tryz.prog 34, n ≤ reachBytes) →
 ∃ (h : Hd) (ks : Trees) (ka : Option Addr) (kl kc : Nat), cs = h.vals (.slice ka kl kc) ∧ TreeV W W.heap.size h ks ka kl := by
 intro fuel
 induction fuel using Nat.strongRecOn with
 | ind fuel ih =>
  intro cs y h hw
  obtain ⟨xs, n, rfl, rfl, hl, hn, hf⟩ := DataW.trod_struct Tryz.underlying34 h
  rw [cellsExpr] at hl
  match cs, hl, xs, hn with
  | [c0, c1, c2, c3, c4, c5, c6, c7, c8, c9, c10, c11, c12, c13], _, [x0, x1, x2, x3, x4, x5, x6, x7], _ =>
   have f0 := fieldAt hf 0 3 0 rfl; have f1 := fieldAt hf 1 3 1 rfl; have f2 := fieldAt hf 2 2 2 rfl; have f3 := fieldAt hf 3 9 3 rfl
   have f4 := fieldAt hf 4 32 4 rfl; have f5 := fieldAt hf 5 32 8 rfl; have f6 := fieldAt hf 6 3 12 rfl; have f7 := fieldAt hf 7 22 13 rfl
   simp only [cellsInt, cellsI64, cellsString, cellsRef, cellsExprs, List.drop, List.take, List.getElem?_cons_zero, List.getElem?_cons_succ] at f0 f1 f2 f3 f4 f5 f6 f7
   obtain ⟨a0, e0, -, w0⟩ := DataW.trod_int Tryz.underlying3 f0
   obtain ⟨a1, e1, -, w1⟩ := DataW.trod_int Tryz.underlying3 f1
   obtain ⟨a2, e2, -, w2⟩ := DataW.trod_int Tryz.underlying2 f2
   obtain ⟨s, e3, g3, -⟩ := DataW.trod_string Tryz.underlying9 f3
   obtain ⟨r, e4, w4, w4'⟩ := ref_of_trod f4
   obtain ⟨t, e5, w5, w5'⟩ := ref_of_trod f5
   obtain ⟨a6, e6, -, w6⟩ := DataW.trod_int Tryz.underlying3 f6
   simp only [List.cons.injEq, and_true] at e0 e1 e2 e3 e4 e5 e6
   obtain ⟨rfl, rfl, rfl, rfl⟩ := e4
   obtain ⟨rfl, rfl, rfl, rfl⟩ := e5
   subst e0 e1 e2 e3 e6
   have hwe : ∀ (j : Nat) (T : TypeId) (d : DataW H), [3, 3, 2, 9, 32, 32, 3, 22][j]? = some T → [x0.1, x1.1, x2.1, x3.1, x4.1, x5.1, x6.1, x7.1][j]? = some d →
    ∀ n ∈ d.weights Tryz.prog T, n ≤ reachBytes := by
    intro j T d hT hd n hn
    refine hw n ?_
    have := DataW.weights_mem_each (P := Tryz.prog) hT hd n hn
    simpa [DataW.weights, Tryz.underlying34] using this
   have hstr : s.data.toList.length ≤ 140737488351232 := by
    have := hwe 3 _ _ rfl rfl s.data.toList.length (by rw [g3]; simp [DataW.weights])
    simpa [reachBytes] using this
   have hs : s = ⟨s.data.toList.toArray⟩ := by cases s; simp
   have hok : Hd.ok ⟨a0, a1, a2, s.data.toList, r, t, a6⟩ := ⟨hstr, i64_of w0, i64_of w1, i64_of w2, w4, w4', w5, w5', i64_of w6⟩
   rcases DataW.trod_slice Tryz.underlying22 f7 with ⟨e7, -⟩ | ⟨a, len, cap, elems, rest, m, rfl, e7, g7, -, hlc, hcm, hlen, hel, -, -⟩
   ·simp only [List.cons.injEq, and_true] at e7
    subst e7
    exact ⟨⟨a0, a1, a2, s.data.toList, r, t, a6⟩, .nil, none, 0, 0, by simp only [Hd.vals, ← hs], ⟨rfl, by omega, hok, trivial⟩⟩
   ·simp only [List.cons.injEq, and_true] at e7
    subst e7
    have hmax : len ≤ 9223372036854775807 := by have : maxLen = 9223372036854775807 := rfl; omega
    have hkw : ∀ x ∈ elems, ∀ n ∈ x.1.weights Tryz.prog 34, n ≤ reachBytes := by
     intro x hx n hn
     refine hwe 7 _ _ rfl rfl n ?_
     rw [g7]
     simp only [DataW.weights, Tryz.underlying22, List.mem_cons, List.mem_append]
     exact .inr (.inl (weights_all_mem (List.mem_map_of_mem hx) n hn))
    rcases Nat.eq_zero_or_pos len with z | z
    ·subst z
     exact ⟨⟨a0, a1, a2, s.data.toList, r, t, a6⟩, .nil, some a, 0, cap, by simp only [Hd.vals, ← hs], ⟨rfl, by omega, hok, trivial⟩⟩
    have each : ∀ i, i < len → ∃ h ks ka kl kc, TreeV W W.heap.size h ks ka kl ∧ ∀ j v, (h.vals (.slice ka kl kc))[j]? = some v → W.cell? ((a.add (i * 14)).add j) = some v := by
     intro i hi
     obtain ⟨x, hx⟩ : ∃ x, elems[i]? = some x := ⟨elems[i]'(by omega), List.getElem?_eq_getElem _⟩
     have hb := hel i hi
     rw [hx, cellsExpr, Option.bind_eq_some_iff] at hb
     obtain ⟨cs', hcs, ht⟩ := hb
     obtain ⟨h', ks, ka, kl, kc, rfl, tv⟩ := ih m (Nat.lt_succ_of_lt (Nat.lt_succ_self _)) ht (hkw x (List.mem_of_getElem? hx))
     obtain ⟨hl', hc⟩ := cells_get hcs
     exact ⟨h', ks, ka, kl, kc, tv, fun j v hj => (hc j (by have := (List.getElem?_eq_some_iff.1 hj).1; simpa [Hd.vals] using this)).trans hj⟩
    obtain ⟨b, off, rfl, hb⟩ : ∃ b off, a = ⟨b, off, none⟩ ∧ b < W.heap.size := by
     obtain ⟨h', ks, ka, kl, kc, tv, hc⟩ := each 0 z
     have := cell_lt (hc 0 _ rfl)
     obtain ⟨b, off, spot⟩ := a
     simp only [Nat.zero_mul, Addr.add, if_true] at this
     obtain ⟨h1, rfl⟩ := this
     exact ⟨b, off, rfl, h1⟩
    obtain ⟨ts, hlt, hrow⟩ := rowIn_of (w := W) (B := W.heap.size) (b := b) (off := off) len 0 fun i _ hi => by
     obtain ⟨h', ks, ka, kl, kc, tv, hc⟩ := each i (by omega)
     exact ⟨hb, h', ks, ka, kl, kc, ⟨hb, fun j v hj => by have := hc j v hj; rw [addr_add, addr_add] at this; exact this⟩, tv⟩
    exact ⟨⟨a0, a1, a2, s.data.toList, r, t, a6⟩, ts, some ⟨b, off, none⟩, len, cap, by simp only [Hd.vals, ← hs], ⟨hlt.symm, hmax, hok, hrow⟩⟩
theorem treeArg {r : Reach} {v : Value} {d : DataW H} {p : List MemPlace} (hv : Value.okWide Tryz.prog W r base 34 v) (h : DataW.Trod enc Tryz.prog W 0 sp held 34 v d p) (hw : ∀ n ∈ d.weights Tryz.prog 34, n ≤ reachBytes) :
 ∃ (h : Hd) (ks : Trees) (ka : Option Addr) (kl kc : Nat), v = .agg #[.int .i64 h.kind, .int .i64 h.op, .int .i64 h.num, .string ⟨h.text.toArray⟩, .int .i64 h.ref.row, .int .i64 h.ref.col, .bool h.ref.pr, .bool h.ref.pc, .int .i64 h.to.row, .int .i64 h.to.col, .bool h.to.pr, .bool h.to.pc, .int .i64 h.fn, .slice ka kl kc] ∧ TreeV W W.heap.size h ks ka kl := by
 obtain ⟨cs, rfl, -⟩ := Go.WideShapes.okWide_struct Tryz.underlying34 hv
 obtain ⟨fuel, hf⟩ := h
 obtain ⟨hd, ks, ka, kl, kc, e, tv⟩ := tree_of_trod fuel hf hw
 refine ⟨hd, ks, ka, kl, kc, ?_, tv⟩
 have : cs = (hd.vals (.slice ka kl kc)).toArray := by
  have e' : cs.toList = hd.vals (.slice ka kl kc) := e
  rw [← e']
 rw [this]; rfl
theorem u8_of_trod {r : Reach} {v : Value} (hv : Value.okWide Tryz.prog W r base 5 v) {d : DataW H} {p : List MemPlace} (h : DataW.Trod enc Tryz.prog W base sp held 5 v d p) : ∃ n : Int, v = .int .u8 n ∧ 0 ≤ n ∧ n ≤ 255 := by
 obtain ⟨fuel, hf⟩ := h
 obtain ⟨n, e, -, hw⟩ := DataW.trod_int Tryz.underlying5 hf
 obtain ⟨m, rfl⟩ := Go.WideShapes.okWide_int Tryz.underlying5 hv
 simp [Value.cells] at e
 subst e
 exact ⟨_, rfl, bounds_u8 hw⟩
end
end Go.Proofs.YtlmpiobdgkmmgaaGreatDoor
namespace Go.Proofs.YtlmpiobdgkmmgaaGreatDoor
open Go.ChangeShapes Go.WideShapes Go.ChangeAt Go.RowKit
section
variable {H : Type} {enc : TypeId × Value → H} {W : World} {base : Nat} {sp : Nat → Bool} {held : Bool}
theorem rowIn_ofC {w : World} {B b off : Nat} : ∀ (n j : Nat), (∀ i, j ≤ i → i < j + n → b < B ∧ ∃ h ks ka kl kc, NodeAt w b (off + i * 14) h (.slice ka kl kc) ∧ TreeCp w B h ks ka kl kc) →
 ∃ ts : Trees, ts.len = n ∧ RowIn w B ts (some ⟨b, off, none⟩) j ∧ CapsIn w B ts (some ⟨b, off, none⟩) j
 | 0, _, _ => ⟨.nil, rfl, trivial, trivial⟩
 | n + 1, j, h => by
  obtain ⟨hb, hd, ks, ka, kl, kc, N, tv⟩ := h j (Nat.le_refl _) (by omega)
  obtain ⟨ts, hl, hr, hc⟩ := rowIn_ofC n (j + 1) fun i h1 h2 => h i (by omega) (by omega)
  exact ⟨.cons hd ks ts, by simp [Trees.len, hl], ⟨⟨b, off, ka, kl, kc, rfl, hb, N, tv.len, tv.max, tv.ok, tv.row⟩, hr⟩, ⟨⟨b, off, ka, kl, kc, rfl, hb, N, tv.cap, tv.caps⟩, hc⟩⟩
theorem tree_of_trodC : ∀ (fuel : Nat) {cs : List Value} {y : DataW H × List MemPlace}, DataW.trod enc Tryz.prog W base sp held fuel 34 cs = some y → (∀ n ∈ y.1.weights Tryz.prog 34, n ≤ reachBytes) →
 ∃ (h : Hd) (ks : Trees) (ka : Option Addr) (kl kc : Nat), cs = h.vals (.slice ka kl kc) ∧ TreeCp W W.heap.size h ks ka kl kc := by
 intro fuel
 induction fuel using Nat.strongRecOn with
 | ind fuel ih =>
  intro cs y h hw
  obtain ⟨xs, n, rfl, rfl, hl, hn, hf⟩ := DataW.trod_struct Tryz.underlying34 h
  rw [cellsExpr] at hl
  match cs, hl, xs, hn with
  | [c0, c1, c2, c3, c4, c5, c6, c7, c8, c9, c10, c11, c12, c13], _, [x0, x1, x2, x3, x4, x5, x6, x7], _ =>
   have f0 := fieldAt hf 0 3 0 rfl; have f1 := fieldAt hf 1 3 1 rfl; have f2 := fieldAt hf 2 2 2 rfl; have f3 := fieldAt hf 3 9 3 rfl
   have f4 := fieldAt hf 4 32 4 rfl; have f5 := fieldAt hf 5 32 8 rfl; have f6 := fieldAt hf 6 3 12 rfl; have f7 := fieldAt hf 7 22 13 rfl
   simp only [cellsInt, cellsI64, cellsString, cellsRef, cellsExprs, List.drop, List.take, List.getElem?_cons_zero, List.getElem?_cons_succ] at f0 f1 f2 f3 f4 f5 f6 f7
   obtain ⟨a0, e0, -, w0⟩ := DataW.trod_int Tryz.underlying3 f0
   obtain ⟨a1, e1, -, w1⟩ := DataW.trod_int Tryz.underlying3 f1
   obtain ⟨a2, e2, -, w2⟩ := DataW.trod_int Tryz.underlying2 f2
   obtain ⟨s, e3, g3, -⟩ := DataW.trod_string Tryz.underlying9 f3
   obtain ⟨r, e4, w4, w4'⟩ := ref_of_trod f4
   obtain ⟨t, e5, w5, w5'⟩ := ref_of_trod f5
   obtain ⟨a6, e6, -, w6⟩ := DataW.trod_int Tryz.underlying3 f6
   simp only [List.cons.injEq, and_true] at e0 e1 e2 e3 e4 e5 e6
   obtain ⟨rfl, rfl, rfl, rfl⟩ := e4
   obtain ⟨rfl, rfl, rfl, rfl⟩ := e5
   subst e0 e1 e2 e3 e6
   have hwe : ∀ (j : Nat) (T : TypeId) (d : DataW H), [3, 3, 2, 9, 32, 32, 3, 22][j]? = some T → [x0.1, x1.1, x2.1, x3.1, x4.1, x5.1, x6.1, x7.1][j]? = some d →
    ∀ n ∈ d.weights Tryz.prog T, n ≤ reachBytes := by
    intro j T d hT hd n hn
    refine hw n ?_
    have := DataW.weights_mem_each (P := Tryz.prog) hT hd n hn
    simpa [DataW.weights, Tryz.underlying34] using this
   have hstr : s.data.toList.length ≤ 140737488351232 := by
    have := hwe 3 _ _ rfl rfl s.data.toList.length (by rw [g3]; simp [DataW.weights])
    simpa [reachBytes] using this
   have hs : s = ⟨s.data.toList.toArray⟩ := by cases s; simp
   have hok : Hd.ok ⟨a0, a1, a2, s.data.toList, r, t, a6⟩ := ⟨hstr, i64_of w0, i64_of w1, i64_of w2, w4, w4', w5, w5', i64_of w6⟩
   rcases DataW.trod_slice Tryz.underlying22 f7 with ⟨e7, -⟩ | ⟨a, len, cap, elems, rest, m, rfl, e7, g7, -, hlc, hcm, hlen, hel, -, -⟩
   ·simp only [List.cons.injEq, and_true] at e7
    subst e7
    exact ⟨⟨a0, a1, a2, s.data.toList, r, t, a6⟩, .nil, none, 0, 0, by simp only [Hd.vals, ← hs], ⟨⟨rfl, by omega, hok, trivial⟩, Nat.zero_le _, trivial⟩⟩
   ·simp only [List.cons.injEq, and_true] at e7
    subst e7
    have hmax : len ≤ 9223372036854775807 := by have : maxLen = 9223372036854775807 := rfl; omega
    have hkw : ∀ x ∈ elems, ∀ n ∈ x.1.weights Tryz.prog 34, n ≤ reachBytes := by
     intro x hx n hn
     refine hwe 7 _ _ rfl rfl n ?_
     rw [g7]
     simp only [DataW.weights, Tryz.underlying22, List.mem_cons, List.mem_append]
     exact .inr (.inl (weights_all_mem (List.mem_map_of_mem hx) n hn))
    rcases Nat.eq_zero_or_pos len with z | z
    ·subst z
     exact ⟨⟨a0, a1, a2, s.data.toList, r, t, a6⟩, .nil, some a, 0, cap, by simp only [Hd.vals, ← hs], ⟨⟨rfl, by omega, hok, trivial⟩, Nat.zero_le _, trivial⟩⟩
    have each : ∀ i, i < len → ∃ h ks ka kl kc, TreeCp W W.heap.size h ks ka kl kc ∧ ∀ j v, (h.vals (.slice ka kl kc))[j]? = some v → W.cell? ((a.add (i * 14)).add j) = some v := by
     intro i hi
     obtain ⟨x, hx⟩ : ∃ x, elems[i]? = some x := ⟨elems[i]'(by omega), List.getElem?_eq_getElem _⟩
     have hb := hel i hi
     rw [hx, cellsExpr, Option.bind_eq_some_iff] at hb
     obtain ⟨cs', hcs, ht⟩ := hb
     obtain ⟨h', ks, ka, kl, kc, rfl, tv⟩ := ih m (Nat.lt_succ_of_lt (Nat.lt_succ_self _)) ht (hkw x (List.mem_of_getElem? hx))
     obtain ⟨hl', hc⟩ := cells_get hcs
     exact ⟨h', ks, ka, kl, kc, tv, fun j v hj => (hc j (by have := (List.getElem?_eq_some_iff.1 hj).1; simpa [Hd.vals] using this)).trans hj⟩
    obtain ⟨b, off, rfl, hb⟩ : ∃ b off, a = ⟨b, off, none⟩ ∧ b < W.heap.size := by
     obtain ⟨h', ks, ka, kl, kc, tv, hc⟩ := each 0 z
     have := cell_lt (hc 0 _ rfl)
     obtain ⟨b, off, spot⟩ := a
     simp only [Nat.zero_mul, Addr.add, if_true] at this
     obtain ⟨h1, rfl⟩ := this
     exact ⟨b, off, rfl, h1⟩
    obtain ⟨ts, hlt, hrow, hcap⟩ := rowIn_ofC (w := W) (B := W.heap.size) (b := b) (off := off) len 0 fun i _ hi => by
     obtain ⟨h', ks, ka, kl, kc, tv, hc⟩ := each i (by omega)
     exact ⟨hb, h', ks, ka, kl, kc, ⟨hb, fun j v hj => by have := hc j v hj; rw [addr_add, addr_add] at this; exact this⟩, tv⟩
    exact ⟨⟨a0, a1, a2, s.data.toList, r, t, a6⟩, ts, some ⟨b, off, none⟩, len, cap, by simp only [Hd.vals, ← hs], ⟨⟨hlt.symm, hmax, hok, hrow⟩, hlc, hcap⟩⟩
theorem treeArgC {r : Reach} {v : Value} {d : DataW H} {p : List MemPlace} (hv : Value.okWide Tryz.prog W r base 34 v) (h : DataW.Trod enc Tryz.prog W 0 sp held 34 v d p) (hw : ∀ n ∈ d.weights Tryz.prog 34, n ≤ reachBytes) :
 ∃ (h : Hd) (ks : Trees) (ka : Option Addr) (kl kc : Nat), v = .agg #[.int .i64 h.kind, .int .i64 h.op, .int .i64 h.num, .string ⟨h.text.toArray⟩, .int .i64 h.ref.row, .int .i64 h.ref.col, .bool h.ref.pr, .bool h.ref.pc, .int .i64 h.to.row, .int .i64 h.to.col, .bool h.to.pr, .bool h.to.pc, .int .i64 h.fn, .slice ka kl kc] ∧ TreeCp W W.heap.size h ks ka kl kc := by
 obtain ⟨cs, rfl, -⟩ := Go.WideShapes.okWide_struct Tryz.underlying34 hv
 obtain ⟨fuel, hf⟩ := h
 obtain ⟨hd, ks, ka, kl, kc, e, tv⟩ := tree_of_trodC fuel hf hw
 refine ⟨hd, ks, ka, kl, kc, ?_, tv⟩
 have : cs = (hd.vals (.slice ka kl kc)).toArray := by
  have e' : cs.toList = hd.vals (.slice ka kl kc) := e
  rw [← e']
 rw [this]; rfl
theorem trees_of_trodC {a : Option Addr} {len cap : Nat} {d : DataW H} {p : List MemPlace} (h : DataW.Trod enc Tryz.prog W base sp held 22 (.slice a len cap) d p) (hw : ∀ n ∈ d.weights Tryz.prog 22, n ≤ reachBytes) :
 ∃ ts : Trees, len = ts.len ∧ len ≤ 9223372036854775807 ∧ RowIn W W.heap.size ts a 0 ∧ CapsIn W W.heap.size ts a 0 := by
 obtain ⟨fuel, hf⟩ := h
 rcases DataW.trod_slice Tryz.underlying22 hf with ⟨e, -⟩ | ⟨x, l, c, elems, rest, mm, rfl, e, g, -, hlc, hcm, hlen, hel, -, -⟩
 ·simp [Value.cells] at e
  obtain ⟨rfl, rfl, rfl⟩ := e
  exact ⟨.nil, rfl, by omega, trivial, trivial⟩
 ·simp [Value.cells] at e
  obtain ⟨rfl, rfl, rfl⟩ := e
  simp only [Prod.mk.injEq] at g
  obtain ⟨rfl, -⟩ := g
  have hmax : len ≤ 9223372036854775807 := by have : maxLen = 9223372036854775807 := rfl; omega
  rcases Nat.eq_zero_or_pos len with z | z
  ·subst z
   exact ⟨.nil, rfl, hmax, trivial, trivial⟩
  have each : ∀ i, i < len → ∃ h ks ka kl kc, TreeCp W W.heap.size h ks ka kl kc ∧ ∀ j v, (h.vals (.slice ka kl kc))[j]? = some v → W.cell? ((x.add (i * 14)).add j) = some v := by
   intro i hi
   obtain ⟨y, hx⟩ : ∃ y, elems[i]? = some y := ⟨elems[i]'(by omega), List.getElem?_eq_getElem _⟩
   have hb := hel i hi
   rw [hx, cellsExpr, Option.bind_eq_some_iff] at hb
   obtain ⟨cs', hcs, ht⟩ := hb
   obtain ⟨h', ks, ka, kl, kc, rfl, tv⟩ := tree_of_trodC mm ht (fun n hn => hw n (by
    simp only [DataW.weights, Tryz.underlying22, List.mem_cons, List.mem_append]
    exact .inr (.inl (weights_all_mem (List.mem_map_of_mem (List.mem_of_getElem? hx)) n hn))))
   obtain ⟨hl', hc⟩ := cells_get hcs
   exact ⟨h', ks, ka, kl, kc, tv, fun j v hj => (hc j (by have := (List.getElem?_eq_some_iff.1 hj).1; simpa [Hd.vals] using this)).trans hj⟩
  obtain ⟨b, off, rfl, hb⟩ : ∃ b off, x = ⟨b, off, none⟩ ∧ b < W.heap.size := by
   obtain ⟨h', ks, ka, kl, kc, tv, hc⟩ := each 0 z
   have := cell_lt (hc 0 _ rfl)
   obtain ⟨b, off, spot⟩ := x
   simp only [Nat.zero_mul, Addr.add, if_true] at this
   obtain ⟨h1, rfl⟩ := this
   exact ⟨b, off, rfl, h1⟩
  obtain ⟨ts, hlt, hrow, hcap⟩ := rowIn_ofC (w := W) (B := W.heap.size) (b := b) (off := off) len 0 fun i _ hi => by
   obtain ⟨h', ks, ka, kl, kc, tv, hc⟩ := each i (by omega)
   exact ⟨hb, h', ks, ka, kl, kc, ⟨hb, fun j v hj => by have := hc j v hj; rw [addr_add, addr_add] at this; exact this⟩, tv⟩
  exact ⟨ts, hlt.symm, hmax, hrow, hcap⟩
end
theorem node_same {w : World} {b off : Nat} {h : Hd} {v v' : Value} (n : NodeAt w b off h v) (n' : NodeAt w b off h v') : v = v' := by
 have h1 := n.2 13 v rfl
 have h2 := n'.2 13 v' rfl
 rw [h1] at h2
 exact Option.some.inj h2
theorem caps_head {w : World} {B b off j : Nat} {h : Hd} {k r : Trees} {ka : Option Addr} {kl kc : Nat} (n : NodeAt w b (off + j * 14) h (.slice ka kl kc)) (c : CapsIn w B (.cons h k r) (some ⟨b, off, none⟩) j) : kl ≤ kc ∧ CapsIn w B k ka 0 ∧ CapsIn w B r (some ⟨b, off, none⟩) (j + 1) := by
 obtain ⟨⟨b', off', ka', kl', kc', e, -, n', l, q⟩, hr⟩ := c
 simp only [Option.some.injEq, Addr.mk.injEq, and_true] at e
 obtain ⟨rfl, rfl⟩ := e
 have := node_same n n'
 simp only [Value.slice.injEq] at this
 obtain ⟨rfl, rfl, rfl⟩ := this
 exact ⟨l, q, hr⟩
end Go.Proofs.YtlmpiobdgkmmgaaGreatDoor
