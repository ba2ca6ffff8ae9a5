/- Comp and code: pieces of code. -/
import Derived.Test.YtlmpiobdgkmmgaaGreatDoorKcJ
import Derived.Test.YtlmpiobdgkmmgaaGreatDoorKdA
import Derived.Test.YtlmpiobdgkmmgaaGreatDoorKcO
set_option maxRecDepth 1000000
set_option maxHeartbeats 16000000
namespace Go.Proofs.YtlmpiobdgkmmgaaGreatDoor
def Fit : List Int → List Int → Prop
 | [], [] => True
 | x :: r, y :: q => (x = y ∨ x = 69) ∧ Fit r q
 | _, _ => False
theorem Fit.len : ∀ {s t : List Int}, Fit s t → s.length = t.length
 | [], [], _ => rfl
 | [], _ :: _, h => h.elim
 | _ :: _, [], h => h.elim
 | _ :: _, _ :: _, h => by simp [Fit.len h.2]
theorem Fit.refl : ∀ s : List Int, Fit s s
 | [] => trivial
 | _ :: r => ⟨.inl rfl, Fit.refl r⟩
theorem Fit.app : ∀ {a s b m : List Int}, Fit a s → Fit b m → Fit (a ++ b) (s ++ m)
 | [], [], _, _, _, k => k
 | [], _ :: _, _, _, h, _ => h.elim
 | _ :: _, [], _, _, h, _ => h.elim
 | _ :: _, _ :: _, _, _, h, k => ⟨h.1, Fit.app h.2 k⟩
theorem Fit.split : ∀ {s0 : List Int} (s m : List Int), Fit s0 (s ++ m) → ∃ a b, s0 = a ++ b ∧ Fit a s ∧ Fit b m
 | s0, [], _, h => ⟨[], s0, rfl, trivial, h⟩
 | [], _ :: _, _, h => h.elim
 | x :: r, y :: q, m, h => by
  obtain ⟨a, b, e, h1, h2⟩ := Fit.split q m h.2
  exact ⟨x :: a, b, by rw [e]; rfl, ⟨h.1, h1⟩, h2⟩
theorem meetS_fit : ∀ {s s' t : List Int}, Fit s t → Fit s' t → ∃ u, meetS s s' = some u ∧ Fit u t
 | [], [], [], _, _ => ⟨[], rfl, trivial⟩
 | [], _ :: _, [], _, h => h.elim
 | _ :: _, _, [], h, _ => h.elim
 | [], _, _ :: _, h, _ => h.elim
 | _ :: _, [], _ :: _, _, h => h.elim
 | x :: r, y :: q, z :: t, h, k => by
  obtain ⟨u, e, hu⟩ := meetS_fit h.2 k.2
  unfold meetS
  by_cases hx : x = 69
  ·rw [if_pos hx, e]
   exact ⟨y :: u, rfl, k.1, hu⟩
  ·have hz : x = z := h.1.resolve_right hx
   rw [if_neg hx, if_neg (by rcases k.1 with q | q <;> intro ⟨h1, h2⟩ <;> omega), e]
   exact ⟨x :: u, rfl, .inl hz, hu⟩
theorem allF_fit : ∀ {s t : List Int}, Fit s t → allF s t = true
 | [], [], _ => rfl
 | [], _ :: _, h => h.elim
 | _ :: _, [], h => h.elim
 | x :: r, y :: q, h => by
  unfold allF fitsS
  rw [allF_fit h.2]
  rcases h.1 with e | e <;> simp [e]
theorem endsS_fit {a b m : List Int} (h : Fit b m) : endsS (a ++ b) m = true := by
 unfold endsS
 have hl := h.len
 rw [List.length_append, ← hl, Nat.add_sub_cancel, List.drop_left, allF_fit h]
 simp
theorem withS_app (a b more : List Int) : withS (a ++ b) b.length more = a ++ more := by
 unfold withS
 rw [List.length_append, Nat.add_sub_cancel, List.take_left]
theorem withS_zero (a more : List Int) : withS a 0 more = a ++ more := by
 unfold withS
 rw [Nat.sub_zero, List.take_length]
abbrev Lb : Type := Int → Option (List Int)
def upd (O : Lb) (e : Int) (u : List Int) : Lb := fun y => if y = e then some u else O y
theorem upd_at (O : Lb) (e : Int) (u : List Int) : upd O e u e = some u := if_pos rfl
theorem upd_ne (O : Lb) {e y : Int} (u : List Int) (h : y ≠ e) : upd O e u y = O y := if_neg h
def KnOk (n : Int) (O : Lb) (kn : Kn) : Prop := ∀ y, n < y → ∀ s', kn y = some s' → ∃ t, O y = some t ∧ Fit s' t
structure StK (n : Int) (s : List Int) (O : Lb) (M : Int → Prop) (kn : Kn) : Prop where
 at_ : ∃ s0, kn n = some s0 ∧ Fit s0 s
 ok : KnOk n O kn
 know : ∀ y, M y → kn y ≠ none
def seenS (o : Option (List Int)) (s : List Int) : Option (List Int) := match o with
 | some k => meetS k s
 | none => some s
def setK (kn : Kn) (x : Int) (u : List Int) : Kn := fun y => if y = x then some u else kn y
theorem setK_at (kn : Kn) (x : Int) (u : List Int) : setK kn x u x = some u := if_pos rfl
theorem setK_ne (kn : Kn) {x y : Int} (u : List Int) (h : y ≠ x) : setK kn x u y = kn y := if_neg h
theorem setK_some {kn : Kn} {x y : Int} {u : List Int} (h : kn y ≠ none) : setK kn x u y ≠ none := by
 unfold setK
 split
 ·simp
 ·exact h
theorem leadS_cons {kn : Kn} {x : Int} {s u : List Int} {r : Exits} (h : seenS (kn x) s = some u) (hu : ¬ 1024 < u.length) : leadS kn ((x, s) :: r) = leadS (setK kn x u) r := by
 conv => lhs; unfold leadS
 cases hk : kn x with
 | none =>
  rw [hk] at h
  simp only [seenS] at h
  cases h
  simp only [if_neg hu]
  rfl
 | some k =>
  rw [hk] at h
  simp only [seenS] at h
  simp only [h, if_neg hu]
  rfl
theorem leadS_ok {n : Int} {O : Lb} : ∀ (l : Exits) (kn : Kn), KnOk n O kn → (∀ q ∈ l, n < q.1 ∧ ∃ t, O q.1 = some t ∧ Fit q.2 t ∧ q.2.length ≤ 1024) → ∃ kn', leadS kn l = some kn' ∧ KnOk n O kn' ∧ (∀ q ∈ l, kn' q.1 ≠ none) ∧ ∀ y, kn y ≠ none → kn' y ≠ none
 | [], kn, h, _ => ⟨kn, rfl, h, fun q hq => by simp at hq, fun _ q => q⟩
 | (x, s) :: r, kn, h, hl => by
  obtain ⟨hx, t, ht, hf, hlen⟩ := hl (x, s) (by simp)
  simp only at hx ht hf hlen
  obtain ⟨u, hu, fu⟩ : ∃ u, seenS (kn x) s = some u ∧ Fit u t := by
   cases hk : kn x with
   | none => exact ⟨s, rfl, hf⟩
   | some k =>
    obtain ⟨t', ht', hf'⟩ := h x hx k hk
    rw [ht] at ht'
    cases ht'
    exact meetS_fit hf' hf
  have hul : ¬ 1024 < u.length := by rw [fu.len, ← hf.len]; omega
  have h1 : KnOk n O (setK kn x u) := fun y hy s' hs => by
   by_cases q : y = x
   ·rw [q, setK_at] at hs
    cases hs
    exact ⟨t, by rw [q]; exact ht, fu⟩
   ·rw [setK_ne _ _ q] at hs
    exact h y hy s' hs
  obtain ⟨kn', e, k1, k2, k3⟩ := leadS_ok r _ h1 (fun q hq => hl q (by simp [hq]))
  refine ⟨kn', ?_, k1, fun q hq => ?_, fun y hy => k3 y ?_⟩
  ·rw [leadS_cons hu hul]; exact e
  ·rcases List.mem_cons.1 hq with rfl | hq
   ·exact k3 _ (by rw [setK_at]; simp)
   ·exact k2 q hq
  ·exact setK_some hy
theorem leadS_mono : ∀ (l : Exits) (kn kn' : Kn), leadS kn l = some kn' → ∀ y, kn y ≠ none → kn' y ≠ none
 | [], kn, kn', h, y, hy => by cases h; exact hy
 | (x, s) :: r, kn, kn', h, y, hy => by
  unfold leadS at h
  split at h
  ·cases h
  ·split at h
   ·cases h
   ·exact leadS_mono r (setK kn x _) kn' h y (setK_some hy)
theorem goS_mono {cs : List PV} : ∀ (c : List PI) (n : Int) (kn kn' : Kn), goS cs c n kn = some kn' → ∀ y, kn y ≠ none → kn' y ≠ none
 | [], n, kn, kn', h, y, hy => by cases h; exact hy
 | p :: r, n, kn, kn', h, y, hy => by
  unfold goS at h
  split at h
  ·cases h
  ·split at h
   ·cases h
   ·split at h
    ·cases h
    ·rename_i l k1 hl
     exact goS_mono r (n + 1) k1 kn' h y (leadS_mono _ _ _ hl y hy)
theorem goS_app {cs : List PV} : ∀ (c d : List PI) (n : Int) (kn kn' : Kn), goS cs c n kn = some kn' → goS cs (c ++ d) n kn = goS cs d (n + (c.length : Int)) kn'
 | [], d, n, kn, kn', h => by cases h; simp
 | p :: r, d, n, kn, kn', h => by
  unfold goS at h
  rw [List.cons_append]
  conv => lhs; unfold goS
  cases hk : kn n with
  | none => simp only [hk] at h; cases h
  | some s =>
   simp only [hk] at h ⊢
   cases hs : stepI cs p n s with
   | none => simp only [hs] at h; cases h
   | some l =>
    simp only [hs] at h ⊢
    cases hl : leadS kn l with
    | none => simp only [hl] at h; cases h
    | some k1 =>
     simp only [hl] at h ⊢
     rw [goS_app r d (n + 1) k1 kn' h]
     congr 1
     simp only [List.length_cons]
     omega
structure FormP (cs : List PV) (O : Lb) (E : Int) (p : PI) (m : Int) : Prop where
 row : rowOk p = true
 good : goodI cs p = true
 jmp : ∀ x ∈ jumpsI p, m < x ∧ (x ≤ E ∨ O x ≠ none)
structure Frag (cs : List PV) (c : List PI) (n : Int) (s : List Int) (M : Int → Prop) (u : List Int) (M' : Int → Prop) (O : Lb) : Prop where
 run : ∀ kn, StK n s O M kn → ∃ kn', goS cs c n kn = some kn' ∧ StK (n + (c.length : Int)) u O M' kn'
 frm : ∀ (i : Nat) (p : PI), c[i]? = some p → FormP cs O (n + (c.length : Int)) p (n + (i : Int))
section
variable {cs : List PV} {c d : List PI} {n m : Int} {s u v : List Int} {M M' M2 X : Int → Prop} {O O' : Lb}
theorem Frag.seq (h : Frag cs c n s M u M' O) (k : Frag cs d (n + (c.length : Int)) u M' v M2 O) : Frag cs (c ++ d) n s M v M2 O where
 run := fun kn h0 => by
  obtain ⟨k1, e1, h1⟩ := h.run kn h0
  obtain ⟨k2, e2, h2⟩ := k.run k1 h1
  refine ⟨k2, by rw [goS_app c d n kn k1 e1]; exact e2, ?_⟩
  rw [List.length_append, Int.natCast_add, ← Int.add_assoc]
  exact h2
 frm := fun i p hp => by
  rw [List.length_append, Int.natCast_add, ← Int.add_assoc]
  by_cases q : i < c.length
  ·rw [List.getElem?_append_left q] at hp
   have f := h.frm i p hp
   exact ⟨f.row, f.good, fun x hx => ⟨(f.jmp x hx).1, (f.jmp x hx).2.imp (fun q => by omega) id⟩⟩
  ·rw [List.getElem?_append_right (by omega)] at hp
   have f := k.frm (i - c.length) p hp
   exact ⟨f.row, f.good, fun x hx => ⟨by have := (f.jmp x hx).1; omega, (f.jmp x hx).2⟩⟩
theorem Frag.keep (h : Frag cs c n s M u M' O) (X : Int → Prop) : Frag cs c n s (fun y => M y ∨ X y) u (fun y => M' y ∨ X y) O where
 run := fun kn h0 => by
  obtain ⟨k1, e1, h1⟩ := h.run kn ⟨h0.at_, h0.ok, fun y hy => h0.know y (.inl hy)⟩
  exact ⟨k1, e1, h1.at_, h1.ok, fun y hy => hy.elim (h1.know y) fun q => goS_mono _ _ _ _ e1 y (h0.know y (.inr q))⟩
 frm := h.frm
theorem Frag.less (h : Frag cs c n s M u M' O) (hX : ∀ y, X y → M' y) (hq : ∀ y, M y → M2 y) : Frag cs c n s M2 u X O where
 run := fun kn h0 => by
  obtain ⟨k1, e1, h1⟩ := h.run kn ⟨h0.at_, h0.ok, fun y hy => h0.know y (hq y hy)⟩
  exact ⟨k1, e1, h1.at_, h1.ok, fun y hy => h1.know y (hX y hy)⟩
 frm := h.frm
theorem Frag.nil (h : ∀ y, M' y → M y) : Frag cs [] n s M s M' O where
 run := fun kn h0 => ⟨kn, rfl, by
  simp only [List.length_nil, Int.natCast_zero, Int.add_zero]
  exact ⟨h0.at_, h0.ok, fun y hy => h0.know y (h y hy)⟩⟩
 frm := fun i p hp => by simp at hp
theorem Frag.lab (h : Frag cs c n s M u M' O') (h1 : ∀ y t, n < y → O y = some t → O' y = some t) (h2 : ∀ y, n + (c.length : Int) < y → O' y = O y) : Frag cs c n s M u M' O where
 run := fun kn h0 => by
  obtain ⟨k1, e1, q⟩ := h.run kn ⟨h0.at_, fun y hy s' hs => by
   obtain ⟨t, ht, hf⟩ := h0.ok y hy s' hs
   exact ⟨t, h1 y t hy ht, hf⟩, h0.know⟩
  exact ⟨k1, e1, q.at_, fun y hy s' hs => by
   obtain ⟨t, ht, hf⟩ := q.ok y hy s' hs
   exact ⟨t, by rw [← h2 y hy]; exact ht, hf⟩, q.know⟩
 frm := fun i p hp => by
  have f := h.frm i p hp
  refine ⟨f.row, f.good, fun x hx => ⟨(f.jmp x hx).1, ?_⟩⟩
  by_cases q : x ≤ n + (c.length : Int)
  ·exact .inl q
  ·refine .inr ?_
   rw [← h2 x (by omega)]
   exact (f.jmp x hx).2.resolve_left q
theorem Frag.ins {p : PI} (hr : rowOk p = true) (hg : goodI cs p = true) (hj : ∀ x ∈ jumpsI p, n < x ∧ (x ≤ n + 1 ∨ O x ≠ none)) (hO : ∀ t, O (n + 1) = some t → t = u)
 (hs : ∀ s0, Fit s0 s → ∃ l, stepI cs p n s0 = some l ∧ (∀ q ∈ l, n < q.1 ∧ ∃ t, upd O (n + 1) u q.1 = some t ∧ Fit q.2 t ∧ q.2.length ≤ 1024) ∧ ((∃ q ∈ l, q.1 = n + 1) ∨ M (n + 1)) ∧ ∀ y, M' y → M y ∨ ∃ q ∈ l, q.1 = y) : Frag cs [p] n s M u M' O where
 run := fun kn h0 => by
  obtain ⟨s0, hk, hf⟩ := h0.at_
  obtain ⟨l, hl, h1, h2, h3⟩ := hs s0 hf
  have ok1 : KnOk n (upd O (n + 1) u) kn := fun y hy s' hs' => by
   obtain ⟨t, ht, hf'⟩ := h0.ok y hy s' hs'
   by_cases q : y = n + 1
   ·refine ⟨u, by rw [q]; exact upd_at _ _ _, ?_⟩
    rw [q] at ht
    rw [← hO t ht]; exact hf'
   ·exact ⟨t, by rw [upd_ne _ _ q]; exact ht, hf'⟩
  obtain ⟨kn', e, k1, k2, k3⟩ := leadS_ok l kn ok1 h1
  have at1 : ∃ s1, kn' (n + 1) = some s1 ∧ Fit s1 u := by
   have hne : kn' (n + 1) ≠ none := by
    rcases h2 with ⟨q, hq, e1⟩ | h2
    ·rw [← e1]; exact k2 q hq
    ·exact k3 _ (h0.know _ h2)
   cases hk' : kn' (n + 1) with
   | none => exact absurd hk' hne
   | some s1 =>
    obtain ⟨t, ht, hf'⟩ := k1 (n + 1) (by omega) s1 hk'
    rw [upd_at] at ht
    cases ht
    exact ⟨s1, rfl, hf'⟩
  refine ⟨kn', by unfold goS; rw [hk]; simp only [hl, e]; rfl, at1, fun y hy s' hs' => ?_, fun y hy => ?_⟩
  ·have hy : n + 1 < y := by simpa using hy
   obtain ⟨t, ht, hf'⟩ := k1 y (by omega) s' hs'
   rw [upd_ne _ _ (by omega)] at ht
   exact ⟨t, ht, hf'⟩
  ·rcases h3 y hy with q | ⟨q, hq, e1⟩
   ·exact k3 _ (h0.know _ q)
   ·rw [← e1]; exact k2 q hq
 frm := fun i q hq => by
  cases i with
  | zero =>
   simp only [List.getElem?_cons_zero, Option.some.injEq] at hq
   subst hq
   exact ⟨hr, hg, fun x hx => by simpa using hj x hx⟩
  | succ i => simp at hq
end
end Go.Proofs.YtlmpiobdgkmmgaaGreatDoor
namespace Go.Proofs.YtlmpiobdgkmmgaaGreatDoor
def okC (v : PV) : Bool := okV v && decide (v.kind ≠ 0)
structure CsP (r : List PI × List PV) (cs : List PV) (m : Nat) : Prop where
 pre : cs <+: r.2
 len : r.2.length ≤ cs.length + m
 nd : cs.Nodup → r.2.Nodup
 used : ∀ i, cs.length ≤ i → i < r.2.length → ∃ p ∈ r.1, p.op = 1 ∧ p.a = (i : Int)
 ok : (∀ v ∈ cs, okC v = true) → ∀ v ∈ r.2, okC v = true
def CsF (f : CF) (m : Nat) : Prop := ∀ n cs, CsP (f n cs) cs m
theorem CsP.more {r : List PI × List PV} {cs : List PV} {m m' : Nat} (h : CsP r cs m) (hm : m ≤ m') {l : List PI} (hl : ∀ p ∈ r.1, p ∈ l) : CsP (l, r.2) cs m' :=
 ⟨h.pre, Nat.le_trans h.len (by omega), h.nd, fun i h1 h2 => by obtain ⟨p, q, e⟩ := h.used i h1 h2; exact ⟨p, hl p q, e⟩, h.ok⟩
theorem CsF.mono {f : CF} {m m' : Nat} (h : CsF f m) (hm : m ≤ m') : CsF f m' := fun n cs => (h n cs).more hm fun _ q => q
theorem csf_same {c : List PI} {cs : List PV} : CsP (c, cs) cs 0 := ⟨List.prefix_refl _, Nat.le_refl _, id, fun i h1 h2 => absurd h2 (by simp only; omega), id⟩
theorem csf_nil : CsF nilF 0 := fun _ _ => csf_same
theorem csf_ins (x : PI) : CsF (insF x) 0 := fun _ _ => csf_same
theorem ixOf_none : ∀ (cs : List PV) (v : PV), ¬ ixOf cs v < cs.length → v ∉ cs ∧ ixOf cs v = cs.length
 | [], _, _ => ⟨by simp, rfl⟩
 | x :: r, v, h => by
  unfold ixOf at h ⊢
  by_cases e : x = v
  ·rw [if_pos e] at h; simp at h
  ·rw [if_neg e] at h ⊢
   obtain ⟨h1, h2⟩ := ixOf_none r v (by simpa using h)
   exact ⟨by simp only [List.mem_cons, not_or]; exact ⟨fun q => e q.symm, h1⟩, by rw [h2]; rfl⟩
theorem ixOf_lt (cs : List PV) (v : PV) : ixOf cs v < (pushC cs v).length := by
 unfold pushC
 split
 ·assumption
 ·rename_i h; rw [(ixOf_none cs v h).2]; simp
theorem csf_con (v : PV) (hv : okC v = true) : CsF (conF v) 1 := fun n cs => by
 unfold conF pushC
 by_cases h : ixOf cs v < cs.length
 ·rw [if_pos h]
  exact csf_same.more (Nat.zero_le _) fun _ q => q
 ·rw [if_neg h]
  obtain ⟨h1, h2⟩ := ixOf_none cs v h
  refine ⟨List.prefix_append _ _, by simp, fun q => ?_, fun i g1 g2 => ⟨⟨1, (ixOf cs v : Nat), 0, 0, 0, []⟩, List.mem_singleton_self _, rfl, ?_⟩, fun q x hx => ?_⟩
  ·rw [List.nodup_append]
   exact ⟨q, by simp, fun a ha b hb e => h1 (by simp at hb; rw [← hb, ← e]; exact ha)⟩
  ·simp only [List.length_append, List.length_singleton] at g2
   show ((ixOf cs v : Nat) : Int) = i
   omega
  ·rcases List.mem_append.1 hx with g | g
   ·exact q x g
   ·simp at g; rw [g]; exact hv
theorem csf_err {e : Int} (h1 : 1 ≤ e) (h2 : e ≤ 6) : CsF (errF e) 1 := csf_con _ (by simp [okC, okV, h1, h2])
theorem CsP.seq {a c : List PI × List PV} {cs : List PV} {m k : Nat} (h : CsP a cs m) (g : CsP c a.2 k) : CsP (a.1 ++ c.1, c.2) cs (m + k) where
 pre := h.pre.trans g.pre
 len := by have := h.len; have := g.len; simp only; omega
 nd := fun q => g.nd (h.nd q)
 used := fun i h1 h2 => by
  by_cases q : i < a.2.length
  ·obtain ⟨p, hp, e⟩ := h.used i h1 q
   exact ⟨p, List.mem_append_left _ hp, e⟩
  ·obtain ⟨p, hp, e⟩ := g.used i (by omega) h2
   exact ⟨p, List.mem_append_right _ hp, e⟩
 ok := fun q => g.ok (h.ok q)
theorem csf_seq {f g : CF} {a c : Nat} (h : CsF f a) (k : CsF g c) : CsF (seqF f g) (a + c) := fun n cs => (h n cs).seq (k _ _)
theorem csf_end {F : Int → CF} {x : PI} {m : Nat} (h : ∀ e, CsF (F e) m) : CsF (endF F x) m := fun n cs => csf_seq (h _) (csf_ins x) n cs
theorem csf_head {F : Int → CF} {x : Int → PI} {m : Nat} (h : ∀ e, CsF (F e) m) : CsF (headF F x) m := fun n cs => (csf_seq (csf_ins _) (h _)).mono (by omega) n cs
theorem csf_arm {e : Int} {f : CF} {m : Nat} (h : CsF f m) : CsF (armF e f) m := fun n cs => (h (n + 1) cs).more (Nat.le_refl _) fun p hp => by
 simp only [List.mem_cons, List.mem_append]
 exact .inr (.inl hp)
def KCs : List KC → Nat → Prop
 | [], _ => True
 | k :: r, m => ∃ a c, a + c ≤ m ∧ CsF k.v a ∧ CsF k.a a ∧ KCs r c
theorem csf_vals (e : Int) : ∀ (l : List KC) (m : Nat) (b : Int), KCs l m → CsF (valsF e b l) m
 | [], m, _, _ => csf_nil.mono (Nat.zero_le _)
 | [k], m, _, ⟨a, c, h, h1, _, _⟩ => CsF.mono (f := k.v) h1 (by omega)
 | k :: k2 :: r, m, b, ⟨a, c, h, h1, _, hr⟩ => (csf_seq h1 (csf_seq (csf_ins _) (csf_vals e (k2 :: r) c (b + 1) hr))).mono (by omega)
theorem csf_walk (e : Int) : ∀ (l : List KC) (m : Nat) (i : Int), KCs l m → CsF (walkF e i l) m
 | [], m, _, _ => csf_nil.mono (Nat.zero_le _)
 | k :: r, m, i, ⟨a, c, h, h1, h2, hr⟩ => by
  have h3 := csf_walk e r c (i + 1) hr
  by_cases q : isAr k = true
  ·exact CsF.mono (f := walkF e i (k :: r)) (csf_seq (a := a) (by rw [if_pos q]; exact csf_seq h2 (csf_ins _)) h3) (by omega)
  ·exact CsF.mono (f := walkF e i (k :: r)) (csf_seq (a := a) (by rw [if_neg q]; exact h1) h3) (by omega)
theorem csf_chs (e : Int) : ∀ (l : List KC) (m : Nat), KCs l m → CsF (chsF e l) m
 | [], m, _ => csf_nil.mono (Nat.zero_le _)
 | [k], m, ⟨a, c, h, h1, _, _⟩ => CsF.mono (f := k.v) h1 (by omega)
 | k :: k2 :: r, m, ⟨a, c, h, h1, _, hr⟩ => (csf_seq h1 (csf_seq (csf_ins _) (csf_chs e (k2 :: r) c hr))).mono (by omega)
theorem csf_sw (e : Int) : ∀ (l : List KC) (m : Nat), KCs l m → CsF (swF e l) (m + 1)
 | [], m, _ => (csf_seq (csf_ins _) (csf_err (by omega) (by omega))).mono (by omega)
 | [k], m, ⟨a, c, h, h1, _, _⟩ => (csf_seq (csf_ins _) h1).mono (by omega)
 | k :: k2 :: r, m, ⟨a, c, h, h1, _, ⟨a2, c2, h', h1', _, hr⟩⟩ => (csf_seq h1 (csf_seq (csf_ins _) (csf_seq (csf_arm h1') (csf_sw e r c2 hr)))).mono (by omega)
theorem kcs_first : ∀ {l : List KC} {m : Nat}, KCs l m → ∃ a c, CsF (nth l 0).v a ∧ CsF (nth l 0).a a ∧ KCs l.tail c ∧ a + c ≤ m
 | [], m, _ => ⟨0, m, csf_nil, csf_nil, trivial, by omega⟩
 | k :: r, m, ⟨a, c, h, h1, h2, hr⟩ => ⟨a, c, h1, h2, hr, h⟩
theorem csf_if {l : List KC} {m : Nat} (h : KCs l m) : ∃ v c, CsF (nth l 0).v v ∧ CsF (ifF l) c ∧ v + c ≤ m + 1 := by
 obtain ⟨v0, c0, h0, _, k0, g0⟩ := kcs_first h
 obtain ⟨v1, c1, h1, _, k1, g1⟩ := kcs_first k0
 obtain ⟨v2, c2, h2, _, k2, g2⟩ := kcs_first k1
 rw [nth_tail] at h1
 rw [nth_tail, nth_tail] at h2
 simp only [Nat.zero_add, Nat.reduceAdd] at h1 h2
 have hs : CsF (elseF l) (v2 + 1) := by
  unfold elseF
  split
  ·exact h2.mono (by omega)
  ·exact (csf_con _ (by decide)).mono (by omega)
 refine ⟨v0, v1 + (v2 + 1), h0, fun n cs => ?_, by omega⟩
 have q := (h1 (n + 1) cs).seq (hs (n + 1 + ((nth l 1).v (n + 1) cs).1.length + 1) ((nth l 1).v (n + 1) cs).2)
 refine q.more (Nat.le_refl _) fun p hp => ?_
 simp only [List.mem_cons, List.mem_append] at hp ⊢
 rcases hp with hp | hp
 ·exact .inr (.inl hp)
 ·exact .inr (.inr (.inr hp))
theorem csf_lazy (h : Hd) {l : List KC} {m : Nat} (hk : KCs l m) : CsF (lazyF h l) (m + 1) := by
 obtain ⟨v0, c0, h0, _, k0, g0⟩ := kcs_first hk
 obtain ⟨v1, c1, h1, _, k1, g1⟩ := kcs_first k0
 rw [nth_tail] at h1
 unfold lazyF
 by_cases a1 : h.fn = 42
 ·rw [if_pos a1]
  obtain ⟨v, c, q1, q2, q3⟩ := csf_if hk
  exact (csf_seq q1 q2).mono q3
 rw [if_neg a1]
 by_cases a2 : h.fn = 43 ∨ h.fn = 44
 ·rw [if_pos a2]
  exact (csf_seq h0 (csf_head fun _ => h1)).mono (by omega)
 rw [if_neg a2]
 by_cases a3 : h.fn = 45
 ·rw [if_pos a3]
  exact (csf_seq h0 (fun n cs => csf_head (x := fun e => ⟨10, e, 0, 0, 0, chsT l.tail (n + 1) cs⟩) (fun e => csf_chs e l.tail c0 k0) n cs)).mono (by omega)
 ·rw [if_neg a3]
  exact (csf_seq h0 (csf_head (fun e => csf_sw e l.tail c0 k0))).mono (by omega)
theorem csf_rc (r : Rc) : CsF (rcF r) 1 := by
 unfold rcF
 split
 ·exact (csf_ins _).mono (by omega)
 ·exact csf_err (by omega) (by omega)
structure NumOk (h : Hd) : Prop where
 k2 : h.kind = 2 → h.text.length ≤ 32767
 k3 : h.kind = 3 → h.num = 0 ∨ h.num = 1
 k4 : h.kind = 4 → 1 ≤ h.num ∧ h.num ≤ 6
theorem csf_area (h : Hd) (hn : NumOk h) {l : List KC} {m : Nat} (hk : KCs l m) : CsF (areaF h l) (m + 1) := by
 obtain ⟨a0, c0, h0, h0', k0, g0⟩ := kcs_first hk
 unfold areaF
 split
 ·exact (csf_rc _).mono (by omega)
 split
 ·exact (csf_rc _).mono (by omega)
 split
 ·rename_i q; exact (csf_err (hn.k4 q).1 (hn.k4 q).2).mono (by omega)
 split
 ·exact (csf_err (by omega) (by omega)).mono (by omega)
 split
 ·exact (csf_seq h0 (csf_ins _)).mono (by omega)
 ·exact (csf_seq h0' (fun n cs => csf_seq (csf_head (x := fun e => ⟨7, e + 1, 0, 0, 0, []⟩) fun e => csf_vals (e + 1) l.tail c0 1 k0) (csf_ins _) n cs)).mono (by omega)
theorem csf_call (h : Hd) (hn : NumOk h) {l : List KC} {m : Nat} (hk : KCs l m) : CsF (callF h l) (m + 1) := by
 obtain ⟨a0, c0, h0, h0', k0, g0⟩ := kcs_first hk
 unfold callF
 split
 ·exact (csf_end fun e => csf_vals e l m 0 hk).mono (by omega)
 split
 ·exact csf_lazy h hk
 split
 ·split
  ·exact (csf_ins _).mono (by omega)
  ·exact (csf_seq h0' (csf_ins _)).mono (by omega)
 split
 ·exact (csf_seq (csf_area h hn hk) (csf_ins _)).mono (by omega)
 ·exact (csf_end fun e => csf_walk e l m 0 hk).mono (by omega)
theorem csf_val (h : Hd) (hn : NumOk h) {l : List KC} {m : Nat} (hk : KCs l m) : CsF (valF h l) (m + 1) := by
 obtain ⟨a0, c0, h0, h0', k0, g0⟩ := kcs_first hk
 obtain ⟨a1, c1, h1, _, k1, g1⟩ := kcs_first k0
 rw [nth_tail] at h1
 unfold valF
 split
 ·exact (csf_con _ (by simp [okC, okV])).mono (by omega)
 split
 ·rename_i q; exact (csf_con _ (by simp [okC, okV, hn.k2 q])).mono (by omega)
 split
 ·rename_i q; exact (csf_con _ (by rcases hn.k3 q with e | e <;> simp [okC, okV, e])).mono (by omega)
 split
 ·rename_i q; exact (csf_err (hn.k4 q).1 (hn.k4 q).2).mono (by omega)
 split
 ·exact (csf_ins _).mono (by omega)
 split
 ·exact (csf_err (by omega) (by omega)).mono (by omega)
 split
 ·exact (csf_seq h0 (csf_ins _)).mono (by omega)
 split
 ·exact (csf_seq h0 (csf_head fun _ => csf_seq h1 (csf_ins _))).mono (by omega)
 ·exact csf_call h hn hk
def AllN : Trees → Prop
 | .nil => True
 | .cons h k r => NumOk h ∧ AllN k ∧ AllN r
theorem csf_kcs : ∀ ks : Trees, AllN ks → KCs (kcs ks) ks.nodes
 | .nil, _ => trivial
 | .cons h k r, ⟨h1, h2, h3⟩ => ⟨k.nodes + 1, r.nodes, by simp only [Trees.nodes]; omega, csf_val h h1 (csf_kcs k h2), csf_area h h1 (csf_kcs k h2), csf_kcs r h3⟩
theorem csf_valT (h : Hd) (ks : Trees) (h1 : NumOk h) (h2 : AllN ks) : CsF (valT h ks) (ks.nodes + 1) := csf_val h h1 (csf_kcs ks h2)
def OpsF (f : CF) (l : List Int) : Prop := ∀ n cs, (f n cs).1.map (fun p => p.op) = l
theorem OpsF.len {f : CF} {l : List Int} (h : OpsF f l) (n : Nat) (cs : List PV) : (f n cs).1.length = l.length := by rw [← h n cs, List.length_map]
theorem ops_nil : OpsF nilF [] := fun _ _ => rfl
theorem ops_ins (x : PI) : OpsF (insF x) [x.op] := fun _ _ => rfl
theorem ops_con (v : PV) : OpsF (conF v) [1] := fun _ _ => rfl
theorem ops_seq {f g : CF} {a c : List Int} (h : OpsF f a) (k : OpsF g c) : OpsF (seqF f g) (a ++ c) := fun n cs => by
 unfold seqF
 rw [List.map_append, h, k]
theorem ops_end {F : Int → CF} {x : PI} {a : List Int} (h : ∀ e, OpsF (F e) a) : OpsF (endF F x) (a ++ [x.op]) := fun n cs => ops_seq (h _) (ops_ins x) n cs
theorem ops_head {F : Int → CF} {x : Int → PI} {a : List Int} {o : Int} (hx : ∀ e, (x e).op = o) (h : ∀ e, OpsF (F e) a) : OpsF (headF F x) (o :: a) := fun n cs => by
 have := ops_seq (ops_ins (x ((n + 1 + (F 0 (n + 1) cs).1.length : Nat) : Int))) (h ((n + 1 + (F 0 (n + 1) cs).1.length : Nat) : Int)) n cs
 rw [hx] at this
 exact this
theorem ops_arm {e : Int} {f : CF} {a : List Int} (h : OpsF f a) : OpsF (armF e f) (11 :: (a ++ [13])) := fun n cs => by
 unfold armF
 simp only [List.map_cons, List.map_append, List.map_nil]
 rw [show List.map (fun p => p.op) (f (n + 1) cs).1 = a from h _ _]
def KOp (k : KC) : Prop := (∃ a, OpsF k.v a) ∧ ∃ a, OpsF k.a a
theorem ops_vals : ∀ (l : List KC), (∀ k ∈ l, KOp k) → ∃ a, ∀ e b, OpsF (valsF e b l) a
 | [], _ => ⟨[], fun _ _ => ops_nil⟩
 | [k], h => by obtain ⟨a, q⟩ := (h k (by simp)).1; exact ⟨a, fun _ _ => q⟩
 | k :: k2 :: r, h => by
  obtain ⟨a, q⟩ := (h k (by simp)).1
  obtain ⟨c, g⟩ := ops_vals (k2 :: r) fun x hx => h x (List.mem_cons_of_mem _ hx)
  exact ⟨a ++ ([7] ++ c), fun e b => ops_seq q (ops_seq (ops_ins _) (g e (b + 1)))⟩
theorem ops_walk : ∀ (l : List KC), (∀ k ∈ l, KOp k) → ∃ a, ∀ e b, OpsF (walkF e b l) a
 | [], _ => ⟨[], fun _ _ => ops_nil⟩
 | k :: r, h => by
  obtain ⟨c, g⟩ := ops_walk r fun x hx => h x (List.mem_cons_of_mem _ hx)
  obtain ⟨⟨a, q⟩, ⟨a', q'⟩⟩ := h k (by simp)
  by_cases i : isAr k = true
  ·exact ⟨(a' ++ [7]) ++ c, fun e b => ops_seq (by rw [if_pos i]; exact ops_seq q' (ops_ins _)) (g e (b + 1))⟩
  ·exact ⟨a ++ c, fun e b => ops_seq (by rw [if_neg i]; exact q) (g e (b + 1))⟩
theorem ops_chs : ∀ (l : List KC), (∀ k ∈ l, KOp k) → ∃ a, ∀ e, OpsF (chsF e l) a
 | [], _ => ⟨[], fun _ => ops_nil⟩
 | [k], h => by obtain ⟨a, q⟩ := (h k (by simp)).1; exact ⟨a, fun _ => q⟩
 | k :: k2 :: r, h => by
  obtain ⟨a, q⟩ := (h k (by simp)).1
  obtain ⟨c, g⟩ := ops_chs (k2 :: r) fun x hx => h x (List.mem_cons_of_mem _ hx)
  exact ⟨a ++ ([13] ++ c), fun e => ops_seq q (ops_seq (ops_ins _) (g e))⟩
theorem ops_sw : ∀ (l : List KC), (∀ k ∈ l, KOp k) → ∃ a, ∀ e, OpsF (swF e l) a
 | [], _ => ⟨[12] ++ [1], fun _ => ops_seq (ops_ins _) (ops_con _)⟩
 | [k], h => by obtain ⟨a, q⟩ := (h k (by simp)).1; exact ⟨[12] ++ a, fun _ => ops_seq (ops_ins _) q⟩
 | k :: k2 :: r, h => by
  obtain ⟨a, q⟩ := (h k (by simp)).1
  obtain ⟨a2, q2⟩ := (h k2 (by simp)).1
  obtain ⟨c, g⟩ := ops_sw r fun x hx => h x (List.mem_cons_of_mem _ (List.mem_cons_of_mem _ hx))
  exact ⟨a ++ ([7] ++ ((11 :: (a2 ++ [13])) ++ c)), fun e => ops_seq q (ops_seq (ops_ins _) (ops_seq (ops_arm q2) (g e)))⟩
theorem ops_nth {l : List KC} (h : ∀ k ∈ l, KOp k) (i : Nat) : KOp (nth l i) := by
 unfold nth
 rw [List.getD_eq_getElem?_getD]
 cases e : l[i]? with
 | none => exact ⟨⟨[], ops_nil⟩, ⟨[], ops_nil⟩⟩
 | some k => exact h k (List.mem_of_getElem? e)
theorem ops_tail {l : List KC} (h : ∀ k ∈ l, KOp k) : ∀ k ∈ l.tail, KOp k := fun k hk => h k (List.mem_of_mem_tail hk)
theorem ops_if {l : List KC} (h : ∀ k ∈ l, KOp k) : ∃ a, OpsF (ifF l) a := by
 obtain ⟨a1, q1⟩ := (ops_nth h 1).1
 obtain ⟨a2, q2⟩ : ∃ a, OpsF (elseF l) a := by
  unfold elseF
  split
  ·exact (ops_nth h 2).1
  ·exact ⟨_, ops_con _⟩
 exact ⟨8 :: (a1 ++ 13 :: a2), fun n cs => by
  unfold ifF
  simp only [List.map_cons, List.map_append]
  rw [show List.map (fun p => p.op) ((nth l 1).v (n + 1) cs).1 = a1 from q1 _ _, show List.map (fun p => p.op) (elseF l (n + 1 + ((nth l 1).v (n + 1) cs).1.length + 1) ((nth l 1).v (n + 1) cs).2).1 = a2 from q2 _ _]⟩
theorem ops_lazy (h : Hd) {l : List KC} (hk : ∀ k ∈ l, KOp k) : ∃ a, OpsF (lazyF h l) a := by
 obtain ⟨a0, q0⟩ := (ops_nth hk 0).1
 obtain ⟨a1, q1⟩ := (ops_nth hk 1).1
 unfold lazyF
 split
 ·obtain ⟨c, g⟩ := ops_if hk
  exact ⟨_, ops_seq q0 g⟩
 split
 ·exact ⟨_, ops_seq q0 (ops_head (o := 9) (fun _ => rfl) fun _ => q1)⟩
 split
 ·obtain ⟨c, g⟩ := ops_chs l.tail (ops_tail hk)
  exact ⟨_, ops_seq q0 (fun n cs => ops_head (o := 10) (x := fun e => ⟨10, e, 0, 0, 0, chsT l.tail (n + 1) cs⟩) (fun _ => rfl) g n cs)⟩
 ·obtain ⟨c, g⟩ := ops_sw l.tail (ops_tail hk)
  exact ⟨_, ops_seq q0 (ops_head (o := 7) (fun _ => rfl) g)⟩
theorem ops_rc (r : Rc) : ∃ a, OpsF (rcF r) a := by
 unfold rcF
 split
 ·exact ⟨_, ops_ins _⟩
 ·exact ⟨_, ops_con _⟩
theorem ops_area (h : Hd) {l : List KC} (hk : ∀ k ∈ l, KOp k) : ∃ a, OpsF (areaF h l) a := by
 obtain ⟨⟨a0, q0⟩, ⟨a0', q0'⟩⟩ := ops_nth hk 0
 unfold areaF
 split
 ·exact ops_rc _
 split
 ·exact ops_rc _
 split
 ·exact ⟨_, ops_con _⟩
 split
 ·exact ⟨_, ops_con _⟩
 split
 ·exact ⟨_, ops_seq q0 (ops_ins _)⟩
 ·obtain ⟨c, g⟩ := ops_vals l.tail (ops_tail hk)
  exact ⟨_, ops_seq q0' (fun n cs => ops_seq (ops_head (o := 7) (x := fun e => ⟨7, e + 1, 0, 0, 0, []⟩) (fun _ => rfl) fun e => g (e + 1) 1) (ops_ins _) n cs)⟩
theorem ops_call (h : Hd) {l : List KC} (hk : ∀ k ∈ l, KOp k) : ∃ a, OpsF (callF h l) a := by
 obtain ⟨⟨a0, q0⟩, ⟨a0', q0'⟩⟩ := ops_nth hk 0
 unfold callF
 split
 ·obtain ⟨c, g⟩ := ops_vals l hk
  exact ⟨_, ops_end fun e => g e 0⟩
 split
 ·exact ops_lazy h hk
 split
 ·split
  ·exact ⟨_, ops_ins _⟩
  ·exact ⟨_, ops_seq q0' (ops_ins _)⟩
 split
 ·obtain ⟨c, g⟩ := ops_area h hk
  exact ⟨_, ops_seq g (ops_ins _)⟩
 ·obtain ⟨c, g⟩ := ops_walk l hk
  exact ⟨_, ops_end fun e => g e 0⟩
theorem ops_val (h : Hd) {l : List KC} (hk : ∀ k ∈ l, KOp k) : ∃ a, OpsF (valF h l) a := by
 obtain ⟨a0, q0⟩ := (ops_nth hk 0).1
 obtain ⟨a1, q1⟩ := (ops_nth hk 1).1
 unfold valF
 split
 ·exact ⟨_, ops_con _⟩
 split
 ·exact ⟨_, ops_con _⟩
 split
 ·exact ⟨_, ops_con _⟩
 split
 ·exact ⟨_, ops_con _⟩
 split
 ·exact ⟨_, ops_ins _⟩
 split
 ·exact ⟨_, ops_con _⟩
 split
 ·exact ⟨_, ops_seq q0 (ops_ins _)⟩
 split
 ·exact ⟨_, ops_seq q0 (ops_head (o := 7) (fun _ => rfl) fun _ => ops_seq q1 (ops_ins _))⟩
 ·exact ops_call h hk
theorem ops_kcs : ∀ ks : Trees, ∀ k ∈ kcs ks, KOp k
 | .nil, k, h => by simp [kcs] at h
 | .cons h k r, x, hx => by
  rcases List.mem_cons.1 hx with rfl | hx
  ·exact ⟨ops_val h (ops_kcs k), ops_area h (ops_kcs k)⟩
  ·exact ops_kcs r x hx
theorem ops_valT (h : Hd) (ks : Trees) : ∃ a, OpsF (valT h ks) a := ops_val h (ops_kcs ks)
end Go.Proofs.YtlmpiobdgkmmgaaGreatDoor
namespace Go.Proofs.YtlmpiobdgkmmgaaGreatDoor
theorem Frag.seqN {cs : List PV} {c d : List PI} {n : Nat} {s u v : List Int} {M M' M2 : Int → Prop} {O : Lb} (h : Frag cs c (n : Int) s M u M' O) (k : Frag cs d ((n + c.length : Nat) : Int) u M' v M2 O) : Frag cs (c ++ d) (n : Int) s M v M2 O :=
 h.seq (by rw [← Int.natCast_add]; exact k)
structure Clr (O : Lb) (n L : Nat) (u : List Int) : Prop where
 no : ∀ y : Int, (n : Int) < y → y < (n : Int) + (L : Int) → O y = none
 at_ : ∀ t, O ((n : Int) + (L : Int)) = some t → t = u
theorem Clr.part {O : Lb} {n L n' L' : Nat} {u u' : List Int} (h : Clr O n L u) (h1 : n ≤ n') (h2 : n' + L' < n + L) (h3 : 0 < L') : Clr O n' L' u' :=
 ⟨fun y a b => h.no y (by omega) (by omega), fun t ht => by rw [h.no _ (by omega) (by omega)] at ht; cases ht⟩
theorem Clr.last {O : Lb} {n L n' L' : Nat} {u : List Int} (h : Clr O n L u) (h1 : n ≤ n') (h2 : n' + L' = n + L) : Clr O n' L' u :=
 ⟨fun y a b => h.no y (by omega) (by omega), fun t ht => h.at_ t (by rw [← Int.natCast_add, ← h2, Int.natCast_add]; exact ht)⟩
theorem Clr.lab {O O' : Lb} {n L : Nat} {u : List Int} {cs : List PV} {c : List PI} {s : List Int} {M M' : Int → Prop} (h : Clr O n L u) (hL : c.length = L) (h1 : O' ((n : Int) + (L : Int)) = some u) (h2 : ∀ y, (n : Int) + (L : Int) < y → O' y = O y) (f : Frag cs c (n : Int) s M u M' O') : Frag cs c (n : Int) s M u M' O :=
 f.lab (fun y t hy ht => by
  by_cases q : y < (n : Int) + (L : Int)
  ·rw [h.no y hy q] at ht; cases ht
  ·by_cases q2 : y = (n : Int) + (L : Int)
   ·rw [q2] at ht ⊢; rw [h1, h.at_ t ht]
   ·rw [h2 y (by omega)]; exact ht) (fun y hy => h2 y (by rw [hL] at hy; exact hy))
def TF (fin : List PV) (f : CF) (i o : List Int) (m : Nat) : Prop := ∀ (n : Nat) (cs : List PV) (s : List Int) (M : Int → Prop) (O : Lb), (f n cs).2 <+: fin → s.length + m ≤ 1024 → Clr O n (f n cs).1.length (s ++ o) → Frag fin (f n cs).1 (n : Int) (s ++ i) M (s ++ o) M O
def PreF (f : CF) : Prop := ∀ n cs, cs <+: (f n cs).2
def NE (f : CF) : Prop := ∀ n cs, 0 < (f n cs).1.length
theorem CsF.pre {f : CF} {m : Nat} (h : CsF f m) : PreF f := fun n cs => (h n cs).pre
theorem TF.mono {fin : List PV} {f : CF} {i o : List Int} {m m' : Nat} (h : TF fin f i o m) (hm : m ≤ m') : TF fin f i o m' := fun n cs s M O hp hs hc => h n cs s M O hp (by omega) hc
theorem TF.frame {fin : List PV} {f : CF} {i o : List Int} {m : Nat} (h : TF fin f i o m) (q : List Int) : TF fin f (q ++ i) (q ++ o) (m + q.length) := fun n cs s M O hp hs hc => by
 rw [← List.append_assoc, ← List.append_assoc]
 exact h n cs (s ++ q) M O hp (by rw [List.length_append]; omega) (by rw [List.append_assoc]; exact hc)
theorem TF.seq {fin : List PV} {f g : CF} {i o p : List Int} {m : Nat} (h : TF fin f i o m) (k : TF fin g o p m) (hg : PreF g) (nf : NE f) (ng : NE g) : TF fin (seqF f g) i p m := fun n cs s M O hp hs hc => by
 unfold seqF at hp hc ⊢
 simp only at hp hc ⊢
 rw [List.length_append] at hc
 have h1 := nf n cs
 have h2 := ng (n + (f n cs).1.length) (f n cs).2
 exact Frag.seqN (h n cs s M O ((hg _ _).trans hp) hs (hc.part (Nat.le_refl _) (by omega) h1)) (k _ _ s M O hp hs (hc.last (by omega) (by omega)))
theorem ne_seq {f g : CF} (h : NE g) : NE (seqF f g) := fun n cs => by
 unfold seqF
 simp only [List.length_append]
 have := h (n + (f n cs).1.length) (f n cs).2
 omega
theorem ne_seq1 {f g : CF} (h : NE f) : NE (seqF f g) := fun n cs => by
 unfold seqF
 simp only [List.length_append]
 have := h n cs
 omega
theorem ne_ins (x : PI) : NE (insF x) := fun _ _ => Nat.one_pos
theorem ne_con (v : PV) : NE (conF v) := fun _ _ => Nat.one_pos
theorem ne_head {F : Int → CF} {x : Int → PI} : NE (headF F x) := fun n cs => ne_seq1 (ne_ins _) n cs
theorem ne_end {F : Int → CF} {x : PI} : NE (endF F x) := fun n cs => ne_seq (ne_ins _) n cs
theorem ne_rc (r : Rc) : NE (rcF r) := by
 unfold rcF
 split
 ·exact ne_ins _
 ·exact ne_con _
theorem ne_area (h : Hd) (l : List KC) : NE (areaF h l) := by
 unfold areaF
 split
 ·exact ne_rc _
 split
 ·exact ne_rc _
 split
 ·exact ne_con _
 split
 ·exact ne_con _
 split
 ·exact ne_seq (ne_ins _)
 ·exact ne_seq fun n cs => ne_seq (ne_ins _) n cs
theorem ne_if (l : List KC) : NE (ifF l) := fun _ _ => Nat.succ_pos _
theorem ne_lazy (h : Hd) (l : List KC) : NE (lazyF h l) := by
 unfold lazyF
 split
 ·exact ne_seq (ne_if l)
 split
 ·exact ne_seq ne_head
 split
 ·exact ne_seq fun n cs => ne_head n cs
 ·exact ne_seq ne_head
theorem ne_val (h : Hd) (l : List KC) : NE (valF h l) := by
 unfold valF
 split
 ·exact ne_con _
 split
 ·exact ne_con _
 split
 ·exact ne_con _
 split
 ·exact ne_con _
 split
 ·exact ne_ins _
 split
 ·exact ne_con _
 split
 ·exact ne_seq (ne_ins _)
 split
 ·exact ne_seq ne_head
 unfold callF
 split
 ·exact ne_end
 split
 ·exact ne_lazy h l
 split
 ·split
  ·exact ne_ins _
  ·exact ne_seq (ne_ins _)
 split
 ·exact ne_seq (ne_ins _)
 ·exact ne_end
section
variable {fin : List PV} {n e : Int} {s : List Int} {M : Int → Prop} {O : Lb}
theorem frag_takes {p : PI} {l more : List Int} (hr : rowOk p = true) (hg : goodI fin p = true) (hj : jumpsI p = []) (hs : ∀ n s0, stepI fin p n s0 = takesS l more n s0) (hO : ∀ t, O (n + 1) = some t → t = s ++ more) (hl : s.length + more.length ≤ 1024) : Frag fin [p] n (s ++ l) M (s ++ more) M O :=
 Frag.ins hr hg (by rw [hj]; simp) hO fun s0 hf => by
  obtain ⟨a, b, rfl, fa, fb⟩ := hf.split s l
  refine ⟨[(n + 1, a ++ more)], ?_, fun q hq => ?_, .inl ⟨_, List.mem_singleton_self _, rfl⟩, fun y hy => .inl hy⟩
  ·rw [hs, takesS, if_pos (endsS_fit fb), ← fb.len, withS_app]
  ·rw [List.mem_singleton.1 hq]
   exact ⟨by simp only; omega, _, upd_at _ _ _, fa.app (Fit.refl _), by simp only [List.length_append, fa.len]; omega⟩
theorem tf_takes {p : PI} {l more : List Int} {m : Nat} (hr : rowOk p = true) (hg : goodI fin p = true) (hj : jumpsI p = []) (hs : ∀ n s0, stepI fin p n s0 = takesS l more n s0) (hm : more.length ≤ m) : TF fin (insF p) l more m :=
 fun _ _ _ _ _ _ hl hc => frag_takes hr hg hj hs (fun t ht => hc.at_ t ht) (by omega)
theorem ix_at {cs : List PV} {v : PV} (h : pushC cs v <+: fin) : fin[ixOf cs v]? = some v := by
 have h1 := ixOf_lt cs v
 obtain ⟨r, rfl⟩ := h
 rw [List.getElem?_append_left h1]
 unfold pushC at h1 ⊢
 by_cases q : ixOf cs v < cs.length
 ·rw [if_pos q]
  clear h1
  induction cs with
  | nil => simp at q
  | cons x r ih =>
   unfold ixOf at q ⊢
   by_cases e : x = v
   ·rw [if_pos e, e]; rfl
   ·rw [if_neg e] at q ⊢
    exact ih (by simpa using q)
 ·rw [if_neg q, (ixOf_none cs v q).2]
  simp
theorem tf_con (v : PV) (it : Int) (hv : v.kind = 4 ∨ it = 86) : TF fin (conF v) [] [it] 1 := fun n cs s M O hp hl hc => by
 have h1 := ix_at (fin := fin) hp
 have h2 := (List.getElem?_eq_some_iff.1 h1).1
 refine Frag.ins ?_ ?_ (by simp [jumpsI]) (fun t ht => hc.at_ t ht) fun s0 hf => ?_
 ·simp [rowOk, usesI]
 ·simp only [goodI, inB, if_true, Bool.and_eq_true, decide_eq_true_eq]
  omega
 ·rw [List.append_nil] at hf
  refine ⟨[((n : Int) + 1, s0 ++ [if v.kind = 4 then 69 else 86])], ?_, fun q hq => ?_, .inl ⟨_, List.mem_singleton_self _, rfl⟩, fun y hy => .inl hy⟩
  ·simp only [stepI, if_true, kindC, Int.toNat_natCast, h1, withS_zero]
  ·rw [List.mem_singleton.1 hq]
   refine ⟨by simp only; omega, _, upd_at _ _ _, hf.app ?_, by simp only [List.length_append, hf.len, List.length_singleton]; omega⟩
   rcases hv with hv | hv
   ·rw [if_pos hv]; exact ⟨.inr rfl, trivial⟩
   ·subst hv; split
    ·exact ⟨.inr rfl, trivial⟩
    ·exact ⟨.inl rfl, trivial⟩
theorem tf_rc (r : Rc) : TF fin (rcF r) [] [65] 1 := by
 unfold rcF
 by_cases h : rcOk r = true
 ·rw [if_pos h]
  refine tf_takes (by simp [rowOk, usesI]) ?_ (by simp [jumpsI]) (fun n s0 => by simp [stepI]) (by simp)
  simp only [rcOk, Bool.and_eq_true, decide_eq_true_eq] at h
  simp [goodI, smallB, areaB8, plcB]
  omega
 ·rw [if_neg h]
  exact tf_con _ _ (.inl rfl)
theorem frag_err {q : List Int} {b it : Int} (hb : (q.length : Int) = b + 1) (h0 : 0 ≤ b) (he : n + 1 < e) (hO : O e = some (s ++ [it])) (h1 : ∀ t, O (n + 1) = some t → t = s ++ q) (hl : s.length + q.length ≤ 1024) : Frag fin [⟨7, e, b, 0, 0, []⟩] n (s ++ q) M (s ++ q) M O :=
 Frag.ins (by simp [rowOk, usesI]) (by simp [goodI]; omega) (by simp [jumpsI, hO]; omega) h1 fun s0 hf => by
  obtain ⟨a, c, rfl, fa, fc⟩ := hf.split s q
  have hc : c.length = (b + 1).toNat := by rw [fc.len]; omega
  refine ⟨[(n + 1, a ++ c), (e, a ++ [69])], ?_, ?_, .inl ⟨_, List.mem_cons_self, rfl⟩, fun y hy => .inl hy⟩
  ·simp only [stepI, errS, Int.reduceEq, if_false, if_true]
   rw [if_pos (by rw [List.length_append]; omega), ← hc, withS_app]
  ·intro x hx
   simp only [List.mem_cons, List.not_mem_nil, or_false] at hx
   rcases hx with rfl | rfl
   ·exact ⟨by simp only; omega, _, upd_at _ _ _, hf, by simp only [List.length_append, fa.len, fc.len]; omega⟩
   ·exact ⟨by simp only; omega, _, (upd_ne _ _ (by omega)).trans hO, fa.app ⟨.inr rfl, trivial⟩, by simp only [List.length_append, fa.len, List.length_singleton]; omega⟩
theorem frag_jump {u : List Int} (hM : M (n + 1)) (he : n + 1 < e) (hO : O e = some s) (h1 : ∀ t, O (n + 1) = some t → t = u) (hl : s.length ≤ 1024) : Frag fin [⟨13, e, 0, 0, 0, []⟩] n s M u M O :=
 Frag.ins (by simp [rowOk, usesI]) (by simp [goodI]) (by simp [jumpsI, hO]; omega) h1 fun s0 hf => by
  refine ⟨[(e, s0)], by simp [stepI], fun x hx => ?_, .inr hM, fun y hy => .inl hy⟩
  rw [List.mem_singleton.1 hx]
  exact ⟨by simp only; omega, _, (upd_ne _ _ (by omega)).trans hO, hf, by simp only [hf.len]; omega⟩
theorem frag_if {a b : Int} (ha : n + 1 < a) (hb : n + 1 < b) (hO : O a = some s) (hO2 : O b = some (s ++ [86])) (h1 : ∀ t, O (n + 1) = some t → t = s) (hl : s.length + 1 ≤ 1024) : Frag fin [⟨8, a, b, 0, 0, []⟩] n (s ++ [86]) M s (fun y => M y ∨ y = a) O :=
 Frag.ins (by simp [rowOk, usesI]) (by simp [goodI]) (by simp [jumpsI, hO, hO2]; omega) h1 fun s0 hf => by
  obtain ⟨c, d, rfl, fc, fd⟩ := hf.split s [86]
  have hd : d.length = 1 := fd.len
  refine ⟨[(n + 1, c), (a, c), (b, c ++ [69])], ?_, ?_, .inl ⟨_, List.mem_cons_self, rfl⟩, fun y hy => hy.imp id fun q => ⟨(a, c), by simp, q.symm⟩⟩
  ·simp only [stepI, ifS, Int.reduceEq, if_false, if_true]
   rw [if_pos (endsS_fit fd), ← hd, withS_app, withS_app, List.append_nil]
  ·intro x hx
   simp only [List.mem_cons, List.not_mem_nil, or_false] at hx
   rcases hx with rfl | rfl | rfl
   ·exact ⟨by simp only; omega, _, upd_at _ _ _, fc, by simp only [fc.len]; omega⟩
   ·exact ⟨by simp only; omega, _, (upd_ne _ _ (by omega)).trans hO, fc, by simp only [fc.len]; omega⟩
   ·exact ⟨by simp only; omega, _, (upd_ne _ _ (by omega)).trans hO2, fc.app ⟨.inr rfl, trivial⟩, by simp only [List.length_append, fc.len, List.length_singleton]; omega⟩
theorem frag_ok {b : Int} (hb : b = 0 ∨ b = 6) (he : n + 1 < e) (hO : O e = some (s ++ [86])) (h1 : ∀ t, O (n + 1) = some t → t = s) (hl : s.length + 1 ≤ 1024) : Frag fin [⟨9, e, b, 0, 0, []⟩] n (s ++ [86]) M s M O :=
 Frag.ins (by simp [rowOk, usesI]) (by simp [goodI, hb]) (by simp [jumpsI, hO]; omega) h1 fun s0 hf => by
  obtain ⟨c, d, rfl, fc, fd⟩ := hf.split s [86]
  have hd : d.length = 1 := fd.len
  refine ⟨[(n + 1, c), (e, c ++ [86])], ?_, ?_, .inl ⟨_, List.mem_cons_self, rfl⟩, fun y hy => .inl hy⟩
  ·simp only [stepI, okS, Int.reduceEq, if_false, if_true]
   rw [if_pos (endsS_fit fd), ← hd, withS_app, withS_app, List.append_nil]
  ·intro x hx
   simp only [List.mem_cons, List.not_mem_nil, or_false] at hx
   rcases hx with rfl | rfl
   ·exact ⟨by simp only; omega, _, upd_at _ _ _, fc, by simp only [fc.len]; omega⟩
   ·exact ⟨by simp only; omega, _, (upd_ne _ _ (by omega)).trans hO, fc.app (Fit.refl _), by simp only [List.length_append, fc.len, List.length_singleton]; omega⟩
theorem frag_choose {T : List Int} (hT : n + 1 ∈ T) (he : n + 1 < e) (hO : O e = some (s ++ [86])) (hx : ∀ x ∈ T, n < x ∧ (x ≠ n + 1 → O x = some s)) (h1 : ∀ t, O (n + 1) = some t → t = s) (hl : s.length + 1 ≤ 1024) : Frag fin [⟨10, e, 0, 0, 0, T⟩] n (s ++ [86]) M s (fun y => M y ∨ y ∈ T) O :=
 Frag.ins (by cases T with
  | nil => simp at hT
  | cons x r => simp [rowOk, usesI]) (by simp [goodI]) (fun x hq => by
   simp only [jumpsI, Int.reduceEq, or_self, if_false, if_true, List.mem_cons] at hq
   rcases hq with rfl | hq
   ·exact ⟨by omega, .inr (by rw [hO]; simp)⟩
   ·have g := hx x hq
    by_cases q : x = n + 1
    ·exact ⟨g.1, .inl (by omega)⟩
    ·exact ⟨g.1, .inr (by rw [g.2 q]; simp)⟩) h1 fun s0 hf => by
  obtain ⟨c, d, rfl, fc, fd⟩ := hf.split s [86]
  have hd : d.length = 1 := fd.len
  refine ⟨(e, c ++ [69]) :: T.map fun x => (x, c), ?_, ?_, .inl ⟨(n + 1, c), List.mem_cons_of_mem _ (List.mem_map.2 ⟨_, hT, rfl⟩), rfl⟩, fun y hy => hy.imp id fun q => ⟨(y, c), List.mem_cons_of_mem _ (List.mem_map.2 ⟨_, q, rfl⟩), rfl⟩⟩
  ·simp only [stepI, chooseS, Int.reduceEq, if_false, if_true]
   rw [if_pos (endsS_fit fd), ← hd, withS_app, withS_app, List.append_nil]
  ·intro x hq
   rcases List.mem_cons.1 hq with rfl | hq
   ·exact ⟨by simp only; omega, _, (upd_ne _ _ (by omega)).trans hO, fc.app ⟨.inr rfl, trivial⟩, by simp only [List.length_append, fc.len, List.length_singleton]; omega⟩
   ·obtain ⟨x, hm, rfl⟩ := List.mem_map.1 hq
    have g := hx x hm
    refine ⟨g.1, s, ?_, fc, by simp only [fc.len]; omega⟩
    by_cases q : x = n + 1
    ·rw [q]; exact upd_at _ _ _
    ·exact (upd_ne _ _ q).trans (g.2 q)
theorem frag_match {a : Int} (ha : n + 1 < a) (hO : O a = some (s ++ [86])) (h1 : ∀ t, O (n + 1) = some t → t = s) (hl : s.length + 1 ≤ 1024) : Frag fin [⟨11, a, 0, 0, 0, []⟩] n (s ++ [86, 86]) M s (fun y => M y ∨ y = a) O :=
 Frag.ins (by simp [rowOk, usesI]) (by simp [goodI]) (by simp [jumpsI, hO]; omega) h1 fun s0 hf => by
  obtain ⟨c, d, rfl, fc, fd⟩ := hf.split s [86, 86]
  have hd : d.length = 2 := fd.len
  have hw : withS (c ++ d) 1 [] = c ++ d.take 1 := by
   unfold withS
   rw [List.append_nil, List.length_append, hd, show c.length + 2 - 1 = c.length + 1 from rfl, List.take_length_add_append]
  have fd1 : Fit (d.take 1) [86] := by
   match d, fd with
   | [x, y], ⟨h, _⟩ => exact ⟨h, trivial⟩
  refine ⟨[(n + 1, c), (a, c ++ d.take 1)], ?_, ?_, .inl ⟨_, List.mem_cons_self, rfl⟩, fun y hy => hy.imp id fun q => ⟨(a, c ++ d.take 1), by simp, q.symm⟩⟩
  ·simp only [stepI, matchS, Int.reduceEq, if_false, if_true]
   rw [if_pos (endsS_fit fd), hw, ← hd, withS_app, List.append_nil]
  ·intro x hx
   simp only [List.mem_cons, List.not_mem_nil, or_false] at hx
   rcases hx with rfl | rfl
   ·exact ⟨by simp only; omega, _, upd_at _ _ _, fc, by simp only [fc.len]; omega⟩
   ·exact ⟨by simp only; omega, _, (upd_ne _ _ (by omega)).trans hO, fc.app fd1, by simp only [List.length_append, fc.len, fd1.len, List.length_singleton]; omega⟩
theorem frag_walk {p : PI} {q : List Int} (hr : rowOk p = true) (hg : goodI fin p = true) (ho : p.op = 20) (hq : (q.length : Int) = p.b) (h1 : ∀ t, O (n + 1) = some t → t = s ++ [86]) (hl : s.length + 1 ≤ 1024) : Frag fin [p] n (s ++ q) M (s ++ [86]) M O :=
 Frag.ins hr hg (by simp [jumpsI, ho]) h1 fun s0 hf => by
  obtain ⟨a, c, rfl, fa, fc⟩ := hf.split s q
  have hc : c.length = p.b.toNat := by rw [fc.len]; omega
  refine ⟨[(n + 1, a ++ [86])], ?_, fun x hx => ?_, .inl ⟨_, List.mem_singleton_self _, rfl⟩, fun y hy => .inl hy⟩
  ·simp only [stepI, walkS, ho, Int.reduceEq, if_false, if_true]
   rw [if_pos (by rw [List.length_append]; omega), ← hc, withS_app]
  ·rw [List.mem_singleton.1 hx]
   exact ⟨by simp only; omega, _, upd_at _ _ _, fa.app (Fit.refl _), by simp only [List.length_append, fa.len, List.length_singleton]; omega⟩
end
end Go.Proofs.YtlmpiobdgkmmgaaGreatDoor
namespace Go.Proofs.YtlmpiobdgkmmgaaGreatDoor
structure KF (fin : List PV) (k : KC) (m : Nat) : Prop where
 one : 1 ≤ m
 v : TF fin k.v [] [86] m
 a : TF fin k.a [] [65] m
 nv : NE k.v
 na : NE k.a
 pv : PreF k.v
 pa : PreF k.a
def KFs (fin : List PV) : List KC → Nat → Prop
 | [], _ => True
 | k :: r, m => ∃ a c, a + c ≤ m ∧ KF fin k a ∧ KFs fin r c
section
variable {fin : List PV}
theorem KFs.len : ∀ {l : List KC} {m : Nat}, KFs fin l m → l.length ≤ m
 | [], _, _ => Nat.zero_le _
 | _ :: r, _, ⟨a, c, h, k, hr⟩ => by have := k.one; have := KFs.len hr; simp only [List.length_cons]; omega
theorem TF.toF {f : CF} {i o : List Int} {m : Nat} (h : TF fin f i o m) (e : Int) (n : Nat) (cs : List PV) (s : List Int) (M : Int → Prop) (O : Lb) (hp : (f n cs).2 <+: fin) (hs : s.length + m ≤ 1024) (he : e = (n : Int) + ((f n cs).1.length : Int)) (hO : O e = some (s ++ o)) (hn : ∀ y, (n : Int) < y → y < e → O y = none) : Frag fin (f n cs).1 (n : Int) (s ++ i) M (s ++ o) M O :=
 h n cs s M O hp hs ⟨fun y h1 h2 => hn y h1 (by omega), fun t ht => by rw [← he, hO] at ht; cases ht; rfl⟩
theorem rep_snoc (q : List Int) (n : Nat) : (q ++ [86]) ++ List.replicate n (86 : Int) = q ++ List.replicate (n + 1) 86 := by rw [List.append_assoc]; rfl
theorem frag_vals {e it : Int} {s : List Int} {M : Int → Prop} {O : Lb} (hO : O e = some (s ++ [it])) : ∀ (l : List KC) (m m' n : Nat) (cs : List PV) (b : Int) (q : List Int), KFs fin l m → KCs l m' → (valsF e b l n cs).2 <+: fin → (q.length : Int) = b → s.length + (q.length + m) ≤ 1024 → (n : Int) + ((valsF e b l n cs).1.length : Int) < e → (∀ y : Int, (n : Int) < y → y ≤ (n : Int) + ((valsF e b l n cs).1.length : Int) → O y = none) → Frag fin (valsF e b l n cs).1 (n : Int) (s ++ q) M (s ++ (q ++ List.replicate l.length 86)) M O
 | [], m, m', n, cs, b, q, _, _, _, _, _, _, _ => by
  simp only [valsF, nilF, List.length_nil, List.replicate_zero, List.append_nil]
  exact Frag.nil fun _ h => h
 | [k], m, m', n, cs, b, q, ⟨a, c, h, hk, _⟩, _, hp, hb, hl, he, hc => by
  simp only [valsF] at hp he hc ⊢
  have g := hk.v n cs (s ++ q) M O hp (by rw [List.length_append]; omega) ⟨fun y h1 h2 => hc y h1 (Int.le_of_lt h2), fun t ht => by rw [hc _ (by have := hk.nv n cs; omega) (Int.le_refl _)] at ht; cases ht⟩
  rw [List.append_nil, List.append_assoc] at g
  exact g
 | k :: k2 :: r, m, m', n, cs, b, q, ⟨a, c, h, hk, hr⟩, ⟨a', c', h', _, _, hr'⟩, hp, hb, hl, he, hc => by
  simp only [valsF, seqF, insF, List.length_append, List.length_singleton] at hp he hc ⊢
  have hn := hk.nv n cs
  have h1 := hk.one
  have hp1 : (k.v n cs).2 <+: fin := ((csf_vals e (k2 :: r) c' (b + 1) hr').pre _ _).trans hp
  have g := hk.v n cs (s ++ q) M O hp1 (by rw [List.length_append]; omega) ⟨fun y h1 h2 => hc y h1 (by omega), fun t ht => by rw [hc _ (by omega) (by omega)] at ht; cases ht⟩
  rw [List.append_nil, List.append_assoc] at g
  have g2 : Frag fin [⟨7, e, b, 0, 0, []⟩] ((n + (k.v n cs).1.length : Nat) : Int) (s ++ (q ++ [86])) M (s ++ (q ++ [86])) M O :=
   frag_err (it := it) (by rw [List.length_append, List.length_singleton]; omega) (by omega) (by omega) hO (fun t ht => by rw [hc _ (by omega) (by omega)] at ht; cases ht) (by rw [List.length_append, List.length_singleton]; omega)
  have g3 := frag_vals (M := M) hO (k2 :: r) c c' (n + (k.v n cs).1.length + 1) (k.v n cs).2 (b + 1) (q ++ [86]) hr hr' hp (by rw [List.length_append, List.length_singleton]; omega) (by rw [List.length_append, List.length_singleton]; omega) (by omega) (fun y h1 h2 => hc y (by omega) (by omega))
  rw [rep_snoc] at g3
  exact Frag.seqN g (Frag.seqN g2 g3)
theorem many_len (n : Nat) : manyS (n : Int) = List.replicate n 86 := by rw [manyS, Int.toNat_natCast]
theorem vals_len {l : List KC} (ho : ∀ k ∈ l, KOp k) (e b : Int) (n : Nat) (cs : List PV) : (valsF e b l n cs).1.length = (valsF 0 b l n cs).1.length := by
 obtain ⟨a, h⟩ := ops_vals l ho
 rw [(h e b).len, (h 0 b).len]
theorem tf_scalar {l : List KC} {m m' : Nat} (hk : KFs fin l m) (hc' : KCs l m') (ho : ∀ k ∈ l, KOp k) {p : PI} (hr : rowOk p = true) (hg : goodI fin p = true) (hj : jumpsI p = []) (hs : ∀ n s0, stepI fin p n s0 = takesS (manyS l.length) [86] n s0) : TF fin (endF (fun e => valsF e 0 l) p) [] [86] (m + 1) := fun n cs s M O hp hl hc => by
 obtain ⟨E, hE⟩ : ∃ E : Int, E = ((n + (valsF 0 0 l n cs).1.length + 1 : Nat) : Int) := ⟨_, rfl⟩
 simp only [endF, seqF, insF, ← hE, List.length_append, List.length_singleton] at hp hc ⊢
 rw [← vals_len ho E] at hE
 refine hc.lab (O' := upd O E (s ++ [86])) (by simp) ?_ ?_ (Frag.seqN (frag_vals (e := E) (it := 86) (upd_at _ _ _) l m m' n cs 0 [] hk hc' hp rfl (by simp only [List.length_nil]; omega) (by omega) fun y h1 h2 => ?_) ?_)
 ·rw [show (n : Int) + ((((valsF E 0 l n cs).1.length + 1 : Nat)) : Int) = E by omega]; exact upd_at _ _ _
 ·exact fun y hy => upd_ne _ _ (by omega)
 ·rw [upd_ne _ _ (by omega)]
  exact hc.no y h1 (by omega)
 ·rw [List.nil_append, ← many_len]
  exact frag_takes hr hg hj hs (fun t ht => by rw [show ((n + (valsF E 0 l n cs).1.length : Nat) : Int) + 1 = E by omega, upd_at] at ht; cases ht; rfl) (by simp only [List.length_singleton]; omega)
def itemOf (k : KC) : Int := if isAr k = true then 65 else 86
theorem frag_walks {e : Int} {s : List Int} {M : Int → Prop} {O : Lb} (hO : O e = some (s ++ [86])) : ∀ (l : List KC) (m m' n : Nat) (cs : List PV) (b : Int) (q : List Int), KFs fin l m → KCs l m' → (walkF e b l n cs).2 <+: fin → (q.length : Int) = b → s.length + (q.length + m) ≤ 1024 → (n : Int) + ((walkF e b l n cs).1.length : Int) < e → (∀ y : Int, (n : Int) < y → y ≤ (n : Int) + ((walkF e b l n cs).1.length : Int) → O y = none) → Frag fin (walkF e b l n cs).1 (n : Int) (s ++ q) M (s ++ (q ++ l.map itemOf)) M O
 | [], m, m', n, cs, b, q, _, _, _, _, _, _, _ => by
  simp only [walkF, nilF, List.map_nil, List.append_nil]
  exact Frag.nil fun _ h => h
 | k :: r, m, m', n, cs, b, q, ⟨a, c, h, hk, hr⟩, ⟨a', c', h', _, _, hr'⟩, hp, hb, hl, he, hc => by
  have h1 := hk.one
  have hw : (q ++ [itemOf k]) ++ r.map itemOf = q ++ (k :: r).map itemOf := by rw [List.append_assoc]; rfl
  by_cases i : isAr k = true
  ·have hi : itemOf k = 65 := if_pos i
   simp only [walkF, if_pos i, seqF, insF, List.length_append, List.length_singleton] at hp he hc ⊢
   have hn := hk.na n cs
   have hp1 : (k.a n cs).2 <+: fin := ((csf_walk e r c' (b + 1) hr').pre _ _).trans hp
   have g := hk.a n cs (s ++ q) M O hp1 (by rw [List.length_append]; omega) ⟨fun y h1 h2 => hc y h1 (by omega), fun t ht => by rw [hc _ (by omega) (by omega)] at ht; cases ht⟩
   rw [List.append_nil, List.append_assoc] at g
   have g2 : Frag fin [⟨7, e, b, 0, 0, []⟩] ((n + (k.a n cs).1.length : Nat) : Int) (s ++ (q ++ [65])) M (s ++ (q ++ [65])) M O :=
    frag_err (it := 86) (by rw [List.length_append, List.length_singleton]; omega) (by omega) (by omega) hO (fun t ht => by rw [hc _ (by omega) (by omega)] at ht; cases ht) (by rw [List.length_append, List.length_singleton]; omega)
   have g3 := frag_walks (M := M) hO r c c' (n + ((k.a n cs).1.length + 1)) (k.a n cs).2 (b + 1) (q ++ [65]) hr hr' hp (by rw [List.length_append, List.length_singleton]; omega) (by rw [List.length_append, List.length_singleton]; omega) (by omega) (fun y h1 h2 => hc y (by omega) (by omega))
   rw [← hw, hi]
   exact Frag.seqN (c := (k.a n cs).1 ++ [⟨7, e, b, 0, 0, []⟩]) (Frag.seqN g g2) (by rw [List.length_append]; exact g3)
  ·have hi : itemOf k = 86 := if_neg i
   simp only [walkF, if_neg i, seqF, List.length_append] at hp he hc ⊢
   have hn := hk.nv n cs
   have hp1 : (k.v n cs).2 <+: fin := ((csf_walk e r c' (b + 1) hr').pre _ _).trans hp
   have g := hk.v n cs (s ++ q) M O hp1 (by rw [List.length_append]; omega) ⟨fun y h1 h2 => hc y h1 (by omega), fun t ht => by rw [hc _ (by omega) (by omega)] at ht; cases ht⟩
   rw [List.append_nil, List.append_assoc] at g
   have g3 := frag_walks (M := M) hO r c c' (n + (k.v n cs).1.length) (k.v n cs).2 (b + 1) (q ++ [86]) hr hr' hp (by rw [List.length_append, List.length_singleton]; omega) (by rw [List.length_append, List.length_singleton]; omega) (by omega) (fun y h1 h2 => hc y (by omega) (by omega))
   rw [← hw, hi]
   exact Frag.seqN g g3
theorem walk_len {l : List KC} (ho : ∀ k ∈ l, KOp k) (e b : Int) (n : Nat) (cs : List PV) : (walkF e b l n cs).1.length = (walkF 0 b l n cs).1.length := by
 obtain ⟨a, h⟩ := ops_walk l ho
 rw [(h e b).len, (h 0 b).len]
theorem tf_walk {l : List KC} {m m' : Nat} (hk : KFs fin l m) (hc' : KCs l m') (ho : ∀ k ∈ l, KOp k) {p : PI} (hr : rowOk p = true) (hg : goodI fin p = true) (h20 : p.op = 20) (hb : p.b = (l.length : Nat)) : TF fin (endF (fun e => walkF e 0 l) p) [] [86] (m + 1) := fun n cs s M O hp hl hc => by
 obtain ⟨E, hE⟩ : ∃ E : Int, E = ((n + (walkF 0 0 l n cs).1.length + 1 : Nat) : Int) := ⟨_, rfl⟩
 simp only [endF, seqF, insF, ← hE, List.length_append, List.length_singleton] at hp hc ⊢
 rw [← walk_len ho E] at hE
 refine hc.lab (O' := upd O E (s ++ [86])) (by simp) ?_ ?_ (Frag.seqN (frag_walks (e := E) (upd_at _ _ _) l m m' n cs 0 [] hk hc' hp rfl (by simp only [List.length_nil]; omega) (by omega) fun y h1 h2 => ?_) ?_)
 ·rw [show (n : Int) + ((((walkF E 0 l n cs).1.length + 1 : Nat)) : Int) = E by omega]; exact upd_at _ _ _
 ·exact fun y hy => upd_ne _ _ (by omega)
 ·rw [upd_ne _ _ (by omega)]
  exact hc.no y h1 (by omega)
 ·exact frag_walk hr hg h20 (by rw [hb, List.nil_append, List.length_map]) (fun t ht => by rw [show ((n + (walkF E 0 l n cs).1.length : Nat) : Int) + 1 = E by omega, upd_at] at ht; cases ht; rfl) (by omega)
theorem tf_head {F : Int → CF} {x : Int → PI} {i j o : List Int} {m : Nat} (hlen : ∀ e n cs, (F e n cs).1.length = (F 0 n cs).1.length) (nf : ∀ e, NE (F e))
 (hx : ∀ (n e : Int) (s : List Int) (M : Int → Prop) (O : Lb), n + 1 < e → O e = some (s ++ o) → (∀ t, O (n + 1) = some t → t = s ++ j) → s.length + m ≤ 1024 → Frag fin [x e] n (s ++ i) M (s ++ j) M O)
 (hF : ∀ (e : Int) (n : Nat) (cs : List PV) (s : List Int) (M : Int → Prop) (O : Lb), (F e n cs).2 <+: fin → s.length + m ≤ 1024 → e = (n : Int) + ((F e n cs).1.length : Int) → O e = some (s ++ o) → (∀ y, (n : Int) < y → y < e → O y = none) → Frag fin (F e n cs).1 (n : Int) (s ++ j) M (s ++ o) M O) : TF fin (headF F x) i o m := fun n cs s M O hp hl hc => by
 obtain ⟨E, hE⟩ : ∃ E : Int, E = ((n + 1 + (F 0 (n + 1) cs).1.length : Nat) : Int) := ⟨_, rfl⟩
 simp only [headF, seqF, insF, ← hE, List.length_append, List.length_singleton] at hp hc ⊢
 rw [← hlen E] at hE
 have h1 := nf E (n + 1) cs
 refine hc.lab (O' := upd O E (s ++ o)) (by simp only [List.length_append, List.length_singleton]) ?_ ?_ (Frag.seqN (hx n E s M _ (by omega) (upd_at _ _ _) (fun t ht => ?_) hl) (hF E (n + 1) cs s M _ hp hl (by omega) (upd_at _ _ _) fun y h1 h2 => ?_))
 ·rw [show (n : Int) + ((1 + (F E (n + 1) cs).1.length : Nat) : Int) = E by omega]; exact upd_at _ _ _
 ·exact fun y hy => upd_ne _ _ (by omega)
 ·rw [upd_ne _ _ (by omega), hc.no _ (by omega) (by omega)] at ht; cases ht
 ·rw [upd_ne _ _ (by omega)]
  exact hc.no y (by omega) (by omega)
theorem tf_offset {l : List KC} {m m' : Nat} (hk : KFs fin l m) (hc' : KCs l m') (ho : ∀ k ∈ l, KOp k) {p : PI} (hr : rowOk p = true) (hg : goodI fin p = true) (hj : jumpsI p = []) (hs : ∀ n s0, stepI fin p n s0 = takesS (65 :: manyS l.length) [65] n s0) : TF fin (fun n cs => seqF (headF (fun e => valsF (e + 1) 1 l) (fun e => ⟨7, e + 1, 0, 0, 0, []⟩)) (insF p) n cs) [65] [65] (m + 1) := fun n cs s M O hp hl hc => by
 obtain ⟨E, hE⟩ : ∃ E : Int, E = ((n + 1 + (valsF (0 + 1) 1 l (n + 1) cs).1.length : Nat) : Int) := ⟨_, rfl⟩
 simp only [headF, seqF, insF, ← hE, List.length_append, List.length_singleton] at hp hc ⊢
 rw [vals_len ho, ← vals_len ho (E + 1)] at hE
 refine hc.lab (O' := upd O (E + 1) (s ++ [65])) (by simp only [List.length_append, List.length_singleton]) ?_ ?_ (Frag.seqN (Frag.seqN (frag_err (q := [65]) (it := 65) rfl (by omega) (by omega) (upd_at _ _ _) (fun t ht => ?_) (by simp only [List.length_singleton]; omega)) (frag_vals (e := E + 1) (it := 65) (upd_at _ _ _) l m m' (n + 1) cs 1 [65] hk hc' hp rfl (by simp only [List.length_singleton]; omega) (by omega) fun y h1 h2 => ?_)) ?_)
 ·rw [show (n : Int) + ((1 + (valsF (E + 1) 1 l (n + 1) cs).1.length + 1 : Nat) : Int) = E + 1 by omega]; exact upd_at _ _ _
 ·exact fun y hy => upd_ne _ _ (by omega)
 ·rw [upd_ne _ _ (by omega), hc.no _ (by omega) (by omega)] at ht; cases ht
 ·rw [upd_ne _ _ (by omega)]
  exact hc.no y (by omega) (by omega)
 ·rw [← many_len]
  exact frag_takes hr hg hj hs (fun t ht => by rw [List.length_append, List.length_singleton, show ((n + (1 + (valsF (E + 1) 1 l (n + 1) cs).1.length) : Nat) : Int) + 1 = E + 1 by omega, upd_at] at ht; cases ht; rfl) (by simp only [List.length_singleton]; omega)
theorem tf_if {l : List KC} {m1 m2 : Nat} (h1 : TF fin (nth l 1).v [] [86] m1) (n1 : NE (nth l 1).v) (h2 : TF fin (elseF l) [] [86] m2) (n2 : NE (elseF l)) (p2 : PreF (elseF l)) {m : Nat} (g1 : m1 ≤ m) (g2 : m2 ≤ m) (g3 : 1 ≤ m) : TF fin (ifF l) [86] [86] m := fun n cs s M O hp hl hc => by
 simp only [ifF, List.length_cons, List.length_append] at hp hc ⊢
 have e1 := n1 (n + 1) cs
 obtain ⟨x, hx⟩ : ∃ x, (nth l 1).v (n + 1) cs = x := ⟨_, rfl⟩
 have F1 := fun M O => h1 (n + 1) cs s M O
 rw [hx] at hp hc e1 F1 ⊢
 obtain ⟨A, hA⟩ : ∃ A, n + 1 + x.1.length + 1 = A := ⟨_, rfl⟩
 rw [hA] at hp hc ⊢
 have e2 := n2 A x.2
 have F2 := fun M O => h2 A x.2 s M O
 have P2 := p2 A x.2
 obtain ⟨y, hy⟩ : ∃ y, elseF l A x.2 = y := ⟨_, rfl⟩
 rw [hy] at hp hc e2 F2 P2 ⊢
 obtain ⟨B, hB⟩ : ∃ B, A + y.1.length = B := ⟨_, rfl⟩
 rw [hB]
 have OA : upd (upd O B (s ++ [86])) A s A = some s := upd_at _ _ _
 have OB : upd (upd O B (s ++ [86])) A s B = some (s ++ [86]) := (upd_ne _ _ (by omega)).trans (upd_at _ _ _)
 have ON : ∀ z : Int, (n : Int) < z → z < B → z ≠ A → upd (upd O B (s ++ [86])) A s z = none := fun z a b c => by
  rw [upd_ne _ _ c, upd_ne _ _ (by omega)]
  exact hc.no z a (by omega)
 refine hc.lab (O' := upd (upd O B (s ++ [86])) A s) (by simp) ?_ ?_ ?_
 ·rw [show (n : Int) + ((x.1.length + (y.1.length + 1) + 1 : Nat) : Int) = B by omega]; exact OB
 ·exact fun z hz => (upd_ne _ _ (by omega)).trans (upd_ne _ _ (by omega))
 have q1 : Frag fin [⟨8, A, B, 0, 0, []⟩] (n : Int) (s ++ [86]) M s (fun z => M z ∨ z = A) (upd (upd O B (s ++ [86])) A s) :=
  frag_if (by omega) (by omega) OA OB (fun t ht => by rw [ON _ (by omega) (by omega) (by omega)] at ht; cases ht) (by omega)
 have q2 := F1 (fun z => M z ∨ z = A) _ (P2.trans hp) (by omega) ⟨fun z a b => ON z (by omega) (by omega) (by omega), fun t ht => by rw [ON _ (by omega) (by omega) (by omega)] at ht; cases ht⟩
 rw [List.append_nil] at q2
 have q3 : Frag fin [⟨13, B, 0, 0, 0, []⟩] ((n + 1 + x.1.length : Nat) : Int) (s ++ [86]) (fun z => M z ∨ z = A) s M (upd (upd O B (s ++ [86])) A s) :=
  (frag_jump (M := fun z => M z ∨ z = A) (.inr (by omega)) (by omega) OB (fun t ht => by rw [show ((n + 1 + x.1.length : Nat) : Int) + 1 = A by omega, OA] at ht; cases ht; rfl) (by rw [List.length_append, List.length_singleton]; omega)).less (fun z h => .inl h) (fun z h => h)
 have q4 := F2 M _ hp (by omega) ⟨fun z a b => ON z (by omega) (by omega) (by omega), fun t ht => by rw [show (A : Int) + (y.1.length : Int) = B by omega, OB] at ht; cases ht; rfl⟩
 rw [List.append_nil] at q4
 exact Frag.seqN (c := [_]) q1 (Frag.seqN q2 (Frag.seqN (c := [_]) q3 (by rw [show n + [(⟨8, (A : Int), (B : Int), 0, 0, []⟩ : PI)].length + x.1.length + [(⟨13, (B : Int), 0, 0, 0, []⟩ : PI)].length = A from hA]; exact q4)))
theorem frag_arm {f : CF} {e : Int} {m n : Nat} {cs : List PV} {s : List Int} {M : Int → Prop} {O : Lb} (hf : TF fin f [] [86] m) (nf : NE f) (hp : (armF e f n cs).2 <+: fin) (hs : s.length + (m + 1) ≤ 1024) (he : (n : Int) + ((armF e f n cs).1.length : Int) < e) (hO : O e = some (s ++ [86])) (hn : ∀ y : Int, (n : Int) < y → y < e → O y = none) : Frag fin (armF e f n cs).1 (n : Int) (s ++ [86, 86]) M (s ++ [86]) M O := by
 simp only [armF, List.length_cons, List.length_append] at hp he ⊢
 have h1 := nf (n + 1) cs
 have F1 := fun M O => hf (n + 1) cs s M O hp (by omega)
 obtain ⟨x, hx⟩ : ∃ x, f (n + 1) cs = x := ⟨_, rfl⟩
 rw [hx] at hp he h1 F1 ⊢
 obtain ⟨A, hA⟩ : ∃ A, n + x.1.length + 2 = A := ⟨_, rfl⟩
 rw [hA]
 have OA : upd O A (s ++ [86]) A = some (s ++ [86]) := upd_at _ _ _
 have OE : upd O A (s ++ [86]) e = some (s ++ [86]) := (upd_ne _ _ (by omega)).trans hO
 have ON : ∀ z : Int, (n : Int) < z → z < e → z ≠ A → upd O A (s ++ [86]) z = none := fun z a b c => (upd_ne _ _ c).trans (hn z a b)
 have hc : Clr O n (x.1.length + 2) (s ++ [86]) := ⟨fun y a b => hn y a (by omega), fun t ht => by rw [hn _ (by omega) (by omega)] at ht; cases ht⟩
 refine hc.lab (O' := upd O A (s ++ [86])) (by simp) ?_ ?_ ?_
 ·rw [show (n : Int) + ((x.1.length + 2 : Nat) : Int) = A by omega]; exact OA
 ·exact fun z hz => upd_ne _ _ (by omega)
 have q1 : Frag fin [⟨11, A, 0, 0, 0, []⟩] (n : Int) (s ++ [86, 86]) M s (fun z => M z ∨ z = A) (upd O A (s ++ [86])) :=
  frag_match (by omega) OA (fun t ht => by rw [ON _ (by omega) (by omega) (by omega)] at ht; cases ht) (by omega)
 have q2 := F1 (fun z => M z ∨ z = A) (upd O A (s ++ [86])) ⟨fun z a b => ON z (by omega) (by omega) (by omega), fun t ht => by rw [ON _ (by omega) (by omega) (by omega)] at ht; cases ht⟩
 rw [List.append_nil] at q2
 have q3 : Frag fin [⟨13, e, 0, 0, 0, []⟩] ((n + 1 + x.1.length : Nat) : Int) (s ++ [86]) (fun z => M z ∨ z = A) (s ++ [86]) M (upd O A (s ++ [86])) :=
  (frag_jump (M := fun z => M z ∨ z = A) (.inr (by omega)) (by omega) OE (fun t ht => by rw [show ((n + 1 + x.1.length : Nat) : Int) + 1 = A by omega, OA] at ht; cases ht; rfl) (by rw [List.length_append, List.length_singleton]; omega)).less (fun z h => .inl h) (fun z h => h)
 exact Frag.seqN (c := [_]) q1 (Frag.seqN q2 q3)
theorem sw_len {l : List KC} (ho : ∀ k ∈ l, KOp k) (e : Int) (n : Nat) (cs : List PV) : (swF e l n cs).1.length = (swF 0 l n cs).1.length := by
 obtain ⟨a, h⟩ := ops_sw l ho
 rw [(h e).len, (h 0).len]
theorem ne_sw (e : Int) : ∀ l : List KC, NE (swF e l)
 | [] => ne_seq1 (ne_ins _)
 | [_] => ne_seq1 (ne_ins _)
 | _ :: _ :: _ => ne_seq (ne_seq1 (ne_ins _))
theorem tf_drop : TF fin (insF ⟨12, 0, 0, 0, 0, []⟩) [86] [] 0 := tf_takes (by simp [rowOk, usesI]) (by simp [goodI]) (by simp [jumpsI]) (fun n s0 => by simp [stepI]) (by simp)
theorem frag_sw {e : Int} {s : List Int} {M : Int → Prop} {O : Lb} (hO : O e = some (s ++ [86])) : ∀ (l : List KC) (m m' n : Nat) (cs : List PV), KFs fin l m → KCs l m' → (swF e l n cs).2 <+: fin → s.length + (m + 2) ≤ 1024 → e = (n : Int) + ((swF e l n cs).1.length : Int) → (∀ y : Int, (n : Int) < y → y < e → O y = none) → Frag fin (swF e l n cs).1 (n : Int) (s ++ [86]) M (s ++ [86]) M O
 | [], m, m', n, cs, _, _, hp, hl, he, hn => TF.toF (m := 1) ((tf_drop.mono (by omega)).seq (tf_con _ _ (.inl rfl)) (csf_err (by omega) (by omega)).pre (ne_ins _) (ne_con _)) e n cs s M O hp (by omega) he hO hn
 | [k], m, m', n, cs, ⟨a, c, h, hk, _⟩, _, hp, hl, he, hn => TF.toF (m := a) ((tf_drop.mono (by omega)).seq hk.v hk.pv (ne_ins _) hk.nv) e n cs s M O hp (by omega) he hO hn
 | k :: k2 :: r, m, m', n, cs, ⟨a, c, h, hk, ⟨a2, c2, h2, hk2, hr⟩⟩, ⟨a', c', h', _, _, ⟨a2', c2', h2', hv2, _, hr'⟩⟩, hp, hl, he, hn => by
  simp only [swF, seqF, insF, List.length_append, List.length_singleton] at hp he ⊢
  have hn1 := hk.nv n cs
  have hn4 := ne_sw e r (n + (k.v n cs).1.length + 1 + (armF e k2.v (n + (k.v n cs).1.length + 1) (k.v n cs).2).1.length) (armF e k2.v (n + (k.v n cs).1.length + 1) (k.v n cs).2).2
  have hp3 : (armF e k2.v (n + (k.v n cs).1.length + 1) (k.v n cs).2).2 <+: fin := ((csf_sw e r c2' hr').pre _ _).trans hp
  have hp1 : (k.v n cs).2 <+: fin := ((csf_arm hv2).pre _ _).trans hp3
  have no : ∀ (y : Int) (t : List Int) (P : Prop), (n : Int) < y → y < e → O y = some t → P := fun y t P a b ht => by rw [hn y a b] at ht; cases ht
  have g := hk.v n cs (s ++ [86]) M O hp1 (by rw [List.length_append, List.length_singleton]; omega) ⟨fun y h1 h2 => hn y h1 (by omega), fun t ht => no _ t _ (by omega) (by omega) ht⟩
  rw [List.append_nil, List.append_assoc] at g
  have g2 : Frag fin [⟨7, e, 1, 0, 0, []⟩] ((n + (k.v n cs).1.length : Nat) : Int) (s ++ [86, 86]) M (s ++ [86, 86]) M O :=
   frag_err (it := 86) rfl (by omega) (by omega) hO (fun t ht => no _ t _ (by omega) (by omega) ht) (by simp only [List.length_cons, List.length_nil]; omega)
  have g3 := frag_arm (M := M) (m := a2) hk2.v hk2.nv hp3 (by omega) (by omega) hO (fun y h1 h2 => hn y (by omega) h2)
  have g4 := frag_sw (M := M) hO r c2 c2' _ _ hr hr' hp (by omega) (by omega) (fun y h1 h2 => hn y (by omega) h2)
  exact Frag.seqN g (Frag.seqN g2 (Frag.seqN g3 g4))
theorem chsT_ge : ∀ (l : List KC) (n : Nat) (cs : List PV), ∀ x ∈ chsT l n cs, (n : Int) ≤ x
 | [], _, _, x, h => by simp [chsT] at h
 | [_], n, _, x, h => by simp [chsT] at h; omega
 | k :: k2 :: r, n, cs, x, h => by
  simp only [chsT, List.mem_cons] at h
  rcases h with h | h
  ·omega
  ·have := chsT_ge (k2 :: r) _ _ x h
   omega
theorem chsT_lt (e : Int) : ∀ (l : List KC) (m : Nat) (n : Nat) (cs : List PV), KFs fin l m → ∀ x ∈ chsT l n cs, x < (n : Int) + ((chsF e l n cs).1.length : Int)
 | [], _, _, _, _, x, h => by simp [chsT] at h
 | [k], _, n, cs, ⟨a, c, g, hk, _⟩, x, h => by
  have := hk.nv n cs
  simp [chsT] at h
  simp only [chsF]
  omega
 | k :: k2 :: r, _, n, cs, ⟨a, c, g, hk, hr⟩, x, h => by
  simp only [chsT, List.mem_cons] at h
  have := hk.nv n cs
  simp only [chsF, seqF, insF, List.length_append, List.length_singleton]
  rcases h with h | h
  ·omega
  ·have := chsT_lt e (k2 :: r) c _ _ hr x h
   omega
theorem chs_len {l : List KC} (ho : ∀ k ∈ l, KOp k) (e : Int) (n : Nat) (cs : List PV) : (chsF e l n cs).1.length = (chsF 0 l n cs).1.length := by
 obtain ⟨a, h⟩ := ops_chs l ho
 rw [(h e).len, (h 0).len]
theorem frag_chs {e : Int} {s : List Int} {M : Int → Prop} {O : Lb} (hO : O e = some (s ++ [86])) : ∀ (k : KC) (l : List KC) (m m' n : Nat) (cs : List PV), KFs fin (k :: l) m → KCs (k :: l) m' → (chsF e (k :: l) n cs).2 <+: fin → s.length + (m + 1) ≤ 1024 → e = (n : Int) + ((chsF e (k :: l) n cs).1.length : Int) → (∀ x ∈ chsT (k :: l) n cs, x ≠ n → O x = some s ∧ M x) → (∀ y : Int, (n : Int) < y → y < e → y ∉ chsT (k :: l) n cs → O y = none) → Frag fin (chsF e (k :: l) n cs).1 (n : Int) s M (s ++ [86]) M O
 | k, [], m, m', n, cs, ⟨a, c, h, hk, _⟩, _, hp, hl, he, _, hn => by
  simp only [chsF, chsT] at hp he hn ⊢
  have g := TF.toF hk.v e n cs s M O hp (by omega) he hO (fun y a b => hn y a b (by simp; omega))
  rw [List.append_nil] at g
  exact g
 | k, k2 :: r, m, m', n, cs, ⟨a, c, h, hk, hr⟩, ⟨a', c', h', _, _, hr'⟩, hp, hl, he, hx, hn => by
  simp only [chsF, chsT, seqF, insF, List.length_append, List.length_singleton] at hp he hn hx ⊢
  have hn1 := hk.nv n cs
  have hp1 : (k.v n cs).2 <+: fin := ((csf_chs e (k2 :: r) c' hr').pre _ _).trans hp
  obtain ⟨T, hT⟩ : ∃ T, chsT (k2 :: r) (n + (k.v n cs).1.length + 1) (k.v n cs).2 = T := ⟨_, rfl⟩
  have hge : ∀ x ∈ T, ((n + (k.v n cs).1.length + 1 : Nat) : Int) ≤ x := by rw [← hT]; exact chsT_ge _ _ _
  have h0 : ((n + (k.v n cs).1.length + 1 : Nat) : Int) ∈ T := by
   rw [← hT]
   cases r with
   | nil => simp [chsT]
   | cons k3 r => simp [chsT]
  have hlt : ∀ x ∈ T, x < e := by
   rw [← hT]
   intro x hx
   have := chsT_lt (fin := fin) e (k2 :: r) c _ _ hr x hx
   omega
  have hlt0 := hlt _ h0
  rw [hT] at hx hn
  have no : ∀ y : Int, (n : Int) < y → y < ((n + (k.v n cs).1.length + 1 : Nat) : Int) → O y = none := fun y a b => hn y a (by omega) (by
   simp only [List.mem_cons, not_or]
   exact ⟨by omega, fun q => by have := hge y q; omega⟩)
  have O1 : O ((n + (k.v n cs).1.length + 1 : Nat) : Int) = some s ∧ M ((n + (k.v n cs).1.length + 1 : Nat) : Int) := hx _ (List.mem_cons_of_mem _ h0) (by omega)
  have g := hk.v n cs s M O hp1 (by omega) ⟨fun y a b => no y a (by omega), fun t ht => by rw [no _ (by omega) (by omega)] at ht; cases ht⟩
  rw [List.append_nil] at g
  have g2 : Frag fin [⟨13, e, 0, 0, 0, []⟩] ((n + (k.v n cs).1.length : Nat) : Int) (s ++ [86]) M s M O :=
   frag_jump (by rw [show ((n + (k.v n cs).1.length : Nat) : Int) + 1 = ((n + (k.v n cs).1.length + 1 : Nat) : Int) by omega]; exact O1.2) (by omega) hO (fun t ht => by rw [show ((n + (k.v n cs).1.length : Nat) : Int) + 1 = ((n + (k.v n cs).1.length + 1 : Nat) : Int) by omega, O1.1] at ht; cases ht; rfl) (by rw [List.length_append, List.length_singleton]; omega)
  have g3 := frag_chs (M := M) hO k2 r c c' _ _ hr hr' hp (by omega) (by omega) (fun x hq hne => hx x (List.mem_cons_of_mem _ (by rw [← hT]; exact hq)) (by
   have := hge x (by rw [← hT]; exact hq)
   omega)) (fun y a b hq => hn y (by omega) b (by
   simp only [List.mem_cons, not_or]
   exact ⟨by omega, by rw [← hT]; exact hq⟩))
  exact Frag.seqN g (Frag.seqN g2 g3)
theorem ne_chs (e : Int) {k : KC} {r : List KC} (nk : NE k.v) : NE (chsF e (k :: r)) := by
 cases r with
 | nil => exact nk
 | cons k2 r => exact ne_seq1 nk
theorem tf_choose {k : KC} {r : List KC} {m m' : Nat} (hk : KFs fin (k :: r) m) (hc' : KCs (k :: r) m') (ho : ∀ x ∈ k :: r, KOp x) : TF fin (fun n cs => headF (fun e => chsF e (k :: r)) (fun e => ⟨10, e, 0, 0, 0, chsT (k :: r) (n + 1) cs⟩) n cs) [86] [86] (m + 1) := fun n cs s M O hp hl hc => by
 obtain ⟨E, hE⟩ : ∃ E : Int, E = ((n + 1 + (chsF 0 (k :: r) (n + 1) cs).1.length : Nat) : Int) := ⟨_, rfl⟩
 simp only [headF, seqF, insF, ← hE, List.length_append, List.length_singleton] at hp hc ⊢
 rw [← chs_len ho E] at hE
 have hne : 0 < (chsF E (k :: r) (n + 1) cs).1.length := by
  obtain ⟨a, c, h, q, _⟩ := hk
  exact ne_chs E q.nv (n + 1) cs
 have hge := chsT_ge (k :: r) (n + 1) cs
 have hlt := chsT_lt (fin := fin) E (k :: r) m (n + 1) cs hk
 have h0 : ((n + 1 : Nat) : Int) ∈ chsT (k :: r) (n + 1) cs := by
  cases r with
  | nil => simp [chsT]
  | cons k2 r => simp [chsT]
 obtain ⟨T, hT⟩ : ∃ T, chsT (k :: r) (n + 1) cs = T := ⟨_, rfl⟩
 have G := fun (M : Int → Prop) (O : Lb) (hO : O E = some (s ++ [86])) => frag_chs (fin := fin) (M := M) hO k r m m' (n + 1) cs hk hc' hp (by omega) (by omega)
 rw [hT] at hge hlt h0 G ⊢
 let O' : Lb := fun y => if y = E then some (s ++ [86]) else if y ∈ T then some s else O y
 have OE : O' E = some (s ++ [86]) := if_pos rfl
 have OT : ∀ x ∈ T, O' x = some s := fun x hx => by
  show (if x = E then some (s ++ [86]) else if x ∈ T then some s else O x) = some s
  rw [if_neg (by have := hlt x hx; omega), if_pos hx]
 have ON : ∀ x, x ≠ E → x ∉ T → O' x = O x := fun x h1 h2 => by
  show (if x = E then some (s ++ [86]) else if x ∈ T then some s else O x) = O x
  rw [if_neg h1, if_neg h2]
 have h0' : (n : Int) + 1 ∈ T := by rw [show (n : Int) + 1 = ((n + 1 : Nat) : Int) by omega]; exact h0
 refine hc.lab (O' := O') (by simp only [List.length_append, List.length_singleton]) ?_ ?_ ?_
 ·rw [show (n : Int) + ((1 + (chsF E (k :: r) (n + 1) cs).1.length : Nat) : Int) = E by omega]; exact OE
 ·exact fun y hy => ON y (by omega) fun q => by have := hlt y q; omega
 have q1 := frag_choose (fin := fin) (M := M) (O := O') h0' (by omega) OE (fun x hx => ⟨by have := hge x hx; omega, fun _ => OT x hx⟩) (fun t ht => by rw [OT _ h0'] at ht; cases ht; rfl) (by omega)
 have q2 := G (fun y => M y ∨ y ∈ T) O' OE (fun x hx _ => ⟨OT x hx, .inr hx⟩) (fun y a b hq => (ON y (by omega) hq).trans (hc.no y (by omega) (by omega)))
 exact Frag.seqN (c := [_]) q1 (q2.less (fun z h => .inl h) (fun z h => h))
end
end Go.Proofs.YtlmpiobdgkmmgaaGreatDoor
namespace Go.Proofs.YtlmpiobdgkmmgaaGreatDoor
structure FitF (h : Hd) (n : Nat) : Prop where
 kk : 1 ≤ h.kind ∧ h.kind ≤ 9
 k3 : h.kind = 3 → h.num = 0 ∨ h.num = 1
 k4 : h.kind = 4 → 1 ≤ h.num ∧ h.num ≤ 6
 k5 : h.kind = 5 → placeB h.ref = true
 k7 : h.kind = 7 → 1 ≤ h.op ∧ h.op ≤ 3 ∧ n = 1
 k8 : h.kind = 8 → 1 ≤ h.op ∧ h.op ≤ 12 ∧ n = 2
 k9 : h.kind = 9 → 1 ≤ h.fn ∧ h.fn ≤ 76 ∧ (infoRow h.fn).min ≤ n ∧ ((infoRow h.fn).max < 0 ∨ n ≤ (infoRow h.fn).max)
theorem fit_facts {h : Hd} {n : Nat} (hf : fitsV h n = true) : FitF h n := by
 unfold fitsV fitsB at hf
 simp only [Bool.and_eq_true] at hf
 obtain ⟨⟨⟨⟨⟨⟨⟨a1, a2⟩, a3⟩, a4⟩, a5⟩, a6⟩, a7⟩, a8⟩ := hf
 refine ⟨by simpa using a8, fun k => ?_, fun k => ?_, fun k => ?_, fun k => ?_, fun k => ?_, fun k => ?_⟩
 ·simpa [k] using a3
 ·simpa [k] using a3
 ·simpa [k] using a5
 ·simp [k] at a1 a2 a7
  omega
 ·simp [k] at a1 a2 a7
  omega
 ·simp [k] at a7
  omega
def chkFn (k : Nat) : Bool :=
 let r := rowAt k
 (decide (r.cls = 1) || decide (r.cls = 2) || decide (r.cls = 6) ||
  (decide (r.cls = 3) && ((decide (k = 41) && decide (r.min = 2)) || (decide (k = 42) && decide (r.min = 2)) || (decide (k = 43) && decide (r.min = 2)) || (decide (k = 44) && decide (r.min = 2)) || (decide (k = 45) && decide (r.min = 3)))) ||
  (decide (r.cls = 4) && (decide (1 ≤ r.min) || decide (k = 46) || decide (k = 47))) ||
  (decide (r.cls = 5) && ((decide (k = 50) && decide (r.min = 1)) || (decide (k = 51) && decide (r.min = 3) && decide (r.max = 5)) || (decide (k = 52) && decide (r.min = 2) && decide (r.max = 3)))))
theorem chk_all : ((List.range 76).all chkFn) = true := by kernel_rfl
structure FnF (fn : Int) : Prop where
 err : infoErr fn = 0
 cls : (infoRow fn).cls = 1 ∨ (infoRow fn).cls = 2 ∨ (infoRow fn).cls = 3 ∨ (infoRow fn).cls = 4 ∨ (infoRow fn).cls = 5 ∨ (infoRow fn).cls = 6
 c3 : (infoRow fn).cls = 3 → (fn = 42 ∨ fn = 43 ∨ fn = 44 ∨ fn = 45 ∨ fn = 46) ∧ 2 ≤ (infoRow fn).min
 c4 : (infoRow fn).cls = 4 → 1 ≤ (infoRow fn).min ∨ fn = 47 ∨ fn = 48
 c5 : (infoRow fn).cls = 5 → (fn = 51 ∧ (infoRow fn).min = 1) ∨ (fn = 52 ∧ (infoRow fn).min = 3 ∧ (infoRow fn).max = 5) ∨ (fn = 53 ∧ (infoRow fn).min = 2 ∧ (infoRow fn).max = 3)
theorem fn_facts {fn : Int} (h1 : 1 ≤ fn) (h2 : fn ≤ 76) : FnF fn := by
 have hk : fn.toNat - 1 < 76 := by omega
 have hc := List.all_eq_true.1 chk_all (fn.toNat - 1) (List.mem_range.2 hk)
 have hr : infoRow fn = rowAt (fn.toNat - 1) := if_pos ⟨h1, h2⟩
 unfold chkFn at hc
 simp only [← hr, Bool.or_eq_true, Bool.and_eq_true, decide_eq_true_eq] at hc
 refine ⟨if_pos ⟨h1, h2⟩, ?_, fun q => ?_, fun q => ?_, fun q => ?_⟩ <;> omega
section
variable {fin : List PV}
theorem clsOf_call {h : Hd} (k : h.kind = 9) : clsOf h = (infoRow h.fn).cls := if_pos k
theorem KFs.get : ∀ {l : List KC} {m : Nat}, KFs fin l m → ∀ i, i < l.length → KF fin (nth l i) m
 | [], _, _, i, h => by simp at h
 | k :: r, m, ⟨a, c, h, hk, hr⟩, 0, _ => ⟨by have := hk.one; omega, hk.v.mono (by omega), hk.a.mono (by omega), hk.nv, hk.na, hk.pv, hk.pa⟩
 | k :: r, m, ⟨a, c, h, hk, hr⟩, i + 1, hi => by
  have q := KFs.get hr i (by simpa using hi)
  exact ⟨by have := q.one; omega, q.v.mono (by omega), q.a.mono (by omega), q.nv, q.na, q.pv, q.pa⟩
theorem tf_area {h : Hd} {l : List KC} {m m' : Nat} (hf : FitF h l.length) (hk : KFs fin l m) (hc : KCs l m') (ho : ∀ k ∈ l, KOp k) : TF fin (areaF h l) [] [65] (m + 1) := by
 unfold areaF
 split
 ·exact (tf_rc _).mono (by omega)
 split
 ·exact (tf_rc _).mono (by omega)
 split
 ·exact (tf_con _ _ (.inl rfl)).mono (by omega)
 split
 ·exact (tf_con _ _ (.inl rfl)).mono (by omega)
 rename_i _ _ _ h5
 have h5 : clsOf h = 5 := Decidable.not_not.1 h5
 have h9 : h.kind = 9 := by
  by_cases q : h.kind = 9
  ·exact q
  ·unfold clsOf at h5; rw [if_neg q] at h5; omega
 rw [clsOf_call h9] at h5
 obtain ⟨f1, f2, f3, f4⟩ := hf.k9 h9
 have F := (fn_facts f1 f2).c5 h5
 have k0 := hk.get 0 (by omega)
 split
 ·exact (TF.seq (m := m + 1) (k0.v.mono (by omega)) ((tf_takes (by simp [rowOk, usesI]) (by simp [goodI]) (by simp [jumpsI]) (fun n s0 => by simp [stepI]) (by simp) : TF fin (insF ⟨17, 0, 0, 0, 0, []⟩) [86] [65] 1).mono (by omega)) (csf_ins _).pre k0.nv (ne_ins _))
 ·rename_i h51
  obtain ⟨k, r, rfl⟩ : ∃ k r, l = k :: r := by
   cases l with
   | nil => simp at f3; omega
   | cons k r => exact ⟨k, r, rfl⟩
  obtain ⟨a, c, g, kk, kr⟩ := hk
  obtain ⟨a', c', g', cv, ca, cr⟩ := hc
  have hl : ((k :: r).length - 1 : Nat) = r.length := rfl
  rw [hl]
  have ho' : ∀ x ∈ r, KOp x := fun x hx => ho x (List.mem_cons_of_mem _ hx)
  refine TF.seq (m := m + 1) (kk.a.mono (by omega)) ((tf_offset kr cr ho' (p := ⟨if h.fn = 53 then 19 else 18, (r.length : Nat), 0, 0, 0, []⟩) ?_ ?_ ?_ ?_).mono (by omega)) (fun n cs => (csf_seq (csf_head (x := fun e => ⟨7, e + 1, 0, 0, 0, []⟩) fun e => csf_vals (e + 1) r c' 1 cr) (csf_ins _)).pre n cs) kk.na (fun n cs => ne_seq (ne_ins _) n cs)
  ·by_cases q : h.fn = 53 <;> simp [q, rowOk, usesI]
  ·simp only [List.length_cons] at f3 f4
   by_cases q : h.fn = 53
   ·simp only [q, if_true, goodI, Int.reduceEq, if_false, inB, Bool.and_eq_true, decide_eq_true_eq]
    omega
   ·simp only [q, if_false, goodI, Int.reduceEq, if_true, inB, Bool.and_eq_true, decide_eq_true_eq]
    omega
  ·by_cases q : h.fn = 53 <;> simp [q, jumpsI]
  ·intro n s0
   by_cases q : h.fn = 53 <;> simp [q, stepI]
theorem tf_lazy {h : Hd} {l : List KC} {m m' : Nat} (hf : FnF h.fn) (h3 : (infoRow h.fn).cls = 3) (hl : (infoRow h.fn).min ≤ l.length) (hk : KFs fin l m) (hc : KCs l m') (ho : ∀ k ∈ l, KOp k) : TF fin (lazyF h l) [] [86] (m + 1) := by
 have hl2 : 2 ≤ l.length := by have := (hf.c3 h3).2; omega
 obtain ⟨k, k2, r, rfl⟩ : ∃ k k2 r, l = k :: k2 :: r := by
  match l, hl2 with
  | k :: k2 :: r, _ => exact ⟨k, k2, r, rfl⟩
 have k0 := hk.get 0 (by simp)
 have k1 := hk.get 1 (by simp)
 obtain ⟨a, c, g, kk, kr⟩ := id hk
 obtain ⟨a', c', g', cv, ca, cr⟩ := id hc
 obtain ⟨a2', c2', g2', cv2, ca2, cr2⟩ := id cr
 have ho' : ∀ x ∈ k2 :: r, KOp x := fun x hx => ho x (List.mem_cons_of_mem _ hx)
 unfold lazyF
 split
 ·obtain ⟨x, y, hx, hy, _⟩ := csf_if hc
  refine TF.seq (m := m + 1) (k0.v.mono (by omega)) ((tf_if (m := m + 1) (m1 := m) (m2 := m + 1) k1.v k1.nv ?_ ?_ ?_ (by omega) (by omega) (by omega)).mono (by omega)) hy.pre k0.nv (ne_if _)
  ·unfold elseF
   split
   ·rename_i q; exact (hk.get 2 (by omega)).v.mono (by omega)
   ·exact (tf_con _ _ (.inr rfl)).mono (by omega)
  ·unfold elseF
   split
   ·rename_i q; exact (hk.get 2 (by omega)).nv
   ·exact ne_con _
  ·unfold elseF
   split
   ·rename_i q; exact (hk.get 2 (by omega)).pv
   ·exact (csf_con _ (by decide)).pre
 split
 ·rename_i q
  refine TF.seq (m := m + 1) (k0.v.mono (by omega)) (tf_head (j := []) (fun _ _ _ => rfl) (fun _ => k1.nv) (fun n e s M O a b c d => ?_) (fun e n cs s M O a b c d => (k1.v.mono (by omega : m ≤ m + 1)).toF e n cs s M O a b c d)) (fun n cs => (csf_head (x := fun e => ⟨9, e, if h.fn = 44 then 6 else 0, 0, 0, []⟩) (fun _ => cv2)).pre n cs) k0.nv ne_head
  rw [List.append_nil]
  rw [List.append_nil] at c
  exact frag_ok (by split <;> simp) a b c (by omega)
 split
 ·refine TF.seq (m := m + 1) (k0.v.mono (by omega)) ((tf_choose kr cr ho').mono (by omega)) (fun n cs => (csf_head (x := fun e => ⟨10, e, 0, 0, 0, chsT (k2 :: r) (n + 1) cs⟩) (fun e => csf_chs e (k2 :: r) c' cr)).pre n cs) k0.nv (fun n cs => ne_head n cs)
 ·refine TF.seq (m := m + 1) (k0.v.mono (by omega)) (tf_head (j := [86]) (fun e n cs => sw_len ho' e n cs) (fun e => ne_sw e _) (fun n e s M O a b c d => ?_) (fun e n cs s M O qa qb qc qd qn => frag_sw qd _ c c' n cs kr cr qa (by have := kk.one; omega) qc qn)) (csf_head (fun e => csf_sw e (k2 :: r) c' cr)).pre k0.nv ne_head
  exact frag_err (q := [86]) rfl (by omega) a b c (by simp only [List.length_singleton]; omega)
theorem tf_val {h : Hd} {l : List KC} {m m' : Nat} (hf : FitF h l.length) (hk : KFs fin l m) (hc : KCs l m') (ho : ∀ k ∈ l, KOp k) : TF fin (valF h l) [] [86] (m + 1) := by
 unfold valF
 split
 ·exact (tf_con _ _ (.inr rfl)).mono (by omega)
 split
 ·exact (tf_con _ _ (.inr rfl)).mono (by omega)
 split
 ·exact (tf_con _ _ (.inr rfl)).mono (by omega)
 split
 ·exact (tf_con _ _ (.inl rfl)).mono (by omega)
 split
 ·rename_i q
  have := hf.k5 q
  simp only [placeB, Bool.and_eq_true, decide_eq_true_eq] at this
  exact (tf_takes (by simp [rowOk, usesI]) (by simp [goodI, plcB]; omega) (by simp [jumpsI]) (fun n s0 => by simp [stepI]) (by simp) : TF fin (insF ⟨2, h.ref.row, h.ref.col, 0, 0, []⟩) [] [86] 1).mono (by omega)
 split
 ·exact (tf_con _ _ (.inl rfl)).mono (by omega)
 split
 ·rename_i q
  obtain ⟨o1, o2, o3⟩ := hf.k7 q
  have k0 := hk.get 0 (by omega)
  exact TF.seq (m := m + 1) (k0.v.mono (by omega)) ((tf_takes (by simp [rowOk, usesI]) (by simp [goodI, inB]; omega) (by simp [jumpsI]) (fun n s0 => by simp [stepI]) (by simp) : TF fin (insF ⟨4, h.op, 0, 0, 0, []⟩) [86] [86] 1).mono (by omega)) (csf_ins _).pre k0.nv (ne_ins _)
 split
 ·rename_i q
  obtain ⟨o1, o2, o3⟩ := hf.k8 q
  have k0 := hk.get 0 (by omega)
  have k1 := hk.get 1 (by omega)
  have tb : TF fin (seqF (nth l 1).v (insF ⟨5, h.op, 0, 0, 0, []⟩)) [86] [86] (m + 1) :=
   TF.seq (m := m + 1) (o := [86, 86]) ((k1.v.frame [86]).mono (by simp only [List.length_singleton]; omega)) ((tf_takes (by simp [rowOk, usesI]) (by simp [goodI, inB]; omega) (by simp [jumpsI]) (fun n s0 => by simp [stepI]) (by simp) : TF fin (insF ⟨5, h.op, 0, 0, 0, []⟩) [86, 86] [86] 1).mono (by omega)) (csf_ins _).pre k1.nv (ne_ins _)
  refine TF.seq (m := m + 1) (k0.v.mono (by omega)) (tf_head (j := [86]) (fun _ _ _ => rfl) (fun _ => ne_seq (ne_ins _)) (fun n e s M O a b c d => frag_err (q := [86]) rfl (by omega) a b c (by simp only [List.length_singleton]; omega)) (fun e n cs s M O a b c d => tb.toF e n cs s M O a b c d)) (fun n cs => ?_) k0.nv ne_head
  simp only [headF, seqF, insF]
  exact k1.pv _ _
 rename_i q1 q2 q3 q4 q5 q6 q7 q8
 have h9 : h.kind = 9 := by have := hf.kk; omega
 obtain ⟨f1, f2, f3, f4⟩ := hf.k9 h9
 have F := fn_facts f1 f2
 have hcl := clsOf_call h9
 unfold callF
 rw [hcl]
 split
 ·rename_i c1
  refine (tf_scalar hk hc ho (p := ⟨6, h.fn, (l.length : Nat), 0, 0, []⟩) (by simp [rowOk, usesI]) ?_ (by simp [jumpsI]) (fun n s0 => by simp [stepI])).mono (by omega)
  simp only [goodI, Int.reduceEq, if_false, if_true, fnOk, Bool.and_eq_true, Bool.or_eq_true, decide_eq_true_eq, List.mem_cons, List.not_mem_nil, or_false]
  exact ⟨⟨⟨F.err, f3⟩, f4⟩, c1⟩
 split
 ·rename_i c3
  exact tf_lazy F c3 f3 hk hc ho
 split
 ·rename_i c4
  split
  ·rename_i hz
   have := F.c4 c4
   exact (tf_takes (by simp [rowOk, usesI]) (by simp [goodI]; omega) (by simp [jumpsI]) (fun n s0 => by simp [stepI]) (by simp) : TF fin (insF ⟨14, h.fn, 0, 0, 0, []⟩) [] [86] 1).mono (by omega)
  ·rename_i hz
   have k0 := hk.get 0 (by omega)
   exact TF.seq (m := m + 1) (k0.a.mono (by omega)) ((tf_takes (by simp [rowOk, usesI]) (by simp [goodI, c4]) (by simp [jumpsI]) (fun n s0 => by simp [stepI]) (by simp) : TF fin (insF ⟨15, h.fn, 0, 0, 0, []⟩) [65] [86] 1).mono (by omega)) (csf_ins _).pre k0.na (ne_ins _)
 split
 ·exact TF.seq (m := m + 1) ((tf_area hf hk hc ho).mono (by omega)) ((tf_takes (by simp [rowOk, usesI]) (by simp [goodI]) (by simp [jumpsI]) (fun n s0 => by simp [stepI]) (by simp) : TF fin (insF ⟨16, 0, 0, 0, 0, []⟩) [65] [86] 1).mono (by omega)) (csf_ins _).pre (ne_area _ _) (ne_ins _)
 ·rename_i c1 c3 c4 c5
  have c6 : (infoRow h.fn).cls = 6 := by
   have := F.cls
   omega
  refine (tf_walk hk hc ho (p := ⟨20, h.fn, (l.length : Nat), 0, 0, []⟩) (by simp [rowOk, usesI]) ?_ rfl rfl).mono (by omega)
  simp only [goodI, Int.reduceEq, if_false, if_true, fnOk, Bool.and_eq_true, Bool.or_eq_true, decide_eq_true_eq, List.mem_cons, List.not_mem_nil, or_false]
  exact ⟨⟨⟨F.err, f3⟩, f4⟩, c6⟩
end
theorem kfs_kcs (fin : List PV) : ∀ ks : Trees, allFits ks = true → AllN ks → KFs fin (kcs ks) ks.nodes
 | .nil, _, _ => trivial
 | .cons h k r, hf, ⟨n1, n2, n3⟩ => by
  unfold allFits at hf
  simp only [Bool.and_eq_true] at hf
  obtain ⟨⟨f1, f2⟩, f3⟩ := hf
  have F := fit_facts f1
  have kk := kfs_kcs fin k f2 n2
  have kc := csf_kcs k n2
  have ko := ops_kcs k
  rw [← kcs_len] at F
  exact ⟨k.nodes + 1, r.nodes, by simp only [Trees.nodes]; omega, ⟨by omega, tf_val F kk kc ko, tf_area F kk kc ko, ne_val _ _, ne_area _ _, (csf_val h n1 kc).pre, (csf_area h n1 kc).pre⟩, kfs_kcs fin r f3 n3⟩
theorem bytes_kid : ∀ {ks : Trees} {m : Nat}, ks.bytes ≤ m → allFits ks = true → m ≤ 32767 → AllN ks
 | .nil, _, _, _, _ => trivial
 | .cons h k r, m, hb, hf, hm => by
  unfold allFits at hf
  simp only [Bool.and_eq_true] at hf
  simp only [Trees.bytes] at hb
  have F := fit_facts hf.1.1
  exact ⟨⟨fun q => by unfold Hd.bytes at hb; rw [if_pos q] at hb; omega, F.k3, F.k4⟩, bytes_kid (by omega) hf.1.2 hm, bytes_kid (by omega) hf.2 hm⟩
theorem goodT {h : Hd} {ks : Trees} (m : mayE h ks = 0) : Fine h ks ∧ FitF h ks.len ∧ allFits ks = true ∧ NumOk h ∧ AllN ks := by
 unfold mayE at m
 split at m
 ·rename_i f
  split at m
  ·rename_i t
   unfold treeFits at t
   simp only [Bool.and_eq_true] at t
   have F := fit_facts t.1
   obtain ⟨_, _, f3⟩ := id f
   exact ⟨f, F, t.2, ⟨fun q => by unfold Hd.bytes at f3; rw [if_pos q] at f3; omega, F.k3, F.k4⟩, bytes_kid (m := 16384) (by omega) t.2 (by omega)⟩
  ·cases m
 ·cases m
theorem allOk_of {fin : List PV} {E : Int} : ∀ (ps : List PI) (n : Int), (∀ (i : Nat) (p : PI), ps[i]? = some p → FormP fin (fun _ => none) E p (n + (i : Int))) → allOk fin E ps n = true
 | [], _, _ => rfl
 | p :: r, n, h => by
  have h0 := h 0 p rfl
  have hr := allOk_of r (n + 1) fun i q hq => by
   have := h (i + 1) q (by simpa using hq)
   rw [show n + 1 + (i : Int) = n + ((i + 1 : Nat) : Int) by omega]
   exact this
  unfold allOk formedI
  simp only [Int.natCast_zero, Int.add_zero] at h0
  rw [hr, h0.row, h0.good]
  simp only [Bool.and_true, Bool.true_and, List.all_eq_true, Bool.and_eq_true, decide_eq_true_eq]
  exact fun x hx => ⟨(h0.jmp x hx).1, (h0.jmp x hx).2.resolve_right (fun q => q rfl)⟩
structure CodeGood (ps : List PI) (cs : List PV) : Prop where
 may : mayC ps cs = 0
 nd : cs.Nodup
 used : ∀ i, i < cs.length → ∃ p ∈ ps, p.op = 1 ∧ p.a = (i : Int)
theorem codeT_good {h : Hd} {ks : Trees} (m : mayE h ks = 0) (hlen : (codeT h ks).1.length ≤ 8192) (hlong : longS (codeT h ks).1 ≤ 8192) : CodeGood (codeT h ks).1 (codeT h ks).2 := by
 obtain ⟨f, F, fit, hn, an⟩ := goodT m
 unfold codeT at hlen hlong ⊢
 rw [if_pos m] at hlen hlong ⊢
 obtain ⟨⟨ps, fin⟩, hc⟩ : ∃ c, valT h ks 0 [] = c := ⟨_, rfl⟩
 have C := csf_valT h ks hn an 0 []
 have T : TF fin (valF h (kcs ks)) [] [86] (ks.nodes + 1) := tf_val (by rw [kcs_len]; exact F) (kfs_kcs fin ks fit an) (csf_kcs ks an) (ops_kcs ks)
 have N := ne_val h (kcs ks) 0 []
 have T := T 0 [] [] (fun _ => False) (fun _ => none) (by show (valT h ks 0 []).2 <+: fin; rw [hc]; exact List.prefix_refl _) (by have := f.1; show 0 + (ks.nodes + 1) ≤ 1024; omega) ⟨fun _ _ _ => rfl, fun t ht => by cases ht⟩
 rw [show valF h (kcs ks) 0 [] = (ps, fin) from hc] at T N
 rw [hc] at C hlen hlong ⊢
 simp only at T N hlen hlong ⊢
 have hcl : fin.length ≤ 1024 := by have h1 : fin.length ≤ 0 + (ks.nodes + 1) := C.len; have h2 := f.1; omega
 refine ⟨?_, C.nd List.nodup_nil, fun i hi => C.used i (Nat.zero_le _) hi⟩
 unfold mayC
 rw [if_neg (by omega)]
 rw [if_neg (by
  rw [Bool.not_eq_false]
  exact List.all_eq_true.2 fun v hv => C.ok (fun v hv => by simp at hv) v hv)]
 rw [if_neg (by
  rw [Bool.not_eq_false]
  refine allOk_of ps 0 fun i p hp => ?_
  have := T.frm i p hp
  simpa using this)]
 obtain ⟨kn', e, st⟩ := T.run kn0 ⟨⟨[], rfl, trivial⟩, fun y hy s' hs => (by
  unfold kn0 at hs
  rw [if_neg (by omega)] at hs
  cases hs), fun y hy => hy.elim⟩
 simp only [Int.natCast_zero, Int.zero_add] at e st
 rw [e]
 simp only
 obtain ⟨s1, h1, h2⟩ := st.at_
 rw [if_pos]
 rw [h1]
 match s1, h2 with
 | [x], ⟨h, _⟩ =>
  unfold endOk fitsS
  rcases h with h | h <;> simp [h]
end Go.Proofs.YtlmpiobdgkmmgaaGreatDoor
