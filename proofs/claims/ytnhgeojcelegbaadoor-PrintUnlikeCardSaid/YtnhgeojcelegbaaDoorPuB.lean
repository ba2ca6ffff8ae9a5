/- A formula's text, read back: what is read is the tree that was written. So two trees that may be have one text just if they are one. No program in sight. -/
import Derived.Test.YtnhgeojcelegbaaDoorPuA
namespace Go.Proofs.YtnhgeojcelegbaaDoor
open Go.RowKit Go.Lib

abbrev Tr := Hd × Trees
mutual
def pExpr : Nat → Int → List UInt8 → Option (Tr × List UInt8)
  | 0, _, _ => none
  | f + 1, L, s => (pPrim f s).bind fun p => pLoop f L p.1 p.2
def pPrim : Nat → List UInt8 → Option (Tr × List UInt8)
  | 0, _ => none
  | _ + 1, [] => none
  | f + 1, c :: s =>
    if c = 40 then (pExpr f 0 s).bind fun p => if p.2.head? = some 41 then some (p.1, p.2.tail) else none
    else if c = 45 then (pExpr f 6 s).map fun p => ((uH 1, .cons p.1.1 p.1.2 .nil), p.2)
    else if c = 43 then (pExpr f 6 s).map fun p => ((uH 2, .cons p.1.1 p.1.2 .nil), p.2)
    else if c = 34 then (strP s).map fun p => ((tH p.1, .nil), p.2)
    else if c = 35 then (errP (c :: s)).map fun p => ((eH p.1, .nil), p.2)
    else if ((c :: s).dropWhile isWd).head? = some 40 then (pArgs f ((c :: s).dropWhile isWd).tail).map fun p => ((cH (fnOf ((c :: s).takeWhile isWd)), p.1), p.2)
    else some ((wordT ((c :: s).takeWhile isWd), .nil), (c :: s).dropWhile isWd)
def pLoop : Nat → Int → Tr → List UInt8 → Option (Tr × List UInt8)
  | 0, _, _, _ => none
  | f + 1, L, a, s =>
    if s.head? = some 37 then (if L ≤ 7 then pLoop f L (uH 3, .cons a.1 a.2 .nil) s.tail else some (a, s))
    else match opOf s with
      | none => some (a, s)
      | some (op, s2) => if L ≤ levN op then (pExpr f (levN op + 1) s2).bind fun p => pLoop f L (bH op, .cons a.1 a.2 (.cons p.1.1 p.1.2 .nil)) p.2 else some (a, s)
def pArgs : Nat → List UInt8 → Option (Trees × List UInt8)
  | 0, _ => none
  | f + 1, s => if s.head? = some 41 then some (.nil, s.tail) else pArgsN f s
def pArgsN : Nat → List UInt8 → Option (Trees × List UInt8)
  | 0, _ => none
  | f + 1, s => (pExpr f 0 s).bind fun p =>
      if p.2.head? = some 41 then some (.cons p.1.1 p.1.2 .nil, p.2.tail)
      else if p.2.head? = some 44 then (pArgsN f p.2.tail).map fun q => (.cons p.1.1 p.1.2 q.1, q.2) else none
end

/-- How many steps reading a list of trees takes. -/
def szT : Trees → Nat
  | .nil => 4
  | .cons _ k r => szT k + szT r + 8
theorem loop_stop {f : Nat} {L : Int} {t : Tr} {r : List UInt8} (h : clR r < L) : pLoop (f + 1) L t r = some (t, r) := by
  rw [pLoop]
  split
  · rename_i q
    cases r with
    | nil => cases q
    | cons c s =>
      simp only [List.head?_cons, Option.some.injEq] at q
      subst q
      have h7 : (7 : Int) < L := h
      rw [if_neg (by omega)]
  · split
    · rfl
    · rename_i op s2 q
      have := opOf_level q
      rw [if_neg (by omega)]
theorem neg_one_lt (r : List UInt8) (h : clR r = -1) : clR r < 0 := by omega
theorem word_prim {f : Nat} {w r : List UInt8} (hw : w.all isWd = true) (hn : w ≠ []) (hr : okR r = true) : pPrim (f + 1) (w ++ r) = some ((wordT w, .nil), r) := by
  obtain ⟨h1, h2⟩ := span_word hw (fun c hc => (okR_head hr c hc).1)
  obtain ⟨c, s, rfl⟩ := List.exists_cons_of_ne_nil hn
  simp only [List.all_cons, Bool.and_eq_true] at hw
  have hc : ∀ d, isWd d = false → c ≠ d := fun d hd e => by rw [e, hd] at hw; cases hw.1
  rw [List.cons_append] at h1 h2 ⊢
  rw [pPrim, if_neg (hc 40 (by decide)), if_neg (hc 45 (by decide)), if_neg (hc 43 (by decide)), if_neg (hc 34 (by decide)), if_neg (hc 35 (by decide)), h1, h2, if_neg fun q => (okR_head hr 40 q).2.1 rfl]
theorem call_prim {f : Nat} {w r : List UInt8} (hw : w.all isWd = true) (hn : w ≠ []) : pPrim (f + 1) (w ++ 40 :: r) = (pArgs f r).map fun p => ((cH (fnOf w), p.1), p.2) := by
  obtain ⟨h1, h2⟩ := span_word hw (r := 40 :: r) (fun c hc => by simp at hc; subst hc; decide)
  obtain ⟨c, s, rfl⟩ := List.exists_cons_of_ne_nil hn
  simp only [List.all_cons, Bool.and_eq_true] at hw
  have hc : ∀ d, isWd d = false → c ≠ d := fun d hd e => by rw [e, hd] at hw; cases hw.1
  rw [List.cons_append] at h1 h2 ⊢
  rw [pPrim, if_neg (hc 40 (by decide)), if_neg (hc 45 (by decide)), if_neg (hc 43 (by decide)), if_neg (hc 34 (by decide)), if_neg (hc 35 (by decide)), h1, h2, if_pos (show (40 :: r).head? = some 40 from rfl)]
  rfl

/-- What a text begins with. -/
def startB (c : UInt8) : Bool := isWd c || [34, 35, 40, 45, 43].contains c
theorem start_ne {c : UInt8} (h : startB c = true) : c ≠ 61 ∧ c ≠ 62 ∧ c ≠ 41 := by
  refine ⟨?_, ?_, ?_⟩ <;> (rintro rfl; revert h; decide)
def First (h : Hd) (ks : Trees) : Prop := treeFits h ks = true → ∃ c s, textL h ks = c :: s ∧ startB c = true
theorem word_first {w : List UInt8} (hw : w.all isWd = true) (hn : w ≠ []) (x : List UInt8) : ∃ c s, w ++ x = c :: s ∧ startB c = true := by
  obtain ⟨c, s, rfl⟩ := List.exists_cons_of_ne_nil hn
  simp only [List.all_cons, Bool.and_eq_true] at hw
  exact ⟨c, s ++ x, rfl, by simp [startB, hw.1]⟩
theorem from_first {k : Hd} {kk : Trees} {n : Int} (h : ∃ c s, textL k kk = c :: s ∧ startB c = true) (x : List UInt8) : ∃ c s, fromL (k, textL k kk) n ++ x = c :: s ∧ startB c = true := by
  unfold fromL
  split
  · obtain ⟨c, s, e, hc⟩ := h
    exact ⟨c, s ++ x, by simp [e], hc⟩
  · exact ⟨40, _, rfl, by decide⟩
theorem kids1 {ks : Trees} (h : ks.len = 1) : ∃ k kk, ks = .cons k kk .nil := by
  match ks, h with
  | .cons k kk .nil, _ => exact ⟨k, kk, rfl⟩
  | .cons k kk (.cons a b c), h => simp [Trees.len] at h
theorem kids2 {ks : Trees} (h : ks.len = 2) : ∃ k kk l ll, ks = .cons k kk (.cons l ll .nil) := by
  match ks, h with
  | .cons k kk (.cons l ll .nil), _ => exact ⟨k, kk, l, ll, rfl⟩
  | .cons k kk .nil, h => simp [Trees.len] at h
  | .cons k kk (.cons l ll (.cons a b c)), h => simp [Trees.len] at h
theorem text_u {n : Int} {k : Hd} {kk : Trees} : textL (uH n) (.cons k kk .nil) = if n = 3 then fromL (k, textL k kk) 7 ++ [37] else (if n = 1 then [45] else [43]) ++ fromL (k, textL k kk) 6 := rfl
theorem text_b {n : Int} {k l : Hd} {kk ll : Trees} : textL (bH n) (.cons k kk (.cons l ll .nil)) = fromL (k, textL k kk) (levN n) ++ signL n ++ fromL (l, textL l ll) (levN n + 1) := rfl
theorem text_c {n : Int} {ks : Trees} : textL (cH n) ks = (infoRow n).name ++ [40] ++ argsL (txs ks) 0 ++ [41] := rfl
theorem kid_fits {k : Hd} {kk r : Trees} (h : allFits (.cons k kk r) = true) : treeFits k kk = true ∧ allFits r = true := by
  simp only [allFits, Bool.and_eq_true] at h
  exact ⟨by simp only [treeFits, Bool.and_eq_true]; exact h.1, h.2⟩
theorem first_any (h : Hd) (ks : Trees) : First h ks := by
  have step : ∀ h ks, AllT First ks → First h ks := by
    intro h ks ih hf
    have hf2 := hf
    simp only [treeFits, Bool.and_eq_true] at hf
    obtain ⟨hv, hk⟩ := hf
    rcases fits_shape hv with ⟨e, h0, -⟩ | ⟨e, -⟩ | ⟨e, -⟩ | ⟨e, h1, h2, -⟩ | ⟨e, hp, -⟩ | ⟨e, hp, hp2, -⟩ | ⟨e, h1, h2, hl⟩ | ⟨e, h1, h2, hl⟩ | ⟨e, h1, h2⟩
    · rw [e]
      obtain ⟨a, b, -⟩ := word_int h0
      have := word_first a b []
      rw [List.append_nil] at this
      exact this
    · rw [e]; exact ⟨34, _, rfl, by decide⟩
    · rcases e with rfl | rfl
      · exact ⟨70, _, rfl, by decide⟩
      · exact ⟨84, _, rfl, by decide⟩
    · rw [e]
      have hn : h.num = 1 ∨ h.num = 2 ∨ h.num = 3 ∨ h.num = 4 ∨ h.num = 5 ∨ h.num = 6 := by omega
      rcases hn with q | q | q | q | q | q <;> (rw [q]; exact ⟨35, _, rfl, by decide⟩)
    · rw [e]
      have := word_first (ref_wd hp) (fun q => by obtain ⟨c, s, e, -⟩ := ref_first hp; rw [q] at e; cases e) []
      rw [List.append_nil] at this
      exact this
    · rw [e]
      show ∃ c s, refTextL h.ref ++ [58] ++ refTextL h.to = c :: s ∧ _
      rw [List.append_assoc]
      exact word_first (ref_wd hp) (fun q => by obtain ⟨c, s, e, -⟩ := ref_first hp; rw [q] at e; cases e) _
    · obtain ⟨k, kk, rfl⟩ := kids1 hl
      rw [e, text_u]
      split
      · exact from_first (ih.1 (kid_fits hk).1) _
      · split <;> exact ⟨_, _, rfl, by decide⟩
    · obtain ⟨k, kk, l, ll, rfl⟩ := kids2 hl
      rw [e, text_b, List.append_assoc]
      exact from_first (ih.1 (kid_fits hk).1) _
    · rw [e, text_c, List.append_assoc, List.append_assoc]
      obtain ⟨a, b, -⟩ := name_facts h1 h2
      exact word_first a b _
  exact step h ks (allT step ks)

/-- A tree's text and a rest, read: the tree, then the rest is gone on with. -/
def Rd (h : Hd) (ks : Trees) : Prop := treeFits h ks = true → ∀ (L : Int) (r : List UInt8) (f : Nat), L ≤ levH h → okR r = true → clR r ≤ levH h → szT ks + 4 ≤ f → ∃ g, f ≤ g + szT ks + 3 ∧ pExpr f L (textL h ks ++ r) = pLoop g L (h, ks) r
theorem rd_prim {h : Hd} {ks : Trees} {f : Nat} {L : Int} {s r : List UInt8} (hf : szT ks + 4 ≤ f) (hp : pPrim (f - 1) s = some ((h, ks), r)) : ∃ g, f ≤ g + szT ks + 3 ∧ pExpr f L s = pLoop g L (h, ks) r := by
  obtain ⟨g, rfl⟩ : ∃ g, f = g + 1 := ⟨f - 1, by omega⟩
  rw [Nat.add_sub_cancel] at hp
  exact ⟨g, by omega, by rw [pExpr, hp]; rfl⟩
theorem rd_from {k : Hd} {kk : Trees} (rd : Rd k kk) (hf : treeFits k kk = true) {m L : Int} {r : List UInt8} {f : Nat} (h0 : 0 ≤ levH k) (hL : L ≤ m) (hr : okR r = true) (hc : clR r ≤ m) (hs : szT kk + 7 ≤ f) : ∃ g, f ≤ g + szT kk + 4 ∧ pExpr f L (fromL (k, textL k kk) m ++ r) = pLoop g L (k, kk) r := by
  unfold fromL
  split
  · rename_i q
    have q : m ≤ levH k := q
    obtain ⟨g, hg, e⟩ := rd hf L r f (by omega) hr (by omega) (by omega)
    exact ⟨g, by omega, e⟩
  · obtain ⟨f, rfl⟩ : ∃ g, f = g + 2 := ⟨f - 2, by omega⟩
    obtain ⟨g, hg, e⟩ := rd hf 0 (41 :: r) f h0 rfl (by rw [cl41]; omega) (by omega)
    obtain ⟨g, rfl⟩ : ∃ x, g = x + 1 := ⟨g - 1, by omega⟩
    refine ⟨f + 1, by omega, ?_⟩
    rw [pExpr]
    show ((pPrim (f + 1) (40 :: (textL k kk ++ [41] ++ r))).bind fun p => pLoop (f + 1) L p.1 p.2) = _
    rw [pPrim, if_pos rfl, List.append_assoc]
    show (((pExpr f 0 (textL k kk ++ (41 :: r))).bind _).bind _) = _
    rw [e, loop_stop (neg_one_lt _ (by first | exact cl41 _ | exact cl44 _))]
    rfl
theorem rd_whole {k : Hd} {kk : Trees} (rd : Rd k kk) (hf : treeFits k kk = true) {m : Int} {r : List UInt8} {f : Nat} (h0 : 0 ≤ levH k) (hr : okR r = true) (hc : clR r < m) (hs : szT kk + 7 ≤ f) : pExpr f m (fromL (k, textL k kk) m ++ r) = some ((k, kk), r) := by
  obtain ⟨g, hg, e⟩ := rd_from rd hf h0 (Int.le_refl m) hr (by omega) hs
  obtain ⟨g, rfl⟩ : ∃ x, g = x + 1 := ⟨g - 1, by omega⟩
  rw [e, loop_stop hc]
theorem lev_pos (h : Hd) : 0 ≤ levH h := by
  unfold levH
  have := (levN_in h.op).1
  (repeat' split) <;> omega
theorem neg_lev (h : Hd) {r : List UInt8} (e : clR r = -1) : clR r ≤ levH h := by have := lev_pos h; omega
theorem args_cons {k : Hd} {kk r : Trees} {i : Nat} : argsL (txs (.cons k kk r)) i = (if 0 < i then [44] else []) ++ textL k kk ++ argsL (txs r) (i + 1) := rfl
theorem rd_args : ∀ (k : Hd) (kk r : Trees) (i f : Nat) (rest : List UInt8), AllT Rd (.cons k kk r) → allFits (.cons k kk r) = true → szT (.cons k kk r) ≤ f → pArgsN f (textL k kk ++ (argsL (txs r) (i + 1) ++ 41 :: rest)) = some (.cons k kk r, rest)
  | k, kk, .nil, i, f, rest, rd, hf, hs => by
    simp only [szT] at hs
    obtain ⟨f, rfl⟩ : ∃ g, f = g + 1 := ⟨f - 1, by omega⟩
    obtain ⟨g, hg, e⟩ := rd.1 (kid_fits hf).1 0 (41 :: rest) f (lev_pos k) rfl (neg_lev k (by first | exact cl41 _ | exact cl44 _)) (by omega)
    obtain ⟨g, rfl⟩ : ∃ x, g = x + 1 := ⟨g - 1, by omega⟩
    rw [pArgsN]
    show ((pExpr f 0 (textL k kk ++ (41 :: rest))).bind _) = _
    rw [e, loop_stop (neg_one_lt _ (by first | exact cl41 _ | exact cl44 _))]
    rfl
  | k, kk, .cons l ll r, i, f, rest, rd, hf, hs => by
    have ih := fun f h => rd_args l ll r (i + 1) f rest rd.2 (kid_fits hf).2 h
    simp only [szT] at hs ih
    obtain ⟨f, rfl⟩ : ∃ g, f = g + 1 := ⟨f - 1, by omega⟩
    obtain ⟨g, hg, e⟩ := rd.1 (kid_fits hf).1 0 (44 :: (textL l ll ++ (argsL (txs r) (i + 2) ++ 41 :: rest))) f (lev_pos k) rfl (neg_lev k (by first | exact cl41 _ | exact cl44 _)) (by omega)
    obtain ⟨g, rfl⟩ : ∃ x, g = x + 1 := ⟨g - 1, by omega⟩
    rw [pArgsN, args_cons, if_pos (by omega), List.append_assoc, List.append_assoc]
    show ((pExpr f 0 (textL k kk ++ (44 :: (textL l ll ++ (argsL (txs r) (i + 2) ++ 41 :: rest))))).bind _) = _
    rw [e, loop_stop (neg_one_lt _ (by first | exact cl41 _ | exact cl44 _))]
    rw [Option.bind_some]
    simp only [List.head?_cons, List.tail_cons]
    rw [if_neg (show ¬ (some (44 : UInt8)) = some 41 by decide), if_pos trivial]
    show ((pArgsN f (textL l ll ++ (argsL (txs r) (i + 2) ++ 41 :: rest))).map _) = _
    rw [ih f (by omega)]
    rfl
theorem rd_any (h : Hd) (ks : Trees) : Rd h ks := by
  have step : ∀ h ks, AllT Rd ks → Rd h ks := by
    intro h ks ih hf L r f hL hr hc hs
    have hf2 := hf
    simp only [treeFits, Bool.and_eq_true] at hf
    obtain ⟨hv, hk⟩ := hf
    obtain ⟨f', hf'⟩ : ∃ x, f - 1 = x + 1 := ⟨f - 2, by omega⟩
    rcases fits_shape hv with ⟨e, h0, hl⟩ | ⟨e, hl⟩ | ⟨e, hl⟩ | ⟨e, h1, h2, hl⟩ | ⟨e, hp, hl⟩ | ⟨e, hp, hp2, hl⟩ | ⟨e, h1, h2, hl⟩ | ⟨e, h1, h2, hl⟩ | ⟨e, h1, h2⟩
    · obtain rfl := trees_nil hl
      obtain ⟨a, b, c⟩ := word_int h0
      refine rd_prim hs ?_
      rw [hf', show textL h .nil = itoa h.num by rw [e]; rfl, word_prim a b hr, c, ← e]
    · obtain rfl := trees_nil hl
      refine rd_prim hs ?_
      rw [hf', show textL h .nil = [34] ++ dupQ h.text ++ [34] by rw [e]; rfl, List.append_assoc, List.append_assoc]
      show pPrim (f' + 1) (34 :: (dupQ h.text ++ (34 :: r))) = _
      rw [pPrim, if_neg (by decide), if_neg (by decide), if_neg (by decide), if_pos rfl, dupQ_eq, strP_app _ _ (fun q => (okR_head hr 34 q).2.2 rfl)]
      show some ((tH h.text, Trees.nil), r) = _
      rw [← e]
    · obtain rfl := trees_nil hl
      refine rd_prim hs ?_
      rw [hf']
      rcases e with rfl | rfl
      · exact word_prim (w := [70, 65, 76, 83, 69]) (by decide) (by decide) hr
      · exact word_prim (w := [84, 82, 85, 69]) (by decide) (by decide) hr
    · obtain rfl := trees_nil hl
      refine rd_prim hs ?_
      rw [hf', show textL h .nil = errL h.num by rw [e]; rfl]
      obtain ⟨s, hs⟩ : ∃ s, errL h.num = 35 :: s := by
        have hn : h.num = 1 ∨ h.num = 2 ∨ h.num = 3 ∨ h.num = 4 ∨ h.num = 5 ∨ h.num = 6 := by omega
        rcases hn with q | q | q | q | q | q <;> (rw [q]; exact ⟨_, rfl⟩)
      have he := errP_app h1 h2 r
      rw [hs, List.cons_append] at he ⊢
      rw [pPrim, if_neg (by decide), if_neg (by decide), if_neg (by decide), if_neg (by decide), if_pos rfl, he]
      show some ((eH h.num, Trees.nil), r) = _
      rw [← e]
    · obtain rfl := trees_nil hl
      refine rd_prim hs ?_
      rw [hf', show textL h .nil = refTextL h.ref by rw [e]; rfl, word_prim (ref_wd hp) (fun q => by obtain ⟨c, s, e, -⟩ := ref_first hp; rw [q] at e; cases e) hr, word_ref hp, ← e]
    · obtain rfl := trees_nil hl
      refine rd_prim hs ?_
      have hw : (refTextL h.ref ++ [58] ++ refTextL h.to).all isWd = true := by rw [List.all_append, List.all_append, ref_wd hp, ref_wd hp2]; rfl
      rw [hf', show textL h .nil = refTextL h.ref ++ [58] ++ refTextL h.to by rw [e]; rfl, word_prim hw (by simp) hr, word_range hp hp2, ← e]
    · obtain ⟨k, kk, rfl⟩ := kids1 hl
      have hkf := (kid_fits hk).1
      simp only [szT] at hs ⊢
      have hcl := clR_ne r
      generalize hop : h.op = op at e h1 h2
      subst e
      rw [text_u]
      split
      · rename_i q
        subst q
        have hL7 : L ≤ 7 := hL
        obtain ⟨g, hg, e⟩ := rd_from ih.1 hkf (m := 7) (L := L) (r := 37 :: r) (f := f) (lev_pos k) hL7 rfl (by rw [cl37]; omega) (by omega)
        obtain ⟨g, rfl⟩ : ∃ x, g = x + 1 := ⟨g - 1, by omega⟩
        refine ⟨g, by omega, ?_⟩
        rw [List.append_assoc]
        show pExpr f L (fromL (k, textL k kk) 7 ++ (37 :: r)) = _
        rw [e, pLoop, if_pos (show (37 :: r).head? = some 37 from rfl), if_pos hL7]
        rfl
      · rename_i q
        have hlv : levH (uH op) = 6 := by unfold levH; rw [if_neg (show ¬ (uH op).kind = 8 from fun h => by cases h), if_pos (show (uH op).kind = 7 from rfl), if_neg (show ¬ (uH op).op = 3 from q)]
        rw [hlv] at hc
        refine rd_prim (by simp only [szT]; omega) ?_ |>.imp fun g hg => ⟨by have := hg.1; simp only [szT] at this; omega, hg.2⟩
        have e := rd_whole ih.1 hkf (m := 6) (r := r) (f := f') (lev_pos k) hr (by omega) (by omega)
        rw [hf']
        split
        · rename_i q1
          subst q1
          show pPrim (f' + 1) (45 :: (fromL (k, textL k kk) 6 ++ r)) = _
          rw [pPrim, if_neg (by decide), if_pos rfl, e]
          rfl
        · rename_i q1
          obtain rfl : op = 2 := by omega
          show pPrim (f' + 1) (43 :: (fromL (k, textL k kk) 6 ++ r)) = _
          rw [pPrim, if_neg (by decide), if_neg (by decide), if_pos rfl, e]
          rfl
    · obtain ⟨k, kk, l, ll, rfl⟩ := kids2 hl
      have hkf := (kid_fits hk).1
      have hlf := (kid_fits (kid_fits hk).2).1
      simp only [szT] at hs ⊢
      generalize hop : h.op = op at e h1 h2
      subst e
      have hlv : levH (bH op) = levN op := rfl
      rw [hlv] at hL hc
      obtain ⟨c0, s0, hsg, hcl0, hok0, hn1, hn5, h37⟩ := sign_facts h1 h2
      obtain ⟨c1, s1, hfst, hst⟩ := from_first (n := levN op + 1) (first_any l ll hlf) r
      obtain ⟨n1, n2, -⟩ := start_ne hst
      have hsn : signL op ++ (fromL (l, textL l ll) (levN op + 1) ++ r) = c0 :: (s0 ++ (fromL (l, textL l ll) (levN op + 1) ++ r)) := by rw [hsg]; rfl
      obtain ⟨g, hg, e⟩ := rd_from ih.1 hkf (m := levN op) (L := L) (r := signL op ++ (fromL (l, textL l ll) (levN op + 1) ++ r)) (f := f) (lev_pos k) hL (by rw [hsn]; exact hok0 _) (by rw [hsn]; show clB c0 ≤ _; omega) (by omega)
      obtain ⟨g, rfl⟩ : ∃ x, g = x + 1 := ⟨g - 1, by omega⟩
      have e2 := rd_whole ih.2.1 hlf (m := levN op + 1) (r := r) (f := g) (lev_pos l) hr (by omega) (by omega)
      refine ⟨g, by omega, ?_⟩
      rw [text_b, List.append_assoc, List.append_assoc, e, pLoop, if_neg (by rw [hsn]; simpa using h37)]
      have ho : opOf (signL op ++ (fromL (l, textL l ll) (levN op + 1) ++ r)) = some (op, fromL (l, textL l ll) (levN op + 1) ++ r) := by rw [hfst]; exact opOf_app h1 h2 ⟨n1, n2⟩
      rw [ho]
      simp only
      rw [if_pos hL, e2]
      rfl
    · generalize hop : h.fn = op at e h1 h2
      subst e
      obtain ⟨a, b, c⟩ := name_facts h1 h2
      refine rd_prim hs ?_
      rw [hf', text_c, List.append_assoc, List.append_assoc, List.append_assoc]
      show pPrim (f' + 1) ((infoRow op).name ++ 40 :: (argsL (txs ks) 0 ++ (41 :: r))) = _
      rw [call_prim a b, c]
      obtain ⟨f2, rfl⟩ : ∃ x, f' = x + 1 := ⟨f' - 1, by omega⟩
      rw [pArgs]
      cases ks with
      | nil => rfl
      | cons k kk rs =>
        have ha : argsL (txs (.cons k kk rs)) 0 = textL k kk ++ argsL (txs rs) 1 := by rw [args_cons, if_neg (by omega)]; rfl
        rw [ha, List.append_assoc]
        obtain ⟨c1, s1, hfst, hst⟩ := first_any k kk (kid_fits hk).1
        rw [if_neg (by rw [hfst]; simpa using (start_ne hst).2.2), rd_args k kk rs 0 f2 r ih hk (by omega)]
        rfl
  exact step h ks (allT step ks)
/-- Two trees that fit have one text just if they are one. -/
theorem text_inj {h h' : Hd} {ks ks' : Trees} (f : treeFits h ks = true) (f' : treeFits h' ks' = true) (e : textL h ks = textL h' ks') : h = h' ∧ ks = ks' := by
  obtain ⟨g, hg, e1⟩ := rd_any h ks f 0 [] (szT ks + szT ks' + 8) (lev_pos h) rfl (neg_lev h rfl) (by omega)
  obtain ⟨g', hg', e2⟩ := rd_any h' ks' f' 0 [] (szT ks + szT ks' + 8) (lev_pos h') rfl (neg_lev h' rfl) (by omega)
  obtain ⟨g, rfl⟩ : ∃ x, g = x + 1 := ⟨g - 1, by omega⟩
  obtain ⟨g', rfl⟩ : ∃ x, g' = x + 1 := ⟨g' - 1, by omega⟩
  rw [loop_stop (neg_one_lt _ rfl)] at e1 e2
  rw [e, e2] at e1
  simp only [Option.some.injEq, Prod.mk.injEq, and_true] at e1
  exact ⟨e1.1.symm, e1.2.symm⟩
end Go.Proofs.YtnhgeojcelegbaaDoor
