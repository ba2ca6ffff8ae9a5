/- Shifting in place: what a mover does, and a node that is a reference. -/
import Derived.Test.YtkjfeakbhfkldaaMhC
import Derived.Deep.RegionWith
namespace Go.Proofs.Ytkjfeakbhfkldaa
open Go.RowKit

/-- Of the blocks that were there only b is another. -/
def Chg (lim b : Nat) (w w' : World) : Prop := Below lim w w' ∧ ∀ x, x < w.heap.size → x ≠ b → w'.heap[x]? = w.heap[x]?
/-- A function that moves one reference, or two, in place. -/
structure MovSpec (mval : Value) (fs : FuncId) (caps : Array Value) (lim : Nat) (m : Mv) (Env : World → Prop) : Prop where
  val : mval = .func (.func fs) #[] caps
  run : ∀ (args : Array Value) (w : World), (callFunc fs args).run Try.prog w = .ok (.enter fs args) w
  env : ∀ w w', Env w → Below lim w w' → Env w'
  one : ∀ (w : World) (b g : Nat) (pre post : List Value) (r : RefT), Env w → w.heap[b]? = some (.cells (pre ++ (r.vals ++ post)).toArray 29 (0, 0)) → w.heap[g]? = some (.cells #[.pointer (some ⟨b, pre.length, none⟩)] 96 (0, 0)) → g ≠ b → lim ≤ b → lim ≤ g → placeB r = true →
    Calls Try.prog fs (#[.slice (some ⟨g, 0, none⟩) 1 1] ++ caps) w fun e w' => ∃ q r', e = .returned (.bool q) ∧ Chg lim b w w' ∧ w'.heap[b]? = some (.cells (pre ++ (r'.vals ++ post)).toArray 29 (0, 0)) ∧ mv1 m r = (if q = true then some r' else none)
  two : ∀ (w : World) (b g : Nat) (pre post : List Value) (r t : RefT), Env w → w.heap[b]? = some (.cells (pre ++ (r.vals ++ (t.vals ++ post))).toArray 29 (0, 0)) → w.heap[g]? = some (.cells #[.pointer (some ⟨b, pre.length, none⟩), .pointer (some ⟨b, pre.length + 4, none⟩)] 96 (0, 0)) → g ≠ b → lim ≤ b → lim ≤ g → placeB r = true → placeB t = true →
    Calls Try.prog fs (#[.slice (some ⟨g, 0, none⟩) 2 2] ++ caps) w fun e w' => ∃ q r' t', e = .returned (.bool q) ∧ Chg lim b w w' ∧ w'.heap[b]? = some (.cells (pre ++ (r'.vals ++ (t'.vals ++ post))).toArray 29 (0, 0)) ∧ mv2 m r t = (if q = true then some (r', t') else none)

def topV (h : Hd) : List Value := [.int .i64 h.kind, .int .i64 h.op, .int .i64 h.num, .string ⟨h.text.toArray⟩]
def botV (h : Hd) (v : Value) : List Value := [.int .i64 h.fn, v]
theorem vals_parts (h : Hd) (v : Value) (pre post : List Value) : pre ++ (h.vals v ++ post) = (pre ++ topV h) ++ (h.ref.vals ++ (h.to.vals ++ (botV h v ++ post))) := by
  simp [Hd.vals, topV, botV, RefT.vals]
/-- What a node's row holds of it. -/
theorem node_at {w : World} {b : Nat} {pre post : List Value} {h : Hd} {v : Value} {T : TypeId} {fr : Nat × Nat} (hb : w.heap[b]? = some (.cells (pre ++ (h.vals v ++ post)).toArray T fr)) : NodeAt w b pre.length h v := by
  refine ⟨lt_of_block hb, fun j u hj => ?_⟩
  have hl := (List.getElem?_eq_some_iff.1 hj).1
  rw [cells_of_block hb, ← Array.getElem?_toList, List.getElem?_append_right (by omega), Nat.add_sub_cancel_left, List.getElem?_append_left hl]
  exact hj
theorem set_node {w : World} {b : Nat} {pre post : List Value} {old new : List Value} {T : TypeId} {fr : Nat × Nat} (hl : new.length = old.length) (hb : w.heap[b]? = some (.cells (pre ++ (old ++ post)).toArray T fr)) : (w.setCells b pre.length new).heap[b]? = some (.cells (pre ++ (new ++ post)).toArray T fr) := by
  rw [setCells_blk new pre.length w _ hb (by simp; omega)]
  simp [hl]
theorem there_node {w : World} {b n : Nat} {pre old post : List Value} {T : TypeId} (hl : old.length = n) (hb : w.heap[b]? = some (.cells (pre ++ (old ++ post)).toArray T (0, 0))) : w.there b pre.length n := fun j hj => by
  refine ⟨?_, frees_of_block hb _⟩
  rw [cells_of_block hb, Array.getElem?_eq_getElem (by simp; omega)]; rfl
theorem Chg.refl (lim b : Nat) (w : World) : Chg lim b w w := ⟨Below.refl _ _, fun _ _ _ => rfl⟩
theorem Chg.trans {lim b : Nat} {w w1 w2 : World} (h : Chg lim b w w1) (k : Chg lim b w1 w2) : Chg lim b w w2 :=
  ⟨h.1.trans k.1, fun x hx hne => (k.2 x (Nat.lt_of_lt_of_le hx h.1.size) hne).trans (h.2 x hx hne)⟩
theorem Chg.alloc {lim b : Nat} {w w1 : World} (h : Chg lim b w w1) (hl : lim ≤ w.heap.size) (o : Obj) : Chg lim b w (w1.alloc o) :=
  ⟨h.1.alloc (Nat.le_trans hl h.1.size) o, fun x hx hne => (Below.heap_alloc _ _ _ (Nat.lt_of_lt_of_le hx h.1.size)).trans (h.2 x hx hne)⟩
theorem Chg.sets {lim b : Nat} {w w1 : World} (h : Chg lim b w w1) (hb : lim ≤ b) (vs : List Value) (i : Nat) : Chg lim b w (w1.setCells b i vs) :=
  ⟨setCells_below hb vs i h.1, fun x hx hne => (setCells_other hne vs i w1).trans (h.2 x hx hne)⟩
theorem Chg.drew {lim b : Nat} {w w1 : World} (h : Chg lim b w w1) : Chg lim b w w1.drew := ⟨h.1.drew, h.2⟩

/-- What moved does with a node and all beneath it. -/
def MvdPost (m : Mv) (h : Hd) (k : Trees) (b : Nat) (pre post : List Value) (F : List Nat) (lim : Nat) (w : World) (e : Ending) (w' : World) : Prop :=
  e = .returned (.tuple #[]) ∧ Below lim w w' ∧ (∀ x, x < w.heap.size → x ≠ b → x ∉ F → w'.heap[x]? = w.heap[x]?) ∧
  ∃ v' F', w'.heap[b]? = some (.cells (pre ++ ((mvH m h).vals v' ++ post)).toArray 29 (0, 0)) ∧ OwnV w' (mvK m k) v' F' ∧ (∀ x ∈ F', x ∈ F) ∧ F'.Nodup
def RMvd (mval : Value) (m : Mv) (lim : Nat) (Env : World → Prop) (h : Hd) (k : Trees) : Prop :=
  ∀ (w : World) (b : Nat) (pre post : List Value) (v : Value) (F : List Nat), Env w → w.heap[b]? = some (.cells (pre ++ (h.vals v ++ post)).toArray 29 (0, 0)) → OwnV w k v F → F.Nodup → b ∉ F → lim ≤ b → (∀ x ∈ F, lim ≤ x ∧ x < w.heap.size) → treeFits h k = true → k.nodes ≤ 100000 →
  Calls Try.prog 85 #[.pointer (some ⟨b, pre.length, none⟩), mval] w (MvdPost m h k b pre post F lim w)
theorem ownv_nil {w : World} : OwnV w .nil (.slice none 0 0) [] := ⟨[], [], [], ⟨rfl, .inl ⟨rfl, rfl, rfl⟩⟩, ⟨rfl, rfl⟩, rfl⟩

set_option maxRecDepth 100000 in
set_option maxHeartbeats 4000000 in
theorem moved_one {mval : Value} {fs : FuncId} {caps : Array Value} {lim : Nat} {m : Mv} {Env : World → Prop} (S : MovSpec mval fs caps lim m Env) (nd : Hd) (ks : Trees) (hk : nd.kind = 5) : RMvd mval m lim Env nd ks := by
  intro w b pre post v F hE hb hO hF hbF hlb hlF hf hn
  obtain rfl := S.val
  simp only [treeFits, Bool.and_eq_true] at hf
  obtain ⟨hp, hl0⟩ := fits5 hf.1 hk
  obtain rfl := trees_nil hl0
  obtain ⟨ka, kc, rfl⟩ : ∃ a c, v = .slice a 0 c := by obtain ⟨cs, G, F', s, -, -⟩ := hO; exact s.slice
  have N := node_at hb
  have hlt := lt_of_block hb
  have hlim : lim ≤ w.heap.size := by omega
  -- the node as the mover sees it
  have hb1 := hb
  rw [vals_parts] at hb1
  have ha := (Below.heap_alloc w (.cells #[.pointer (some ⟨b, pre.length + 4, none⟩)] 96) b hlt).trans hb1
  have hg := heap_alloc_new w (.cells #[.pointer (some ⟨b, pre.length + 4, none⟩)] 96)
  have cM := S.one (w.alloc (.cells #[.pointer (some ⟨b, pre.length + 4, none⟩)] 96)) b w.heap.size _ _ nd.ref (S.env w _ hE ((Below.refl _ _).alloc hlim _)) ha (by rw [show (pre ++ topV nd).length = pre.length + 4 by simp [topV]]; exact hg) (by omega) hlb hlim hp
  have c0 := N.facts.c0
  have CM := Lib.hid cM; have HS := Lib.hid S; have HO := Lib.hid hO; have HB := Lib.hid hb; have HP := Lib.hid hlF; have HK := Lib.hid hk
  have kk : (nd.kind == 5) = true := by simp [hk]
  rw [hk] at c0
  clear cM S hO hb hlF hb1 ha hg N hf hn hk kk
  go_enter Try.func85, Try.ntmps85
  go_wp2_with fail
  rw [HS.out.run, Oper.upon_enter]
  refine CM.out.mono ?_
  rintro e w1 ⟨q, r', rfl, ch, hb1, hm⟩
  have hb2 : w1.heap[b]? = some (.cells (pre ++ (Hd.vals { nd with ref := r' } (.slice ka 0 kc) ++ post)).toArray 29 (0, 0)) := by rw [hb1, vals_parts]; rfl
  have hsz := ch.1.size
  have hs1 : w.heap.size < w1.heap.size := by simp at hsz; omega
  have C1 := Lib.hid ch
  clear ch hb1 c0
  cases q
  · have hx : (World.setCells w1 b pre.length [.int .i64 4, .int .i64 0, .int .i64 3, .string ⟨#[]⟩, .int .i64 0, .int .i64 0, .bool false, .bool false, .int .i64 0, .int .i64 0, .bool false, .bool false, .int .i64 0, .slice none 0 0]).heap[b]? = some (.cells (pre ++ (lostH.vals (.slice none 0 0) ++ post)).toArray 29 (0, 0)) := set_node (old := Hd.vals { nd with ref := r' } (.slice ka 0 kc)) rfl hb2
    have T0 := Lib.hid (there_node (n := 14) rfl hb2)
    have hc := C1.out.sets (vs := [.int .i64 4, .int .i64 0, .int .i64 3, .string ⟨#[]⟩, .int .i64 0, .int .i64 0, .bool false, .bool false, .int .i64 0, .int .i64 0, .bool false, .bool false, .int .i64 0, .slice none 0 0]) hlb pre.length
    obtain ⟨w2, hw2⟩ : ∃ w2, World.setCells w1 b pre.length [.int .i64 4, .int .i64 0, .int .i64 3, .string ⟨#[]⟩, .int .i64 0, .int .i64 0, .bool false, .bool false, .int .i64 0, .int .i64 0, .bool false, .bool false, .int .i64 0, .slice none 0 0] = w2 := ⟨_, rfl⟩
    rw [hw2] at hx hc
    have c13 := (node_at hx).facts.c13
    have HX := Lib.hid hx; have HC := Lib.hid hc; have HW := Lib.hid hw2
    have HM := Lib.hid hm
    clear hx hb2 hm hc hw2
    go_wp2_with (refine wpList_store_mid rfl 29 _ _ rfl b pre.length #[.int .i64 4, .int .i64 0, .int .i64 3, .string ⟨#[]⟩, .int .i64 0, .int .i64 0, .bool false, .bool false, .int .i64 0, .int .i64 0, .bool false, .bool false, .int .i64 0, .slice none 0 0] rfl rfl T0.out infoExprS (by simp [Value.oneCell']) ?_; rw [HW.out])
    go_loopw [39] (fun i wr => i = .int .i64 0 ∧ wr = w2) (fun _ _ => 0)
    case atStart => exact ⟨rfl, rfl⟩
    case round =>
      obtain ⟨rfl, rfl⟩ := hrel
      go_wp2
      go_end0
      have hc := HC.out
      refine ⟨rfl, ?_, fun x hx hne hF => ?_, .slice none 0 0, [], ?_, ownv_nil, by simp, List.nodup_nil⟩
      · exact ((Below.refl _ _).alloc hlim _).trans hc.1
      · exact (hc.2 x (by simp; omega) hne).trans (Below.heap_alloc _ _ _ hx)
      · have : mvH m nd = lostH := by simp [mvH, HK.out, HM.out]
        rw [this]; exact HX.out
  · have c13 := (node_at hb2).facts.c13
    have HX := Lib.hid hb2
    have HM := Lib.hid hm
    clear hb2 hm
    go_wp2_with fail
    go_loopw [39] (fun i wr => i = .int .i64 0 ∧ wr = w1) (fun _ _ => 0)
    case atStart => exact ⟨rfl, rfl⟩
    case round =>
      obtain ⟨rfl, rfl⟩ := hrel
      go_wp2
      go_end0
      have hc := C1.out
      refine ⟨rfl, ?_, fun x hx hne hF => ?_, .slice ka 0 kc, F, ?_, HO.out.kept fun x hx => ?_, fun _ h => h, hF⟩
      · exact ((Below.refl _ _).alloc hlim _).trans hc.1
      · exact (hc.2 x (by simp; omega) hne).trans (Below.heap_alloc _ _ _ hx)
      · have : mvH m nd = { nd with ref := r' } := by simp [mvH, HK.out, HM.out]
        rw [this]; exact HX.out
      · have := HP.out x hx
        exact (hc.2 x (by simp; omega) (fun e => hbF (e ▸ hx))).trans (Below.heap_alloc _ _ _ this.2)
end Go.Proofs.Ytkjfeakbhfkldaa
/- Shifting in place: a node that is a range. -/
namespace Go.Proofs.Ytkjfeakbhfkldaa
open Go.RowKit

set_option maxRecDepth 100000 in
set_option maxHeartbeats 4000000 in
theorem moved_two {mval : Value} {fs : FuncId} {caps : Array Value} {lim : Nat} {m : Mv} {Env : World → Prop} (S : MovSpec mval fs caps lim m Env) (nd : Hd) (ks : Trees) (hk : nd.kind = 6) : RMvd mval m lim Env nd ks := by
  intro w b pre post v F hE hb hO hF hbF hlb hlF hf hn
  obtain rfl := S.val
  simp only [treeFits, Bool.and_eq_true] at hf
  obtain ⟨hp, hp2, hl0⟩ := fits6 hf.1 hk
  obtain rfl := trees_nil hl0
  obtain ⟨ka, kc, rfl⟩ : ∃ a c, v = .slice a 0 c := by obtain ⟨cs, G, F', s, -, -⟩ := hO; exact s.slice
  have N := node_at hb
  have hlt := lt_of_block hb
  have hlim : lim ≤ w.heap.size := by omega
  have hb1 := hb
  rw [vals_parts] at hb1
  have ha := (Below.heap_alloc w (.cells #[.pointer (some ⟨b, pre.length + 4, none⟩), .pointer (some ⟨b, pre.length + 8, none⟩)] 96) b hlt).trans hb1
  have hg := heap_alloc_new w (.cells #[.pointer (some ⟨b, pre.length + 4, none⟩), .pointer (some ⟨b, pre.length + 8, none⟩)] 96)
  have cM := S.two (w.alloc (.cells #[.pointer (some ⟨b, pre.length + 4, none⟩), .pointer (some ⟨b, pre.length + 8, none⟩)] 96)).drew b w.heap.size _ _ nd.ref nd.to (S.env w _ hE ((Below.refl _ _).alloc hlim _).drew) ha (by rw [show (pre ++ topV nd).length = pre.length + 4 by simp [topV]]; exact hg) (by omega) hlb hlim hp hp2
  have c0 := N.facts.c0
  have CM := Lib.hid cM; have HS := Lib.hid S; have HO := Lib.hid hO; have HB := Lib.hid hb; have HP := Lib.hid hlF; have HK := Lib.hid hk
  rw [hk] at c0
  clear cM S hO hb hlF hb1 ha hg N hf hn hk
  go_enter Try.func85, Try.ntmps85
  go_wp2_with fail
  go_region_with (rw [HS.out.run, Oper.upon_enter]; refine CM.out.mono ?_; rintro e w1 ⟨q, r', t', rfl, ch, hb1, hm⟩)
  have hb2 : w1.heap[b]? = some (.cells (pre ++ (Hd.vals { nd with ref := r', to := t' } (.slice ka 0 kc) ++ post)).toArray 29 (0, 0)) := by rw [hb1, vals_parts]; rfl
  have hsz := ch.1.size
  have hs1 : w.heap.size < w1.heap.size := by simp at hsz; omega
  have C1 := Lib.hid ch
  clear ch hb1 c0
  cases q
  · have hx : (World.setCells w1 b pre.length [.int .i64 4, .int .i64 0, .int .i64 3, .string ⟨#[]⟩, .int .i64 0, .int .i64 0, .bool false, .bool false, .int .i64 0, .int .i64 0, .bool false, .bool false, .int .i64 0, .slice none 0 0]).heap[b]? = some (.cells (pre ++ (lostH.vals (.slice none 0 0) ++ post)).toArray 29 (0, 0)) := set_node (old := Hd.vals { nd with ref := r', to := t' } (.slice ka 0 kc)) rfl hb2
    have T0 := Lib.hid (there_node (n := 14) rfl hb2)
    have hc := C1.out.sets (vs := [.int .i64 4, .int .i64 0, .int .i64 3, .string ⟨#[]⟩, .int .i64 0, .int .i64 0, .bool false, .bool false, .int .i64 0, .int .i64 0, .bool false, .bool false, .int .i64 0, .slice none 0 0]) hlb pre.length
    obtain ⟨w2, hw2⟩ : ∃ w2, World.setCells w1 b pre.length [.int .i64 4, .int .i64 0, .int .i64 3, .string ⟨#[]⟩, .int .i64 0, .int .i64 0, .bool false, .bool false, .int .i64 0, .int .i64 0, .bool false, .bool false, .int .i64 0, .slice none 0 0] = w2 := ⟨_, rfl⟩
    rw [hw2] at hx hc
    have c13 := (node_at hx).facts.c13
    have HX := Lib.hid hx; have HC := Lib.hid hc; have HW := Lib.hid hw2
    have HM := Lib.hid hm
    clear hx hb2 hm hc hw2
    go_wp2_with (refine wpList_store_mid rfl 29 _ _ rfl b pre.length #[.int .i64 4, .int .i64 0, .int .i64 3, .string ⟨#[]⟩, .int .i64 0, .int .i64 0, .bool false, .bool false, .int .i64 0, .int .i64 0, .bool false, .bool false, .int .i64 0, .slice none 0 0] rfl rfl T0.out infoExprS (by simp [Value.oneCell']) ?_; rw [HW.out])
    go_loopw [39] (fun i wr => i = .int .i64 0 ∧ wr = w2) (fun _ _ => 0)
    case atStart => exact ⟨rfl, rfl⟩
    case round =>
      obtain ⟨rfl, rfl⟩ := hrel
      go_wp2
      go_end0
      have hc := HC.out
      refine ⟨rfl, ?_, fun x hx hne hF => ?_, .slice none 0 0, [], ?_, ownv_nil, by simp, List.nodup_nil⟩
      · exact ((Below.refl _ _).alloc hlim _).drew.trans hc.1
      · exact (hc.2 x (by simp; omega) hne).trans (Below.heap_alloc _ _ _ hx)
      · have : mvH m nd = lostH := by simp [mvH, HK.out, HM.out]
        rw [this]; exact HX.out
  · have c13 := (node_at hb2).facts.c13
    have HX := Lib.hid hb2
    have HM := Lib.hid hm
    clear hb2 hm
    go_wp2_with fail
    go_loopw [39] (fun i wr => i = .int .i64 0 ∧ wr = w1) (fun _ _ => 0)
    case atStart => exact ⟨rfl, rfl⟩
    case round =>
      obtain ⟨rfl, rfl⟩ := hrel
      go_wp2
      go_end0
      have hc := C1.out
      refine ⟨rfl, ?_, fun x hx hne hF => ?_, .slice ka 0 kc, F, ?_, HO.out.kept fun x hx => ?_, fun _ h => h, hF⟩
      · exact ((Below.refl _ _).alloc hlim _).drew.trans hc.1
      · exact (hc.2 x (by simp; omega) hne).trans (Below.heap_alloc _ _ _ hx)
      · have : mvH m nd = { nd with ref := r', to := t' } := by simp [mvH, HK.out, HM.out]
        rw [this]; exact HX.out
      · have := HP.out x hx
        exact (hc.2 x (by simp; omega) (fun e => hbF (e ▸ hx))).trans (Below.heap_alloc _ _ _ this.2)
end Go.Proofs.Ytkjfeakbhfkldaa
/- Shifting in place: moved over a whole tree. -/
namespace Go.Proofs.Ytkjfeakbhfkldaa
open Go.RowKit

theorem take_left {α : Type} (a b : List α) (n : Nat) (h : a.length = n) : (a ++ b).take n = a := by subst h; simp
/-- The loop of moved over a row of kids: g: the row's block. -/
def KRel (mval : Value) (m : Mv) (lim : Nat) (Env : World → Prop) (ks : Trees) (kl g : Nat) (spare : List Value) (F : List Nat) (w wr : World) (i : Value) : Prop :=
  ∃ (j : Nat) (dn rest : Trees) (cd cr : List Value) (Fd Fr : List Nat), i = .int .i64 j ∧ Hid (j = dn.len ∧ dn.app rest = ks ∧ kl = j + rest.len) ∧ AllT (RMvd mval m lim Env) rest ∧ rest.nodes ≤ 100000 ∧ allFits rest = true ∧
    Hid (wr.heap[g]? = some (.cells (cd ++ (cr ++ spare)).toArray 29 (0, 0)) ∧ OwnCells wr (mvK m dn) cd Fd ∧ OwnCells wr rest cr Fr ∧ (Fd ++ Fr).Nodup ∧ g ∉ Fd ++ Fr ∧ (∀ x ∈ Fd ++ Fr, x ∈ F)) ∧
    Below lim w wr ∧ Hid (∀ x, x < w.heap.size → x ∉ F → wr.heap[x]? = w.heap[x]?)

set_option maxRecDepth 100000 in
set_option maxHeartbeats 4000000 in
theorem moved_step {mval : Value} {fs : FuncId} {caps : Array Value} {lim : Nat} {m : Mv} {Env : World → Prop} (S : MovSpec mval fs caps lim m Env) (nd : Hd) (ks : Trees) (ih : AllT (RMvd mval m lim Env) ks) : RMvd mval m lim Env nd ks := by
  by_cases k5 : nd.kind = 5
  · exact moved_one S nd ks k5
  by_cases k6 : nd.kind = 6
  · exact moved_two S nd ks k6
  intro w b pre post v F hE hb hO hF hbF hlb hlF hf hn
  simp only [treeFits, Bool.and_eq_true] at hf
  have hH : mvH m nd = nd := by simp [mvH, k5, k6]
  have N := node_at hb
  have hlt := lt_of_block hb
  have c0 := N.facts.c0
  have c13 := N.facts.c13
  have k1 : (nd.kind == 5) = false := by simp [k5]
  have k2 : (nd.kind == 6) = false := by simp [k6]
  obtain ⟨cs, G, F1, s, oc, rfl⟩ := hO
  have hkl : ks.len ≤ 100000 := Nat.le_trans (len_le_nodes ks) hn
  have HH := Lib.hid hH
  have HI := Lib.hid ih; have HS := Lib.hid S; have HB := Lib.hid hb; have HLF := Lib.hid hlF; have HF := Lib.hid hF; have HA := Lib.hid hf.2; have HOC := Lib.hid oc
  clear ih S hb hlF hF hf oc N k5 k6 hH
  rcases s.2 with ⟨rfl, e0, rfl⟩ | ⟨g, cap, cur, rfl, hg, h1, h2, h3, h4, rfl⟩
  · have hc0 : ks.len = 0 := e0
    obtain rfl := trees_nil hc0
    clear s e0
    go_enter Try.func85, Try.ntmps85
    go_wp2_with fail
    go_loopw [39] (fun i wr => i = .int .i64 0 ∧ wr = w) (fun _ _ => 0)
    case atStart => exact ⟨rfl, rfl⟩
    case round =>
      obtain ⟨rfl, rfl⟩ := hrel
      go_wp2
      go_end0
      refine ⟨rfl, Below.refl _ _, fun _ _ _ _ => rfl, .slice none 0 0, [], ?_, ownv_nil, by simp, List.nodup_nil⟩
      rw [HH.out]; exact HB.out
  · obtain ⟨kl, hkl'⟩ : ∃ n, n = ks.len := ⟨_, rfl⟩
    rw [← hkl'] at c13 h1 h4 hkl HB
    have hcs : cs.length = kl * 14 := by rw [hkl']; exact HOC.out.length
    have hcur : cur.toList = cs ++ cur.toList.drop (kl * 14) := by rw [← h4, List.take_append_drop]
    have hgb : g ≠ b := fun e => by subst e; exact hbF (by simp)
    have hg' : w.heap[g]? = some (.cells (([] : List Value) ++ (cs ++ cur.toList.drop (kl * 14))).toArray 29 (0, 0)) := by rw [hg, List.nil_append, ← hcur, Array.toArray_toList]
    have HG := Lib.hid hg'; have HKL := Lib.hid hkl'
    clear hg hg' hcur hkl' s
    go_enter Try.func85, Try.ntmps85
    go_wp2_with fail
    clear k1 k2 c0
    go_loopw [39] (fun i wr => KRel mval m lim Env ks kl g (cur.toList.drop (kl * 14)) ([g] ++ F1) w wr i) (fun i _ => kl - (intOf i).toNat)
    case atStart =>
      have hnd := HF.out
      exact ⟨0, .nil, ks, [], cs, [], F1, rfl, Lib.hid ⟨rfl, rfl, by have := HKL.out; omega⟩, HI.out, hn, HA.out, Lib.hid ⟨HG.out, ⟨rfl, rfl⟩, HOC.out, (List.nodup_append.1 hnd).2.1, fun h => (List.nodup_append.1 hnd).2.2 g (by simp) g (by simpa using h) rfl, fun x hx => by simp at hx; simp [hx]⟩, Below.refl _ _, Lib.hid fun _ _ _ => rfl⟩
    case round =>
      obtain ⟨j, dn, rest, cd, cr, Fd, Fr, rfl, HJ, hall, hno, hfit, HR, hbel, HSame⟩ := hrel
      have hbw : wr.heap[b]? = some _ := (HSame.out b hlt hbF).trans HB.out
      have c13 := (node_at hbw).facts.c13
      obtain ⟨-, -, hj3⟩ := HJ.out
      by_cases hlt2 : j < kl
      · obtain ⟨h', k', r', rfl⟩ := trees_cons (rest := rest) (by omega)
        obtain ⟨rg, rd, rc, rn, rgn, rs⟩ := HR.out
        obtain ⟨v', cr', cs1, G', F1', F2', rfl, hok', s', o1, o2, rfl⟩ := rc
        have hcd : cd.length = j * 14 := by rw [rd.length, mvK_len, (HJ.out).1]
        rw [List.append_assoc] at rg
        have hdisj : (G' ++ F1').Nodup := (List.nodup_append.1 (List.nodup_append.1 rn).2.1).1
        simp only [allFits, Bool.and_eq_true] at hfit
        have hno1 : k'.nodes ≤ 100000 := by simp only [Trees.nodes] at hno; omega
        have hno2 : r'.nodes ≤ 100000 := by simp only [Trees.nodes] at hno; omega
        have hin : ∀ x, x ∈ G' ++ F1' → x ∈ Fd ++ ((G' ++ F1') ++ F2') := fun x h => List.mem_append_right _ (List.mem_append_left _ h)
        have hgF : g ∉ G' ++ F1' := fun h => rgn (hin g h)
        have hgl := HLF.out g (by simp)
        have cC := hall.1 wr g cd (cr' ++ cur.toList.drop (kl * 14)) v' (G' ++ F1') (HS.out.env _ _ hE hbel) rg ⟨cs1, G', F1', s', o1, rfl⟩ hdisj hgF hgl.1 (fun x hx => ⟨(HLF.out x (rs x (hin x hx))).1, Nat.lt_of_lt_of_le (HLF.out x (rs x (hin x hx))).2 hbel.size⟩) (by simp only [treeFits, Bool.and_eq_true]; exact hfit.1) hno1
        rw [hcd] at cC
        have CC := Lib.hid cC
        have RD := Lib.hid rd; have O2 := Lib.hid o2; have RN := Lib.hid rn; have RGN := Lib.hid rgn; have RS := Lib.hid rs; have HAll := Lib.hid hall.2; have HF2 := Lib.hid hfit.2; have HB2 := Lib.hid hbel
        have hkj : (j : Int) < (kl : Int) := by omega
        have hszr := hbel.size
        clear cC rg rd s' o1 o2 rn rgn rs hdisj hgF hall hfit hbw hbel hno HR hj3 hcd
        go_wp2_with fail
        refine CC.out.mono ?_
        rintro e w2 ⟨rfl, b2, sm, v2, F2, hg2, ov2, hs2, nd2⟩
        have hsz2 := b2.size
        have hdF : ∀ x, x ∈ Fd → x < wr.heap.size ∧ x ≠ g ∧ x ∉ G' ++ F1' ∧ x ∉ F2' := fun x hx =>
          ⟨Nat.lt_of_lt_of_le (HLF.out x (RS.out x (List.mem_append_left _ hx))).2 hszr, fun e => RGN.out (e ▸ List.mem_append_left _ hx),
           fun h => (List.nodup_append.1 RN.out).2.2 x hx x (List.mem_append_left _ h) rfl, fun h => (List.nodup_append.1 RN.out).2.2 x hx x (List.mem_append_right _ h) rfl⟩
        have hd2 : ∀ x, x ∈ F2' → x < wr.heap.size ∧ x ≠ g ∧ x ∉ G' ++ F1' := fun x hx =>
          ⟨Nat.lt_of_lt_of_le (HLF.out x (RS.out x (List.mem_append_right _ (List.mem_append_right _ hx)))).2 hszr, fun e => RGN.out (e ▸ List.mem_append_right _ (List.mem_append_right _ hx)),
           fun h => (List.nodup_append.1 (List.nodup_append.1 RN.out).2.1).2.2 x h x hx rfl⟩
        have hF2 : ∀ x, x ∈ F2 → x ∈ Fd ++ ((G' ++ F1') ++ F2') := fun x hx => hin x (hs2 x hx)
        have od : OwnCells w2 (mvK m (dn.app (.cons h' k' .nil))) (cd ++ Hd.vals (mvH m h') v2) (Fd ++ F2) := by
          rw [mvK_app]
          exact (RD.out.kept fun x hx => sm x (hdF x hx).1 (hdF x hx).2.1 (hdF x hx).2.2.1).snoc (mvH_ok hok') ov2
        have oc2 := O2.out.kept fun x hx => sm x (hd2 x hx).1 (hd2 x hx).2.1 (hd2 x hx).2.2
        have hnd : ((Fd ++ F2) ++ F2').Nodup := by
          refine List.nodup_append.2 ⟨List.nodup_append.2 ⟨(List.nodup_append.1 RN.out).1, nd2, fun a ha c hc e => ?_⟩, (List.nodup_append.1 (List.nodup_append.1 RN.out).2.1).2.1, fun a ha c hc e => ?_⟩
          · subst e; exact (hdF a ha).2.2.1 (hs2 a hc)
          · subst e
            rcases List.mem_append.1 ha with ha | ha
            · exact (hdF a ha).2.2.2 hc
            · exact (hd2 a hc).2.2 (hs2 a ha)
        have hsub : ∀ x, x ∈ (Fd ++ F2) ++ F2' → x ∈ Fd ++ ((G' ++ F1') ++ F2') := fun x hx => by
          rcases List.mem_append.1 hx with hx | hx
          · rcases List.mem_append.1 hx with hx | hx
            · exact List.mem_append_left _ hx
            · exact hF2 x hx
          · exact List.mem_append_right _ (List.mem_append_right _ hx)
        have hg3 : w2.heap[g]? = some (.cells ((cd ++ Hd.vals (mvH m h') v2) ++ (cr' ++ cur.toList.drop (kl * 14))).toArray 29 (0, 0)) := by rw [hg2]; simp only [List.append_assoc]
        have R2 := Lib.hid (And.intro hg3 (And.intro od (And.intro oc2 (And.intro hnd (And.intro (fun (h : g ∈ (Fd ++ F2) ++ F2') => RGN.out (hsub g h)) (fun x (hx : x ∈ (Fd ++ F2) ++ F2') => RS.out x (hsub x hx)))))))
        have S2 := Lib.hid (fun x (hx : x < w.heap.size) (hF' : x ∉ [g] ++ F1) => (sm x (by omega) (fun e => hF' (by simp [e])) (fun h => hF' (RS.out x (hin x h)))).trans (HSame.out x hx hF'))
        have B2 := Lib.hid (HB2.out.trans b2)
        have J2 := Lib.hid (show j + 1 = (dn.app (.cons h' k' .nil)).len ∧ (dn.app (.cons h' k' .nil)).app r' = ks ∧ kl = (j + 1) + r'.len from ⟨by rw [Trees.app_len, HJ.out.1]; rfl, by rw [Trees.app_cons]; exact HJ.out.2.1, by have := HJ.out.2.2; simp only [Trees.len] at this; omega⟩)
        clear hg2 hg3 od oc2 hnd hsub sm b2 hdF hd2 hF2 ov2 nd2 hs2
        go_wp2
        exact ⟨⟨j + 1, dn.app (.cons h' k' .nil), r', _, cr', _, F2', by go_num, J2, HAll.out, hno2, HF2.out, R2, B2.out, S2⟩, by simp [intOf]; omega⟩
      · have hz : rest.len = 0 := by omega
        obtain rfl := trees_nil hz
        obtain ⟨hj1, happ, -⟩ := HJ.out
        rw [Trees.app_nil] at happ
        subst happ
        have hjk : kl = j := by omega
        subst hjk
        clear hall hfit hz hj3 hj1
        go_wp2
        go_end0
        have hj1 := HJ.out.1
        obtain ⟨rg, rd, ⟨rfl, rfl⟩, rn, rgn, rs⟩ := HR.out
        simp only [List.append_nil] at rn rgn rs
        rw [List.nil_append] at rg
        have hcd : cd.length = dn.len * 14 := by rw [rd.length, mvK_len]
        refine ⟨rfl, hbel, fun x hx _ hF' => HSame.out x hx hF', .slice (some ⟨g, 0, none⟩) kl cap, [g] ++ Fd, by rw [HH.out]; exact hbw, ⟨cd, [g], Fd, ⟨by rw [mvK_len]; exact hcd, .inr ⟨g, cap, _, by rw [mvK_len, ← hj1], rg, by rw [mvK_len]; omega, h2, ?_, ?_, rfl⟩⟩, rd, rfl⟩, ?_, ?_⟩
        · simp [hcd]; rw [h3]; have : dn.len ≤ cap := by omega
          omega
        · rw [mvK_len, List.toList_toArray]; exact take_left _ _ _ hcd
        · intro x hx
          rcases List.mem_append.1 hx with hx | hx
          · exact List.mem_append_left _ hx
          · exact rs x hx
        · exact List.nodup_append.2 ⟨by simp, rn, fun a ha c hc e => by subst e; simp at ha; exact rgn (ha ▸ hc)⟩
theorem moved_any {mval : Value} {fs : FuncId} {caps : Array Value} {lim : Nat} {m : Mv} {Env : World → Prop} (S : MovSpec mval fs caps lim m Env) (nd : Hd) (ks : Trees) : RMvd mval m lim Env nd ks := moved_step S nd ks (allT (moved_step S) ks)
end Go.Proofs.Ytkjfeakbhfkldaa
