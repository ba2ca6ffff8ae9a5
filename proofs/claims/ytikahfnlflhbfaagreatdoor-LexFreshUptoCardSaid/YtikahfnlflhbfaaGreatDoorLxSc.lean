/- References' texts: the letters' column. -/
import Derived.Test.YtikahfnlflhbfaaGreatDoorLxSb
import Derived.Laws.RangeString
namespace Go.Proofs.YtikahfnlflhbfaaGreatDoor
open Go.RowKit Go.Lib

def colOut : List UInt8 → Int → Option Int
  | [], acc => some (acc - 1)
  | c :: r, acc => if acc * 26 + letN c + 1 > 702 then none else colOut r (acc * 26 + letN c + 1)
theorem colOut_of (l : List UInt8) (h : l.all letB = true) (hn : l ≠ []) : (colOut l 0 = some (colN l) ∧ 0 ≤ colN l ∧ colN l < 702) ∨ (colOut l 0 = none ∧ ¬ colN l < 702) := by
  match l, hn with
  | [a], _ =>
    have ha := letN_of (c := a) (by simpa using h)
    left
    simp only [colOut, colN]
    rw [if_neg (by omega)]
    exact ⟨by congr 1; omega, by omega, by omega⟩
  | [a, b], _ =>
    simp only [List.all_cons, List.all_nil, Bool.and_true, Bool.and_eq_true] at h
    have ha := letN_of h.1; have hb := letN_of h.2
    left
    simp only [colOut, colN]
    rw [if_neg (by omega), if_neg (by omega)]
    exact ⟨by congr 1; omega, by omega, by omega⟩
  | a :: b :: c :: r, _ =>
    simp only [List.all_cons, Bool.and_eq_true] at h
    have ha := letN_of h.1; have hb := letN_of h.2.1; have hc := letN_of h.2.2.1
    right
    simp only [colOut, colN]
    refine ⟨?_, by omega⟩
    rw [if_neg (by omega), if_neg (by omega), if_pos (by omega)]
def ColPost (o : Option Int) (w : World) (e : Ending) (w' : World) : Prop :=
  e = .returned (match o with | some v => .tuple #[.int .i64 v, .bool true] | none => .tuple #[.int .i64 0, .bool false]) ∧ Below w.heap.size w w'
set_option maxHeartbeats 1000000 in
theorem column_any (s : ByteArray) (w : World) (hs : s.size ≤ 140737488355328) (h : s.data.toList.all letB = true) : Calls Tryz.prog 55 #[.string s] w (ColPost (colOut s.data.toList 0) w) := by
  have hall : ∀ (j : Nat) (c : UInt8), s.data.toList[j]? = some c → letB c = true := fun j c hj => List.all_eq_true.1 h c (List.mem_of_getElem? hj)
  have HA := Lib.hid hall
  clear hall h
  go_enter Tryz.func55, Tryz.ntmps55
  go_wp2_with fail
  refine (Tryz.strings_ToUpper_ascii s w (by omega) (fun j b hb => by have := HA.out j b hb; simp only [letB, Bool.or_eq_true, Bool.and_eq_true, decide_eq_true_eq] at this; omega)).mono ?_
  rintro e w2 ⟨rfl, b2⟩
  obtain ⟨u, hu⟩ : ∃ u : ByteArray, u = ⟨(toUpperA s.data.toList).toArray⟩ := ⟨_, rfl⟩
  have hus : u.size = s.size := by rw [Lib.size_eq, Lib.size_eq, hu]; simp [toUpperA]
  have hug : ∀ (j : Nat) (hj : j < u.size) (c : UInt8), s.data.toList[j]? = some c → (u[j].toNat : Int) = letN c + 65 := by
    intro j hj c hc
    have h1 := (letN_of (HA.out j c hc)).2.2
    rw [← h1]
    have : u.data.toList[j]? = some (upperB c) := by rw [hu]; simp [toUpperA, hc]
    rw [List.getElem?_eq_getElem (by simpa using hj)] at this
    have e := Option.some.inj this
    show ((u.data.toList[j]'_).toNat : Int) = _
    rw [e]
  rw [← hu]
  have B2 := Lib.hid b2; have HU := Lib.hid hug; have HS := Lib.hid hus
  clear b2 hug hus hu
  go_wp2
  go_loopw [4] (fun n w' => ∃ (k : Nat) (acc : Int), w' = w2.iter u k ∧ n = .int .i64 acc ∧ 0 ≤ acc ∧ acc ≤ 702 ∧ k ≤ s.size ∧ Hid (colOut (s.data.toList.drop k) acc = colOut s.data.toList 0)) (fun _ w' => u.size - w'.iterPos w2.heap.size)
  case atStart => exact ⟨0, 0, rfl, rfl, by omega, by omega, Nat.zero_le _, Lib.hid rfl⟩
  case round =>
    obtain ⟨k, acc, rfl, rfl, ha1, ha2, hk, HC⟩ := hrel
    have hus := HS.out
    by_cases hp : k < u.size
    · have hks : k < s.data.toList.length := by simp; show k < s.size; omega
      obtain ⟨c, hc⟩ : ∃ c, s.data.toList[k]? = some c := ⟨_, List.getElem?_eq_getElem hks⟩
      have hlet := letN_of (HA.out k c hc)
      have hux := HU.out k hp c hc
      have hnx0 := run_next_ascii (P := Tryz.prog) w2 u k (ty := 0) hp (by omega)
      obtain ⟨y, hy⟩ : ∃ y : Int, y = (u[k].toNat : Int) := ⟨_, rfl⟩
      have hnx : ∀ ty, (Instr.next (.pointer (some ⟨w2.heap.size, 0, none⟩)) true ty).run Tryz.prog (w2.iter u k) = .ok (.tuple #[.bool true, .int .i64 k, .int .i32 y]) (w2.iter u (k + 1)) := fun ty => by rw [hy]; exact run_next_ascii (P := Tryz.prog) w2 u k ty hp (by omega)
      have hy1 : 65 ≤ y := by omega
      have hy2 : y ≤ 90 := by omega
      have HY := Lib.hid (show y = letN c + 65 by omega)
      have hdrop : s.data.toList.drop k = c :: s.data.toList.drop (k + 1) := by rw [List.drop_eq_getElem_cons hks]; rw [List.getElem?_eq_getElem hks] at hc; injection hc with hc; rw [hc]
      have HC2 := HC.out
      rw [hdrop] at HC2
      simp only [colOut] at HC2
      have HC3 := Lib.hid HC2
      have hk1 : k + 1 ≤ s.size := by omega
      clear hlet hux hnx0 hy hdrop HC2 hc hus hks
      by_cases h7 : acc * 26 + (y - 65) + 1 > 702
      · go_wp2
        go_ret2
        refine ⟨?_, ?_⟩
        · rw [← HC3.out, if_pos (by have := HY.out; omega)]; rfl
        · exact (B2.out.alloc B2.out.size _)
      · go_wp2
        refine ⟨⟨k + 1, _, rfl, rfl, by omega, by omega, by omega, Lib.hid ?_⟩, by simp; omega⟩
        rw [← HC3.out, if_neg (by have := HY.out; omega)]
        congr 1
        have := HY.out; omega
    · have hnx : ∀ ty, (Instr.next (.pointer (some ⟨w2.heap.size, 0, none⟩)) true ty).run Tryz.prog (w2.iter u k) = _ := fun ty => run_next_end w2 u k ty hp
      have hk2 : s.data.toList.drop k = [] := List.drop_eq_nil_of_le (by simp; show s.size ≤ k; omega)
      have HC2 := HC.out
      rw [hk2] at HC2
      have HC3 := Lib.hid HC2
      clear hus hk2 HC2
      go_wp2
      go_ret2
      refine ⟨?_, ?_⟩
      · rw [← HC3.out]; rfl
      · exact (B2.out.alloc B2.out.size _)
end Go.Proofs.YtikahfnlflhbfaaGreatDoor
