/- References' texts: two with a colon between are the area whose corners they are. No program in sight. -/
import Derived.Test.YtnhgeojcelegbaaDoorSpR
import Derived.Test.YtnhgeojcelegbaaDoorSpI
namespace Go.Proofs.YtnhgeojcelegbaaDoor
open Go.RowKit Go.Lib

theorem refAns_app {r : RefT} (h : placeB r = true) (rest : List UInt8) (hr : ∀ c, rest.head? = some c → digB c = false) : refAns (refTextL r ++ rest) = ⟨r, (refTextL r).length, 0⟩ := by
  have hp : 0 ≤ r.row ∧ r.row < 65536 ∧ 0 ≤ r.col ∧ r.col < 702 := by simp [placeB] at h; omega
  obtain ⟨e, P⟩ := refText_parts h
  have P2 : Parts (refTextL r ++ rest) ⟨(refTextL r).length, r.col, r.row, r.pc, r.pr⟩ (lettersL r.col) (decDigits (r.row + 1).toNat) rest :=
    ⟨by rw [e]; simp only [List.append_nil, List.append_assoc], P.w, P.d, P.w0, P.d0, P.z, hr, P.col, P.row, P.n⟩
  unfold refAns
  rw [parts_form P2]
  simp only
  rw [if_pos ⟨hp.2.2.2, hp.2.1⟩]
theorem areas_two {a b : RefT} (ha : placeB a = true) (hb : placeB b = true) : areaAns (refTextL a ++ [58] ++ refTextL b) = areaOfR a b := by
  have h1 : refAns (refTextL a ++ [58] ++ refTextL b) = ⟨a, (refTextL a).length, 0⟩ := by
    rw [List.append_assoc]
    exact refAns_app ha _ (fun c hc => by simp at hc; subst hc; decide)
  have h2 : (refTextL a ++ [58] ++ refTextL b).drop ((refTextL a).length + 1) = refTextL b := by
    rw [show (refTextL a).length + 1 = (refTextL a ++ [58]).length by simp]
    exact List.drop_left
  have h3 : (refTextL a ++ [58] ++ refTextL b)[(refTextL a).length]? = some 58 := by
    rw [List.append_assoc, List.getElem?_append_right (Nat.le_refl _), Nat.sub_self]; rfl
  rw [areaAns_eq, h1]
  simp only
  rw [h2, refAns_text hb]
  simp only
  rw [if_neg (by decide), if_neg (by simp), if_neg (by rw [h3]; simp), if_neg (by simp; omega), if_neg (by simp)]
theorem areas_one {a : RefT} (ha : placeB a = true) : areaAns (refTextL a) = (⟨a.row, a.col, a.row, a.col⟩, 0) := by
  rw [areaAns_eq, refAns_text ha]
  simp only
  rw [if_neg (by decide), if_pos trivial, if_neg (by simp), areaOfR, if_neg (by simp)]
  simp
theorem areaOfR_comm (a b : RefT) : areaOfR b a = areaOfR a b := by
  unfold areaOfR
  rw [Int.max_comm b.row, Int.min_comm b.row, Int.max_comm b.col, Int.min_comm b.col]
end Go.Proofs.YtnhgeojcelegbaaDoor
