/- References' texts: a column's letters; a reference's text. -/
import Derived.Test.YtikahfnlflhbfaaGreatDoorLxSc
import Derived.Laws.Cover4
import Derived.Deep.RegionHeld3
namespace Go.Proofs.YtikahfnlflhbfaaGreatDoor
open Go.RowKit Go.Lib

theorem encode_low {x : Int} (h0 : 0 ≤ x) (h1 : x < 128) : Utf8.encode x = ⟨#[UInt8.ofNat x.toNat]⟩ := by
  have hv : Utf8.valid x = true := by unfold Utf8.valid; simp; omega
  unfold Utf8.encode
  simp only [hv, if_true]
  rw [if_pos (by omega)]
theorem pinL_len (b : Bool) : (pinL b).length ≤ 1 := by cases b <;> simp [pinL]
def strB (l : List UInt8) : ByteArray := ⟨l.toArray⟩
theorem strB_size (l : List UInt8) : (strB l).size = l.length := by rw [Lib.size_eq]; simp [strB]
theorem strB_app (a b : List UInt8) : strB a ++ strB b = strB (a ++ b) := by
  apply ByteArray.ext
  simp [strB]
end Go.Proofs.YtikahfnlflhbfaaGreatDoor
