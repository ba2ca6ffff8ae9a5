/- Trees: the looks at one node, whatever its kind. -/
import Derived.Test.YtkjfeakbhfkldaaTreeA1
import Derived.Test.YtkjfeakbhfkldaaTreeA2
import Derived.Test.YtkjfeakbhfkldaaTreeB1
import Derived.Test.YtkjfeakbhfkldaaTreeB2
namespace Go.Proofs.Ytkjfeakbhfkldaa
open Go.RowKit
theorem fits_any (h : Hd) (ka : Option Addr) (kl kc : Nat) (w : World) (hm : kl ≤ 9223372036854775807) : Calls Try.prog 89 #[.agg (h.vals (.slice ka kl kc)).toArray] w fun e w' =>
    e = .returned (.bool (fitsV h kl)) ∧ Below w.heap.size w w' := by
  by_cases h1 : h.kind < 1 ∨ 9 < h.kind
  · exact fits_k10 h ka kl kc w h1
  · have h2 : h.kind = 1 ∨ h.kind = 2 ∨ h.kind = 3 ∨ h.kind = 4 ∨ h.kind = 5 ∨ h.kind = 6 ∨ h.kind = 7 ∨ h.kind = 8 ∨ h.kind = 9 := by omega
    rcases h2 with h2 | h2 | h2 | h2 | h2 | h2 | h2 | h2 | h2
    · exact fits_k1 h ka kl kc w h2
    · exact fits_k2 h ka kl kc w h2
    · exact fits_k3 h ka kl kc w h2
    · exact fits_k4 h ka kl kc w h2
    · exact fits_k5 h ka kl kc w h2
    · exact fits_k6 h ka kl kc w h2
    · exact fits_k7 h ka kl kc w hm h2
    · exact fits_k8 h ka kl kc w hm h2
    · exact fits_k9 h ka kl kc w h2
theorem bare_any (h : Hd) (b off : Nat) (ka : Option Addr) (kl kc : Nat) (w : World) (N : NodeAt w b off h (.slice ka kl kc)) : Calls Try.prog 79 #[.pointer (some ⟨b, off, none⟩)] w fun e w' =>
    e = .returned (.bool (bareB h kl)) ∧ Below w.heap.size w w' := by
  by_cases h1 : h.kind < 1 ∨ 9 < h.kind
  · exact bare_k10 h b off ka kl kc w N h1
  · have h2 : h.kind = 1 ∨ h.kind = 2 ∨ h.kind = 3 ∨ h.kind = 4 ∨ h.kind = 5 ∨ h.kind = 6 ∨ h.kind = 7 ∨ h.kind = 8 ∨ h.kind = 9 := by omega
    rcases h2 with h2 | h2 | h2 | h2 | h2 | h2 | h2 | h2 | h2
    · exact bare_k1 h b off ka kl kc w N h2
    · exact bare_k2 h b off ka kl kc w N h2
    · exact bare_k3 h b off ka kl kc w N h2
    · exact bare_k4 h b off ka kl kc w N h2
    · exact bare_k5 h b off ka kl kc w N h2
    · exact bare_k6 h b off ka kl kc w N h2
    · exact bare_k7 h b off ka kl kc w N h2
    · exact bare_k8 h b off ka kl kc w N h2
    · exact bare_k9 h b off ka kl kc w N h2
end Go.Proofs.Ytkjfeakbhfkldaa
