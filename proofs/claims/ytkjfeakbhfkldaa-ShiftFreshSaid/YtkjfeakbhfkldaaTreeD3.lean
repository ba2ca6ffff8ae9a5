/- Trees: told, whatever the kind. -/
import Derived.Test.YtkjfeakbhfkldaaTreeD1
import Derived.Test.YtkjfeakbhfkldaaTreeD2
namespace Go.Proofs.Ytkjfeakbhfkldaa
open Go.RowKit
set_option maxRecDepth 100000 in
set_option maxHeartbeats 4000000 in
theorem told_any (h : Hd) (b off : Nat) (ka : Option Addr) (kl kc : Nat) (w : World) (N : NodeAt w b off h (.slice ka kl kc)) : Calls Try.prog 58 #[.pointer (some ⟨b, off, none⟩)] w fun e w' =>
    e = .returned (.bool (fitsV h kl)) ∧ Below w.heap.size w w' := by
  cases hb : bareB h kl
  · have hf : fitsV h kl = false := fits_bare hb
    rw [hf]
    have B := bare_any h b off ka kl kc w N
    rw [hb] at B
    have HB := Lib.hid B
    clear hb hf B N
    go_enter Try.func58, Try.ntmps58
    go_wp2_with fail
    refine HB.out.mono ?_; rintro e w1 ⟨rfl, b1⟩
    go_wp2
    go_ret
    exact ⟨rfl, b1⟩
  · have hf : fitsV h kl = kindB h kl (infoRow h.fn).min (infoRow h.fn).max := fits_kind hb
    rw [hf]
    by_cases h1 : h.kind < 1 ∨ 9 < h.kind
    · exact told_k10 h b off ka kl kc w N hb h1
    · have h2 : h.kind = 1 ∨ h.kind = 2 ∨ h.kind = 3 ∨ h.kind = 4 ∨ h.kind = 5 ∨ h.kind = 6 ∨ h.kind = 7 ∨ h.kind = 8 ∨ h.kind = 9 := by omega
      rcases h2 with h2 | h2 | h2 | h2 | h2 | h2 | h2 | h2 | h2
      · exact told_k1 h b off ka kl kc w N hb h2
      · exact told_k2 h b off ka kl kc w N hb h2
      · exact told_k3 h b off ka kl kc w N hb h2
      · exact told_k4 h b off ka kl kc w N hb h2
      · exact told_k5 h b off ka kl kc w N hb h2
      · exact told_k6 h b off ka kl kc w N hb h2
      · exact told_k7 h b off ka kl kc w N hb h2
      · exact told_k8 h b off ka kl kc w N hb h2
      · exact told_k9 h b off ka kl kc w N hb h2
end Go.Proofs.Ytkjfeakbhfkldaa
