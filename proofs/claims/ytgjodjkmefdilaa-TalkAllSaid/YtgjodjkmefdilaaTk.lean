/- The front of a slice of bytes. Plain; over any program. -/
import Derived.Test.YtgjodjkmefdilaaBt
namespace Go.Proofs.Ytgjodjkmefdilaa
set_option linter.unusedSimpArgs false
set_option linter.unusedVariables false
open Go.RowKit

theorem bsl_take {w : World} {ao : Option Addr} {N cap : Nat} {l : List UInt8} (h : BSl w (.slice ao N cap) l) (n : Nat) (hn : n ≤ l.length) : BSl w (.slice ao n cap) (l.take n) := by
  obtain ⟨ao', cap', e, ⟨h1, h2⟩, h3⟩ := h
  cases e
  have hl : (l.take n).length = n := by simp [hn]
  refine ⟨ao, cap, by rw [hl], ⟨by rw [hl]; omega, fun h => by have := h2 h; rw [hl]; omega⟩, ?_⟩
  rw [hl]
  rcases h3 with h3 | ⟨b, o, h3, h4, h5⟩
  · left; omega
  · refine .inr ⟨b, o, h3, h4, fun i hi => ?_⟩
    rw [h5 i (by omega)]
    simp [List.getD_eq_getElem?_getD, List.getElem?_take, hi]


end Go.Proofs.Ytgjodjkmefdilaa
