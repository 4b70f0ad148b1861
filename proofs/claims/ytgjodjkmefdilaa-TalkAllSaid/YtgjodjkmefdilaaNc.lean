/- A look for nil, in a region that draws its order. Plain; over any program. -/
import Derived.Test.YtgjodjkmefdilaaTl
namespace Go.Proofs.Ytgjodjkmefdilaa
set_option linter.unusedSimpArgs false
set_option linter.unusedVariables false
open Go.RowKit

theorem B_nilck {P : Program} {ops : Array Oper} {w0 : World} {Q : Slots → Prop} {a : Act} {R : List (Tmp × Pred)} {o : Oper} {rest : List Oper} {x : Operand} {ad : Addr} (ho : o.op = .nilCheck x) (hx : a.eval x = .pointer (some ad)) (hB : (sideB true ops R a o && noSel o) = true)
    (hr : wpS P ops w0 Q rest (mix (a.put o.dst (.pointer (some ad))) R)) : wpS P ops w0 Q (o :: rest) (mix a R) := by
  simp only [Bool.and_eq_true] at hB
  obtain ⟨d, hd, h1, h2, h3, h4⟩ := sideB_out hB.1
  refine S_ex (v := .pointer (some ad)) (fun d' e => by rw [hd] at e; cases e; exact ⟨h1, h2⟩) (fun a' w hx' hs => .inl ⟨?_, ?_⟩) hr
  · rw [wanted_same (same_of_sees h3 hs)]; exact h4
  · rw [exec_same hB.2 (same_of_sees h3 hs)]
    simp only [execOp, ho, hx]
    exact ⟨Ext.refl _, rfl⟩

end Go.Proofs.Ytgjodjkmefdilaa
