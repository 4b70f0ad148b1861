/- Contracts of a state's methods: take, gives. -/
import Derived.Test.YteopbfehfipcmaaB
import Derived.Deep.RegionWith
import Derived.Deep.RegionHeld3
namespace Go.Proofs.Yteopbfehfipcmaa
set_option linter.unusedSimpArgs false
set_option linter.unusedVariables false
open Go.RowKit

theorem putSt_over (w : World) (b o : Nat) (u : Value) (s : St) : putSt (w.setCell ⟨b, o, none⟩ u) b o s = putSt w b o s := by
  unfold putSt; rw [setCell_setCell]

end Go.Proofs.Yteopbfehfipcmaa
