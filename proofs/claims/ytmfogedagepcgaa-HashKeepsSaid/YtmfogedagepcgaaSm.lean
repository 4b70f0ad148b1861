/- baizelaw02.same: the same bytes? -/
import Derived.Test.YtmfogedagepcgaaBt
import Derived.Test.YtmfogedagepcgaaEqd
namespace Go.Proofs.Ytmfogedagepcgaa
set_option linter.unusedSimpArgs false
set_option linter.unusedVariables false
open Go.RowKit

theorem str_beq (l r : List UInt8) : ((⟨l.toArray⟩ : ByteArray) == ⟨r.toArray⟩) = (l == r) := by
  show (l.toArray == r.toArray) = _
  simp

set_option maxRecDepth 100000 in
set_option maxHeartbeats 1000000 in
theorem same_any (u v : Value) (l r : List UInt8) (w : World) (hu : BSl w u l) (hv : BSl w v r) :
    Calls Try.prog 37 #[u, v] w fun e w' => e = .returned (.bool (l == r)) ∧ w' = w := by
  have e1 : (convert 60 9 u).run Try.prog w = .ok (.string ⟨l.toArray⟩) w := run_str w _ _ _ u l Try.underlying60 Try.underlying5 Try.underlying9 hu
  have e2 : (convert 60 9 v).run Try.prog w = .ok (.string ⟨r.toArray⟩) w := run_str w _ _ _ v r Try.underlying60 Try.underlying5 Try.underlying9 hv
  have hb := str_beq l r
  go_enter Try.func37, Try.ntmps37
  go_wp2
  go_ret
  exact ⟨rfl, rfl⟩

end Go.Proofs.Ytmfogedagepcgaa
