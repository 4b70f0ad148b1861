/- bytes.Clone and bytes.Equal: contracts; a message that is cloned. -/
import Derived.Test.YtghaiplhakeahaaRows
import Derived.Test.YtghaiplhakeahaaMsg
import Derived.Test.YtghaiplhakeahaaBt
import Derived.Test.YtghaiplhakeahaaTl
import Derived.Lib.LazyBuf
import Derived.Deep.RegionLaw
import Derived.Outline
namespace Go.Proofs.Ytghaiplhakeahaa
set_option linter.unusedSimpArgs false
set_option linter.unusedVariables false
open Go.RowKit

theorem elt_byte : Elt Try.prog 26 5 1 1 := by
  have h : (Try.prog.info? 5).map (fun i => (i.zero, i.size, i.bytes)) = some (some (.int .u8 0), 1, 1) := by kernel_rfl
  exact elt_mk _ Try.underlying26 h rfl (by decide)
theorem elt_msg : Elt Try.prog 109 26 1 24 := by
  have h : (Try.prog.info? 26).map (fun i => (i.zero, i.size, i.bytes)) = some (some (.slice none 0 0), 1, 24) := by kernel_rfl
  exact elt_mk _ Try.underlying109 h rfl (by decide)

theorem str_eq' (l r : List UInt8) : ((⟨l.toArray⟩ : ByteArray) == ⟨r.toArray⟩) = (l == r) := by
  show (l.toArray == r.toArray) = _
  simp
set_option maxRecDepth 100000 in
set_option maxHeartbeats 1000000 in
theorem equalB_any (u v : Value) (l r : List UInt8) (b : Bool) (hr : (l == r) = b) (w : World) (hu : BSl w u l) (hv : BSl w v r) :
    Calls Try.prog 72 #[u, v] w fun e w' => e = .returned (.bool b) ∧ w' = w := by
  have e1 : (convert 26 9 u).run Try.prog w = .ok (.string ⟨l.toArray⟩) w := run_str w _ _ _ u l Try.underlying26 Try.underlying5 Try.underlying9 hu
  have e2 : (convert 26 9 v).run Try.prog w = .ok (.string ⟨r.toArray⟩) w := run_str w _ _ _ v r Try.underlying26 Try.underlying5 Try.underlying9 hv
  have hb := (str_eq' l r).trans hr
  go_enter Try.func72, Try.ntmps72
  go_wp2
  go_ret
  exact ⟨rfl, rfl⟩

/-- A message in memory of the call's own. -/
theorem Clo.found {w w0 W : World} {L : List Blk} {l : List UInt8} {u : Value} {e : TypeId} (h : Clo e W.heap.size l u w) (M : Ow W w0 L) (hx : Ext W w) : ∃ B, Ow w w0 (B ++ L) ∧ Msg w0 B u l := by
  obtain ⟨ao, cap, B, rfl, h1, h2⟩ := h
  exact ⟨B, M.found hx h1.apart h2, h1.msg w0⟩

end Go.Proofs.Ytghaiplhakeahaa
