/- bytes.Clone and bytes.Equal: contracts; a message that is cloned. -/
import Derived.Test.YtgjodjkmefdilaaRows
import Derived.Test.YtgjodjkmefdilaaMsg
import Derived.Test.YtgjodjkmefdilaaBt
import Derived.Test.YtgjodjkmefdilaaMk
import Derived.Lib.LazyBuf
import Derived.Deep.RegionLaw
import Derived.Outline
namespace Go.Proofs.Ytgjodjkmefdilaa
set_option linter.unusedSimpArgs false
set_option linter.unusedVariables false
open Go.RowKit

theorem elt_byte : Elt Try.prog 34 5 1 1 := by
  have h : (Try.prog.info? 5).map (fun i => (i.zero, i.size, i.bytes)) = some (some (.int .u8 0), 1, 1) := by kernel_rfl
  exact elt_mk _ Try.underlying34 h rfl (by decide)
theorem elt_msg : Elt Try.prog 25 34 1 24 := by
  have h : (Try.prog.info? 34).map (fun i => (i.zero, i.size, i.bytes)) = some (some (.slice none 0 0), 1, 24) := by kernel_rfl
  exact elt_mk _ Try.underlying25 h rfl (by decide)

theorem str_eq' (l r : List UInt8) : ((⟨l.toArray⟩ : ByteArray) == ⟨r.toArray⟩) = (l == r) := by
  show (l.toArray == r.toArray) = _
  simp
set_option maxRecDepth 100000 in
set_option maxHeartbeats 1000000 in
theorem equalB_any (u v : Value) (l r : List UInt8) (b : Bool) (hr : (l == r) = b) (w : World) (hu : BSl w u l) (hv : BSl w v r) :
    Calls Try.prog 40 #[u, v] w fun e w' => e = .returned (.bool b) ∧ w' = w := by
  have e1 : (convert 34 9 u).run Try.prog w = .ok (.string ⟨l.toArray⟩) w := run_str w _ _ _ u l Try.underlying34 Try.underlying5 Try.underlying9 hu
  have e2 : (convert 34 9 v).run Try.prog w = .ok (.string ⟨r.toArray⟩) w := run_str w _ _ _ v r Try.underlying34 Try.underlying5 Try.underlying9 hv
  have hb := (str_eq' l r).trans hr
  go_enter Try.func40, Try.ntmps40
  go_wp2
  go_ret
  exact ⟨rfl, rfl⟩

set_option maxRecDepth 100000 in
set_option maxHeartbeats 1000000 in
theorem cloneB_any (v : Value) (l : List UInt8) (hl : l.length ≤ 1000000) (w : World) (hv : BSl w v l) :
    Calls Try.prog 38 #[v] w fun e w' => ∃ u, e = .returned u ∧ Below w.heap.size w w' ∧ Clo 5 w.heap.size l u w' := by
  obtain ⟨ao, cap, rfl, -⟩ := hv.open_
  have e0 := Go.run_eql_slice_nil (P := Try.prog) w 34 5 ao l.length cap Try.underlying34
  cases ao with
  | none =>
    obtain ⟨h1, h2⟩ := hv.cells.2.1 rfl
    obtain rfl : l = [] := List.eq_nil_of_length_eq_zero h1
    subst h2
    simp only [List.length_nil] at e0
    go_enter Try.func38, Try.ntmps38
    go_wp2
    go_ret
    exact ⟨_, rfl, Below.refl _ _, none, 0, [], rfl, .void, by simp⟩
  | some ad =>
    have HV := Lib.hid (hv.alloc (.cells #[] 5))
    have HM := Lib.hid (show Mem (w.alloc (.cells #[] 5)) w ([⟨w.heap.size, 5, #[]⟩] ++ []) from (Mem.start w).key #[] 5 w.heap.size rfl)
    have HN := Lib.hid (show New w [⟨w.heap.size, 5, #[]⟩] from New.cons (Nat.le_refl _) (New.nil _))
    have HR := Lib.hid (Row.empty 5 1 w.heap.size)
    clear hv
    go_enter Try.func38, Try.ntmps38
    go_wp2_with (at_builtin; refine wpList_append_row rfl (.tmp 5) (.tmp 6) 34 rfl elt_byte HM.out HN.out _ _ _ (by rfl) HR.out _ _ _ (bcs l) (by rfl) (by rw [bcs_len]; simp) (by simp) HV.out.cells.2.2 (bcs_one l) (by unfold maxLen; omega) (by omega) l.length (by simp) (bcs l) (by simp) (fun ao' cap' B' w' R' M' hB' => ?_); (have HR1 := Lib.hid R'); (have HM1 := Lib.hid M'); (have HB1 := Lib.hid hB'); clear R' M' hB')
    go_ret
    exact ⟨_, rfl, HM1.out.below (by rw [List.append_nil]; exact HB1.out), ao', cap', B', rfl, HR1.out, fun x hx => ⟨HB1.out x hx, HM1.out.has x (by simpa using hx)⟩⟩

/-- A message in memory of the call's own. -/
theorem Clo.found {w w0 W : World} {L : List Blk} {l : List UInt8} {u : Value} {e : TypeId} (h : Clo e W.heap.size l u w) (M : Ow W w0 L) (hx : Ext W w) : ∃ B, Ow w w0 (B ++ L) ∧ Msg w0 B u l := by
  obtain ⟨ao, cap, B, rfl, h1, h2⟩ := h
  exact ⟨B, M.found hx h1.apart h2, h1.msg w0⟩

end Go.Proofs.Ytgjodjkmefdilaa
