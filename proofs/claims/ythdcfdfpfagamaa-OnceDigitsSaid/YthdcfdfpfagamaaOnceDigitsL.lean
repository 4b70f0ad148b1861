/- The law OnceDigits holds: what all digits of a message lack of 15 is told by its check; for every input. No condition. -/
import Derived.Test.YthdcfdfpfagamaaOnceDigits
import Derived.Test.YthdcfdfpfagamaaV
namespace Go.Proofs.Ythdcfdfpfagamaa
set_option linter.unusedSimpArgs false
set_option linter.unusedVariables false
open Go.ChangeShapes Go.WideShapes Go.ChangeAt Go.RowKit

set_option maxRecDepth 100000 in
theorem onceDigits_lifted (os : Os) (started : os.Started) (H : Type) (enc : TypeId × Value → H) :
    ReturnsInHanded {} Try.checked os 5 .any (Rows.onceDigitsSpec.pre6 enc Try.prog Try.f5 Rows.onceDigitsRow.domain false) (Rows.onceDigitsSpec.post enc Try.prog Try.f5 false true false false) := by
  refine returnsInHanded_of_change (C := Try.checked) Try.own started (by kernel_rfl) Try.func5
    (ChangeSpec.witness6 (enc := enc) (C := Try.checked) false ⟨#[], #[.agg #[.int .u8 0, .int .u8 0, .int .u8 0, .int .u8 0, .int .u8 0, .int .u8 0, .int .u8 0, .int .u8 0]], []⟩ 8 (by kernel_rfl) (by kernel_rfl) (by kernel_rfl) (by kernel_rfl)) ?_
  intro W base args ds gs before hval0 hW hcnd _
  have hval : ∀ (j : Nat) t v, Try.f5.params[j]? = some t → args[j]? = some v → Value.okWide Try.prog W .any base t v := hval0
  have hW' := hW
  obtain ⟨p, q, hA0, hV, rfl, hfz, hnd⟩ := hW
  have hA : DataW.TrodAll enc Try.prog W 0 (fun _ => true) true Try.f5.params.toList args.toList ds p := hA0
  rw [Try.params5] at hA hval
  obtain ⟨v0, d0, rfl, rfl, h0⟩ := trodAll_one hA
  obtain ⟨rfl, rfl⟩ := trodVars_none hV
  have fin : ∀ e W', e = Ending.returned (.bool true) ∧ Below W.heap.size W W' → ∃ r, e = Ending.returned r ∧ Rows.onceDigitsSpec.post enc Try.prog Try.f5 false true false false W #[v0] r W' := by
    rintro e W' ⟨rfl, hB⟩
    exact ⟨_, rfl, law_post Try.laidOut (fun t ht => by rw [Try.params5] at ht; simp at ht; rcases ht with rfl <;> exact ⟨by kernel_rfl, of_decide_eq_true (by kernel_rfl)⟩) rfl Try.underlying4 rfl rfl hW' hB⟩
  clear hA0 hval0 hA
  obtain ⟨m, rfl⟩ := open_dig Try.underlying22 Try.underlying5 Try.cellsByte Try.cellsDig (hval 0 22 v0 rfl rfl) h0

  exact (onceDigits_any m W).mono fin

theorem onceDigits_holds : Rows.OnceDigitsSaid :=
  OpenClaim.holds_of_wide 5 Try.f5 rfl rfl rfl rfl rfl rfl rfl ⟨rfl, rfl, rfl, rfl, rfl⟩ rfl rfl rfl rfl rfl (by kernel_rfl) Try.func5 (by kernel_rfl)
    (of_decide_eq_true (by kernel_rfl)) (by unfold Func.isWrapper; first | (rw [if_pos (by decide +kernel)]; kernel_rfl) | (rw [if_neg (by decide +kernel)]; exact ⟨rfl, rfl⟩))
    (fun os started H enc _ => onceDigits_lifted os started H enc)
#print axioms onceDigits_holds

end Go.Proofs.Ythdcfdfpfagamaa
