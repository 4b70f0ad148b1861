/- The law GuardNews holds: of all numbers it is told whether there may be a guard; of one that isn't there nothing is told; for every input. No condition. -/
import Derived.Test.YtghaiplhakeahaaGuardNews
import Derived.Test.YtghaiplhakeahaaV
import Derived.Test.YtghaiplhakeahaaOb
namespace Go.Proofs.Ytghaiplhakeahaa
set_option linter.unusedSimpArgs false
set_option linter.unusedVariables false
open Go.ChangeShapes Go.WideShapes Go.ChangeAt Go.RowKit

set_option maxRecDepth 100000 in
theorem guardNews_lifted (os : Os) (started : os.Started) (H : Type) (enc : TypeId × Value → H) :
    ReturnsInHanded {} Try.checked os 10 .any (Rows.guardNewsSpec.pre6 enc Try.prog Try.f10 Rows.guardNewsRow.domain false) (Rows.guardNewsSpec.post enc Try.prog Try.f10 false true false false) := by
  refine returnsInHanded_of_change (C := Try.checked) Try.own started (by kernel_rfl) Try.func10
    (ChangeSpec.witness6 (enc := enc) (C := Try.checked) false ⟨#[], #[.int .i64 0, .int .i64 0], []⟩ 8 (by kernel_rfl) (by kernel_rfl) (by kernel_rfl) (by kernel_rfl)) ?_
  intro W base args ds gs before hval0 hW hcnd _
  have hval : ∀ (j : Nat) t v, Try.f10.params[j]? = some t → args[j]? = some v → Value.okWide Try.prog W .any base t v := hval0
  have hW' := hW
  obtain ⟨p, q, hA0, hV, rfl, hfz, hnd⟩ := hW
  have hA : DataW.TrodAll enc Try.prog W 0 (fun _ => true) true Try.f10.params.toList args.toList ds p := hA0
  rw [Try.params10] at hA hval
  obtain ⟨v0, v1, d0, d1, p0, p1, rfl, rfl, rfl, h0, h1⟩ := trodAll_two hA
  obtain ⟨rfl, rfl⟩ := trodVars_none hV
  have fin : ∀ e W', e = Ending.returned (.bool true) ∧ Below W.heap.size W W' → ∃ r, e = Ending.returned r ∧ Rows.guardNewsSpec.post enc Try.prog Try.f10 false true false false W #[v0, v1] r W' := by
    rintro e W' ⟨rfl, hB⟩
    exact ⟨_, rfl, law_post Try.laidOut (fun t ht => by rw [Try.params10] at ht; simp at ht; rcases ht with rfl | rfl <;> exact ⟨by kernel_rfl, of_decide_eq_true (by kernel_rfl)⟩) rfl Try.underlying4 rfl rfl hW' hB⟩
  clear hA0 hval0 hA
  obtain ⟨a, rfl, -, -, wa⟩ := open_int Try.underlying3 (hval 0 3 v0 rfl rfl) h0
  obtain ⟨b, rfl, -, -, wb⟩ := open_int Try.underlying3 (hval 1 3 v1 rfl rfl) h1
  by_cases hh : 1 ≤ a ∧ a ≤ 16 ∧ 1 ≤ b ∧ b ≤ a
  · obtain ⟨a, rfl⟩ := Int.eq_ofNat_of_zero_le (show 0 ≤ a by omega)
    obtain ⟨b, rfl⟩ := Int.eq_ofNat_of_zero_le (show 0 ≤ b by omega)
    exact (guardNews_yes a b (by omega) (by omega) (by omega) (by omega) W).mono fin
  · exact (guardNews_no a b hh W).mono fin

theorem guardNews_holds : Rows.GuardNewsSaid :=
  OpenClaim.holds_of_wide 10 Try.f10 rfl rfl rfl rfl rfl rfl rfl ⟨rfl, rfl, rfl, rfl, rfl⟩ rfl rfl rfl rfl rfl (by kernel_rfl) Try.func10 (by kernel_rfl)
    (of_decide_eq_true (by kernel_rfl)) (by unfold Func.isWrapper; first | (rw [if_pos (by decide +kernel)]; kernel_rfl) | (rw [if_neg (by decide +kernel)]; exact ⟨rfl, rfl⟩))
    (fun os started H enc _ => guardNews_lifted os started H enc)
#print axioms guardNews_holds

end Go.Proofs.Ytghaiplhakeahaa
