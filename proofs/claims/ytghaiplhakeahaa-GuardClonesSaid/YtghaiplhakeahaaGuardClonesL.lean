/- The law GuardClones holds: for every pair of numbers and every two lists of operations a guard's clone is the same, and goes its own way; for every input. No condition. -/
import Derived.Test.YtghaiplhakeahaaGuardClones
import Derived.Test.YtghaiplhakeahaaV
import Derived.Test.YtghaiplhakeahaaOrw
import Derived.Test.YtghaiplhakeahaaOb
namespace Go.Proofs.Ytghaiplhakeahaa
set_option linter.unusedSimpArgs false
set_option linter.unusedVariables false
open Go.ChangeShapes Go.WideShapes Go.ChangeAt Go.RowKit

set_option maxRecDepth 100000 in
theorem guardClones_lifted (os : Os) (started : os.Started) (H : Type) (enc : TypeId × Value → H) :
    ReturnsInHanded {} Try.checked os 11 .any (Rows.guardClonesSpec.pre6 enc Try.prog Try.f11 Rows.guardClonesRow.domain false) (Rows.guardClonesSpec.post enc Try.prog Try.f11 false true false false) := by
  refine returnsInHanded_of_change (C := Try.checked) Try.own started (by kernel_rfl) Try.func11
    (ChangeSpec.witness6 (enc := enc) (C := Try.checked) false ⟨#[], #[.agg #[.int .i64 0, .int .i64 0], .slice none 0 0, .slice none 0 0], []⟩ 8 (by kernel_rfl) (by kernel_rfl) (by kernel_rfl) (by kernel_rfl)) ?_
  intro W base args ds gs before hval0 hW hcnd _
  have hval : ∀ (j : Nat) t v, Try.f11.params[j]? = some t → args[j]? = some v → Value.okWide Try.prog W .any base t v := hval0
  have hW' := hW
  obtain ⟨p, q, hA0, hV, rfl, hfz, hnd⟩ := hW
  have hA : DataW.TrodAll enc Try.prog W 0 (fun _ => true) true Try.f11.params.toList args.toList ds p := hA0
  rw [Try.params11] at hA hval
  obtain ⟨v0, v1, v2, d0, d1, d2, p0, p1, p2, rfl, rfl, rfl, h0, h1, h2⟩ := trodAll_three hA
  obtain ⟨rfl, rfl⟩ := trodVars_none hV
  have fin : ∀ e W', e = Ending.returned (.bool true) ∧ Below W.heap.size W W' → ∃ r, e = Ending.returned r ∧ Rows.guardClonesSpec.post enc Try.prog Try.f11 false true false false W #[v0, v1, v2] r W' := by
    rintro e W' ⟨rfl, hB⟩
    exact ⟨_, rfl, law_post Try.laidOut (fun t ht => by rw [Try.params11] at ht; simp at ht; rcases ht with rfl | rfl | rfl <;> exact ⟨by kernel_rfl, of_decide_eq_true (by kernel_rfl)⟩) rfl Try.underlying4 rfl rfl hW' hB⟩
  clear hA0 hval0 hA
  obtain ⟨x, y, rfl⟩ := open_int2 Try.underlying57 Try.underlying3 (by kernel_rfl) (by kernel_rfl) (hval 0 57 v0 rfl rfl) h0
  obtain ⟨n1, F1, hn1, hv1, hF1⟩ := open_rws Try.underlying96 cg_op (by omega) (hval 1 96 v1 rfl rfl) h1 OpG.cells (fun o => Msg W [] o.v o.l) (fun fuel cs x hl hx => trod_opg hl hx)
  obtain ⟨n2, F2, hn2, hv2, hF2⟩ := open_rws Try.underlying96 cg_op (by omega) (hval 2 96 v2 rfl rfl) h2 OpG.cells (fun o => Msg W [] o.v o.l) (fun fuel cs x hl hx => trod_opg hl hx)
  exact (guardClones_any x y v1 v2 n1 n2 F1 F2 W hn1 hn2 hv1 hv2 hF1 hF2).mono fin
theorem guardClones_holds : Rows.GuardClonesSaid :=
  OpenClaim.holds_of_wide 11 Try.f11 rfl rfl rfl rfl rfl rfl rfl ⟨rfl, rfl, rfl, rfl, rfl⟩ rfl rfl rfl rfl rfl (by kernel_rfl) Try.func11 (by kernel_rfl)
    (of_decide_eq_true (by kernel_rfl)) (by unfold Func.isWrapper; first | (rw [if_pos (by decide +kernel)]; kernel_rfl) | (rw [if_neg (by decide +kernel)]; exact ⟨rfl, rfl⟩))
    (fun os started H enc _ => guardClones_lifted os started H enc)

#print axioms guardClones_holds

end Go.Proofs.Ytghaiplhakeahaa
