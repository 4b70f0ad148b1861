/- The law GuardDue holds: those that didn't say that they have the newest claim are due, and no others; it is safe as soon as enough did; with a newer claim all are due again; for every input. No condition. -/
import Derived.Test.YtghaiplhakeahaaGuardDue
import Derived.Test.YtghaiplhakeahaaV
import Derived.Test.YtghaiplhakeahaaOrw
import Derived.Test.YtghaiplhakeahaaOb
namespace Go.Proofs.Ytghaiplhakeahaa
set_option linter.unusedSimpArgs false
set_option linter.unusedVariables false
open Go.ChangeShapes Go.WideShapes Go.ChangeAt Go.RowKit

set_option maxRecDepth 100000 in
theorem guardDue_lifted (os : Os) (started : os.Started) (H : Type) (enc : TypeId × Value → H) :
    ReturnsInHanded {} Try.checked os 7 .any (Rows.guardDueSpec.pre6 enc Try.prog Try.f7 Rows.guardDueRow.domain false) (Rows.guardDueSpec.post enc Try.prog Try.f7 false true false false) := by
  refine returnsInHanded_of_change (C := Try.checked) Try.own started (by kernel_rfl) Try.func7
    (ChangeSpec.witness6 (enc := enc) (C := Try.checked) false ⟨#[], #[.agg #[.int .i64 0, .int .i64 0], .slice none 0 0, .int .i64 0], []⟩ 8 (by kernel_rfl) (by kernel_rfl) (by kernel_rfl) (by kernel_rfl)) ?_
  intro W base args ds gs before hval0 hW hcnd _
  have hval : ∀ (j : Nat) t v, Try.f7.params[j]? = some t → args[j]? = some v → Value.okWide Try.prog W .any base t v := hval0
  have hW' := hW
  obtain ⟨p, q, hA0, hV, rfl, hfz, hnd⟩ := hW
  have hA : DataW.TrodAll enc Try.prog W 0 (fun _ => true) true Try.f7.params.toList args.toList ds p := hA0
  rw [Try.params7] at hA hval
  obtain ⟨v0, v1, v2, d0, d1, d2, p0, p1, p2, rfl, rfl, rfl, h0, h1, h2⟩ := trodAll_three hA
  obtain ⟨rfl, rfl⟩ := trodVars_none hV
  have fin : ∀ e W', e = Ending.returned (.bool true) ∧ Below W.heap.size W W' → ∃ r, e = Ending.returned r ∧ Rows.guardDueSpec.post enc Try.prog Try.f7 false true false false W #[v0, v1, v2] r W' := by
    rintro e W' ⟨rfl, hB⟩
    exact ⟨_, rfl, law_post Try.laidOut (fun t ht => by rw [Try.params7] at ht; simp at ht; rcases ht with rfl | rfl | rfl <;> exact ⟨by kernel_rfl, of_decide_eq_true (by kernel_rfl)⟩) rfl Try.underlying4 rfl rfl hW' hB⟩
  clear hA0 hval0 hA
  obtain ⟨x, y, rfl⟩ := open_int2 Try.underlying57 Try.underlying3 (by kernel_rfl) (by kernel_rfl) (hval 0 57 v0 rfl rfl) h0
  obtain ⟨m, l, hm, hv, -, -⟩ := open_vsl Try.underlying58 Try.cellsBool (hval 1 58 v1 rfl rfl) h1 Value.bool (fun _ => True) (fun fuel v x h => by
    obtain ⟨b, hb, _⟩ := DataW.trod_bool Try.underlying4 h
    exact ⟨b, by simpa using hb, trivial⟩)
  obtain ⟨z, rfl, -, -, -⟩ := open_int Try.underlying3 (hval 2 3 v2 rfl rfl) h2
  exact (guardDue_any x y v1 m l z W hm hv).mono fin
theorem guardDue_holds : Rows.GuardDueSaid :=
  OpenClaim.holds_of_wide 7 Try.f7 rfl rfl rfl rfl rfl rfl rfl ⟨rfl, rfl, rfl, rfl, rfl⟩ rfl rfl rfl rfl rfl (by kernel_rfl) Try.func7 (by kernel_rfl)
    (of_decide_eq_true (by kernel_rfl)) (by unfold Func.isWrapper; first | (rw [if_pos (by decide +kernel)]; kernel_rfl) | (rw [if_neg (by decide +kernel)]; exact ⟨rfl, rfl⟩))
    (fun os started H enc _ => guardDue_lifted os started H enc)

#print axioms guardDue_holds

end Go.Proofs.Ytghaiplhakeahaa
