/- The law ChanceSame holds: a chain is the same as its clone, and as one of the same secret of which as much was shown; for every input. No condition. -/
import Derived.Test.YtmfogedagepcgaaChanceSame
import Derived.Test.YtmfogedagepcgaaV
namespace Go.Proofs.Ytmfogedagepcgaa
set_option linter.unusedSimpArgs false
set_option linter.unusedVariables false
open Go.ChangeShapes Go.WideShapes Go.ChangeAt Go.RowKit

set_option maxRecDepth 100000 in
theorem chanceSame_lifted (os : Os) (started : os.Started) (H : Type) (enc : TypeId × Value → H) :
    ReturnsInHanded {} Try.checked os 18 .any (Rows.chanceSameSpec.pre6 enc Try.prog Try.f18 Rows.chanceSameRow.domain false) (Rows.chanceSameSpec.post enc Try.prog Try.f18 false true false false) := by
  refine returnsInHanded_of_change (C := Try.checked) Try.own started (by kernel_rfl) Try.func18
    (ChangeSpec.witness6 (enc := enc) (C := Try.checked) false ⟨#[], #[.agg #[.int .u8 0, .int .u8 0, .int .u8 0, .int .u8 0, .int .u8 0, .int .u8 0, .int .u8 0, .int .u8 0], .agg #[.int .u8 0, .int .u8 0, .int .u8 0, .int .u8 0, .int .u8 0, .int .u8 0, .int .u8 0, .int .u8 0], .int .u8 0, .int .u8 0, .int .u8 0], []⟩ 8 (by kernel_rfl) (by kernel_rfl) (by kernel_rfl) (by kernel_rfl)) ?_
  intro W base args ds gs before hval0 hW hcnd _
  have hval : ∀ (j : Nat) t v, Try.f18.params[j]? = some t → args[j]? = some v → Value.okWide Try.prog W .any base t v := hval0
  have hW' := hW
  obtain ⟨p, q, hA0, hV, rfl, hfz, hnd⟩ := hW
  have hA : DataW.TrodAll enc Try.prog W 0 (fun _ => true) true Try.f18.params.toList args.toList ds p := hA0
  rw [Try.params18] at hA hval
  obtain ⟨args⟩ := args
  obtain ⟨v0, vs1, d0, ds1, p0, q1, rfl, rfl, rfl, h0, hA1⟩ := trodAll_cons hA
  obtain ⟨v1, vs2, d1, ds2, p1, q2, rfl, rfl, rfl, h1, hA2⟩ := trodAll_cons hA1
  obtain ⟨v2, vs3, d2, ds3, p2, q3, rfl, rfl, rfl, h2, hA3⟩ := trodAll_cons hA2
  obtain ⟨v3, vs4, d3, ds4, p3, q4, rfl, rfl, rfl, h3, hA4⟩ := trodAll_cons hA3
  obtain ⟨v4, vs5, d4, ds5, p4, q5, rfl, rfl, rfl, h4, hA5⟩ := trodAll_cons hA4
  obtain ⟨rfl, rfl, rfl⟩ := trodAll_nil hA5
  obtain ⟨rfl, rfl⟩ := trodVars_none hV
  have fin : ∀ e W', e = Ending.returned (.bool true) ∧ Below W.heap.size W W' → ∃ r, e = Ending.returned r ∧ Rows.chanceSameSpec.post enc Try.prog Try.f18 false true false false W #[v0, v1, v2, v3, v4] r W' := by
    rintro e W' ⟨rfl, hB⟩
    exact ⟨_, rfl, law_post Try.laidOut (fun t ht => by rw [Try.params18] at ht; simp at ht; rcases ht with rfl | rfl | rfl | rfl | rfl <;> exact ⟨by kernel_rfl, of_decide_eq_true (by kernel_rfl)⟩) rfl Try.underlying4 rfl rfl hW' hB⟩
  clear hA0 hval0 hA
  obtain ⟨s, rfl⟩ := open_dig Try.underlying43 Try.underlying5 Try.cellsByte Try.cellsDig (hval 0 43 v0 rfl rfl) h0
  obtain ⟨o, rfl⟩ := open_dig Try.underlying43 Try.underlying5 Try.cellsByte Try.cellsDig (hval 1 43 v1 rfl rfl) h1
  obtain ⟨q, rfl, -, -, wq⟩ := open_int Try.underlying5 (hval 2 5 v2 rfl rfl) h2
  have wq := u8_wf wq
  obtain ⟨q, rfl⟩ := Int.eq_ofNat_of_zero_le wq.1
  obtain ⟨p, rfl, -, -, wp⟩ := open_int Try.underlying5 (hval 3 5 v3 rfl rfl) h3
  have wp := u8_wf wp
  obtain ⟨p, rfl⟩ := Int.eq_ofNat_of_zero_le wp.1
  obtain ⟨m, rfl, -, -, wm⟩ := open_int Try.underlying5 (hval 4 5 v4 rfl rfl) h4
  have wm := u8_wf wm
  obtain ⟨m, rfl⟩ := Int.eq_ofNat_of_zero_le wm.1

  exact (chanceSame_any s o q p m W (by omega) (by omega) (by omega)).mono fin

theorem chanceSame_holds : Rows.ChanceSameSaid :=
  OpenClaim.holds_of_wide 18 Try.f18 rfl rfl rfl rfl rfl rfl rfl ⟨rfl, rfl, rfl, rfl, rfl⟩ rfl rfl rfl rfl rfl (by kernel_rfl) Try.func18 (by kernel_rfl)
    (of_decide_eq_true (by kernel_rfl)) (by unfold Func.isWrapper; first | (rw [if_pos (by decide +kernel)]; kernel_rfl) | (rw [if_neg (by decide +kernel)]; exact ⟨rfl, rfl⟩))
    (fun os started H enc _ => chanceSame_lifted os started H enc)
#print axioms chanceSame_holds

end Go.Proofs.Ytmfogedagepcgaa
