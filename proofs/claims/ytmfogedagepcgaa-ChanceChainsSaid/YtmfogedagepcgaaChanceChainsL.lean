/- The law ChanceChains holds: of a chain whatever is shown and answered is as the document says; for every input. No condition. -/
import Derived.Test.YtmfogedagepcgaaChanceChains
import Derived.Test.YtmfogedagepcgaaV
namespace Go.Proofs.Ytmfogedagepcgaa
set_option linter.unusedSimpArgs false
set_option linter.unusedVariables false
open Go.ChangeShapes Go.WideShapes Go.ChangeAt Go.RowKit

set_option maxRecDepth 100000 in
theorem chanceChains_lifted (os : Os) (started : os.Started) (H : Type) (enc : TypeId × Value → H) :
    ReturnsInHanded {} Try.checked os 16 .any (Rows.chanceChainsSpec.pre6 enc Try.prog Try.f16 Rows.chanceChainsRow.domain false) (Rows.chanceChainsSpec.post enc Try.prog Try.f16 false true false false) := by
  refine returnsInHanded_of_change (C := Try.checked) Try.own started (by kernel_rfl) Try.func16
    (ChangeSpec.witness6 (enc := enc) (C := Try.checked) false ⟨#[], #[.agg #[.int .u8 0, .int .u8 0, .int .u8 0, .int .u8 0, .int .u8 0, .int .u8 0, .int .u8 0, .int .u8 0], .int .u8 0, .slice none 0 0, .int .i64 0, .agg #[.int .u8 0, .int .u8 0, .int .u8 0, .int .u8 0, .int .u8 0, .int .u8 0, .int .u8 0, .int .u8 0]], []⟩ 8 (by kernel_rfl) (by kernel_rfl) (by kernel_rfl) (by kernel_rfl)) ?_
  intro W base args ds gs before hval0 hW hcnd _
  have hval : ∀ (j : Nat) t v, Try.f16.params[j]? = some t → args[j]? = some v → Value.okWide Try.prog W .any base t v := hval0
  have hW' := hW
  obtain ⟨p, q, hA0, hV, rfl, hfz, hnd⟩ := hW
  have hA : DataW.TrodAll enc Try.prog W 0 (fun _ => true) true Try.f16.params.toList args.toList ds p := hA0
  rw [Try.params16] at hA hval
  obtain ⟨args⟩ := args
  obtain ⟨v0, vs1, d0, ds1, p0, q1, rfl, rfl, rfl, h0, hA1⟩ := trodAll_cons hA
  obtain ⟨v1, vs2, d1, ds2, p1, q2, rfl, rfl, rfl, h1, hA2⟩ := trodAll_cons hA1
  obtain ⟨v2, vs3, d2, ds3, p2, q3, rfl, rfl, rfl, h2, hA3⟩ := trodAll_cons hA2
  obtain ⟨v3, vs4, d3, ds4, p3, q4, rfl, rfl, rfl, h3, hA4⟩ := trodAll_cons hA3
  obtain ⟨v4, vs5, d4, ds5, p4, q5, rfl, rfl, rfl, h4, hA5⟩ := trodAll_cons hA4
  obtain ⟨rfl, rfl, rfl⟩ := trodAll_nil hA5
  obtain ⟨rfl, rfl⟩ := trodVars_none hV
  have fin : ∀ e W', e = Ending.returned (.bool true) ∧ Below W.heap.size W W' → ∃ r, e = Ending.returned r ∧ Rows.chanceChainsSpec.post enc Try.prog Try.f16 false true false false W #[v0, v1, v2, v3, v4] r W' := by
    rintro e W' ⟨rfl, hB⟩
    exact ⟨_, rfl, law_post Try.laidOut (fun t ht => by rw [Try.params16] at ht; simp at ht; rcases ht with rfl | rfl | rfl | rfl | rfl <;> exact ⟨by kernel_rfl, of_decide_eq_true (by kernel_rfl)⟩) rfl Try.underlying4 rfl rfl hW' hB⟩
  clear hA0 hval0 hA
  obtain ⟨s, rfl⟩ := open_dig Try.underlying43 Try.underlying5 Try.cellsByte Try.cellsDig (hval 0 43 v0 rfl rfl) h0
  obtain ⟨q, rfl, -, -, wq⟩ := open_int Try.underlying5 (hval 1 5 v1 rfl rfl) h1
  have wq := u8_wf wq
  obtain ⟨q, rfl⟩ := Int.eq_ofNat_of_zero_le wq.1
  obtain ⟨l, -, hl⟩ := open_bsl Try.underlying60 Try.underlying5 Try.cellsByte (hval 2 60 v2 rfl rfl) h2
  obtain ⟨c, rfl, -, -, wfc⟩ := open_int Try.underlying3 (hval 3 3 v3 rfl rfl) h3
  obtain ⟨o, rfl⟩ := open_dig Try.underlying43 Try.underlying5 Try.cellsByte Try.cellsDig (hval 4 43 v4 rfl rfl) h4

  exact (chanceChains_any s o q l c v2 W (by omega) hl).mono fin

theorem chanceChains_holds : Rows.ChanceChainsSaid :=
  OpenClaim.holds_of_wide 16 Try.f16 rfl rfl rfl rfl rfl rfl rfl ⟨rfl, rfl, rfl, rfl, rfl⟩ rfl rfl rfl rfl rfl (by kernel_rfl) Try.func16 (by kernel_rfl)
    (of_decide_eq_true (by kernel_rfl)) (by unfold Func.isWrapper; first | (rw [if_pos (by decide +kernel)]; kernel_rfl) | (rw [if_neg (by decide +kernel)]; exact ⟨rfl, rfl⟩))
    (fun os started H enc _ => chanceChains_lifted os started H enc)
#print axioms chanceChains_holds

end Go.Proofs.Ytmfogedagepcgaa
