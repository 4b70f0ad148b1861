/- The law OnceTells holds: the key that any bytes tell of any message, whether they are a signature by any key, and what they show of any chain, is the document's; for every input. No condition. -/
import Derived.Test.YthdcfdfpfagamaaOnceTells
import Derived.Test.YthdcfdfpfagamaaV
import Derived.Test.YthdcfdfpfagamaaOb
namespace Go.Proofs.Ythdcfdfpfagamaa
set_option linter.unusedSimpArgs false
set_option linter.unusedVariables false
open Go.ChangeShapes Go.WideShapes Go.ChangeAt Go.RowKit

set_option maxRecDepth 100000 in
theorem onceTells_lifted (os : Os) (started : os.Started) (H : Type) (enc : TypeId × Value → H) :
    ReturnsInHanded {} Try.checked os 8 .any (Rows.onceTellsSpec.pre6 enc Try.prog Try.f8 Rows.onceTellsRow.domain false) (Rows.onceTellsSpec.post enc Try.prog Try.f8 false true false false) := by
  refine returnsInHanded_of_change (C := Try.checked) Try.own started (by kernel_rfl) Try.func8
    (ChangeSpec.witness6 (enc := enc) (C := Try.checked) false ⟨#[], #[.agg #[.int .u8 0, .int .u8 0, .int .u8 0, .int .u8 0, .int .u8 0, .int .u8 0, .int .u8 0, .int .u8 0], .agg #[.int .u8 0, .int .u8 0, .int .u8 0, .int .u8 0, .int .u8 0, .int .u8 0, .int .u8 0, .int .u8 0], .slice none 0 0, .int .i64 0], []⟩ 8 (by kernel_rfl) (by kernel_rfl) (by kernel_rfl) (by kernel_rfl)) ?_
  intro W base args ds gs before hval0 hW hcnd _
  have hval : ∀ (j : Nat) t v, Try.f8.params[j]? = some t → args[j]? = some v → Value.okWide Try.prog W .any base t v := hval0
  have hW' := hW
  obtain ⟨p, q, hA0, hV, rfl, hfz, hnd⟩ := hW
  have hA : DataW.TrodAll enc Try.prog W 0 (fun _ => true) true Try.f8.params.toList args.toList ds p := hA0
  rw [Try.params8] at hA hval
  obtain ⟨v0, v1, v2, v3, d0, d1, d2, d3, p0, p1, p2, p3, rfl, rfl, rfl, h0, h1, h2, h3⟩ := trodAll_four hA
  obtain ⟨rfl, rfl⟩ := trodVars_none hV
  have fin : ∀ e W', e = Ending.returned (.bool true) ∧ Below W.heap.size W W' → ∃ r, e = Ending.returned r ∧ Rows.onceTellsSpec.post enc Try.prog Try.f8 false true false false W #[v0, v1, v2, v3] r W' := by
    rintro e W' ⟨rfl, hB⟩
    exact ⟨_, rfl, law_post Try.laidOut (fun t ht => by rw [Try.params8] at ht; simp at ht; rcases ht with rfl | rfl | rfl | rfl <;> exact ⟨by kernel_rfl, of_decide_eq_true (by kernel_rfl)⟩) rfl Try.underlying4 rfl rfl hW' hB⟩
  clear hA0 hval0 hA
  obtain ⟨k, rfl⟩ := open_dig Try.underlying22 Try.underlying5 Try.cellsByte Try.cellsDig (hval 0 22 v0 rfl rfl) h0
  obtain ⟨m, rfl⟩ := open_dig Try.underlying22 Try.underlying5 Try.cellsByte Try.cellsDig (hval 1 22 v1 rfl rfl) h1
  obtain ⟨l, hxs, hl⟩ := open_bsl Try.underlying28 Try.underlying5 Try.cellsByte (hval 2 28 v2 rfl rfl) h2
  obtain ⟨c, rfl, -, -, wfc⟩ := open_int Try.underlying3 (hval 3 3 v3 rfl rfl) h3
  by_cases hn : l.length = 144
  · by_cases hc : c < 0 ∨ 18 ≤ c
    · exact (onceTells_out k m v2 l c W hn hl hc).mono fin
    · obtain ⟨c, rfl⟩ := Int.eq_ofNat_of_zero_le (show 0 ≤ c by omega)
      exact (onceTells_in k m v2 l c W hn hl (by omega)).mono fin
  · have hl' := hl
    obtain ⟨ao, cap, rfl, h1, -, -⟩ := hl'.open_
    by_cases h200 : l.length ≤ 200
    · exact (onceTells_no k m ao l.length l.length cap c W (by omega) hn h1).mono fin
    · exact (onceTells_no k m ao l.length 200 cap c W (by omega) (by omega) h1).mono fin


theorem onceTells_holds : Rows.OnceTellsSaid :=
  OpenClaim.holds_of_wide 8 Try.f8 rfl rfl rfl rfl rfl rfl rfl ⟨rfl, rfl, rfl, rfl, rfl⟩ rfl rfl rfl rfl rfl (by kernel_rfl) Try.func8 (by kernel_rfl)
    (of_decide_eq_true (by kernel_rfl)) (by unfold Func.isWrapper; first | (rw [if_pos (by decide +kernel)]; kernel_rfl) | (rw [if_neg (by decide +kernel)]; exact ⟨rfl, rfl⟩))
    (fun os started H enc _ => onceTells_lifted os started H enc)
#print axioms onceTells_holds

end Go.Proofs.Ythdcfdfpfagamaa
