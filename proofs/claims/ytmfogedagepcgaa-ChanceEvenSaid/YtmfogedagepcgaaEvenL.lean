/- The law ChanceEven holds: as the last digest's number runs, every side comes up once, as the law's text says, for every input. No condition. -/
import Derived.Test.YtmfogedagepcgaaEven
import Derived.Test.YtmfogedagepcgaaV
namespace Go.Proofs.Ytmfogedagepcgaa
open Go.ChangeShapes Go.WideShapes Go.ChangeAt Go.RowKit

set_option maxRecDepth 100000 in
theorem chanceEven_lifted (os : Os) (started : os.Started) (H : Type) (enc : TypeId × Value → H) :
    ReturnsInHanded {} Try.checked os 6 .any (Rows.chanceEvenSpec.pre6 enc Try.prog Try.f6 Rows.chanceEvenRow.domain false) (Rows.chanceEvenSpec.post enc Try.prog Try.f6 false true false false) := by
  refine returnsInHanded_of_change (C := Try.checked) Try.own started (by kernel_rfl) Try.func6
    (ChangeSpec.witness6 (enc := enc) (C := Try.checked) false ⟨#[], #[.int .u8 0, .int .u64 0, .slice none 0 0], []⟩ 8 (by kernel_rfl) (by kernel_rfl) (by kernel_rfl) (by kernel_rfl)) ?_
  intro W base args ds gs before hval0 hW hcnd _
  have hval : ∀ (j : Nat) t v, Try.f6.params[j]? = some t → args[j]? = some v → Value.okWide Try.prog W .any base t v := hval0
  have hW' := hW
  obtain ⟨p, q, hA0, hV, rfl, hfz, hnd⟩ := hW
  have hA : DataW.TrodAll enc Try.prog W 0 (fun _ => true) true Try.f6.params.toList args.toList ds p := hA0
  rw [Try.params6] at hA hval
  obtain ⟨v0, v1, v2, d0, d1, d2, p0, p1, p2, rfl, rfl, rfl, h0, h1, h2⟩ := trodAll_three hA
  obtain ⟨rfl, rfl⟩ := trodVars_none hV
  have fin : ∀ e W', e = Ending.returned (.bool true) ∧ Below W.heap.size W W' → ∃ r, e = Ending.returned r ∧ Rows.chanceEvenSpec.post enc Try.prog Try.f6 false true false false W #[v0, v1, v2] r W' := by
    rintro e W' ⟨rfl, hB⟩
    exact ⟨_, rfl, law_post Try.laidOut (fun t ht => by rw [Try.params6] at ht; simp at ht; rcases ht with rfl | rfl | rfl <;> exact ⟨by kernel_rfl, of_decide_eq_true (by kernel_rfl)⟩) rfl Try.underlying4 rfl rfl hW' hB⟩
  clear hA0 hval0 hA
  obtain ⟨s, rfl, -, -, ws⟩ := open_int Try.underlying5 (hval 0 5 v0 rfl rfl) h0
  obtain ⟨f, rfl, -, -, wf⟩ := open_int Try.underlying36 (hval 1 36 v1 rfl rfl) h1
  obtain ⟨xs, hxs, hl⟩ := open_dsl Try.underlying28 Try.underlying43 Try.underlying5 Try.cellsByte Try.cellsDig (hval 2 28 v2 rfl rfl) h2
  have us := u8_wf ws
  have hl' := hl
  obtain ⟨ao, cap, rfl, -, -⟩ := hl'
  by_cases hn20 : 20 < xs.length
  · exact (chanceEven_long ao xs.length cap s f W hn20 (by unfold maxLen at hxs; omega)).mono fin
  obtain ⟨s, rfl⟩ := Int.eq_ofNat_of_zero_le (show 0 ≤ s by omega)
  obtain ⟨f, rfl⟩ := u64_wf wf
  exact (chanceEven_yes ao cap xs s f W (by omega) (by omega) hl).mono fin

theorem chanceEven_holds : Rows.ChanceEvenSaid :=
  OpenClaim.holds_of_wide 6 Try.f6 rfl rfl rfl rfl rfl rfl rfl ⟨rfl, rfl, rfl, rfl, rfl⟩ rfl rfl rfl rfl rfl (by kernel_rfl) Try.func6 (by kernel_rfl)
    (of_decide_eq_true (by kernel_rfl)) (by unfold Func.isWrapper; first | (rw [if_pos (by decide +kernel)]; kernel_rfl) | (rw [if_neg (by decide +kernel)]; exact ⟨rfl, rfl⟩))
    (fun os started H enc _ => chanceEven_lifted os started H enc)
#print axioms chanceEven_holds

end Go.Proofs.Ytmfogedagepcgaa
