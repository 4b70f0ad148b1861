/- The law HashKeeps holds: what was handed in isn't kept or changed, and what was answered is its own; a nil writer has nothing; for every input. No condition. -/
import Derived.Test.YtmfogedagepcgaaHKeep
import Derived.Test.YtmfogedagepcgaaV
import Derived.Test.YtmfogedagepcgaaOb
namespace Go.Proofs.Ytmfogedagepcgaa
set_option linter.unusedSimpArgs false
set_option linter.unusedVariables false
open Go.ChangeShapes Go.WideShapes Go.ChangeAt Go.RowKit

set_option maxRecDepth 100000 in
theorem hashKeeps_lifted (os : Os) (started : os.Started) (H : Type) (enc : TypeId × Value → H) :
    ReturnsInHanded {} Try.checked os 15 .any (Rows.hashKeepsSpec.pre6 enc Try.prog Try.f15 Rows.hashKeepsRow.domain false) (Rows.hashKeepsSpec.post enc Try.prog Try.f15 false true false false) := by
  refine returnsInHanded_of_change (C := Try.checked) Try.own started (by kernel_rfl) Try.func15
    (ChangeSpec.witness6 (enc := enc) (C := Try.checked) false ⟨#[], #[.slice none 0 0, .agg #[.int .u8 0, .int .u8 0, .int .u8 0, .int .u8 0, .int .u8 0, .int .u8 0, .int .u8 0, .int .u8 0], .int .u8 0], []⟩ 8 (by kernel_rfl) (by kernel_rfl) (by kernel_rfl) (by kernel_rfl)) ?_
  intro W base args ds gs before hval0 hW hcnd _
  have hval : ∀ (j : Nat) t v, Try.f15.params[j]? = some t → args[j]? = some v → Value.okWide Try.prog W .any base t v := hval0
  have hW' := hW
  obtain ⟨p, q, hA0, hV, rfl, hfz, hnd⟩ := hW
  have hA : DataW.TrodAll enc Try.prog W 0 (fun _ => true) true Try.f15.params.toList args.toList ds p := hA0
  rw [Try.params15] at hA hval
  obtain ⟨v0, v1, v2, d0, d1, d2, p0, p1, p2, rfl, rfl, rfl, h0, h1, h2⟩ := trodAll_three hA
  obtain ⟨rfl, rfl⟩ := trodVars_none hV
  have fin : ∀ e W', e = Ending.returned (.bool true) ∧ Below W.heap.size W W' → ∃ r, e = Ending.returned r ∧ Rows.hashKeepsSpec.post enc Try.prog Try.f15 false true false false W #[v0, v1, v2] r W' := by
    rintro e W' ⟨rfl, hB⟩
    exact ⟨_, rfl, law_post Try.laidOut (fun t ht => by rw [Try.params15] at ht; simp at ht; rcases ht with rfl | rfl | rfl <;> exact ⟨by kernel_rfl, of_decide_eq_true (by kernel_rfl)⟩) rfl Try.underlying4 rfl rfl hW' hB⟩
  clear hA0 hval0 hA
  obtain ⟨b, hxb, hb⟩ := open_bsl Try.underlying60 Try.underlying5 Try.cellsByte (hval 0 60 v0 rfl rfl) h0
  obtain ⟨x, rfl⟩ := open_dig Try.underlying43 Try.underlying5 Try.cellsByte Try.cellsDig (hval 1 43 v1 rfl rfl) h1
  obtain ⟨n, rfl, -, -, wn⟩ := open_int Try.underlying5 (hval 2 5 v2 rfl rfl) h2
  unfold maxLen at hxb
  have bn : 0 ≤ n ∧ n ≤ 255 := u8_wf wn
  obtain ⟨c, rfl⟩ : ∃ c : Nat, n = c := ⟨n.toNat, by omega⟩
  by_cases lb : 400 < b.length
  · obtain ⟨ao, cap, rfl, -⟩ := hb.open_
    exact (hashKeeps_long x ao b.length cap c W lb).mono fin
  exact (hashKeeps_yes v0 b x c (by omega) W (by omega) hb).mono fin

theorem hashKeeps_holds : Rows.HashKeepsSaid :=
  OpenClaim.holds_of_wide 15 Try.f15 rfl rfl rfl rfl rfl rfl rfl ⟨rfl, rfl, rfl, rfl, rfl⟩ rfl rfl rfl rfl rfl (by kernel_rfl) Try.func15 (by kernel_rfl)
    (of_decide_eq_true (by kernel_rfl)) (by unfold Func.isWrapper; first | (rw [if_pos (by decide +kernel)]; kernel_rfl) | (rw [if_neg (by decide +kernel)]; exact ⟨rfl, rfl⟩))
    (fun os started H enc _ => hashKeeps_lifted os started H enc)
#print axioms hashKeeps_holds

end Go.Proofs.Ytmfogedagepcgaa
