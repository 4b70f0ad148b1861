/- The law VeilTurned holds: a box of which a byte is another one opens just as the document says; for every input. No condition. -/
import Derived.Test.YthdcfdfpfagamaaVd
import Derived.Test.YthdcfdfpfagamaaV
import Derived.Test.YthdcfdfpfagamaaOb
import Derived.Test.YthdcfdfpfagamaaOar
namespace Go.Proofs.Ythdcfdfpfagamaa
set_option linter.unusedSimpArgs false
set_option linter.unusedVariables false
open Go.ChangeShapes Go.WideShapes Go.ChangeAt Go.RowKit

set_option maxRecDepth 100000 in
theorem veilTurned_lifted (os : Os) (started : os.Started) (H : Type) (enc : TypeId × Value → H) :
    ReturnsInHanded {} Try.checked os 15 .any (Rows.veilTurnedSpec.pre6 enc Try.prog Try.f15 Rows.veilTurnedRow.domain false) (Rows.veilTurnedSpec.post enc Try.prog Try.f15 false true false false) := by
  refine returnsInHanded_of_change (C := Try.checked) Try.own started (by kernel_rfl) Try.func15
    (ChangeSpec.witness6 (enc := enc) (C := Try.checked) false ⟨#[], #[.agg #[.int .u8 0, .int .u8 0, .int .u8 0, .int .u8 0, .int .u8 0, .int .u8 0, .int .u8 0, .int .u8 0], .slice none 0 0, .agg #[.int .i64 0, .int .i64 0]], []⟩ 8 (by kernel_rfl) (by kernel_rfl) (by kernel_rfl) (by kernel_rfl)) ?_
  intro W base args ds gs before hval0 hW hcnd _
  have hval : ∀ (j : Nat) t v, Try.f15.params[j]? = some t → args[j]? = some v → Value.okWide Try.prog W .any base t v := hval0
  have hW' := hW
  obtain ⟨p, q, hA0, hV, rfl, hfz, hnd⟩ := hW
  have hA : DataW.TrodAll enc Try.prog W 0 (fun _ => true) true Try.f15.params.toList args.toList ds p := hA0
  rw [Try.params15] at hA hval
  obtain ⟨v0, v1, v2, d0, d1, d2, p0, p1, p2, rfl, rfl, rfl, h0, h1, h2⟩ := trodAll_three hA
  obtain ⟨rfl, rfl⟩ := trodVars_none hV
  have fin : ∀ e W', e = Ending.returned (.bool true) ∧ Below W.heap.size W W' → ∃ r, e = Ending.returned r ∧ Rows.veilTurnedSpec.post enc Try.prog Try.f15 false true false false W #[v0, v1, v2] r W' := by
    rintro e W' ⟨rfl, hB⟩
    exact ⟨_, rfl, law_post Try.laidOut (fun t ht => by rw [Try.params15] at ht; simp at ht; rcases ht with rfl | rfl | rfl <;> exact ⟨by kernel_rfl, of_decide_eq_true (by kernel_rfl)⟩) rfl Try.underlying4 rfl rfl hW' hB⟩
  clear hA0 hval0 hA
  obtain ⟨k, rfl⟩ := open_dig Try.underlying24 Try.underlying5 Try.cellsByte (by kernel_rfl) (hval 0 24 v0 rfl rfl) h0
  obtain ⟨l, hx1, hb1⟩ := open_bsl Try.underlying28 Try.underlying5 Try.cellsByte (hval 1 28 v1 rfl rfl) h1
  obtain ⟨a, b, rfl⟩ := open_int2 Try.underlying65 Try.underlying3 (by kernel_rfl) (by kernel_rfl) (hval 2 65 v2 rfl rfl) h2
  exact (veilTurned_any k v1 l a b W hb1).mono fin

theorem veilTurned_holds : Rows.VeilTurnedSaid :=
  OpenClaim.holds_of_wide 15 Try.f15 rfl rfl rfl rfl rfl rfl rfl ⟨rfl, rfl, rfl, rfl, rfl⟩ rfl rfl rfl rfl rfl (by kernel_rfl) Try.func15 (by kernel_rfl)
    (of_decide_eq_true (by kernel_rfl)) (by unfold Func.isWrapper; first | (rw [if_pos (by decide +kernel)]; kernel_rfl) | (rw [if_neg (by decide +kernel)]; exact ⟨rfl, rfl⟩))
    (fun os started H enc _ => veilTurned_lifted os started H enc)
#print axioms veilTurned_holds

end Go.Proofs.Ythdcfdfpfagamaa
