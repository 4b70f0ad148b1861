/- The law TowerAlone holds: what is kept of one hint hangs on no other one; for every input. No condition. -/
import Derived.Test.YtghaiplhakeahaaTowerAlone
namespace Go.Proofs.Ytghaiplhakeahaa
set_option linter.unusedSimpArgs false
set_option linter.unusedVariables false
open Go.ChangeShapes Go.WideShapes Go.ChangeAt Go.RowKit

set_option maxRecDepth 100000 in
theorem towerAlone_lifted (os : Os) (started : os.Started) (H : Type) (enc : TypeId × Value → H) :
    ReturnsInHanded {} Try.checked os 6 .any (Rows.towerAloneSpec.pre6 enc Try.prog Try.f6 Rows.towerAloneRow.domain false) (Rows.towerAloneSpec.post enc Try.prog Try.f6 false true false false) := by
  refine returnsInHanded_of_change (C := Try.checked) Try.own started (by kernel_rfl) Try.func6
    (ChangeSpec.witness6 (enc := enc) (C := Try.checked) false ⟨#[], #[.slice none 0 0, .agg #[.int .u8 0, .int .u8 0, .int .u8 0, .int .u8 0, .int .u8 0, .int .u8 0, .int .u8 0, .int .u8 0], .int .i64 0], []⟩ 8 (by kernel_rfl) (by kernel_rfl) (by kernel_rfl) (by kernel_rfl)) ?_
  intro W base args ds gs before hval0 hW hcnd _
  have hval : ∀ (j : Nat) t v, Try.f6.params[j]? = some t → args[j]? = some v → Value.okWide Try.prog W .any base t v := hval0
  have hW' := hW
  obtain ⟨p, q, hA0, hV, rfl, hfz, hnd⟩ := hW
  have hA : DataW.TrodAll enc Try.prog W 0 (fun _ => true) true Try.f6.params.toList args.toList ds p := hA0
  rw [Try.params6] at hA hval
  obtain ⟨v0, v1, v2, d0, d1, d2, p0, p1, p2, rfl, rfl, rfl, h0, h1, h2⟩ := trodAll_three hA
  obtain ⟨rfl, rfl⟩ := trodVars_none hV
  have fin : ∀ e W', e = Ending.returned (.bool true) ∧ Below W.heap.size W W' → ∃ r, e = Ending.returned r ∧ Rows.towerAloneSpec.post enc Try.prog Try.f6 false true false false W #[v0, v1, v2] r W' := by
    rintro e W' ⟨rfl, hB⟩
    exact ⟨_, rfl, law_post Try.laidOut (fun t ht => by rw [Try.params6] at ht; simp at ht; rcases ht with rfl | rfl | rfl <;> exact ⟨by kernel_rfl, of_decide_eq_true (by kernel_rfl)⟩) rfl Try.underlying4 rfl rfl hW' hB⟩
  clear hA0 hval0 hA
  obtain ⟨n, D, hn, hv, -⟩ := open_rws Try.underlying49 cw_deed (by omega) (hval 0 49 v0 rfl rfl) h0 DeedV.cells DeedV.ok (fun fuel cs x hl hx => trod_deed hl hx)
  obtain ⟨x, rfl⟩ := open_dig Try.underlying22 Try.underlying5 Try.cellsByte (by kernel_rfl) (hval 1 22 v1 rfl rfl) h1
  obtain ⟨b, rfl, -, -, -⟩ := open_int Try.underlying3 (hval 2 3 v2 rfl rfl) h2
  exact (towerAlone_any v0 n D hn x b W hv).mono fin

theorem towerAlone_holds : Rows.TowerAloneSaid :=
  OpenClaim.holds_of_wide 6 Try.f6 rfl rfl rfl rfl rfl rfl rfl ⟨rfl, rfl, rfl, rfl, rfl⟩ rfl rfl rfl rfl rfl (by kernel_rfl) Try.func6 (by kernel_rfl)
    (of_decide_eq_true (by kernel_rfl)) (by unfold Func.isWrapper; first | (rw [if_pos (by decide +kernel)]; kernel_rfl) | (rw [if_neg (by decide +kernel)]; exact ⟨rfl, rfl⟩))
    (fun os started H enc _ => towerAlone_lifted os started H enc)
#print axioms towerAlone_holds

end Go.Proofs.Ytghaiplhakeahaa
