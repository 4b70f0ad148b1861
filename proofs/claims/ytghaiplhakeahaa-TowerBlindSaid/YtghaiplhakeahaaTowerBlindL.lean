/- The law TowerBlind holds: a tower learns nothing; for every input. No condition. -/
import Derived.Test.YtghaiplhakeahaaTowerBlind
namespace Go.Proofs.Ytghaiplhakeahaa
set_option linter.unusedSimpArgs false
set_option linter.unusedVariables false
open Go.ChangeShapes Go.WideShapes Go.ChangeAt Go.RowKit

set_option maxRecDepth 100000 in
theorem towerBlind_lifted (os : Os) (started : os.Started) (H : Type) (enc : TypeId × Value → H) :
    ReturnsInHanded {} Try.checked os 9 .any (Rows.towerBlindSpec.pre6 enc Try.prog Try.f9 Rows.towerBlindRow.domain false) (Rows.towerBlindSpec.post enc Try.prog Try.f9 false true false false) := by
  refine returnsInHanded_of_change (C := Try.checked) Try.own started (by kernel_rfl) Try.func9
    (ChangeSpec.witness6 (enc := enc) (C := Try.checked) false ⟨#[], #[.int .u8 0, .slice none 0 0, .slice none 0 0], []⟩ 8 (by kernel_rfl) (by kernel_rfl) (by kernel_rfl) (by kernel_rfl)) ?_
  intro W base args ds gs before hval0 hW hcnd _
  have hval : ∀ (j : Nat) t v, Try.f9.params[j]? = some t → args[j]? = some v → Value.okWide Try.prog W .any base t v := hval0
  have hW' := hW
  obtain ⟨p, q, hA0, hV, rfl, hfz, hnd⟩ := hW
  have hA : DataW.TrodAll enc Try.prog W 0 (fun _ => true) true Try.f9.params.toList args.toList ds p := hA0
  rw [Try.params9] at hA hval
  obtain ⟨v0, v1, v2, d0, d1, d2, p0, p1, p2, rfl, rfl, rfl, h0, h1, h2⟩ := trodAll_three hA
  obtain ⟨rfl, rfl⟩ := trodVars_none hV
  have fin : ∀ e W', e = Ending.returned (.bool true) ∧ Below W.heap.size W W' → ∃ r, e = Ending.returned r ∧ Rows.towerBlindSpec.post enc Try.prog Try.f9 false true false false W #[v0, v1, v2] r W' := by
    rintro e W' ⟨rfl, hB⟩
    exact ⟨_, rfl, law_post Try.laidOut (fun t ht => by rw [Try.params9] at ht; simp at ht; rcases ht with rfl | rfl | rfl <;> exact ⟨by kernel_rfl, of_decide_eq_true (by kernel_rfl)⟩) rfl Try.underlying4 rfl rfl hW' hB⟩
  clear hA0 hval0 hA
  obtain ⟨r, rfl, -, -, wr⟩ := open_int Try.underlying5 (hval 0 5 v0 rfl rfl) h0
  have hr : 0 ≤ r ∧ r ≤ 255 := u8_wf wr
  obtain ⟨n, D, hn, hv, -⟩ := open_rws Try.underlying49 cw_deed (by omega) (hval 1 49 v1 rfl rfl) h1 DeedV.cells DeedV.ok (fun fuel cs x hl hx => trod_deed hl hx)
  obtain ⟨ol, hol, hu⟩ := open_bsl Try.underlying26 Try.underlying5 (by kernel_rfl) (hval 2 26 v2 rfl rfl) h2
  exact (towerBlind_any r hr v1 n D hn v2 ol hol W hv hu).mono fin

theorem towerBlind_holds : Rows.TowerBlindSaid :=
  OpenClaim.holds_of_wide 9 Try.f9 rfl rfl rfl rfl rfl rfl rfl ⟨rfl, rfl, rfl, rfl, rfl⟩ rfl rfl rfl rfl rfl (by kernel_rfl) Try.func9 (by kernel_rfl)
    (of_decide_eq_true (by kernel_rfl)) (by unfold Func.isWrapper; first | (rw [if_pos (by decide +kernel)]; kernel_rfl) | (rw [if_neg (by decide +kernel)]; exact ⟨rfl, rfl⟩))
    (fun os started H enc _ => towerBlind_lifted os started H enc)
#print axioms towerBlind_holds

end Go.Proofs.Ytghaiplhakeahaa
