/- The law HashPieces holds: bytes that come in pieces have the digest that they have at once, behind each piece; for every input. No condition. -/
import Derived.Test.YtmfogedagepcgaaPieces
import Derived.Test.YtmfogedagepcgaaV
namespace Go.Proofs.Ytmfogedagepcgaa
set_option linter.unusedSimpArgs false
set_option linter.unusedVariables false
open Go.ChangeShapes Go.WideShapes Go.ChangeAt Go.RowKit

set_option maxRecDepth 100000 in
theorem hashPieces_lifted (os : Os) (started : os.Started) (H : Type) (enc : TypeId × Value → H) :
    ReturnsInHanded {} Try.checked os 13 .any (Rows.hashPiecesSpec.pre6 enc Try.prog Try.f13 Rows.hashPiecesRow.domain false) (Rows.hashPiecesSpec.post enc Try.prog Try.f13 false true false false) := by
  refine returnsInHanded_of_change_sized (C := Try.checked) Try.own started (by kernel_rfl) Try.func13
    (ChangeSpec.witness6 (enc := enc) (C := Try.checked) false ⟨#[], #[.slice none 0 0], []⟩ 8 (by kernel_rfl) (by kernel_rfl) (by kernel_rfl) (by kernel_rfl)) ?_
  intro W base args ds gs before hval0 hW hcnd hsz _
  have hval : ∀ (j : Nat) t v, Try.f13.params[j]? = some t → args[j]? = some v → Value.okWide Try.prog W .any base t v := hval0
  have hW' := hW
  obtain ⟨p, q, hA0, hV, rfl, hfz, hnd⟩ := hW
  have hA : DataW.TrodAll enc Try.prog W 0 (fun _ => true) true Try.f13.params.toList args.toList ds p := hA0
  rw [Try.params13] at hA hval
  obtain ⟨v0, d0, rfl, rfl, h0⟩ := trodAll_one hA
  obtain ⟨rfl, rfl⟩ := trodVars_none hV
  have fin : ∀ e W', e = Ending.returned (.bool true) ∧ Below W.heap.size W W' → ∃ r, e = Ending.returned r ∧ Rows.hashPiecesSpec.post enc Try.prog Try.f13 false true false false W #[v0] r W' := by
    rintro e W' ⟨rfl, hB⟩
    exact ⟨_, rfl, law_post Try.laidOut (fun t ht => by rw [Try.params13] at ht; simp at ht; rcases ht with rfl <;> exact ⟨by kernel_rfl, of_decide_eq_true (by kernel_rfl)⟩) rfl Try.underlying4 rfl rfl hW' hB⟩
  clear hA0 hval0 hA
  obtain ⟨n, F, hn, hv, hF⟩ := open_bss Try.underlying76 Try.underlying60 Try.underlying5 (by kernel_rfl) Try.cellsByte (by kernel_rfl) (hval 0 76 v0 rfl rfl) h0
    (fun m hm => by
      have := List.all_eq_true.1 hsz m (DataW.weights_mem_each (j := 0) (t := 76) (d := d0) (by rw [Try.params13]; rfl) rfl m hm)
      simpa using this)
  unfold maxLen at hn
  by_cases h60 : 60 < n
  · obtain ⟨ao, cap, rfl, -⟩ := hv
    exact (hashPieces_long ao n cap W h60 (by omega)).mono fin
  · exact (hashPieces_yes n F v0 W (by omega) hv hF).mono fin

theorem hashPieces_holds : Rows.HashPiecesSaid :=
  OpenClaim.holds_of_wide 13 Try.f13 rfl rfl rfl rfl rfl rfl rfl ⟨rfl, rfl, rfl, rfl, rfl⟩ rfl rfl rfl rfl rfl (by kernel_rfl) Try.func13 (by kernel_rfl)
    (of_decide_eq_true (by kernel_rfl)) (by unfold Func.isWrapper; first | (rw [if_pos (by decide +kernel)]; kernel_rfl) | (rw [if_neg (by decide +kernel)]; exact ⟨rfl, rfl⟩))
    (fun os started H enc _ => hashPieces_lifted os started H enc)
#print axioms hashPieces_holds

end Go.Proofs.Ytmfogedagepcgaa
