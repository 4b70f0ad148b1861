/- The law HashSame holds: two writers are the same just if the same bytes were written, in whichever pieces; a clone goes on by itself; for every input. No condition. -/
import Derived.Test.YtmfogedagepcgaaHSame
import Derived.Test.YtmfogedagepcgaaV
namespace Go.Proofs.Ytmfogedagepcgaa
set_option linter.unusedSimpArgs false
set_option linter.unusedVariables false
open Go.ChangeShapes Go.WideShapes Go.ChangeAt Go.RowKit

set_option maxRecDepth 100000 in
theorem hashSame_lifted (os : Os) (started : os.Started) (H : Type) (enc : TypeId × Value → H) :
    ReturnsInHanded {} Try.checked os 14 .any (Rows.hashSameSpec.pre6 enc Try.prog Try.f14 Rows.hashSameRow.domain false) (Rows.hashSameSpec.post enc Try.prog Try.f14 false true false false) := by
  refine returnsInHanded_of_change (C := Try.checked) Try.own started (by kernel_rfl) Try.func14
    (ChangeSpec.witness6 (enc := enc) (C := Try.checked) false ⟨#[], #[.slice none 0 0, .slice none 0 0, .int .u16 0, .slice none 0 0], []⟩ 8 (by kernel_rfl) (by kernel_rfl) (by kernel_rfl) (by kernel_rfl)) ?_
  intro W base args ds gs before hval0 hW hcnd _
  have hval : ∀ (j : Nat) t v, Try.f14.params[j]? = some t → args[j]? = some v → Value.okWide Try.prog W .any base t v := hval0
  have hW' := hW
  obtain ⟨p, q, hA0, hV, rfl, hfz, hnd⟩ := hW
  have hA : DataW.TrodAll enc Try.prog W 0 (fun _ => true) true Try.f14.params.toList args.toList ds p := hA0
  rw [Try.params14] at hA hval
  obtain ⟨v0, v1, v2, v3, d0, d1, d2, d3, p0, p1, p2, p3, rfl, rfl, rfl, h0, h1, h2, h3⟩ := trodAll_four hA
  obtain ⟨rfl, rfl⟩ := trodVars_none hV
  have fin : ∀ e W', e = Ending.returned (.bool true) ∧ Below W.heap.size W W' → ∃ r, e = Ending.returned r ∧ Rows.hashSameSpec.post enc Try.prog Try.f14 false true false false W #[v0, v1, v2, v3] r W' := by
    rintro e W' ⟨rfl, hB⟩
    exact ⟨_, rfl, law_post Try.laidOut (fun t ht => by rw [Try.params14] at ht; simp at ht; rcases ht with rfl | rfl | rfl | rfl <;> exact ⟨by kernel_rfl, of_decide_eq_true (by kernel_rfl)⟩) rfl Try.underlying4 rfl rfl hW' hB⟩
  clear hA0 hval0 hA
  obtain ⟨a, hxa, ha⟩ := open_bsl Try.underlying60 Try.underlying5 Try.cellsByte (hval 0 60 v0 rfl rfl) h0
  obtain ⟨b, hxb, hb⟩ := open_bsl Try.underlying60 Try.underlying5 Try.cellsByte (hval 1 60 v1 rfl rfl) h1
  obtain ⟨n, rfl, -, -, wn⟩ := open_int Try.underlying54 (hval 2 54 v2 rfl rfl) h2
  obtain ⟨x, hxx, hx⟩ := open_bsl Try.underlying60 Try.underlying5 Try.cellsByte (hval 3 60 v3 rfl rfl) h3
  unfold maxLen at hxa hxb hxx
  have bn : 0 ≤ n ∧ n ≤ 65535 := u16_wf wn
  obtain ⟨c, rfl⟩ : ∃ c : Nat, n = c := ⟨n.toNat, by omega⟩
  obtain ⟨ao, acap, rfl, -⟩ := ha.open_
  obtain ⟨bo, bcap, rfl, -⟩ := hb.open_
  obtain ⟨xo, xcap, rfl, -⟩ := hx.open_
  by_cases la : 400 < a.length
  · exact (hashSame_long1 _ _ _ _ _ _ _ _ _ c W la).mono fin
  by_cases lb : 400 < b.length
  · exact (hashSame_long2 _ _ _ _ _ _ _ _ _ c W (by omega) lb).mono fin
  by_cases lx : 400 < x.length
  · exact (hashSame_long3 _ _ _ _ _ _ _ _ _ c W (by omega) (by omega) lx).mono fin
  exact (hashSame_yes _ _ _ a b x c (by omega) W (by omega) (by omega) (by omega) ha hb hx).mono fin

theorem hashSame_holds : Rows.HashSameSaid :=
  OpenClaim.holds_of_wide 14 Try.f14 rfl rfl rfl rfl rfl rfl rfl ⟨rfl, rfl, rfl, rfl, rfl⟩ rfl rfl rfl rfl rfl (by kernel_rfl) Try.func14 (by kernel_rfl)
    (of_decide_eq_true (by kernel_rfl)) (by unfold Func.isWrapper; first | (rw [if_pos (by decide +kernel)]; kernel_rfl) | (rw [if_neg (by decide +kernel)]; exact ⟨rfl, rfl⟩))
    (fun os started H enc _ => hashSame_lifted os started H enc)
#print axioms hashSame_holds

end Go.Proofs.Ytmfogedagepcgaa
