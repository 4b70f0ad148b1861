/- The law ChanceOrder holds: the seats that reveal are as the document says, for every input. No condition. -/
import Derived.Test.YtmfogedagepcgaaQ
import Derived.Test.YtmfogedagepcgaaY
namespace Go.Proofs.Ytmfogedagepcgaa
open Go.ChangeShapes Go.WideShapes Go.ChangeAt Go.RowKit

theorem Try.own : ownKnob Try.prog.godebug = none := by kernel_rfl
theorem Try.laidOut : laidOutB Try.prog = true := by kernel_rfl
theorem Try.cells4 : Try.prog.cellsOf 4 = 1 := by kernel_rfl

set_option maxRecDepth 100000 in
theorem chanceOrder_lifted (os : Os) (started : os.Started) (H : Type) (enc : TypeId × Value → H) :
    ReturnsInHanded {} Try.checked os 3 .any (Rows.chanceOrderSpec.pre6 enc Try.prog Try.f3 Rows.chanceOrderRow.domain false) (Rows.chanceOrderSpec.post enc Try.prog Try.f3 false true false false) := by
  refine returnsInHanded_of_change (C := Try.checked) Try.own started (by kernel_rfl) Try.func3
    (ChangeSpec.witness6 (enc := enc) (C := Try.checked) false ⟨#[], #[.int .i64 0, .slice none 0 0], []⟩ 8 (by kernel_rfl) (by kernel_rfl) (by kernel_rfl) (by kernel_rfl)) ?_
  intro W base args ds gs before hval0 hW hcnd _
  have hval : ∀ (j : Nat) t v, Try.f3.params[j]? = some t → args[j]? = some v → Value.okWide Try.prog W .any base t v := hval0
  have hW' := hW
  obtain ⟨p, q, hA0, hV, rfl, hfz, hnd⟩ := hW
  have hA : DataW.TrodAll enc Try.prog W 0 (fun _ => true) true Try.f3.params.toList args.toList ds p := hA0
  rw [Try.params3] at hA hval
  obtain ⟨v0, v1, d0, d1, p0, p1, rfl, rfl, rfl, h0, h1⟩ := trodAll_two hA
  obtain ⟨rfl, rfl⟩ := trodVars_none hV
  obtain ⟨m, rfl, -, -, wm⟩ := open_int Try.underlying3 (hval 0 3 v0 rfl rfl) h0
  have hv1 := hval 1 22 v1 rfl rfl
  obtain ⟨ao, n, cap, hs⟩ := okWide_slice Try.underlying22 hv1
  obtain ⟨n', l, hn, hl, _, hlen⟩ := open_vsl Try.underlying22 Try.cells4 hv1 h1 Value.bool (fun _ => True) (fun fuel v x h => by
    obtain ⟨b, hb, _⟩ := DataW.trod_bool Try.underlying4 h
    exact ⟨b, by simpa using hb, trivial⟩)
  have hnn := hlen ao n cap hs
  subst hnn
  clear hA0 hval0 hA hlen
  have fin : ∀ e W', e = Ending.returned (.bool true) ∧ Below W.heap.size W W' → ∃ r, e = Ending.returned r ∧ Rows.chanceOrderSpec.post enc Try.prog Try.f3 false true false false W #[.int .i64 m, v1] r W' := by
    rintro e W' ⟨rfl, hB⟩
    exact ⟨_, rfl, law_post Try.laidOut (by rw [Try.params3]; simp; exact ⟨by kernel_rfl, by kernel_rfl⟩) rfl Try.underlying4 rfl rfl hW' hB⟩
  subst hs
  by_cases hn60 : 60 < n
  · exact (chanceOrder_long ao n cap m W hn60 (by unfold maxLen at hn; omega)).mono fin
  by_cases hm : m < 0 ∨ (n : Int) ≤ m
  · exact (chanceOrder_out ao n cap m W (by omega) hm).mono fin
  obtain ⟨k, rfl⟩ := Int.eq_ofNat_of_zero_le (show 0 ≤ m by omega)
  have hll : ((List.range n).map l).length = n := by simp
  refine (chanceOrder_in (.slice ao n cap) ((List.range n).map l) k W (by omega) (by omega) ?_).mono fin
  rw [hll]
  obtain ⟨ao', cap', e1, hno, h3⟩ := hl
  refine ⟨ao', cap', e1, hno, h3.imp id ?_⟩
  rintro ⟨b, o, rfl, hb, hc⟩
  exact ⟨b, o, rfl, hb, fun i hi => by rw [hc i hi]; simp [hi]⟩

theorem chanceOrder_holds : Rows.ChanceOrderSaid :=
  OpenClaim.holds_of_wide 3 Try.f3 rfl rfl rfl rfl rfl rfl rfl ⟨rfl, rfl, rfl, rfl, rfl⟩ rfl rfl rfl rfl rfl (by kernel_rfl) Try.func3 (by kernel_rfl)
    (of_decide_eq_true (by kernel_rfl)) (by unfold Func.isWrapper; first | (rw [if_pos (by decide +kernel)]; kernel_rfl) | (rw [if_neg (by decide +kernel)]; exact ⟨rfl, rfl⟩))
    (fun os started H enc _ => chanceOrder_lifted os started H enc)
#print axioms chanceOrder_holds

end Go.Proofs.Ytmfogedagepcgaa
