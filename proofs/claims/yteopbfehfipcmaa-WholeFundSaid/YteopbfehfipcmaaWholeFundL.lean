/- The law WholeFund holds: for every stakes, height and list of deeds: whoever lays and takes back when: money of all accounts stays; the fund's account has what is laid; at any time either all stakes are held, for good, or each seat that laid gets all back; for every input. No condition. -/
import Derived.Test.YteopbfehfipcmaaWholeFund
import Derived.Test.YteopbfehfipcmaaV
import Derived.Test.YteopbfehfipcmaaOrw
import Derived.Test.YteopbfehfipcmaaOb
namespace Go.Proofs.Yteopbfehfipcmaa
set_option linter.unusedSimpArgs false
set_option linter.unusedVariables false
open Go.ChangeShapes Go.WideShapes Go.ChangeAt Go.RowKit

section
variable {H : Type} {enc : TypeId × Value → H} {w : World} {base : Nat} {held : Bool}
theorem cw_u8 : Try.prog.cellsOf 5 = 1 := by kernel_rfl
theorem cw_bool : Try.prog.cellsOf 4 = 1 := by kernel_rfl
theorem cw_lay : Try.prog.cellsOf 42 = 3 := by kernel_rfl
set_option maxRecDepth 100000 in
theorem trod_lay {fuel : Nat} {cs : List Value} {x : DataW H × List MemPlace} (hl : cs.length = 3) (h : DataW.trod enc Try.prog w base (fun _ => true) held fuel 42 cs = some x) : ∃ o : LayV, cs = o.cells ∧ (o.seat ≤ 255 ∧ o.later ≤ 255) := by
  obtain ⟨xs, n, -, -, -, hxl, hf⟩ := DataW.trod_struct Try.underlying42 h
  match cs, hl with
  | [v0, v1, v2], _ =>
    match xs, hxl with
    | [y0, y1, y2], _ =>
      have f0 : DataW.trod enc Try.prog w base (fun _ => true) held n 5 (([v0, v1, v2].drop 0).take (Try.prog.cellsOf 5)) = some y0 := hf 0 _ rfl
      have f1 : DataW.trod enc Try.prog w base (fun _ => true) held n 4 (([v0, v1, v2].drop 1).take (Try.prog.cellsOf 4)) = some y1 := hf 1 _ rfl
      have f2 : DataW.trod enc Try.prog w base (fun _ => true) held n 5 (([v0, v1, v2].drop 2).take (Try.prog.cellsOf 5)) = some y2 := hf 2 _ rfl
      rw [cw_u8] at f0 f2
      rw [cw_bool] at f1
      simp only [List.drop_succ_cons, List.drop_zero, List.take_succ_cons, List.take_zero] at f0 f1 f2
      obtain ⟨k0, e0, -, w0⟩ := DataW.trod_int Try.underlying5 f0
      obtain ⟨k1, e1, -⟩ := DataW.trod_bool Try.underlying4 f1
      obtain ⟨k2, e2, -, w2⟩ := DataW.trod_int Try.underlying5 f2
      have w0 := u8_wf w0
      have w2 := u8_wf w2
      simp at e0 e1 e2
      subst e0 e1 e2
      refine ⟨⟨k0.toNat, k1, k2.toNat⟩, ?_, by simp; omega⟩
      simp only [LayV.cells]
      rw [show ((k0.toNat : Nat) : Int) = k0 by omega, show ((k2.toNat : Nat) : Int) = k2 by omega]
end

set_option maxRecDepth 100000 in
theorem wholeFund_lifted (os : Os) (started : os.Started) (H : Type) (enc : TypeId × Value → H) :
    ReturnsInHanded {} Try.checked os 3 .any (Rows.wholeFundSpec.pre6 enc Try.prog Try.f3 Rows.wholeFundRow.domain false) (Rows.wholeFundSpec.post enc Try.prog Try.f3 false true false false) := by
  refine returnsInHanded_of_change (C := Try.checked) Try.own started (by kernel_rfl) Try.func3
    (ChangeSpec.witness6 (enc := enc) (C := Try.checked) false ⟨#[], #[.slice none 0 0, .int .u8 0, .slice none 0 0], []⟩ 8 (by kernel_rfl) (by kernel_rfl) (by kernel_rfl) (by kernel_rfl)) ?_
  intro W base args ds gs before hval0 hW hcnd _
  have hval : ∀ (j : Nat) t v, Try.f3.params[j]? = some t → args[j]? = some v → Value.okWide Try.prog W .any base t v := hval0
  have hW' := hW
  obtain ⟨p, q, hA0, hV, rfl, hfz, hnd⟩ := hW
  have hA : DataW.TrodAll enc Try.prog W 0 (fun _ => true) true Try.f3.params.toList args.toList ds p := hA0
  rw [Try.params3] at hA hval
  obtain ⟨v0, v1, v2, d0, d1, d2, p0, p1, p2, rfl, rfl, rfl, h0, h1, h2⟩ := trodAll_three hA
  obtain ⟨rfl, rfl⟩ := trodVars_none hV
  have fin : ∀ e W', e = Ending.returned (.bool true) ∧ Below W.heap.size W W' → ∃ r, e = Ending.returned r ∧ Rows.wholeFundSpec.post enc Try.prog Try.f3 false true false false W #[v0, v1, v2] r W' := by
    rintro e W' ⟨rfl, hB⟩
    exact ⟨_, rfl, law_post Try.laidOut (fun t ht => by rw [Try.params3] at ht; simp at ht; rcases ht with rfl | rfl | rfl <;> exact ⟨by kernel_rfl, of_decide_eq_true (by kernel_rfl)⟩) rfl Try.underlying4 rfl rfl hW' hB⟩
  clear hA0 hval0 hA
  obtain ⟨l, hl, hv⟩ := open_bsl Try.underlying22 Try.underlying5 cw_u8 (hval 0 22 v0 rfl rfl) h0
  obtain ⟨q, rfl, -, -, wq⟩ := open_int Try.underlying5 (hval 1 5 v1 rfl rfl) h1
  have wq := u8_wf wq
  obtain ⟨b, rfl⟩ := Int.eq_ofNat_of_zero_le wq.1
  obtain ⟨n3, D, hn3, hv3, hD⟩ := open_rws Try.underlying23 cw_lay (by omega) (hval 2 23 v2 rfl rfl) h2 LayV.cells (fun o => o.seat ≤ 255 ∧ o.later ≤ 255) (fun fuel cs x hl hx => trod_lay hl hx)
  exact (wholeFund_any v0 l b (by omega) v2 n3 D W hl hv hn3 hv3 hD).mono fin
theorem wholeFund_holds : Rows.WholeFundSaid :=
  OpenClaim.holds_of_wide 3 Try.f3 rfl rfl rfl rfl rfl rfl rfl ⟨rfl, rfl, rfl, rfl, rfl⟩ rfl rfl rfl rfl rfl (by kernel_rfl) Try.func3 (by kernel_rfl)
    (of_decide_eq_true (by kernel_rfl)) (by unfold Func.isWrapper; first | (rw [if_pos (by decide +kernel)]; kernel_rfl) | (rw [if_neg (by decide +kernel)]; exact ⟨rfl, rfl⟩))
    (fun os started H enc _ => wholeFund_lifted os started H enc)

#print axioms wholeFund_holds

end Go.Proofs.Yteopbfehfipcmaa
