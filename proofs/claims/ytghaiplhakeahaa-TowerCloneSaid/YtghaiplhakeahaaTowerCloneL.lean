/- The law TowerClone holds: a clone goes on by itself, what is refused changes nothing, nothing that is handed in is kept; for every input. No condition. -/
import Derived.Test.YtghaiplhakeahaaTowerClone
namespace Go.Proofs.Ytghaiplhakeahaa
set_option linter.unusedSimpArgs false
set_option linter.unusedVariables false
open Go.ChangeShapes Go.WideShapes Go.ChangeAt Go.RowKit

set_option maxRecDepth 100000 in
theorem open_deed {H : Type} {enc : TypeId × Value → H} {w : World} {base : Nat} {held : Bool} {r : Reach} {b0 : Nat} {v : Value} {d : DataW H} {p : List MemPlace} (hval : Value.okWide Try.prog w r b0 52 v) (hd : DataW.Trod enc Try.prog w base (fun _ => true) held 52 v d p) : ∃ o : DeedV, v = o.agg := by
  obtain ⟨fuel, hf⟩ := hd
  have hl : v.cells.toList.length = 12 := by
    obtain ⟨xs, n, -, -, h, -, -⟩ := DataW.trod_struct Try.underlying52 hf
    rw [h, cw_deed]
  obtain ⟨o, h1, -⟩ := trod_deed hl hf
  simp only [Value.okWide, Try.underlying52] at hval
  obtain ⟨cs, rfl, _⟩ := hval
  refine ⟨o, ?_⟩
  congr 1
  apply Array.ext'
  simpa [Value.cells, DeedV.cells] using h1
set_option maxRecDepth 100000 in
theorem towerClone_lifted (os : Os) (started : os.Started) (H : Type) (enc : TypeId × Value → H) :
    ReturnsInHanded {} Try.checked os 12 .any (Rows.towerCloneSpec.pre6 enc Try.prog Try.f12 Rows.towerCloneRow.domain false) (Rows.towerCloneSpec.post enc Try.prog Try.f12 false true false false) := by
  refine returnsInHanded_of_change_sized (C := Try.checked) Try.own started (by kernel_rfl) Try.func12
    (ChangeSpec.witness6 (enc := enc) (C := Try.checked) false ⟨#[], #[.slice none 0 0, .agg #[.bool false, .bool false, .int .u8 0, .int .u8 0, .int .u8 0, .int .u8 0, .int .u8 0, .int .u8 0, .int .u8 0, .int .u8 0, .int .i64 0, .string ByteArray.empty]], []⟩ 8 (by kernel_rfl) (by kernel_rfl) (by kernel_rfl) (by kernel_rfl)) ?_
  intro W base args ds gs before hval0 hW hcnd hsz _
  have hval : ∀ (j : Nat) t v, Try.f12.params[j]? = some t → args[j]? = some v → Value.okWide Try.prog W .any base t v := hval0
  have hW' := hW
  obtain ⟨p, q, hA0, hV, rfl, hfz, hnd⟩ := hW
  have hA : DataW.TrodAll enc Try.prog W 0 (fun _ => true) true Try.f12.params.toList args.toList ds p := hA0
  rw [Try.params12] at hA hval
  obtain ⟨v0, v1, d0, d1, p0, p1, rfl, rfl, rfl, h0, h1⟩ := trodAll_two hA
  obtain ⟨rfl, rfl⟩ := trodVars_none hV
  have fin : ∀ e W', e = Ending.returned (.bool true) ∧ Below W.heap.size W W' → ∃ r, e = Ending.returned r ∧ Rows.towerCloneSpec.post enc Try.prog Try.f12 false true false false W #[v0, v1] r W' := by
    rintro e W' ⟨rfl, hB⟩
    exact ⟨_, rfl, law_post Try.laidOut (fun t ht => by rw [Try.params12] at ht; simp at ht; rcases ht with rfl | rfl <;> exact ⟨by kernel_rfl, of_decide_eq_true (by kernel_rfl)⟩) rfl Try.underlying4 rfl rfl hW' hB⟩
  clear hA0 hval0 hA
  obtain ⟨n, D, hn, hv, -⟩ := open_rws Try.underlying49 cw_deed (by omega) (hval 0 49 v0 rfl rfl) h0 DeedV.cells DeedV.ok (fun fuel cs x hl hx => trod_deed hl hx)
  have hrm : n * 40 ≤ reachBytes := by
    obtain ⟨ao, cap, hv0, -⟩ := hv
    have h0' := h0
    rw [hv0] at h0'
    have := slice_room Try.underlying49 h0' (fun m hm => by
      have := List.all_eq_true.1 hsz m (DataW.weights_mem_each (j := 0) (t := 49) (d := d0) (by rw [Try.params12]; rfl) rfl m hm)
      simpa using this)
    rwa [show Try.prog.bytesOf 52 = 40 by kernel_rfl] at this
  obtain ⟨⟨dr, rw_, nx, m, s⟩, rfl⟩ := open_deed (hval 1 52 v1 rfl rfl) h1
  exact (towerClone_any v0 n D hrm dr rw_ nx m s W hv).mono fin

theorem towerClone_holds : Rows.TowerCloneSaid :=
  OpenClaim.holds_of_wide 12 Try.f12 rfl rfl rfl rfl rfl rfl rfl ⟨rfl, rfl, rfl, rfl, rfl⟩ rfl rfl rfl rfl rfl (by kernel_rfl) Try.func12 (by kernel_rfl)
    (of_decide_eq_true (by kernel_rfl)) (by unfold Func.isWrapper; first | (rw [if_pos (by decide +kernel)]; kernel_rfl) | (rw [if_neg (by decide +kernel)]; exact ⟨rfl, rfl⟩))
    (fun os started H enc _ => towerClone_lifted os started H enc)
#print axioms towerClone_holds

end Go.Proofs.Ytghaiplhakeahaa
