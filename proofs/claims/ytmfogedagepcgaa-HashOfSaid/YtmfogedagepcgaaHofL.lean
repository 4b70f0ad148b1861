/- The law HashOf holds: the digest of any bytes, and of a digest with any word, is as the document says, for every input. No condition. -/
import Derived.Test.YtmfogedagepcgaaHof
import Derived.Test.YtmfogedagepcgaaV
namespace Go.Proofs.Ytmfogedagepcgaa
set_option linter.unusedSimpArgs false
set_option linter.unusedVariables false
open Go.ChangeShapes Go.WideShapes Go.ChangeAt Go.RowKit
open Go.ChangeMaps (open_string)

/-- A slice of bytes that came in. -/
theorem open_bsl {H : Type} {enc : TypeId × Value → H} {P : Program} {w : World} {base : Nat} {held : Bool} {t e : TypeId} {v : Value} {d : DataW H} {p : List MemPlace} (ht : P.underlying t = some (.slice e)) (he : P.underlying e = some (.int .u8)) (hc : P.cellsOf e = 1) {r : Reach} {b0 : Nat} (hval : Value.okWide P w r b0 t v)
    (hd : DataW.Trod enc P w base (fun _ => true) held t v d p) : ∃ l : List UInt8, l.length ≤ maxLen ∧ BSl w v l := by
  obtain ⟨n, l, hn, hl, _, _⟩ := open_vsl ht hc hval hd (α := UInt8) (fun c => .int .u8 (c.toNat : Int)) (fun _ => True) (fun fuel v x h => by
    obtain ⟨b, hb, _, hw⟩ := DataW.trod_int he h
    have hw := u8_wf hw
    refine ⟨UInt8.ofNat b.toNat, ?_, trivial⟩
    have : v = .int .u8 b := by simpa using hb
    rw [this]
    congr 1
    simp only [UInt8.toNat_ofNat']
    show b = ((b.toNat % 2 ^ 8 : Nat) : Int)
    omega)
  refine ⟨(List.range n).map l, by simpa using hn, ?_⟩
  unfold BSl
  have e1 : ((List.range n).map l).length = n := by simp
  rw [e1]
  obtain ⟨ao, cap, h1, h2, h3⟩ := hl
  refine ⟨ao, cap, h1, h2, h3.imp id ?_⟩
  rintro ⟨b, o, h4, h5, h6⟩
  refine ⟨b, o, h4, h5, fun i hi => ?_⟩
  rw [h6 i hi]
  simp [List.getD_eq_getElem?_getD, hi]

set_option maxRecDepth 100000 in
theorem hashOf_lifted (os : Os) (started : os.Started) (H : Type) (enc : TypeId × Value → H) :
    ReturnsInHanded {} Try.checked os 12 .any (Rows.hashOfSpec.pre6 enc Try.prog Try.f12 Rows.hashOfRow.domain false) (Rows.hashOfSpec.post enc Try.prog Try.f12 false true false false) := by
  refine returnsInHanded_of_change (C := Try.checked) Try.own started (by kernel_rfl) Try.func12
    (ChangeSpec.witness6 (enc := enc) (C := Try.checked) false ⟨#[], #[.slice none 0 0, .agg #[.int .u8 0, .int .u8 0, .int .u8 0, .int .u8 0, .int .u8 0, .int .u8 0, .int .u8 0, .int .u8 0], .string ByteArray.empty], []⟩ 8 (by kernel_rfl) (by kernel_rfl) (by kernel_rfl) (by kernel_rfl)) ?_
  intro W base args ds gs before hval0 hW hcnd _
  have hval : ∀ (j : Nat) t v, Try.f12.params[j]? = some t → args[j]? = some v → Value.okWide Try.prog W .any base t v := hval0
  have hW' := hW
  obtain ⟨p, q, hA0, hV, rfl, hfz, hnd⟩ := hW
  have hA : DataW.TrodAll enc Try.prog W 0 (fun _ => true) true Try.f12.params.toList args.toList ds p := hA0
  rw [Try.params12] at hA hval
  obtain ⟨v0, v1, v2, d0, d1, d2, p0, p1, p2, rfl, rfl, rfl, h0, h1, h2⟩ := trodAll_three hA
  obtain ⟨rfl, rfl⟩ := trodVars_none hV
  have fin : ∀ e W', e = Ending.returned (.bool true) ∧ Below W.heap.size W W' → ∃ r, e = Ending.returned r ∧ Rows.hashOfSpec.post enc Try.prog Try.f12 false true false false W #[v0, v1, v2] r W' := by
    rintro e W' ⟨rfl, hB⟩
    exact ⟨_, rfl, law_post Try.laidOut (fun t ht => by rw [Try.params12] at ht; simp at ht; rcases ht with rfl | rfl | rfl <;> exact ⟨by kernel_rfl, of_decide_eq_true (by kernel_rfl)⟩) rfl Try.underlying4 rfl rfl hW' hB⟩
  clear hA0 hval0 hA
  obtain ⟨l, hxs, hl⟩ := open_bsl Try.underlying60 Try.underlying5 Try.cellsByte (hval 0 60 v0 rfl rfl) h0
  obtain ⟨x, rfl⟩ := open_dig Try.underlying43 Try.underlying5 Try.cellsByte Try.cellsDig (hval 1 43 v1 rfl rfl) h1
  obtain ⟨tx, rfl, -, -, ws⟩ := open_string Try.underlying9 (hval 2 9 v2 rfl rfl) h2
  unfold maxLen at ws hxs
  by_cases hn : 400 < l.length ∨ (l.length ≤ 400 ∧ 400 < tx.size)
  · have hl' := hl
    obtain ⟨ao, cap, rfl, -, -⟩ := hl'
    exact (hashOf_long x tx ao l.length cap W hn (by omega) (by omega)).mono fin
  · exact (hashOf_yes x tx v0 l W hl (by omega) (by omega)).mono fin

theorem hashOf_holds : Rows.HashOfSaid :=
  OpenClaim.holds_of_wide 12 Try.f12 rfl rfl rfl rfl rfl rfl rfl ⟨rfl, rfl, rfl, rfl, rfl⟩ rfl rfl rfl rfl rfl (by kernel_rfl) Try.func12 (by kernel_rfl)
    (of_decide_eq_true (by kernel_rfl)) (by unfold Func.isWrapper; first | (rw [if_pos (by decide +kernel)]; kernel_rfl) | (rw [if_neg (by decide +kernel)]; exact ⟨rfl, rfl⟩))
    (fun os started H enc _ => hashOf_lifted os started H enc)
#print axioms hashOf_holds

end Go.Proofs.Ytmfogedagepcgaa
