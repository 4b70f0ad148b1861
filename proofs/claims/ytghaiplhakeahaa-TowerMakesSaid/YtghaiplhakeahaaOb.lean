/- Bytes that came in. Plain; over any program. -/
import Derived.Test.YtghaiplhakeahaaV
import Derived.Test.YtghaiplhakeahaaBt
namespace Go.Proofs.Ytghaiplhakeahaa
set_option linter.unusedSimpArgs false
set_option linter.unusedVariables false
open Go.ChangeShapes Go.WideShapes Go.ChangeAt Go.RowKit

/-- A slice of bytes that came in. -/
theorem open_bsl {H : Type} {enc : TypeId × Value → H} {P : Program} {w : World} {base : Nat} {held : Bool} {t e : TypeId} {v : Value} {d : DataW H} {p : List MemPlace} (ht : P.underlying t = some (.slice e)) (he : P.underlying e = some (.int .u8)) (hc : P.cellsOf e = 1) {r : Reach} {b0 : Nat} (hval : Value.okWide P w r b0 t v)
    (hd : DataW.Trod enc P w base (fun _ => true) held t v d p) : ∃ l : List UInt8, l.length ≤ maxLen ∧ BSl w v l := by
  obtain ⟨n, l, hn, hl, _, _⟩ := open_vsl ht hc hval hd (α := UInt8) (fun c => .int .u8 (c.toNat : Int)) (fun _ => True) (fun fuel v x h => by
    obtain ⟨b, hb, _, hw⟩ := DataW.trod_int he h
    have hw := u8_wf hw
    refine ⟨UInt8.ofNat b.toNat, ?_, trivial⟩
    have : v = .int .u8 b := by simpa using hb
    rw [this]
    congr 1
    simp only [UInt8.toNat_ofNat']
    show b = ((b.toNat % 2 ^ 8 : Nat) : Int)
    omega)
  refine ⟨(List.range n).map l, by simpa using hn, ?_⟩
  unfold BSl
  have e1 : ((List.range n).map l).length = n := by simp
  rw [e1]
  obtain ⟨ao, cap, h1, h2, h3⟩ := hl
  refine ⟨ao, cap, h1, h2, h3.imp id ?_⟩
  rintro ⟨b, o, h4, h5, h6⟩
  refine ⟨b, o, h4, h5, fun i hi => ?_⟩
  rw [h6 i hi]
  simp [List.getD_eq_getElem?_getD, hi]

end Go.Proofs.Ytghaiplhakeahaa
