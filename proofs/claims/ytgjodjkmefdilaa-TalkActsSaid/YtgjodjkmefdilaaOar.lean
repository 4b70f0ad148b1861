/- Arrays of two that came in. Plain; over any program. -/
import Derived.Test.YtgjodjkmefdilaaV
import Derived.Test.YtgjodjkmefdilaaY
namespace Go.Proofs.Ytgjodjkmefdilaa
set_option linter.unusedSimpArgs false
set_option linter.unusedVariables false
open Go.ChangeShapes Go.WideShapes Go.ChangeAt Go.RowKit

section
variable {H : Type} {enc : TypeId × Value → H} {P : Program} {w : World} {base : Nat} {held : Bool} {spare : Nat → Bool}
theorem open_int2 {t e : TypeId} (ht : P.underlying t = some (.array 2 e)) (he : P.underlying e = some (.int .i64)) (hc : P.cellsOf e = 1) (hc2 : P.cellsOf t = 2) {r : Reach} {b0 : Nat} {v : Value} {d : DataW H} {p : List MemPlace}
    (hval : Value.okWide P w r b0 t v) (hd : DataW.Trod enc P w base spare held t v d p) : ∃ a b : Int, v = .agg #[.int .i64 a, .int .i64 b] := by
  obtain ⟨fuel, hf⟩ := hd
  simp only [Value.okWide, ht] at hval
  obtain ⟨cs, rfl, _⟩ := hval
  obtain ⟨xs, m, _, _, hlen, hxl, hel⟩ := DataW.trod_array ht hf
  rw [hc2] at hlen
  have one : ∀ i, (hi : i < 2) → ∃ b : Int, cs[i]? = some (.int .i64 b) := by
    intro i hi
    have h1 := hel i hi
    rw [hc, Nat.mul_one, List.getElem?_eq_getElem (by omega)] at h1
    obtain ⟨b, hb, _, _⟩ := DataW.trod_int he h1
    have h2 : (((Value.agg cs).cells.toList.drop i).take 1)[0]? = (Value.agg cs).cells.toList[i]? := by simp
    rw [hb] at h2
    refine ⟨b, ?_⟩
    have h3 : (Value.agg cs).cells.toList[i]? = cs[i]? := by simp [Value.cells]
    rw [← h3, ← h2]; rfl
  obtain ⟨a, ha⟩ := one 0 (by omega)
  obtain ⟨b, hb⟩ := one 1 (by omega)
  refine ⟨a, b, ?_⟩
  congr 1
  have hs : cs.size = 2 := by simpa [Value.cells] using hlen
  apply Array.ext_getElem?
  intro i
  match i with
  | 0 => exact ha
  | 1 => exact hb
  | i + 2 => rw [Array.getElem?_eq_none (by omega), Array.getElem?_eq_none (by simp)]

theorem open_dig2 {t e e' : TypeId} (ht : P.underlying t = some (.array 2 e)) (he : P.underlying e = some (.array 8 e')) (he' : P.underlying e' = some (.int .u8)) (hc : P.cellsOf e' = 1) (hc8 : P.cellsOf e = 8) (hc2 : P.cellsOf t = 16) {r : Reach} {b0 : Nat} {v : Value} {d : DataW H} {p : List MemPlace}
    (hval : Value.okWide P w r b0 t v) (hd : DataW.Trod enc P w base spare held t v d p) : ∃ k o : BitVec 64, v = .agg (dcs k ++ dcs o).toArray := by
  obtain ⟨fuel, hf⟩ := hd
  simp only [Value.okWide, ht] at hval
  obtain ⟨cs, rfl, _⟩ := hval
  obtain ⟨xs, m, _, _, hlen, hxl, hel⟩ := DataW.trod_array ht hf
  rw [hc2] at hlen
  have h0 := hel 0 (by omega)
  have h1 := hel 1 (by omega)
  rw [hc8, List.getElem?_eq_getElem (by omega)] at h0
  rw [hc8, List.getElem?_eq_getElem (by omega)] at h1
  obtain ⟨k, hk⟩ := trod_dig he he' hc hc8 h0
  obtain ⟨o, ho⟩ := trod_dig he he' hc hc8 h1
  refine ⟨k, o, ?_⟩
  congr 1
  apply Array.ext'
  have hcs : (Value.agg cs).cells.toList = cs.toList := by simp [Value.cells]
  rw [hcs] at hk ho hlen
  simp only [Nat.zero_mul, List.drop_zero, Nat.one_mul] at hk ho
  rw [← hk, ← ho]
  have : (cs.toList.drop 8).take 8 = cs.toList.drop 8 := List.take_of_length_le (by simp at hlen ⊢; omega)
  simp [this, List.take_append_drop]
end

end Go.Proofs.Ytgjodjkmefdilaa
