/- Slices of bools and of ints; the order of seats. Plain. -/
import Derived.Test.YtghaiplhakeahaaR
namespace Go.Proofs.Ytghaiplhakeahaa
set_option linter.unusedSimpArgs false
set_option linter.unusedVariables false
open Go.RowKit

/-- The value v is, in the world w, a slice of n elements of one cell each; the i-th holds f i. -/
def VSl (w : World) (v : Value) (n : Nat) (f : Nat → Value) : Prop :=
  ∃ ao cap, v = .slice ao n cap ∧ (n ≤ cap ∧ (ao = none → n = 0 ∧ cap = 0)) ∧ (n = 0 ∨ ∃ b o, ao = some ⟨b, o, none⟩ ∧ b < w.heap.size ∧ ∀ i, i < n → w.cell? ⟨b, o + i, none⟩ = some (f i))

theorem VSl.plus {w : World} {v : Value} {n : Nat} {f : Nat → Value} (h : VSl w v n f) (g : Array Obj) (d : Nat) : VSl (plus w g d) v n f := by
  obtain ⟨ao, cap, rfl, hno, h⟩ := h
  refine ⟨ao, cap, rfl, hno, h.imp id ?_⟩
  rintro ⟨b, o, rfl, hb, hc⟩
  exact ⟨b, o, rfl, by simp; omega, fun i hi => by rw [cell?_plus _ _ _ _ _ hb]; exact hc i hi⟩

theorem VSl.below {w w' : World} {v : Value} {n : Nat} {f : Nat → Value} (h : VSl w v n f) (hb : Below w.heap.size w w') : VSl w' v n f := by
  obtain ⟨g, d, rfl⟩ := plus_of_below hb
  exact h.plus g d

theorem VSl.alloc {w : World} {v : Value} {n : Nat} {f : Nat → Value} (h : VSl w v n f) (o : Obj) : VSl (w.alloc o) v n f := by
  rw [alloc_self]; exact h.plus _ _

/-- Elements that stand in the text, in a block of their own. -/
theorem vsl_new (W : World) (cs : Array Value) (e : TypeId) (k cap n : Nat) (f : Nat → Value) (hcap : n ≤ cap) (hk : k = W.heap.size) (hf : ∀ i, i < n → cs[i]? = some (f i)) : VSl (W.alloc (.cells cs e)) (.slice (some ⟨k, 0, none⟩) n cap) n f := by
  subst hk
  refine ⟨_, cap, rfl, ⟨hcap, (fun h => by cases h)⟩, .inr ⟨_, 0, rfl, by simp, fun i hi => ?_⟩⟩
  rw [World.cell?_alloc_at _ _ _ _ rfl, Nat.zero_add]; exact hf i hi

theorem GRow.vsl {W0 : World} {g : Array Obj} {e : TypeId} {v : Value} {n : Nat} {xs : List Value} (h : GRow W0.heap.size g e 1 v n xs) (d : Nat) (f : Nat → Value) (hf : ∀ i, i < n → xs[i]? = some (f i)) : VSl (Go.Proofs.Ytghaiplhakeahaa.plus W0 g d) v n f := by
  have ho := h.owns d
  rcases h.2 with ⟨rfl, rfl⟩ | ⟨j, cap, cur, rfl, hg, hcap, _⟩
  · exact ⟨none, 0, rfl, ⟨by omega, fun _ => ⟨rfl, rfl⟩⟩, .inl rfl⟩
  · have hj := (Array.getElem?_eq_some_iff.1 hg).1
    refine ⟨some ⟨W0.heap.size + j, 0, none⟩, cap, rfl, ⟨hcap, (fun h => by cases h)⟩, .inr ⟨W0.heap.size + j, 0, rfl, by simp; omega, fun i hi => ?_⟩⟩
    have := ho.cells (g := W0.heap.size + j) rfl i _ (hf i hi)
    have hadd : (⟨W0.heap.size + j, 0, none⟩ : Addr).add i = ⟨W0.heap.size + j, 0 + i, none⟩ := by unfold Addr.add; split <;> simp_all
    rwa [hadd] at this

/-- The seats from p on, q of them, that are not gone. -/
def stay (gone : List Bool) (p q : Nat) : List Nat := (List.range' p q).filter (fun s => !gone.getD s true)
def orderL (m : Nat) (gone : List Bool) : List Nat := stay gone (m + 1) (gone.length - (m + 1)) ++ stay gone 0 (m + 1)

theorem stay_zero (gone : List Bool) (p : Nat) : stay gone p 0 = [] := rfl
theorem stay_gone (gone : List Bool) (p q : Nat) (h : gone.getD (p + q) true = true) : stay gone p (q + 1) = stay gone p q := by
  unfold stay; rw [List.range'_concat, List.filter_append, Nat.one_mul, List.filter_cons, h]; simp
theorem stay_stays (gone : List Bool) (p q : Nat) (h : gone.getD (p + q) true = false) : stay gone p (q + 1) = stay gone p q ++ [p + q] := by
  unfold stay; rw [List.range'_concat, List.filter_append, Nat.one_mul, List.filter_cons, h]; simp
theorem stay_le (gone : List Bool) (p q : Nat) : (stay gone p q).length ≤ q := by
  unfold stay; have := List.length_filter_le (fun s => !gone.getD s true) (List.range' p q); simp at this; exact this

/-- What the reference has behind k seats. -/
def partL (m : Nat) (gone : List Bool) (k : Nat) : List Nat := stay gone (m + 1) (min k (gone.length - (m + 1))) ++ stay gone 0 (k - (gone.length - (m + 1)))
theorem partL_zero (m : Nat) (gone : List Bool) : partL m gone 0 = [] := by simp [partL, stay_zero]
theorem partL_all (m : Nat) (gone : List Bool) (h : m < gone.length) : partL m gone gone.length = orderL m gone := by
  unfold partL orderL
  rw [show min gone.length (gone.length - (m + 1)) = gone.length - (m + 1) by omega, show gone.length - (gone.length - (m + 1)) = m + 1 by omega]
theorem partL_gone (m : Nat) (gone : List Bool) (k : Nat) (hm : m < gone.length) (hk : k < gone.length) (h : gone.getD ((m + (k + 1)) % gone.length) true = true) : partL m gone (k + 1) = partL m gone k := by
  unfold partL
  by_cases hq : k < gone.length - (m + 1)
  · rw [Nat.mod_eq_of_lt (by omega)] at h
    rw [show min (k + 1) (gone.length - (m + 1)) = k + 1 by omega, show min k (gone.length - (m + 1)) = k by omega, show k + 1 - (gone.length - (m + 1)) = 0 by omega, show k - (gone.length - (m + 1)) = 0 by omega,
      stay_gone gone (m + 1) k (by rw [show m + 1 + k = m + (k + 1) by omega]; exact h)]
  · have e : (m + (k + 1)) % gone.length = k - (gone.length - (m + 1)) := by
      rw [show m + (k + 1) = (k - (gone.length - (m + 1))) + gone.length by omega, Nat.add_mod_right, Nat.mod_eq_of_lt (by omega)]
    rw [e] at h
    rw [show min (k + 1) (gone.length - (m + 1)) = gone.length - (m + 1) by omega, show min k (gone.length - (m + 1)) = gone.length - (m + 1) by omega, show k + 1 - (gone.length - (m + 1)) = k - (gone.length - (m + 1)) + 1 by omega,
      stay_gone gone 0 _ (by rw [Nat.zero_add]; exact h)]
theorem partL_stays (m : Nat) (gone : List Bool) (k : Nat) (hm : m < gone.length) (hk : k < gone.length) (h : gone.getD ((m + (k + 1)) % gone.length) true = false) : partL m gone (k + 1) = partL m gone k ++ [(m + (k + 1)) % gone.length] := by
  unfold partL
  by_cases hq : k < gone.length - (m + 1)
  · rw [Nat.mod_eq_of_lt (by omega)] at h ⊢
    rw [show min (k + 1) (gone.length - (m + 1)) = k + 1 by omega, show min k (gone.length - (m + 1)) = k by omega, show k + 1 - (gone.length - (m + 1)) = 0 by omega, show k - (gone.length - (m + 1)) = 0 by omega,
      stay_stays gone (m + 1) k (by rw [show m + 1 + k = m + (k + 1) by omega]; exact h), stay_zero, List.append_nil, List.append_nil, show m + 1 + k = m + (k + 1) by omega]
  · have e : (m + (k + 1)) % gone.length = k - (gone.length - (m + 1)) := by
      rw [show m + (k + 1) = (k - (gone.length - (m + 1))) + gone.length by omega, Nat.add_mod_right, Nat.mod_eq_of_lt (by omega)]
    rw [e] at h ⊢
    rw [show min (k + 1) (gone.length - (m + 1)) = gone.length - (m + 1) by omega, show min k (gone.length - (m + 1)) = gone.length - (m + 1) by omega, show k + 1 - (gone.length - (m + 1)) = k - (gone.length - (m + 1)) + 1 by omega,
      stay_stays gone 0 _ (by rw [Nat.zero_add]; exact h), Nat.zero_add, List.append_assoc]
theorem partL_le (m : Nat) (gone : List Bool) (k : Nat) : (partL m gone k).length ≤ k := by
  unfold partL; rw [List.length_append]
  have a := stay_le gone (m + 1) (min k (gone.length - (m + 1)))
  have b := stay_le gone 0 (k - (gone.length - (m + 1)))
  omega

/-- A list of numbers as cells. -/
def ints (l : List Nat) : List Value := l.map fun (n : Nat) => Value.int .i64 (n : Int)
theorem ints_len (l : List Nat) : (ints l).length = l.length := by simp [ints]
theorem ints_app (l k : List Nat) : ints (l ++ k) = ints l ++ ints k := by simp [ints]

end Go.Proofs.Ytghaiplhakeahaa
