/- Slices of digests: what a value and a world hold; their sum. Plain. -/
import Derived.Test.YtghaiplhakeahaaM
import Derived.Test.YtghaiplhakeahaaR
namespace Go.Proofs.Ytghaiplhakeahaa
set_option linter.unusedSimpArgs false
set_option linter.unusedVariables false
open Go.RowKit

/-- The value v is, in the world w, a slice of the digests xs. -/
def DSl (w : World) (v : Value) (xs : List (BitVec 64)) : Prop :=
  ∃ ao cap, v = .slice ao xs.length cap ∧ (xs.length ≤ cap ∧ (ao = none → xs.length = 0 ∧ cap = 0)) ∧ (xs = [] ∨ ∃ b o, ao = some ⟨b, o, none⟩ ∧ b < w.heap.size ∧
    ∀ i, i < xs.length → ∀ j, j < 8 → w.cell? ⟨b, o + i * 8 + j, none⟩ = some (.int .u8 (by8 (xs.getD i 0) j)))

theorem DSl.plus {w : World} {v : Value} {xs : List (BitVec 64)} (h : DSl w v xs) (g : Array Obj) (d : Nat) : DSl (plus w g d) v xs := by
  obtain ⟨ao, cap, rfl, hno, h⟩ := h
  refine ⟨ao, cap, rfl, hno, h.imp id ?_⟩
  rintro ⟨b, o, rfl, hb, hc⟩
  exact ⟨b, o, rfl, by simp; omega, fun i hi j hj => by rw [cell?_plus _ _ _ _ _ hb]; exact hc i hi j hj⟩

theorem DSl.below {w w' : World} {v : Value} {xs : List (BitVec 64)} (h : DSl w v xs) (hb : Below w.heap.size w w') : DSl w' v xs := by
  obtain ⟨g, d, rfl⟩ := plus_of_below hb
  exact h.plus g d

/-- A digest's cells. -/
noncomputable def dcs (x : BitVec 64) : List Value := [.int .u8 (by8 x 0), .int .u8 (by8 x 1), .int .u8 (by8 x 2), .int .u8 (by8 x 3), .int .u8 (by8 x 4), .int .u8 (by8 x 5), .int .u8 (by8 x 6), .int .u8 (by8 x 7)]
theorem dcs_len (x : BitVec 64) : (dcs x).length = 8 := rfl
theorem dcs_get (x : BitVec 64) (j : Nat) (hj : j < 8) : (dcs x)[j]? = some (.int .u8 (by8 x j)) := by
  match j, hj with
  | 0, _ | 1, _ | 2, _ | 3, _ | 4, _ | 5, _ | 6, _ | 7, _ => rfl
theorem dcs_one (x : BitVec 64) : ∀ u ∈ dcs x, u.oneCell' = true := by
  intro u hu
  simp only [dcs, List.mem_cons, List.not_mem_nil, or_false] at hu
  rcases hu with rfl | rfl | rfl | rfl | rfl | rfl | rfl | rfl <;> rfl
/-- The cells of digests. -/
noncomputable def dall (xs : List (BitVec 64)) : List Value := xs.flatMap dcs
theorem dall_nil : dall [] = [] := rfl
theorem dall_app (xs ys : List (BitVec 64)) : dall (xs ++ ys) = dall xs ++ dall ys := by simp [dall]
theorem dall_one (x : BitVec 64) : dall [x] = dcs x := by simp [dall]
theorem dall_len (xs : List (BitVec 64)) : (dall xs).length = xs.length * 8 := by
  induction xs with
  | nil => rfl
  | cons x xs ih => rw [dall, List.flatMap_cons, List.length_append, dcs_len]; rw [dall] at ih; rw [ih, List.length_cons]; omega
theorem dall_get (xs : List (BitVec 64)) (i : Nat) (hi : i < xs.length) (j : Nat) (hj : j < 8) : (dall xs)[i * 8 + j]? = some (.int .u8 (by8 (xs.getD i 0) j)) := by
  induction xs generalizing i with
  | nil => simp at hi
  | cons x xs ih =>
    rw [dall, List.flatMap_cons]
    match i with
    | 0 =>
      rw [List.getElem?_append_left (by rw [dcs_len]; omega), Nat.zero_mul, Nat.zero_add]
      exact dcs_get x j hj
    | i + 1 =>
      rw [List.getElem?_append_right (by rw [dcs_len]; omega), dcs_len, show (i + 1) * 8 + j - 8 = i * 8 + j by omega]
      exact ih i (by simpa using hi)
theorem dall_oneCell (xs : List (BitVec 64)) : ∀ u ∈ dall xs, u.oneCell' = true := by
  intro u hu
  obtain ⟨x, _, hx⟩ := List.mem_flatMap.1 hu
  exact dcs_one x u hx

/-- Digests that stand in the text, in a block of their own. -/
theorem dsl_new (W : World) (xs : List (BitVec 64)) (cs : Array Value) (e : TypeId) (k cap : Nat) (hcap : xs.length ≤ cap) (hk : k = W.heap.size) (hc : cs = (dall xs).toArray) : DSl (W.alloc (.cells cs e)) (.slice (some ⟨k, 0, none⟩) xs.length cap) xs := by
  subst hk hc
  refine ⟨_, cap, rfl, ⟨hcap, (fun h => by cases h)⟩, .inr ⟨W.heap.size, 0, rfl, by simp, fun i hi j hj => ?_⟩⟩
  rw [World.cell?_alloc_at _ _ _ _ rfl, Nat.zero_add]
  simpa using dall_get xs i hi j hj

/-- A row of digests of the call's own. -/
theorem GRow.dsl {W0 : World} {g : Array Obj} {e : TypeId} {v : Value} {xs : List (BitVec 64)} (h : GRow W0.heap.size g e 8 v xs.length (dall xs)) (d : Nat) : DSl (Go.Proofs.Ytghaiplhakeahaa.plus W0 g d) v xs := by
  have ho := h.owns d
  rcases h.2 with ⟨rfl, h0⟩ | ⟨j, cap, cur, rfl, hg, hcap, _⟩
  · exact ⟨none, 0, by rw [h0], ⟨by omega, fun _ => ⟨h0, rfl⟩⟩, .inl (List.eq_nil_of_length_eq_zero h0)⟩
  · have hj := (Array.getElem?_eq_some_iff.1 hg).1
    refine ⟨_, cap, rfl, ⟨hcap, (fun h => by cases h)⟩, .inr ⟨W0.heap.size + j, 0, rfl, by simp; omega, fun i hi k hk => ?_⟩⟩
    have := ho.cells (g := W0.heap.size + j) rfl _ _ (dall_get xs i hi k hk)
    have hadd : (⟨W0.heap.size + j, 0, none⟩ : Addr).add (i * 8 + k) = ⟨W0.heap.size + j, 0 + i * 8 + k, none⟩ := by unfold Addr.add; split <;> simp_all
    rwa [hadd] at this

theorem GRow.dsl' {W0 : World} {B n : Nat} {g : Array Obj} {e : TypeId} {v : Value} {ys : List Value} (h : GRow B g e 8 v n ys) (hB : B = W0.heap.size) (xs : List (BitVec 64)) (hn : n = xs.length) (hy : ys = dall xs) (d : Nat) : DSl (Go.Proofs.Ytghaiplhakeahaa.plus W0 g d) v xs := by
  subst hB hn hy; exact h.dsl d

theorem DSl.alloc {w : World} {v : Value} {xs : List (BitVec 64)} (h : DSl w v xs) (o : Obj) : DSl (w.alloc o) v xs := by
  rw [alloc_self]; exact h.plus _ _

/-- What an append takes from a slice of digests. -/
theorem DSl.news {w : World} {v : Value} {xs : List (BitVec 64)} (h : DSl w v xs) : ∃ ao cap, v = .slice ao xs.length cap ∧ (ao = none → xs.length = 0 ∧ cap = 0) ∧
    ∀ ad, ao = some ad → ∀ j u, (dall xs)[j]? = some u → w.cell? (ad.add j) = some u := by
  obtain ⟨ao, cap, rfl, hno, rfl | ⟨b, o, rfl, hb, hc⟩⟩ := h
  · exact ⟨ao, cap, rfl, hno.2, fun ad _ j u hj => by simp [dall_nil] at hj⟩
  · refine ⟨_, cap, rfl, fun h => (by cases h), fun ad had j u hj => ?_⟩
    cases had
    have hlt : j < xs.length * 8 := by
      have := (List.getElem?_eq_some_iff.1 hj).1
      rwa [dall_len] at this
    have e : j = (j / 8) * 8 + j % 8 := by omega
    have hi : j / 8 < xs.length := by omega
    rw [e, dall_get xs _ hi _ (by omega)] at hj
    have hadd : (⟨b, o, none⟩ : Addr).add j = ⟨b, o + (j / 8) * 8 + j % 8, none⟩ := by
      unfold Addr.add
      split
      · rename_i h0; subst h0; simp
      · simp; omega
    rw [hadd, hc _ hi _ (by omega)]
    exact hj

theorem DSl.cellsOf {w : World} {ao : Option Addr} {n cap : Nat} {xs : List (BitVec 64)} (h : DSl w (.slice ao n cap) xs) : ∀ ad, ao = some ad → ∀ j u, (dall xs)[j]? = some u → w.cell? (ad.add j) = some u := by
  obtain ⟨ao', cap', e, _, hc⟩ := h.news
  cases e
  exact hc

theorem DSl.le {w : World} {ao : Option Addr} {n cap : Nat} {xs : List (BitVec 64)} (h : DSl w (.slice ao n cap) xs) : n = xs.length ∧ xs.length ≤ cap ∧ (ao = none → xs.length = 0 ∧ cap = 0) := by
  obtain ⟨ao', cap', e, ⟨h1, h2⟩, _⟩ := h
  cases e
  exact ⟨rfl, h1, h2⟩

theorem dall_drop (xs : List (BitVec 64)) (k : Nat) : dall (xs.drop k) = (dall xs).drop (k * 8) := by
  induction xs generalizing k with
  | nil => simp [dall_nil]
  | cons x xs ih =>
    match k with
    | 0 => simp
    | k + 1 =>
      rw [List.drop_succ_cons, ih k]
      show _ = List.drop ((k + 1) * 8) (dcs x ++ dall xs)
      rw [List.drop_append, List.drop_eq_nil_of_le (show (dcs x).length ≤ (k + 1) * 8 by rw [dcs_len]; omega), List.nil_append, dcs_len, show (k + 1) * 8 - 8 = k * 8 by omega]

theorem dall_take (xs : List (BitVec 64)) (k : Nat) : dall (xs.take k) = (dall xs).take (k * 8) := by
  induction xs generalizing k with
  | nil => simp [dall_nil]
  | cons x xs ih =>
    match k with
    | 0 => simp [dall_nil]
    | k + 1 =>
      rw [List.take_succ_cons]
      show dcs x ++ dall (xs.take k) = List.take ((k + 1) * 8) (dcs x ++ dall xs)
      rw [List.take_append, ih k, List.take_of_length_le (l := dcs x) (by rw [dcs_len]; omega), dcs_len, show (k + 1) * 8 - 8 = k * 8 by omega]

/-- The cells of a slice's end, from k on. -/
theorem DSl.cellsFrom {w : World} {ao : Option Addr} {n cap : Nat} {xs : List (BitVec 64)} (h : DSl w (.slice ao n cap) xs) (k : Nat) : ∀ ad, (if cap = k then ao else ao.map (·.add (k * 8))) = some ad → ∀ j u, (dall (xs.drop k))[j]? = some u → w.cell? (ad.add j) = some u := by
  intro ad had j u hj
  have hc := h.cellsOf
  obtain ⟨rfl, hle, _⟩ := h.le
  rw [dall_drop, List.getElem?_drop] at hj
  split at had
  · rename_i hcap
    have : (dall xs)[k * 8 + j]? = none := List.getElem?_eq_none (by rw [dall_len]; omega)
    rw [this] at hj; cases hj
  · cases ao with
    | none => cases had
    | some a =>
      cases had
      have := hc a rfl _ _ hj
      rw [← this]
      congr 1
      unfold Addr.add
      by_cases hk : k * 8 = 0
      · simp [hk]
      · by_cases hj0 : j = 0
        · subst hj0; simp [hk]
        · simp [hk, hj0, Nat.add_assoc]

/-- The cells of a slice's front, up to k. -/
theorem DSl.cellsTo {w : World} {ao : Option Addr} {n cap : Nat} {xs : List (BitVec 64)} (h : DSl w (.slice ao n cap) xs) (k : Nat) : ∀ ad, ao = some ad → ∀ j u, (dall (xs.take k))[j]? = some u → w.cell? (ad.add j) = some u := by
  intro ad had j u hj
  rw [dall_take, List.getElem?_take] at hj
  split at hj
  · exact h.cellsOf ad had j u hj
  · cases hj

theorem DSl.drew {w : World} {v : Value} {xs : List (BitVec 64)} (h : DSl w v xs) : DSl w.drew v xs := h
theorem owns_first (w : World) (e : TypeId) (s k : Nat) (hk : k = w.heap.size) : (w.drew.alloc (.cells #[] e)).ownsRow w.heap.size e s (.slice (some ⟨k, 0, none⟩) 0 0) 0 [] := by
  subst hk
  exact World.ownsRow_made (base := w.heap.size) (e := e) (size := s) w.drew #[] 0 (by simp) (by unfold maxLen; omega) (by simp)

theorem owns_empty (w : World) (g : Array Obj) (d : Nat) (e : TypeId) (s k : Nat) (hk : k = w.heap.size + g.size) : ((Go.Proofs.Ytghaiplhakeahaa.plus w g d).alloc (.cells #[] e)).ownsRow w.heap.size e s (.slice (some ⟨k, 0, none⟩) 0 0) 0 [] := by
  have := World.ownsRow_made (base := w.heap.size) (e := e) (size := s) (Go.Proofs.Ytghaiplhakeahaa.plus w g d) #[] 0 (by simp) (by unfold maxLen; omega) (by simp)
  rw [size_plus, ← hk] at this
  exact this

/-- The numbers of digests together, modulo 2^64. -/
def sumD : List (BitVec 64) → BitVec 64 := fun xs => xs.foldl (fun s x => s + x) 0#64

theorem sumD_snoc (xs : List (BitVec 64)) (x : BitVec 64) : sumD (xs ++ [x]) = sumD xs + x := by simp [sumD]
theorem sumD_take (xs : List (BitVec 64)) (k : Nat) (h : k < xs.length) : sumD (xs.take (k + 1)) = sumD (xs.take k) + xs.getD k 0 := by
  rw [List.take_succ_eq_append_getElem h, sumD_snoc, List.getD_eq_getElem?_getD, List.getElem?_eq_getElem h]; rfl
theorem sumD_all (xs : List (BitVec 64)) : sumD (xs.take xs.length) = sumD xs := by rw [List.take_length]

end Go.Proofs.Ytghaiplhakeahaa
