/- Maps keyed by digests: what a map's block holds, as a function; look-up, store, delete. Over any program. -/
import Derived.Test.YtghaiplhakeahaaMsg
import Derived.Test.YtghaiplhakeahaaEqd
import Derived.Maps.OwnSet
import Derived.WideKeyArr
import Derived.Test.YtghaiplhakeahaaOwa
import Derived.Maps.RangeRun
namespace Go.Proofs.Ytghaiplhakeahaa
set_option linter.unusedSimpArgs false
set_option linter.unusedVariables false
open Go.RowKit Go.WideMaps Go.ChangeMaps Go.Maps

theorem dgv_inj {x y : BitVec 64} (h : (.agg #[.int .u8 (by8 x 0), .int .u8 (by8 x 1), .int .u8 (by8 x 2), .int .u8 (by8 x 3), .int .u8 (by8 x 4), .int .u8 (by8 x 5), .int .u8 (by8 x 6), .int .u8 (by8 x 7)] : Value) = .agg #[.int .u8 (by8 y 0), .int .u8 (by8 y 1), .int .u8 (by8 y 2), .int .u8 (by8 y 3), .int .u8 (by8 y 4), .int .u8 (by8 y 5), .int .u8 (by8 y 6), .int .u8 (by8 y 7)]) : x = y := by
  simp only [Value.agg.injEq, Array.mk.injEq, List.cons.injEq, Value.int.injEq, true_and, and_true] at h
  obtain ⟨h0, h1, h2, h3, h4, h5, h6, h7⟩ := h
  refine by8_inj fun i hi => ?_
  match i, hi with
  | 0, _ => exact h0
  | 1, _ => exact h1
  | 2, _ => exact h2
  | 3, _ => exact h3
  | 4, _ => exact h4
  | 5, _ => exact h5
  | 6, _ => exact h6
  | 7, _ => exact h7
theorem by8_wf (x : BitVec 64) (i : Nat) : (Lit.int .u8 (by8 x i)).wf = true := by
  have := by8_bd x i
  simp [Lit.wf, IntKind.min, IntKind.max, IntKind.signed, IntKind.bits]
  omega
theorem dig_keyOf {P : Program} {k e : TypeId} (A : ArrKey P k e 8) (he : P.underlying e = some (.int .u8)) (hsz : ∃ m, P.types.size = m + 1) (x : BitVec 64) : ∃ l, keyOf P k (.agg #[.int .u8 (by8 x 0), .int .u8 (by8 x 1), .int .u8 (by8 x 2), .int .u8 (by8 x 3), .int .u8 (by8 x 4), .int .u8 (by8 x 5), .int .u8 (by8 x 6), .int .u8 (by8 x 7)]) = some l := by
  have hkt := A.keyType hsz
  obtain ⟨m, hm⟩ := hsz
  unfold keyOf
  simp only [A.hu]
  rw [if_pos (by simp [hkt, Value.formed, A.hu, A.size]), hm]
  unfold Program.keyLits
  simp only [A.hu, Value.cells]
  rw [if_pos (by rw [A.size]; rfl), show List.range 8 = [0, 1, 2, 3, 4, 5, 6, 7] from rfl]
  simp [A.one, Program.keyLits, he, by8_wf]

/-- What is needed of a type of maps. -/
structure MapT (P : Program) (t k e : TypeId) : Prop where
  keyed : Keyed P k
  key : ∀ x : BitVec 64, ∃ l, keyOf P k (.agg #[.int .u8 (by8 x 0), .int .u8 (by8 x 1), .int .u8 (by8 x 2), .int .u8 (by8 x 3), .int .u8 (by8 x 4), .int .u8 (by8 x 5), .int .u8 (by8 x 6), .int .u8 (by8 x 7)]) = some l
  und : P.underlying t = some (.map k e)

/-- The entries es are the function g. -/
structure MapD (es : Array MapEntry) (ck : Nat) (g : BitVec 64 → Option Value) : Prop where
  keys : ∀ e ∈ es.toList, ∃ x, e.key = .agg #[.int .u8 (by8 x 0), .int .u8 (by8 x 1), .int .u8 (by8 x 2), .int .u8 (by8 x 3), .int .u8 (by8 x 4), .int .u8 (by8 x 5), .int .u8 (by8 x 6), .int .u8 (by8 x 7)]
  apart : es.toList.Pairwise fun a b => a.key ≠ b.key
  get : ∀ x v, g x = some v ↔ ∃ e ∈ es.toList, e.key = .agg #[.int .u8 (by8 x 0), .int .u8 (by8 x 1), .int .u8 (by8 x 2), .int .u8 (by8 x 3), .int .u8 (by8 x 4), .int .u8 (by8 x 5), .int .u8 (by8 x 6), .int .u8 (by8 x 7)] ∧ e.val = v
  born : ∀ e ∈ es.toList, e.born < ck
  stamps : es.toList.Pairwise fun a b => a.born ≠ b.born
theorem MapD.empty : MapD #[] 0 fun _ => none := ⟨by simp, by simp, by simp, by simp, by simp⟩
section
variable {P : Program} {t k e : TypeId} {es : Array MapEntry} {ck b : Nat} {g : BitVec 64 → Option Value} {w : World}
theorem MapD.keyed (M : MapD es ck g) (T : MapT P t k e) : ∀ x ∈ es.toList, ∃ l, keyOf P k x.key = some l := fun x hx => by
  obtain ⟨y, hy⟩ := M.keys x hx
  rw [hy]; exact T.key y
theorem MapD.find (M : MapD es ck g) (T : MapT P t k e) (x : BitVec 64) : ((Instr.findKey k (.agg #[.int .u8 (by8 x 0), .int .u8 (by8 x 1), .int .u8 (by8 x 2), .int .u8 (by8 x 3), .int .u8 (by8 x 4), .int .u8 (by8 x 5), .int .u8 (by8 x 6), .int .u8 (by8 x 7)]) es.toList).run P w = .ok none w ∧ g x = none ∧ ∀ y ∈ es.toList, y.key ≠ .agg #[.int .u8 (by8 x 0), .int .u8 (by8 x 1), .int .u8 (by8 x 2), .int .u8 (by8 x 3), .int .u8 (by8 x 4), .int .u8 (by8 x 5), .int .u8 (by8 x 6), .int .u8 (by8 x 7)]) ∨ ∃ j y, (Instr.findKey k (.agg #[.int .u8 (by8 x 0), .int .u8 (by8 x 1), .int .u8 (by8 x 2), .int .u8 (by8 x 3), .int .u8 (by8 x 4), .int .u8 (by8 x 5), .int .u8 (by8 x 6), .int .u8 (by8 x 7)]) es.toList).run P w = .ok (some (j, y.val)) w ∧ es.toList[j]? = some y ∧ y.key = .agg #[.int .u8 (by8 x 0), .int .u8 (by8 x 1), .int .u8 (by8 x 2), .int .u8 (by8 x 3), .int .u8 (by8 x 4), .int .u8 (by8 x 5), .int .u8 (by8 x 6), .int .u8 (by8 x 7)] ∧ g x = some y.val := by
  obtain ⟨l, hl⟩ := T.key x
  rcases T.keyed.find w hl es.toList (M.keyed T) with ⟨h1, h2⟩ | ⟨j, y, h1, h2, h3⟩
  · refine .inl ⟨h1, ?_, h2⟩
    cases hg : g x with
    | none => rfl
    | some v =>
      obtain ⟨y, hy, hk, -⟩ := (M.get x v).1 hg
      exact absurd hk (h2 y hy)
  · exact .inr ⟨j, y, h1, h2, h3, (M.get x y.val).2 ⟨y, List.mem_of_getElem? h2, h3, rfl⟩⟩
theorem MapD.look_some (M : MapD es ck g) (T : MapT P t k e) (hb : w.heap[b]? = some (.map es ck)) (x : BitVec 64) {v : Value} (hg : g x = some v) (c : Bool) :
    (Instr.lookup t (.map (some b)) (.agg #[.int .u8 (by8 x 0), .int .u8 (by8 x 1), .int .u8 (by8 x 2), .int .u8 (by8 x 3), .int .u8 (by8 x 4), .int .u8 (by8 x 5), .int .u8 (by8 x 6), .int .u8 (by8 x 7)]) c).run P w = .ok (if c then .tuple #[v, .bool true] else v) w := by
  obtain ⟨l, hl⟩ := T.key x
  have hck := T.keyed.check w es.isEmpty hl
  rcases M.find T x (w := w) with ⟨-, h2, -⟩ | ⟨j, y, h1, -, -, h4⟩
  · rw [hg] at h2; cases h2
  · rw [hg] at h4
    cases h4
    simp [Instr.lookup, run_underlying T.und, MapKept.run_getObj_map hb, hck, h1, Result.andThen]
theorem MapD.look_none (M : MapD es ck g) (T : MapT P t k e) (hb : w.heap[b]? = some (.map es ck)) (x : BitVec 64) (hg : g x = none) {z : Value} (hz : (zeroValue e).run P w = .ok z w) (c : Bool) :
    (Instr.lookup t (.map (some b)) (.agg #[.int .u8 (by8 x 0), .int .u8 (by8 x 1), .int .u8 (by8 x 2), .int .u8 (by8 x 3), .int .u8 (by8 x 4), .int .u8 (by8 x 5), .int .u8 (by8 x 6), .int .u8 (by8 x 7)]) c).run P w = .ok (if c then .tuple #[z, .bool false] else z) w := by
  obtain ⟨l, hl⟩ := T.key x
  have hck := T.keyed.check w es.isEmpty hl
  rcases M.find T x (w := w) with ⟨h1, -, -⟩ | ⟨j, y, -, -, -, h4⟩
  · simp [Instr.lookup, run_underlying T.und, MapKept.run_getObj_map hb, hck, h1, hz, Result.andThen]
  · rw [hg] at h4; cases h4
def putF (g : BitVec 64 → Option Value) (x : BitVec 64) (v : Value) : BitVec 64 → Option Value := fun y => if y = x then some v else g y
def delF (g : BitVec 64 → Option Value) (x : BitVec 64) : BitVec 64 → Option Value := fun y => if y = x then none else g y
theorem MapD.put_new (M : MapD es ck g) (x : BitVec 64) (v : Value) (h : ∀ y ∈ es.toList, y.key ≠ .agg #[.int .u8 (by8 x 0), .int .u8 (by8 x 1), .int .u8 (by8 x 2), .int .u8 (by8 x 3), .int .u8 (by8 x 4), .int .u8 (by8 x 5), .int .u8 (by8 x 6), .int .u8 (by8 x 7)]) : MapD (es.push ⟨.agg #[.int .u8 (by8 x 0), .int .u8 (by8 x 1), .int .u8 (by8 x 2), .int .u8 (by8 x 3), .int .u8 (by8 x 4), .int .u8 (by8 x 5), .int .u8 (by8 x 6), .int .u8 (by8 x 7)], v, ck⟩) (ck + 1) (putF g x v) := by
  refine ⟨fun y hy => ?_, ?_, fun z u => ?_, fun y hy => ?_, ?_⟩
  rotate_left 3
  · simp only [Array.toList_push, List.mem_append, List.mem_singleton] at hy
    rcases hy with hy | rfl
    · have := M.born y hy; omega
    · show ck < ck + 1; omega
  · rw [Array.toList_push, List.pairwise_append]
    refine ⟨M.stamps, by simp, fun a ha b hb => ?_⟩
    rw [List.mem_singleton] at hb
    subst hb
    have := M.born a ha
    show a.born ≠ ck
    omega
  · simp only [Array.toList_push, List.mem_append, List.mem_singleton] at hy
    rcases hy with hy | rfl
    · exact M.keys y hy
    · exact ⟨x, rfl⟩
  · rw [Array.toList_push, List.pairwise_append]
    refine ⟨M.apart, by simp, fun a ha b hb => ?_⟩
    rw [List.mem_singleton] at hb
    subst hb
    exact h a ha
  · simp only [Array.toList_push, List.mem_append, List.mem_singleton, putF]
    by_cases hz : z = x
    · subst hz
      rw [if_pos rfl]
      constructor
      · intro hu
        cases hu
        exact ⟨_, .inr rfl, rfl, rfl⟩
      · rintro ⟨y, hy | rfl, h1, h2⟩
        · exact absurd h1 (h y hy)
        · rw [← h2]
    · rw [if_neg hz, M.get]
      constructor
      · rintro ⟨y, hy, h1, h2⟩
        exact ⟨y, .inl hy, h1, h2⟩
      · rintro ⟨y, hy | rfl, h1, h2⟩
        · exact ⟨y, hy, h1, h2⟩
        · exact absurd (dgv_inj h1).symm hz
theorem MapD.put_old (M : MapD es ck g) (x : BitVec 64) (v : Value) {j : Nat} {y : MapEntry} (hj : es.toList[j]? = some y) (hy : y.key = .agg #[.int .u8 (by8 x 0), .int .u8 (by8 x 1), .int .u8 (by8 x 2), .int .u8 (by8 x 3), .int .u8 (by8 x 4), .int .u8 (by8 x 5), .int .u8 (by8 x 6), .int .u8 (by8 x 7)]) : MapD (es.modify j fun e => { e with key := .agg #[.int .u8 (by8 x 0), .int .u8 (by8 x 1), .int .u8 (by8 x 2), .int .u8 (by8 x 3), .int .u8 (by8 x 4), .int .u8 (by8 x 5), .int .u8 (by8 x 6), .int .u8 (by8 x 7)], val := v }) ck (putF g x v) := by
  have hl : (es.modify j fun e => { e with key := .agg #[.int .u8 (by8 x 0), .int .u8 (by8 x 1), .int .u8 (by8 x 2), .int .u8 (by8 x 3), .int .u8 (by8 x 4), .int .u8 (by8 x 5), .int .u8 (by8 x 6), .int .u8 (by8 x 7)], val := v }).toList = es.toList.set j { y with key := .agg #[.int .u8 (by8 x 0), .int .u8 (by8 x 1), .int .u8 (by8 x 2), .int .u8 (by8 x 3), .int .u8 (by8 x 4), .int .u8 (by8 x 5), .int .u8 (by8 x 6), .int .u8 (by8 x 7)], val := v } := by
    rw [Array.toList_modify]
    apply List.ext_getElem?
    intro i
    rw [List.getElem?_modify, List.getElem?_set]
    by_cases h1 : j = i
    · subst h1
      rw [hj, if_pos rfl, if_pos (List.getElem?_eq_some_iff.1 hj).1]
      simp
    · rw [if_neg h1]
      simp [h1]
  have hjl : j < es.toList.length := (List.getElem?_eq_some_iff.1 hj).1
  have hmem : ∀ e, e ∈ es.toList.set j { y with key := .agg #[.int .u8 (by8 x 0), .int .u8 (by8 x 1), .int .u8 (by8 x 2), .int .u8 (by8 x 3), .int .u8 (by8 x 4), .int .u8 (by8 x 5), .int .u8 (by8 x 6), .int .u8 (by8 x 7)], val := v } ↔ e = { y with key := .agg #[.int .u8 (by8 x 0), .int .u8 (by8 x 1), .int .u8 (by8 x 2), .int .u8 (by8 x 3), .int .u8 (by8 x 4), .int .u8 (by8 x 5), .int .u8 (by8 x 6), .int .u8 (by8 x 7)], val := v } ∨ ∃ i, i ≠ j ∧ es.toList[i]? = some e := fun e => by
    constructor
    · intro h
      obtain ⟨i, hi⟩ := List.mem_iff_getElem?.1 h
      rw [List.getElem?_set] at hi
      by_cases h1 : j = i
      · subst h1
        rw [if_pos rfl, if_pos hjl] at hi
        cases hi
        exact .inl rfl
      · rw [if_neg h1] at hi
        exact .inr ⟨i, fun e => h1 e.symm, hi⟩
    · rintro (rfl | ⟨i, h1, h2⟩)
      · exact List.mem_iff_getElem?.2 ⟨j, by rw [List.getElem?_set, if_pos rfl, if_pos hjl]⟩
      · exact List.mem_iff_getElem?.2 ⟨i, by rw [List.getElem?_set, if_neg (fun e => h1 e.symm)]; exact h2⟩
  have hne : ∀ i e, i ≠ j → es.toList[i]? = some e → e.key ≠ .agg #[.int .u8 (by8 x 0), .int .u8 (by8 x 1), .int .u8 (by8 x 2), .int .u8 (by8 x 3), .int .u8 (by8 x 4), .int .u8 (by8 x 5), .int .u8 (by8 x 6), .int .u8 (by8 x 7)] := fun i e h1 h2 h3 => by
    have hp := List.pairwise_iff_getElem.1 M.apart
    have hil : i < es.toList.length := (List.getElem?_eq_some_iff.1 h2).1
    have e1 := (List.getElem?_eq_some_iff.1 h2).2
    have e2 := (List.getElem?_eq_some_iff.1 hj).2
    rcases Nat.lt_or_gt_of_ne h1 with h | h
    · exact hp i j hil hjl h (by rw [e1, e2, h3, hy])
    · exact hp j i hjl hil h (by rw [e1, e2, h3, hy])
  refine ⟨fun a ha => ?_, ?_, fun z u => ?_, fun a ha => ?_, ?_⟩
  rotate_left 3
  · rw [hl] at ha
    rcases (hmem a).1 ha with rfl | ⟨i, -, h2⟩
    · exact M.born y (List.mem_of_getElem? hj)
    · exact M.born a (List.mem_of_getElem? h2)
  · rw [hl]
    have hk : (es.toList.set j { y with key := .agg #[.int .u8 (by8 x 0), .int .u8 (by8 x 1), .int .u8 (by8 x 2), .int .u8 (by8 x 3), .int .u8 (by8 x 4), .int .u8 (by8 x 5), .int .u8 (by8 x 6), .int .u8 (by8 x 7)], val := v }).map (·.born) = es.toList.map (·.born) := by
      rw [List.map_set]
      apply List.ext_getElem?
      intro i
      rw [List.getElem?_set]
      by_cases h1 : j = i
      · subst h1
        rw [if_pos rfl, if_pos (by simpa using hjl), List.getElem?_map, hj]
        simp
      · rw [if_neg h1]
    have := List.pairwise_map.1 (hk ▸ List.pairwise_map.2 M.stamps : ((es.toList.set j { y with key := .agg #[.int .u8 (by8 x 0), .int .u8 (by8 x 1), .int .u8 (by8 x 2), .int .u8 (by8 x 3), .int .u8 (by8 x 4), .int .u8 (by8 x 5), .int .u8 (by8 x 6), .int .u8 (by8 x 7)], val := v }).map (·.born)).Pairwise (· ≠ ·))
    exact this
  · rw [hl] at ha
    rcases (hmem a).1 ha with rfl | ⟨i, -, h2⟩
    · exact ⟨x, rfl⟩
    · exact M.keys a (List.mem_of_getElem? h2)
  · rw [hl]
    have hk : (es.toList.set j { y with key := .agg #[.int .u8 (by8 x 0), .int .u8 (by8 x 1), .int .u8 (by8 x 2), .int .u8 (by8 x 3), .int .u8 (by8 x 4), .int .u8 (by8 x 5), .int .u8 (by8 x 6), .int .u8 (by8 x 7)], val := v }).map (·.key) = es.toList.map (·.key) := by
      rw [List.map_set]
      apply List.ext_getElem?
      intro i
      rw [List.getElem?_set]
      by_cases h1 : j = i
      · subst h1
        rw [if_pos rfl, if_pos (by simpa using hjl), List.getElem?_map, hj]
        simp [hy]
      · rw [if_neg h1]
    have := List.pairwise_map.1 (hk ▸ List.pairwise_map.2 M.apart : ((es.toList.set j { y with key := .agg #[.int .u8 (by8 x 0), .int .u8 (by8 x 1), .int .u8 (by8 x 2), .int .u8 (by8 x 3), .int .u8 (by8 x 4), .int .u8 (by8 x 5), .int .u8 (by8 x 6), .int .u8 (by8 x 7)], val := v }).map (·.key)).Pairwise (· ≠ ·))
    exact this
  · rw [hl]
    unfold putF
    by_cases hz : z = x
    · subst hz
      rw [if_pos rfl]
      constructor
      · intro hu
        cases hu
        exact ⟨_, (hmem _).2 (.inl rfl), rfl, rfl⟩
      · rintro ⟨a, ha, h1, h2⟩
        rcases (hmem a).1 ha with rfl | ⟨i, h3, h4⟩
        · rw [← h2]
        · exact absurd h1 (hne i a h3 h4)
    · rw [if_neg hz, M.get]
      constructor
      · rintro ⟨a, ha, h1, h2⟩
        obtain ⟨i, hi⟩ := List.mem_iff_getElem?.1 ha
        refine ⟨a, (hmem a).2 (.inr ⟨i, fun e => ?_, hi⟩), h1, h2⟩
        subst e
        rw [hj] at hi
        cases hi
        rw [hy] at h1
        exact hz (dgv_inj h1).symm
      · rintro ⟨a, ha, h1, h2⟩
        rcases (hmem a).1 ha with rfl | ⟨i, h3, h4⟩
        · exact absurd (dgv_inj h1).symm hz
        · exact ⟨a, List.mem_of_getElem? h4, h1, h2⟩
theorem MapD.put (M : MapD es ck g) (T : MapT P t k e) (hb : w.heap[b]? = some (.map es ck)) (x : BitVec 64) (v : Value) :
    ∃ es' ck', (Instr.mapUpdate t (.map (some b)) (.agg #[.int .u8 (by8 x 0), .int .u8 (by8 x 1), .int .u8 (by8 x 2), .int .u8 (by8 x 3), .int .u8 (by8 x 4), .int .u8 (by8 x 5), .int .u8 (by8 x 6), .int .u8 (by8 x 7)]) v).run P w = .ok () (setBlock w b (.map es' ck')) ∧ MapD es' ck' (putF g x v) := by
  obtain ⟨l, hl⟩ := T.key x
  have hck := T.keyed.check w false hl
  rcases M.find T x (w := w) with ⟨h1, -, h3⟩ | ⟨j, y, h1, h2, h3, -⟩
  · exact ⟨es.push ⟨.agg #[.int .u8 (by8 x 0), .int .u8 (by8 x 1), .int .u8 (by8 x 2), .int .u8 (by8 x 3), .int .u8 (by8 x 4), .int .u8 (by8 x 5), .int .u8 (by8 x 6), .int .u8 (by8 x 7)], v, ck⟩, ck + 1, by simp [Instr.mapUpdate, run_underlying T.und, MapKept.run_getObj_map hb, hck, h1, MapKept.run_setObj_map _ hb, Result.andThen, setBlock], M.put_new x v h3⟩
  · have hst := T.keyed.stays w hl
    have hj2 : es[j]? = some y := by simpa using h2
    refine ⟨es.modify j fun e => { e with key := .agg #[.int .u8 (by8 x 0), .int .u8 (by8 x 1), .int .u8 (by8 x 2), .int .u8 (by8 x 3), .int .u8 (by8 x 4), .int .u8 (by8 x 5), .int .u8 (by8 x 6), .int .u8 (by8 x 7)], val := v }, ck, ?_, M.put_old x v h2 h3⟩
    simp [Instr.mapUpdate, run_underlying T.und, MapKept.run_getObj_map hb, hck, h1, hj2, h3, hst, MapKept.run_setObj_map _ hb, Result.andThen, setBlock]
theorem MapD.del (M : MapD es ck g) (T : MapT P t k e) (hb : w.heap[b]? = some (.map es ck)) (x : BitVec 64) (ty kt : TypeId) :
    ∃ es', (Builtin.delete_ #[t, kt] ty #[.map (some b), .agg #[.int .u8 (by8 x 0), .int .u8 (by8 x 1), .int .u8 (by8 x 2), .int .u8 (by8 x 3), .int .u8 (by8 x 4), .int .u8 (by8 x 5), .int .u8 (by8 x 6), .int .u8 (by8 x 7)]]).run P w = .ok (.tuple #[]) (setBlock w b (.map es' ck)) ∧ MapD es' ck (delF g x) := by
  obtain ⟨l, hl⟩ := T.key x
  have hck := T.keyed.check w es.isEmpty hl
  rcases M.find T x (w := w) with ⟨h1, h2, h3⟩ | ⟨j, y, h1, h2, h3, -⟩
  · refine ⟨es, by simp [Builtin.delete_, run_underlying T.und, MapKept.run_getObj_map hb, hck, h1, MapKept.run_setObj_map _ hb, Result.andThen, setBlock], M.keys, M.apart, fun z u => ?_, M.born, M.stamps⟩
    unfold delF
    by_cases hz : z = x
    · subst hz
      rw [if_pos rfl]
      constructor
      · intro h; cases h
      · rintro ⟨a, ha, h4, -⟩
        exact absurd h4 (h3 a ha)
    · rw [if_neg hz, M.get]
  · have hjl : j < es.toList.length := (List.getElem?_eq_some_iff.1 h2).1
    have hjs : j < es.size := by simpa using hjl
    have hle : (es.eraseIdxIfInBounds j).toList = es.toList.eraseIdx j := by
      simp [Array.eraseIdxIfInBounds, hjs]
    have hmem : ∀ a, a ∈ es.toList.eraseIdx j ↔ ∃ i, i ≠ j ∧ es.toList[i]? = some a := fun a => List.mem_eraseIdx_iff_getElem?
    have hne : ∀ i a, i ≠ j → es.toList[i]? = some a → a.key ≠ .agg #[.int .u8 (by8 x 0), .int .u8 (by8 x 1), .int .u8 (by8 x 2), .int .u8 (by8 x 3), .int .u8 (by8 x 4), .int .u8 (by8 x 5), .int .u8 (by8 x 6), .int .u8 (by8 x 7)] := fun i a h4 h5 h6 => by
      have hp := List.pairwise_iff_getElem.1 M.apart
      have hil : i < es.toList.length := (List.getElem?_eq_some_iff.1 h5).1
      have e1 := (List.getElem?_eq_some_iff.1 h5).2
      have e2 := (List.getElem?_eq_some_iff.1 h2).2
      rcases Nat.lt_or_gt_of_ne h4 with h | h
      · exact hp i j hil hjl h (by rw [e1, e2, h6, h3])
      · exact hp j i hjl hil h (by rw [e1, e2, h6, h3])
    refine ⟨es.eraseIdxIfInBounds j, by simp [Builtin.delete_, run_underlying T.und, MapKept.run_getObj_map hb, hck, h1, MapKept.run_setObj_map _ hb, Result.andThen, setBlock], fun a ha => ?_, ?_, fun z u => ?_, fun a ha => ?_, ?_⟩
    rotate_left 3
    · rw [hle] at ha
      exact M.born a (List.mem_of_mem_eraseIdx ha)
    · rw [hle]
      exact M.stamps.sublist (List.eraseIdx_sublist _ _)
    · rw [hle] at ha
      exact M.keys a (List.mem_of_mem_eraseIdx ha)
    · rw [hle]
      exact M.apart.sublist (List.eraseIdx_sublist _ _)
    · rw [hle]
      unfold delF
      by_cases hz : z = x
      · subst hz
        rw [if_pos rfl]
        constructor
        · intro h; cases h
        · rintro ⟨a, ha, h4, -⟩
          obtain ⟨i, h5, h6⟩ := (hmem a).1 ha
          exact absurd h4 (hne i a h5 h6)
      · rw [if_neg hz, M.get]
        constructor
        · rintro ⟨a, ha, h4, h5⟩
          obtain ⟨i, hi⟩ := List.mem_iff_getElem?.1 ha
          refine ⟨a, (hmem a).2 ⟨i, fun e => ?_, hi⟩, h4, h5⟩
          subst e
          rw [h2] at hi
          cases hi
          rw [h3] at h4
          exact hz (dgv_inj h4).symm
        · rintro ⟨a, ha, h4, h5⟩
          exact ⟨a, List.mem_of_mem_eraseIdx ha, h4, h5⟩
end

section
open Go.RowKit Go.ChangeMaps

/-- What the world w is: as w0 was, with new blocks X, and maps K. -/
structure Omw (w w0 : World) (X : List Blk) (K : List (Nat × Obj)) : Prop where
  ow : Ow w w0 X
  has : ∀ y ∈ K, w.heap[y.1]? = some y.2
  new : ∀ y ∈ K, w0.heap.size ≤ y.1
  nc : ∀ y ∈ K, ∀ c e, y.2 ≠ .cells c e (0, 0)
  apart : K.Pairwise fun x y => x.1 ≠ y.1
section
variable {w w0 w' : World} {X X' B C L : List Blk} {K K' : List (Nat × Obj)}
theorem Omw.start (w : World) : Omw w w [] [] := ⟨Ow.start w, by simp, by simp, by simp, by simp⟩
theorem Omw.lt (h : Omw w w0 X K) {y : Nat × Obj} (hy : y ∈ K) : y.1 < w.heap.size := (Array.getElem?_eq_some_iff.1 (h.has y hy)).1
theorem Omw.of_below (h : Omw w w0 X K) (hb : Below w.heap.size w w') : Omw w' w0 X K := ⟨h.ow.of_below hb, fun y hy => (hb.block _ (h.lt hy)).trans (h.has y hy), h.new, h.nc, h.apart⟩
theorem Omw.plus (h : Omw w w0 X K) (g : Array Obj) (d : Nat) : Omw (Go.Proofs.Ytghaiplhakeahaa.plus w g d) w0 X K := h.of_below (bplus (Below.refl _ _) g d)
theorem Omw.alloc (h : Omw w w0 X K) (o : Obj) : Omw (w.alloc o) w0 X K := h.of_below (balloc (Below.refl _ _) o)
theorem Omw.drew (h : Omw w w0 X K) : Omw w.drew w0 X K := h.of_below (Below.refl _ _).drew
theorem Omw.below (h : Omw w w0 X K) : Below w0.heap.size w0 w := h.ow.below
theorem Omw.perm (h : Omw w w0 X K) (p : X.Perm X') : Omw w w0 X' K := ⟨h.ow.perm p, h.has, h.new, h.nc, h.apart⟩
theorem Omw.permK (h : Omw w w0 X K) (p : K.Perm K') : Omw w w0 X K' := ⟨h.ow, fun y hy => h.has y (p.mem_iff.2 hy), fun y hy => h.new y (p.mem_iff.2 hy), fun y hy => h.nc y (p.mem_iff.2 hy), (p.pairwise_iff (fun h => h.symm)).1 h.apart⟩
theorem Omw.as (h : Omw w w0 X K) (e : X = X') : Omw w w0 X' K := e ▸ h
theorem Omw.drop (h : Omw w w0 (B ++ X) K) : Omw w w0 X K := ⟨h.ow.drop, h.has, h.new, h.nc, h.apart⟩
theorem Omw.drop1 {x : Blk} (h : Omw w w0 (x :: X) K) : Omw w w0 X K := Omw.drop (B := [x]) h
theorem Omw.key (h : Omw w w0 X K) (cs : Array Value) (t : TypeId) (b : Nat) (hb : b = w.heap.size) : Omw (w.alloc (.cells cs t)) w0 (⟨b, t, cs⟩ :: X) K :=
  ⟨h.ow.key cs t b hb, (h.alloc _).has, h.new, h.nc, h.apart⟩
theorem Omw.blk (h : Omw w w0 X K) {b : Nat} {t : TypeId} {cs : Array Value} (hx : (⟨b, t, cs⟩ : Blk) ∈ X) : HasBlk w b t cs := h.ow.has hx
theorem Omw.ne (h : Omw w w0 X K) {x : Blk} (hx : x ∈ X) {y : Nat × Obj} (hy : y ∈ K) : x.no ≠ y.1 := fun e => by
  have h1 := h.ow.mem.has x hx
  have h2 := h.has y hy
  rw [e, h2] at h1
  exact h.nc y hy _ _ (Option.some.inj h1)
theorem Omw.keyObj (h : Omw w w0 X K) (o : Obj) (ho : ∀ c e, o ≠ .cells c e (0, 0)) (b : Nat) (hb : b = w.heap.size) : Omw (w.alloc o) w0 X ((b, o) :: K) := by
  subst hb
  have h' := h.alloc o
  refine ⟨h'.ow, fun y hy => ?_, fun y hy => ?_, fun y hy => ?_, List.pairwise_cons.2 ⟨fun y hy => ?_, h.apart⟩⟩
  · rcases List.mem_cons.1 hy with rfl | hy
    · exact heap_alloc_new w _
    · exact h'.has y hy
  · rcases List.mem_cons.1 hy with rfl | hy
    · exact h.below.size
    · exact h.new y hy
  · rcases List.mem_cons.1 hy with rfl | hy
    · exact ho
    · exact h.nc y hy
  · have := h.lt hy
    show w.heap.size ≠ y.1
    omega
theorem Omw.keyMap (h : Omw w w0 X K) (b : Nat) (hb : b = w.heap.size) : Omw (w.alloc (.map #[] 0)) w0 X ((b, .map #[] 0) :: K) := h.keyObj _ (by intro c e h; cases h) b hb
theorem Omw.dropK {y : Nat × Obj} (h : Omw w w0 X (y :: K)) : Omw w w0 X K := ⟨h.ow, fun z hz => h.has z (List.mem_cons_of_mem _ hz), fun z hz => h.new z (List.mem_cons_of_mem _ hz), fun z hz => h.nc z (List.mem_cons_of_mem _ hz), (List.pairwise_cons.1 h.apart).2⟩
/-- A cell of the call's own blocks is written. -/
theorem Omw.set {b : Nat} {t : TypeId} {cs : Array Value} (h : Omw w w0 (⟨b, t, cs⟩ :: L) K) (i : Nat) (v : Value) : Omw (w.setCell ⟨b, i, none⟩ v) w0 (⟨b, t, cs.setIfInBounds i v⟩ :: L) K :=
  ⟨h.ow.set i v, fun y hy => by rw [Below.heap_setCell _ _ _ _ (fun e => h.ne (List.mem_cons_self ..) hy e.symm)]; exact h.has y hy, h.new, h.nc, h.apart⟩
/-- A world in which one block of cells has turned. -/
theorem Omw.turned {B' : List Blk} (h : Omw w w0 (B ++ C) K) (h' : Ow w' w0 (B' ++ C)) (hk : ∀ j, j < w.heap.size → (∀ x ∈ B, x.no ≠ j) → w'.heap[j]? = w.heap[j]?) : Omw w' w0 (B' ++ C) K :=
  ⟨h', fun y hy => (hk y.1 (h.lt hy) fun x hx => h.ne (List.mem_append_left _ hx) hy).trans (h.has y hy), h.new, h.nc, h.apart⟩
theorem heap_setCells (b : Nat) : ∀ (vs : List Value) (w : World) (o j : Nat), j ≠ b → (w.setCells b o vs).heap[j]? = w.heap[j]?
  | [], _, _, _, _ => rfl
  | v :: r, w, o, j, h => (heap_setCells b r (w.setCell ⟨b, o, none⟩ v) (o + 1) j h).trans (Below.heap_setCell _ _ _ _ h)
theorem Omw.lays {b : Nat} {t : TypeId} {cs : Array Value} (h : Omw w w0 (⟨b, t, cs⟩ :: L) K) (off : Nat) (vs : List Value) : Omw (w.setCells b off vs) w0 (⟨b, t, writeAt cs off vs⟩ :: L) K :=
  h.turned (B := [⟨b, t, cs⟩]) (B' := [⟨b, t, writeAt cs off vs⟩]) ⟨Mem.cells (B := []) vs off h.ow.mem, New.cons (h.ow.new ⟨b, t, cs⟩ (List.mem_cons_self ..)) fun x hx => h.ow.new x (List.mem_cons_of_mem _ hx)⟩ fun j _ hj => heap_setCells b vs w off j fun e => hj ⟨b, t, cs⟩ (List.mem_singleton.2 rfl) e.symm
/-- An object that is no row of cells is written. -/
theorem Omw.setObj {b : Nat} {o o' : Obj} (h : Omw w w0 X ((b, o) :: K)) (ho : ∀ c e, o' ≠ .cells c e (0, 0)) (h1 : w'.heap[b]? = some o') (h2 : ∀ j, j ≠ b → w'.heap[j]? = w.heap[j]?) (h3 : w'.os = w.os) (h4 : w'.tape = w.tape) (h5 : w'.output = w.output) (h6 : w'.heap.size = w.heap.size) : Omw w' w0 X ((b, o') :: K) := by
  have hne : ∀ x ∈ X, x.no ≠ b := fun x hx => h.ne hx (List.mem_cons_self ..)
  have hp := List.pairwise_cons.1 h.apart
  have hbn : w0.heap.size ≤ b := h.new (b, o) (List.mem_cons_self ..)
  refine ⟨⟨⟨h3.trans h.ow.mem.os, h4.trans h.ow.mem.tape, h5.trans h.ow.mem.output, by rw [h6]; exact h.ow.mem.size, fun k hk hx => ?_, h.ow.mem.apart, fun x hx => ?_⟩, h.ow.new⟩, fun y hy => ?_, fun y hy => ?_, fun y hy => ?_, List.pairwise_cons.2 ⟨fun y hy => hp.1 y hy, hp.2⟩⟩
  · rw [h2 k (by omega)]
    exact h.ow.mem.old k hk hx
  · rw [h2 _ (hne x hx)]
    exact h.ow.mem.has x hx
  · rcases List.mem_cons.1 hy with rfl | hy
    · exact h1
    · rw [h2 _ (fun e => hp.1 y hy e.symm)]
      exact h.has y (List.mem_cons_of_mem _ hy)
  · rcases List.mem_cons.1 hy with rfl | hy
    · exact hbn
    · exact h.new y (List.mem_cons_of_mem _ hy)
  · rcases List.mem_cons.1 hy with rfl | hy
    · exact ho
    · exact h.nc y (List.mem_cons_of_mem _ hy)
/-- A map is written. -/
theorem Omw.setMap {b : Nat} {es es' : Array MapEntry} {ck ck' : Nat} (h : Omw w w0 X ((b, .map es ck) :: K)) : Omw (setBlock w b (.map es' ck')) w0 X ((b, .map es' ck') :: K) := by
  have hb : w.heap[b]? = some (.map es ck) := h.has (b, .map es ck) (List.mem_cons_self ..)
  exact h.setObj (by intro c e h; cases h) (heap_setBlock_same hb _) (fun j hj => heap_setBlock_other hb _ hj) rfl rfl rfl (by simp [setBlock])
end

section
variable {P : Program} {w w0 : World} {ops : Array Oper} {rest : List Oper} {o : Oper} {a : Act} {Q : Exit → Act → World → Prop} {X B C L : List Blk} {K : List (Nat × Obj)} {t k e : TypeId} {b : Nat} {es : Array MapEntry} {ck : Nat} {g : BitVec 64 → Option Value}
theorem Omw.look_yes (h : Omw w w0 X ((b, .map es ck) :: K)) (M : MapD es ck g) (T : MapT P t k e) (hgd : o.guard = none) (m x : Operand) (ho : o.op = .lookup t m x true) (hm : a.eval m = .map (some b)) (z : BitVec 64) (hx : a.eval x = .agg #[.int .u8 (by8 z 0), .int .u8 (by8 z 1), .int .u8 (by8 z 2), .int .u8 (by8 z 3), .int .u8 (by8 z 4), .int .u8 (by8 z 5), .int .u8 (by8 z 6), .int .u8 (by8 z 7)]) {v : Value} (hg : g z = some v)
    (h' : wpList P ops Q rest (a.put o.dst (.tuple #[v, .bool true])) w) : wpList P ops Q (o :: rest) a w := by
  have hr := M.look_some T (h.has _ (List.mem_cons_self ..)) z hg true
  refine wpList_plain hgd fun K' hK' => ?_
  unfold Oper.wp
  simp [execOp, ho, hm, hx, hr, Result.andThen]
  exact hK' _ _ h'
theorem Omw.look_no (h : Omw w w0 X ((b, .map es ck) :: K)) (M : MapD es ck g) (T : MapT P t k e) (hgd : o.guard = none) (m x : Operand) (ho : o.op = .lookup t m x true) (hm : a.eval m = .map (some b)) (z : BitVec 64) (hx : a.eval x = .agg #[.int .u8 (by8 z 0), .int .u8 (by8 z 1), .int .u8 (by8 z 2), .int .u8 (by8 z 3), .int .u8 (by8 z 4), .int .u8 (by8 z 5), .int .u8 (by8 z 6), .int .u8 (by8 z 7)]) (hg : g z = none) {v : Value} (hz : (zeroValue e).run P w = .ok v w)
    (h' : wpList P ops Q rest (a.put o.dst (.tuple #[v, .bool false])) w) : wpList P ops Q (o :: rest) a w := by
  have hr := M.look_none T (h.has _ (List.mem_cons_self ..)) z hg hz true
  refine wpList_plain hgd fun K' hK' => ?_
  unfold Oper.wp
  simp [execOp, ho, hm, hx, hr, Result.andThen]
  exact hK' _ _ h'
/-- Without 'ok'. -/
theorem Omw.look (h : Omw w w0 X ((b, .map es ck) :: K)) (M : MapD es ck g) (T : MapT P t k e) (hgd : o.guard = none) (m x : Operand) (ho : o.op = .lookup t m x false) (hm : a.eval m = .map (some b)) (z : BitVec 64) (hx : a.eval x = .agg #[.int .u8 (by8 z 0), .int .u8 (by8 z 1), .int .u8 (by8 z 2), .int .u8 (by8 z 3), .int .u8 (by8 z 4), .int .u8 (by8 z 5), .int .u8 (by8 z 6), .int .u8 (by8 z 7)]) {v : Value} (hz : (zeroValue e).run P w = .ok v w)
    (h' : wpList P ops Q rest (a.put o.dst ((g z).getD v)) w) : wpList P ops Q (o :: rest) a w := by
  refine wpList_plain hgd fun K' hK' => ?_
  unfold Oper.wp
  cases hg : g z with
  | none =>
    have hr := M.look_none T (h.has _ (List.mem_cons_self ..)) z hg hz false
    simp [execOp, ho, hm, hx, hr, Result.andThen]
    rw [hg] at h'
    exact hK' _ _ h'
  | some u =>
    have hr := M.look_some T (h.has _ (List.mem_cons_self ..)) z hg false
    simp [execOp, ho, hm, hx, hr, Result.andThen]
    rw [hg] at h'
    exact hK' _ _ h'
theorem Omw.putM (h : Omw w w0 X ((b, .map es ck) :: K)) (M : MapD es ck g) (T : MapT P t k e) (hgd : o.guard = none) (m x v : Operand) (ho : o.op = .mapUpdate t m x v) (hm : a.eval m = .map (some b)) (z : BitVec 64) (hx : a.eval x = .agg #[.int .u8 (by8 z 0), .int .u8 (by8 z 1), .int .u8 (by8 z 2), .int .u8 (by8 z 3), .int .u8 (by8 z 4), .int .u8 (by8 z 5), .int .u8 (by8 z 6), .int .u8 (by8 z 7)]) (u : Value) (hu : a.eval v = u)
    (h' : ∀ es' ck' w', Omw w' w0 X ((b, .map es' ck') :: K) → MapD es' ck' (putF g z u) → wpList P ops Q rest (a.put o.dst undef) w') : wpList P ops Q (o :: rest) a w := by
  obtain ⟨es', ck', hr, M'⟩ := M.put T (h.has _ (List.mem_cons_self ..)) z u
  refine wpList_plain hgd fun K' hK' => ?_
  unfold Oper.wp
  simp [execOp, ho, hm, hx, hu, hr, Result.andThen]
  exact hK' _ _ (h' es' ck' _ h.setMap M')
theorem Omw.delM (h : Omw w w0 X ((b, .map es ck) :: K)) (M : MapD es ck g) (T : MapT P t k e) (hgd : o.guard = none) (m x : Operand) (kt : TypeId) (ho : o.op = .call { callee := .builtin .delete, args := #[m, x], argTypes := #[t, kt] }) (hm : a.eval m = .map (some b)) (z : BitVec 64) (hx : a.eval x = .agg #[.int .u8 (by8 z 0), .int .u8 (by8 z 1), .int .u8 (by8 z 2), .int .u8 (by8 z 3), .int .u8 (by8 z 4), .int .u8 (by8 z 5), .int .u8 (by8 z 6), .int .u8 (by8 z 7)])
    (h' : ∀ es' w', Omw w' w0 X ((b, .map es' ck) :: K) → MapD es' ck (delF g z) → wpList P ops Q rest (a.put o.dst (.tuple #[])) w') : wpList P ops Q (o :: rest) a w := by
  obtain ⟨es', hr, M'⟩ := M.del T (h.has _ (List.mem_cons_self ..)) z o.type kt
  refine wpList_plain hgd fun K' hK' => ?_
  unfold Oper.wp
  simp [execOp, ho, resolve, invoke, builtin, hm, hx, hr, Result.andThen]
  exact hK' _ _ (h' es' _ h.setMap M')
/-- A store of a whole value, from a cell on. -/
theorem Omw.storeAt {K' : Act → World → Prop} {t : TypeId} {cs : Array Value} (O : Omw w w0 (⟨b, t, cs⟩ :: L) K) (ty : TypeId) (x y : Operand) (ho : o.op = .store ty x y) (off : Nat)
    (hx : a.eval x = .pointer (some ⟨b, off, none⟩)) (vs : Array Value) (hy : a.eval y = .agg vs) (hi : (P.info? ty).map (·.size) = some vs.size) (hs : off + vs.size ≤ cs.size) (h1 : ∀ v ∈ vs.toList, v.oneCell' = true)
    (h : ∀ w', Omw w' w0 (⟨b, t, writeAt cs off vs.toList⟩ :: L) K → K' (a.put o.dst undef) w') : o.wp P a w K' Q :=
  wp_store_mid ty x y ho b off vs hx hy (O.ow.mem.thereAt (List.mem_cons_self ..) off _ hs) hi (by have := all_oneCell_toArray h1; simpa using this) (h _ (O.lays off vs.toList))
theorem Omw.storeAtL {t : TypeId} {cs : Array Value} (O : Omw w w0 (⟨b, t, cs⟩ :: L) K) (hgd : o.guard = none) (ty : TypeId) (x y : Operand) (ho : o.op = .store ty x y) (off : Nat)
    (hx : a.eval x = .pointer (some ⟨b, off, none⟩)) (vs : Array Value) (hy : a.eval y = .agg vs) (hi : (P.info? ty).map (·.size) = some vs.size) (hs : off + vs.size ≤ cs.size) (h1 : ∀ v ∈ vs.toList, v.oneCell' = true)
    (h : ∀ w', Omw w' w0 (⟨b, t, writeAt cs off vs.toList⟩ :: L) K → wpList P ops Q rest (a.put o.dst undef) w') : wpList P ops Q (o :: rest) a w :=
  wpList_plain hgd fun _ hK => O.storeAt ty x y ho off hx vs hy hi hs h1 fun w' O' => hK _ _ (h w' O')
theorem Omw.storeL {t : TypeId} {cs : Array Value} (O : Omw w w0 (⟨b, t, cs⟩ :: L) K) (hgd : o.guard = none) (ty : TypeId) (x y : Operand) (ho : o.op = .store ty x y)
    (hx : a.eval x = .pointer (some ⟨b, 0, none⟩)) (vs : Array Value) (hy : a.eval y = .agg vs) (hi : (P.info? ty).map (·.size) = some vs.size) (hs : vs.size = cs.size) (h1 : ∀ v ∈ vs.toList, v.oneCell' = true)
    (h : ∀ w', Omw w' w0 (⟨b, t, vs⟩ :: L) K → wpList P ops Q rest (a.put o.dst undef) w') : wpList P ops Q (o :: rest) a w :=
  O.storeAtL hgd ty x y ho 0 hx vs hy hi (by omega) h1 fun w' O' => h w' (by rw [writeAt_all _ _ (by simpa using hs)] at O'; simpa using O')
/-- append onto a row: only the row's own block turns. -/
theorem Omw.appendK {K' : Act → World → Prop} {e : TypeId} {sz bytes n : Nat} {v : Value} {xs : List Value} (O : Omw w w0 (B ++ C) K) (s x : Operand) (t : TypeId) (ho : o.op = .call { callee := .builtin .append, args := #[s, x], argTypes := #[t, t] })
    (E : Elt P t e sz bytes) (hs : a.eval s = v) (hR : Row e sz v n xs B)
    (ao : Option Addr) (m c : Nat) (news : List Value) (hx : a.eval x = .slice ao m c) (hl : news.length = m * sz) (hnone : ao = none → m = 0 ∧ c = 0)
    (hc : ∀ ad, ao = some ad → ∀ j u, news[j]? = some u → w.cell? (ad.add j) = some u) (h1 : ∀ u ∈ news, u.oneCell' = true)
    (h63 : n + m ≤ maxLen) (hbytes : (n + m) * bytes ≤ 140737488355328)
    (N : Nat) (hN : n + m = N) (ys : List Value) (hys : xs ++ news = ys)
    (h : ∀ ao' cap' B' w', Row e sz (.slice ao' N cap') N ys B' → Omw w' w0 (B' ++ C) K → K' (a.put o.dst (.slice ao' N cap')) w') :
    o.wp P a w K' Q := by
  have hB : New w0 B := fun y hy => O.ow.new y (by simp [hy])
  have hC : ∀ y ∈ C, w0.heap.size ≤ y.no := fun y hy => O.ow.new y (List.mem_append_right _ hy)
  subst hN hys
  obtain ⟨i, z, ht, hi, hz, hsz, hby, hzs, hpos⟩ := E
  cases ao with
  | some ad =>
    obtain ⟨v', w', hrun, hown, hgrow, _, hat⟩ := run_append_own_at (P := P) w 0 t o.type e i z sz bytes ht hi hz hsz hby hzs hpos v n xs (hR.owns O.ow.mem) ad m c news hl (hc ad rfl) h1 h63 hbytes (Nat.zero_le _)
    obtain ⟨B', h2, h3, h4⟩ := hR.grown O.ow.mem hB hown hgrow hat
    obtain ⟨ao', cap', rfl⟩ := h2.slice
    have hO : Omw w' w0 (B' ++ C) K := O.turned ⟨h3, h4.app hC⟩ fun j hj hne => hgrow.block j hj (by
      rw [hR.ownBlock]
      cases hR with
      | void => simp
      | one r n cap cur h1 h2 h3 => simpa using fun e => hne ⟨r, _, cur⟩ (List.mem_singleton.2 rfl) e.symm)
    unfold Oper.wp
    simp [execOp, ho, resolve, invoke, builtin, hs, hx, hrun, Result.andThen]
    exact h ao' cap' B' w' h2 hO
  | none =>
    obtain ⟨rfl, rfl⟩ := hnone rfl
    have hn : news = [] := List.eq_nil_of_length_eq_zero (by simpa using hl)
    subst hn
    obtain ⟨ao', cap', rfl⟩ := hR.slice
    have hrun := run_append_owned_none (P := P) (w := w) 0 t o.type e i sz ht hi _ n xs (hR.owns O.ow.mem)
    unfold Oper.wp
    simp [execOp, ho, resolve, invoke, builtin, hs, hx, hrun, Result.andThen]
    exact h ao' cap' B w (by simpa using hR) O
theorem Omw.appendRow {e : TypeId} {sz bytes n : Nat} {v : Value} {xs : List Value} (O : Omw w w0 (B ++ C) K) (hgd : o.guard = none) (s x : Operand) (t : TypeId) (ho : o.op = .call { callee := .builtin .append, args := #[s, x], argTypes := #[t, t] })
    (E : Elt P t e sz bytes) (hs : a.eval s = v) (hR : Row e sz v n xs B)
    (ao : Option Addr) (m c : Nat) (news : List Value) (hx : a.eval x = .slice ao m c) (hl : news.length = m * sz) (hnone : ao = none → m = 0 ∧ c = 0)
    (hc : ∀ ad, ao = some ad → ∀ j u, news[j]? = some u → w.cell? (ad.add j) = some u) (h1 : ∀ u ∈ news, u.oneCell' = true)
    (h63 : n + m ≤ maxLen) (hbytes : (n + m) * bytes ≤ 140737488355328)
    (N : Nat) (hN : n + m = N) (ys : List Value) (hys : xs ++ news = ys)
    (h : ∀ ao' cap' B' w', Row e sz (.slice ao' N cap') N ys B' → Omw w' w0 (B' ++ C) K → wpList P ops Q rest (a.put o.dst (.slice ao' N cap')) w') :
    wpList P ops Q (o :: rest) a w :=
  wpList_plain hgd fun _ hK => O.appendK s x t ho E hs hR ao m c news hx hl hnone hc h1 h63 hbytes N hN ys hys fun ao' cap' B' w' R' O' => hK _ _ (h ao' cap' B' w' R' O')
theorem Omw.appendNewK {K' : Act → World → Prop} {e : TypeId} {sz bytes n : Nat} {v : Value} {xs : List Value} (O : Omw w w0 (B ++ C) K) (s x : Operand) (t : TypeId) (ho : o.op = .call { callee := .builtin .append, args := #[s, x], argTypes := #[t, t] })
    (E : Elt P t e sz bytes) (hs : a.eval s = v) (hR : Row e sz v n xs B) (cs : Array Value) (e' : TypeId)
    (k m c : Nat) (hx : a.eval x = .slice (some ⟨k, 0, none⟩) m c) (hk : k = w.heap.size) (hl : cs.size = m * sz) (h1 : ∀ u ∈ cs.toList, u.oneCell' = true)
    (h63 : n + m ≤ maxLen) (hbytes : (n + m) * bytes ≤ 140737488355328)
    (N : Nat) (hN : n + m = N) (ys : List Value) (hys : xs ++ cs.toList = ys)
    (h' : ∀ ao' cap' B' w', Row e sz (.slice ao' N cap') N ys B' → Omw w' w0 (B' ++ C) K → K' (a.put o.dst (.slice ao' N cap')) w') :
    o.wp P a (w.alloc (.cells cs e')) K' Q := by
  refine (O.alloc _).appendK s x t ho E hs hR (some ⟨k, 0, none⟩) m c cs.toList hx (by simpa using hl) (by simp) ?_ h1 h63 hbytes N hN ys hys h'
  intro ad had j u hj
  cases had
  rw [Addr.add_mid, hk, World.cell?_alloc_at _ _ _ _ rfl]
  simpa using hj
theorem Omw.appendNew {e : TypeId} {sz bytes n : Nat} {v : Value} {xs : List Value} (O : Omw w w0 (B ++ C) K) (hgd : o.guard = none) (s x : Operand) (t : TypeId) (ho : o.op = .call { callee := .builtin .append, args := #[s, x], argTypes := #[t, t] })
    (E : Elt P t e sz bytes) (hs : a.eval s = v) (hR : Row e sz v n xs B) (cs : Array Value) (e' : TypeId)
    (k m c : Nat) (hx : a.eval x = .slice (some ⟨k, 0, none⟩) m c) (hk : k = w.heap.size) (hl : cs.size = m * sz) (h1 : ∀ u ∈ cs.toList, u.oneCell' = true)
    (h63 : n + m ≤ maxLen) (hbytes : (n + m) * bytes ≤ 140737488355328)
    (N : Nat) (hN : n + m = N) (ys : List Value) (hys : xs ++ cs.toList = ys)
    (h' : ∀ ao' cap' B' w', Row e sz (.slice ao' N cap') N ys B' → Omw w' w0 (B' ++ C) K → wpList P ops Q rest (a.put o.dst (.slice ao' N cap')) w') :
    wpList P ops Q (o :: rest) a (w.alloc (.cells cs e')) :=
  wpList_plain hgd fun _ hK => O.appendNewK s x t ho E hs hR cs e' k m c hx hk hl h1 h63 hbytes N hN ys hys fun ao' cap' B' w' R' O' => hK _ _ (h' ao' cap' B' w' R' O')
end


end

/-- A map's entries that are still to come, and those that came. -/
theorem left_all (es : Array MapEntry) : leftOf es #[] = es := by
  unfold leftOf
  simp
/-- One more has come. -/
theorem left_push {es : Array MapEntry} (hs : es.toList.Pairwise fun a b => a.born ≠ b.born) (seen : Array Nat) {e : MapEntry} (he : e ∈ (leftOf es seen).toList) : (leftOf es seen).toList.Perm (e :: (leftOf es (seen.push e.born)).toList) := by
  have e1 : (leftOf es seen).toList = es.toList.filter fun x => !seen.contains x.born := by unfold leftOf; rw [Array.toList_filter]
  have e2 : (leftOf es (seen.push e.born)).toList = (leftOf es seen).toList.filter fun x => !(x.born == e.born) := by
    rw [e1]
    unfold leftOf
    rw [Array.toList_filter, List.filter_filter]
    apply List.filter_congr
    intro x _
    rw [Array.contains_push, Bool.not_or, Bool.and_comm]
    try (congr 1; rw [Bool.eq_iff_iff]; simp [eq_comm])
  rw [e2]
  have hp : (leftOf es seen).toList.Pairwise fun a b => a.born ≠ b.born := by
    rw [e1]
    exact hs.sublist List.filter_sublist
  generalize (leftOf es seen).toList = l at he hp
  clear e1 e2
  induction l with
  | nil => cases he
  | cons x l ih =>
    have hp' := List.pairwise_cons.1 hp
    rcases List.mem_cons.1 he with rfl | he
    · have : (e :: l).filter (fun x => !(x.born == e.born)) = l := by
        rw [List.filter_cons_of_neg (by simp)]
        apply List.filter_eq_self.2
        intro y hy
        have := hp'.1 y hy
        simpa using fun q => this q.symm
      rw [this]
    · rw [List.filter_cons_of_pos (by simpa using hp'.1 e he)]
      exact (List.Perm.cons x (ih he hp'.2)).trans (List.Perm.swap e x _)
section
variable {P : Program} {w w0 : World} {ops : Array Oper} {rest : List Oper} {o : Oper} {a : Act} {Q : Exit → Act → World → Prop} {X B C L : List Blk} {K : List (Nat × Obj)} {t k e : TypeId} {b r : Nat} {es : Array MapEntry} {ck : Nat} {g : BitVec 64 → Option Value}
/-- 'range m'. -/
theorem Omw.rangeL (h : Omw w w0 X ((b, .map es ck) :: K)) (T : MapT P t k e) (hgd : o.guard = none) (m : Operand) (ho : o.op = .range t m) (hm : a.eval m = .map (some b))
    (h' : ∀ w' r, Omw w' w0 X ((r, .mapIter (some b) ck #[] ck) :: (b, .map es ck) :: K) → wpList P ops Q rest (a.put o.dst (.pointer (some ⟨r, 0, none⟩))) w') : wpList P ops Q (o :: rest) a w := by
  have hr := run_range_map (P := P) w t k e b es ck T.und (h.has _ (List.mem_cons_self ..))
  refine wpList_plain hgd fun K' hK' => ?_
  unfold Oper.wp
  simp [execOp, ho, hm, hr, Result.andThen]
  exact hK' _ _ (h' _ _ (h.keyObj _ (by intro c e h; cases h) w.heap.size rfl))
/-- The step. -/
theorem Omw.nextL {seen : Array Nat} (h : Omw w w0 X ((r, .mapIter (some b) ck seen ck) :: (b, .map es ck) :: K)) (M : MapD es ck g) (hgd : o.guard = none) (it : Operand) (ho : o.op = .next it false) (hit : a.eval it = .pointer (some ⟨r, 0, none⟩))
    (hDone : leftOf es seen = #[] → wpList P ops Q rest (a.put o.dst (.tuple #[.bool false])) w)
    (hMore : ∀ x w', x ∈ (leftOf es seen).toList → Omw w' w0 X ((r, .mapIter (some b) ck (seen.push x.born) ck) :: (b, .map es ck) :: K) → (Instr.entry (.pointer (some ⟨r, 0, none⟩))).run P w' = .ok (.tuple #[x.key, x.val]) w' → wpList P ops Q rest (a.put o.dst (.tuple #[.bool true, x.key, x.val])) w') :
    wpList P ops Q (o :: rest) a w := by
  have hr := h.has (r, .mapIter (some b) ck seen ck) (List.mem_cons_self ..)
  have hb := h.has (b, .map es ck) (List.mem_cons_of_mem _ (List.mem_cons_self ..))
  refine wpList_plain hgd fun K' hK' => ?_
  unfold Oper.wp
  rcases run_next_at (P := P) w o.type r b ck ck seen es ck hr hb M.born (Nat.le_refl _) with ⟨h0, hrun⟩ | ⟨x, hx, w1, hw1, hrun⟩
  · simp [execOp, ho, hit, hrun, Result.andThen]
    exact hK' _ _ (hDone (Array.eq_empty_of_size_eq_zero h0))
  · simp [execOp, ho, hit, hrun, Result.andThen]
    have h1 : Omw w1 w0 X ((r, .mapIter (some b) ck seen ck) :: (b, .map es ck) :: K) := by
      rcases hw1 with rfl | rfl
      · exact h
      · exact h.drew
    have hr1 := h1.has (r, .mapIter (some b) ck seen ck) (List.mem_cons_self ..)
    have h2 : Omw (setBlock w1 r (.mapIter (some b) ck (seen.push x.born) ck)) w0 X ((r, .mapIter (some b) ck (seen.push x.born) ck) :: (b, .map es ck) :: K) :=
      h1.setObj (by intro c e h; cases h) (by unfold setBlock; simp [(Array.getElem?_eq_some_iff.1 hr1).1]) (fun j hj => by unfold setBlock; simp [Array.getElem?_setIfInBounds, Ne.symm hj]) rfl rfl rfl (by simp [setBlock])
    refine hK' _ _ (hMore x _ hx h2 ?_)
    have hxe : x ∈ es.toList := by
      unfold leftOf at hx
      rw [Array.toList_filter] at hx
      exact (List.mem_filter.1 hx).1
    exact run_entry_at _ r b ck seen es ck x (h2.has _ (List.mem_cons_self ..)) (h2.has _ (List.mem_cons_of_mem _ (List.mem_cons_self ..))) hxe (List.pairwise_map.2 M.stamps)
/-- 'make(map[..]..)'. -/
theorem Omw.makeL (h : Omw w w0 X K) (hgd : o.guard = none) (ho : o.op = .makeMap t none)
    (h' : Omw (w.alloc (.map #[] 0)) w0 X ((w.heap.size, .map #[] 0) :: K) → wpList P ops Q rest (a.put o.dst (.map (some w.heap.size))) (w.alloc (.map #[] 0))) : wpList P ops Q (o :: rest) a w := by
  refine wpList_plain hgd fun K' hK' => ?_
  unfold Oper.wp
  simp [execOp, ho, Instr.makeMap, Result.andThen, Sem.run]
  exact hK' _ _ (h' (h.keyMap w.heap.size rfl))
end

/-! ### The same for one operation -/
section
variable {P : Program} {w w0 : World} {o : Oper} {a : Act} {Q : Exit → Act → World → Prop} {K' : Act → World → Prop} {X : List Blk} {K : List (Nat × Obj)} {t k e : TypeId} {b : Nat} {es : Array MapEntry} {ck : Nat} {g : BitVec 64 → Option Value}
theorem Omw.lookK (h : Omw w w0 X ((b, .map es ck) :: K)) (M : MapD es ck g) (T : MapT P t k e) (m x : Operand) (ho : o.op = .lookup t m x false) (hm : a.eval m = .map (some b)) (z : BitVec 64) (hx : a.eval x = .agg #[.int .u8 (by8 z 0), .int .u8 (by8 z 1), .int .u8 (by8 z 2), .int .u8 (by8 z 3), .int .u8 (by8 z 4), .int .u8 (by8 z 5), .int .u8 (by8 z 6), .int .u8 (by8 z 7)]) {v : Value} (hz : (zeroValue e).run P w = .ok v w)
    (h' : K' (a.put o.dst ((g z).getD v)) w) : o.wp P a w K' Q := by
  unfold Oper.wp
  cases hg : g z with
  | none =>
    have hr := M.look_none T (h.has _ (List.mem_cons_self ..)) z hg hz false
    simp [execOp, ho, hm, hx, hr, Result.andThen]
    rw [hg] at h'
    exact h'
  | some u =>
    have hr := M.look_some T (h.has _ (List.mem_cons_self ..)) z hg false
    simp [execOp, ho, hm, hx, hr, Result.andThen]
    rw [hg] at h'
    exact h'
theorem Omw.look2K (h : Omw w w0 X ((b, .map es ck) :: K)) (M : MapD es ck g) (T : MapT P t k e) (m x : Operand) (ho : o.op = .lookup t m x true) (hm : a.eval m = .map (some b)) (z : BitVec 64) (hx : a.eval x = .agg #[.int .u8 (by8 z 0), .int .u8 (by8 z 1), .int .u8 (by8 z 2), .int .u8 (by8 z 3), .int .u8 (by8 z 4), .int .u8 (by8 z 5), .int .u8 (by8 z 6), .int .u8 (by8 z 7)]) {v : Value} (hz : (zeroValue e).run P w = .ok v w)
    (h' : K' (a.put o.dst (.tuple #[(g z).getD v, .bool (g z).isSome])) w) : o.wp P a w K' Q := by
  unfold Oper.wp
  cases hg : g z with
  | none =>
    have hr := M.look_none T (h.has _ (List.mem_cons_self ..)) z hg hz true
    simp [execOp, ho, hm, hx, hr, Result.andThen]
    rw [hg] at h'
    exact h'
  | some u =>
    have hr := M.look_some T (h.has _ (List.mem_cons_self ..)) z hg true
    simp [execOp, ho, hm, hx, hr, Result.andThen]
    rw [hg] at h'
    exact h'
theorem Omw.putK (h : Omw w w0 X ((b, .map es ck) :: K)) (M : MapD es ck g) (T : MapT P t k e) (m x v : Operand) (ho : o.op = .mapUpdate t m x v) (hm : a.eval m = .map (some b)) (z : BitVec 64) (hx : a.eval x = .agg #[.int .u8 (by8 z 0), .int .u8 (by8 z 1), .int .u8 (by8 z 2), .int .u8 (by8 z 3), .int .u8 (by8 z 4), .int .u8 (by8 z 5), .int .u8 (by8 z 6), .int .u8 (by8 z 7)]) (u : Value) (hu : a.eval v = u)
    (h' : ∀ es' ck' w', Omw w' w0 X ((b, .map es' ck') :: K) → MapD es' ck' (putF g z u) → K' (a.put o.dst undef) w') : o.wp P a w K' Q := by
  obtain ⟨es', ck', hr, M'⟩ := M.put T (h.has _ (List.mem_cons_self ..)) z u
  unfold Oper.wp
  simp [execOp, ho, hm, hx, hu, hr, Result.andThen]
  exact h' es' ck' _ h.setMap M'
theorem Omw.delK (h : Omw w w0 X ((b, .map es ck) :: K)) (M : MapD es ck g) (T : MapT P t k e) (m x : Operand) (kt : TypeId) (ho : o.op = .call { callee := .builtin .delete, args := #[m, x], argTypes := #[t, kt] }) (hm : a.eval m = .map (some b)) (z : BitVec 64) (hx : a.eval x = .agg #[.int .u8 (by8 z 0), .int .u8 (by8 z 1), .int .u8 (by8 z 2), .int .u8 (by8 z 3), .int .u8 (by8 z 4), .int .u8 (by8 z 5), .int .u8 (by8 z 6), .int .u8 (by8 z 7)])
    (h' : ∀ es' w', Omw w' w0 X ((b, .map es' ck) :: K) → MapD es' ck (delF g z) → K' (a.put o.dst (.tuple #[])) w') : o.wp P a w K' Q := by
  obtain ⟨es', hr, M'⟩ := M.del T (h.has _ (List.mem_cons_self ..)) z o.type kt
  unfold Oper.wp
  simp [execOp, ho, resolve, invoke, builtin, hm, hx, hr, Result.andThen]
  exact h' es' _ h.setMap M'
end

end Go.Proofs.Ytghaiplhakeahaa
