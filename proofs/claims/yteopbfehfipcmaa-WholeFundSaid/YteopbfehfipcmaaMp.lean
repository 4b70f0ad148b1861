/- Maps keyed by digests: what a map's block holds, as a function; look-up, store, delete. Over any program. -/
import Derived.Test.YteopbfehfipcmaaMsg
import Derived.Test.YteopbfehfipcmaaEqd
import Derived.Maps.OwnSet
import Derived.WideKeyArr
namespace Go.Proofs.Yteopbfehfipcmaa
set_option linter.unusedSimpArgs false
set_option linter.unusedVariables false
open Go.RowKit Go.WideMaps Go.ChangeMaps Go.Maps

theorem dgv_inj {x y : BitVec 64} (h : (.agg #[.int .u8 (by8 x 0), .int .u8 (by8 x 1), .int .u8 (by8 x 2), .int .u8 (by8 x 3), .int .u8 (by8 x 4), .int .u8 (by8 x 5), .int .u8 (by8 x 6), .int .u8 (by8 x 7)] : Value) = .agg #[.int .u8 (by8 y 0), .int .u8 (by8 y 1), .int .u8 (by8 y 2), .int .u8 (by8 y 3), .int .u8 (by8 y 4), .int .u8 (by8 y 5), .int .u8 (by8 y 6), .int .u8 (by8 y 7)]) : x = y := by
  simp only [Value.agg.injEq, Array.mk.injEq, List.cons.injEq, Value.int.injEq, true_and, and_true] at h
  obtain ⟨h0, h1, h2, h3, h4, h5, h6, h7⟩ := h
  refine by8_inj fun i hi => ?_
  match i, hi with
  | 0, _ => exact h0
  | 1, _ => exact h1
  | 2, _ => exact h2
  | 3, _ => exact h3
  | 4, _ => exact h4
  | 5, _ => exact h5
  | 6, _ => exact h6
  | 7, _ => exact h7
theorem by8_wf (x : BitVec 64) (i : Nat) : (Lit.int .u8 (by8 x i)).wf = true := by
  have := by8_bd x i
  simp [Lit.wf, IntKind.min, IntKind.max, IntKind.signed, IntKind.bits]
  omega
theorem dig_keyOf {P : Program} {k e : TypeId} (A : ArrKey P k e 8) (he : P.underlying e = some (.int .u8)) (hsz : ∃ m, P.types.size = m + 1) (x : BitVec 64) : ∃ l, keyOf P k (.agg #[.int .u8 (by8 x 0), .int .u8 (by8 x 1), .int .u8 (by8 x 2), .int .u8 (by8 x 3), .int .u8 (by8 x 4), .int .u8 (by8 x 5), .int .u8 (by8 x 6), .int .u8 (by8 x 7)]) = some l := by
  have hkt := A.keyType hsz
  obtain ⟨m, hm⟩ := hsz
  unfold keyOf
  simp only [A.hu]
  rw [if_pos (by simp [hkt, Value.formed, A.hu, A.size]), hm]
  unfold Program.keyLits
  simp only [A.hu, Value.cells]
  rw [if_pos (by rw [A.size]; rfl), show List.range 8 = [0, 1, 2, 3, 4, 5, 6, 7] from rfl]
  simp [A.one, Program.keyLits, he, by8_wf]

/-- What is needed of a type of maps. -/
structure MapT (P : Program) (t k e : TypeId) : Prop where
  keyed : Keyed P k
  key : ∀ x : BitVec 64, ∃ l, keyOf P k (.agg #[.int .u8 (by8 x 0), .int .u8 (by8 x 1), .int .u8 (by8 x 2), .int .u8 (by8 x 3), .int .u8 (by8 x 4), .int .u8 (by8 x 5), .int .u8 (by8 x 6), .int .u8 (by8 x 7)]) = some l
  und : P.underlying t = some (.map k e)

/-- The entries es are the function g. -/
structure MapD (es : Array MapEntry) (ck : Nat) (g : BitVec 64 → Option Value) : Prop where
  keys : ∀ e ∈ es.toList, ∃ x, e.key = .agg #[.int .u8 (by8 x 0), .int .u8 (by8 x 1), .int .u8 (by8 x 2), .int .u8 (by8 x 3), .int .u8 (by8 x 4), .int .u8 (by8 x 5), .int .u8 (by8 x 6), .int .u8 (by8 x 7)]
  apart : es.toList.Pairwise fun a b => a.key ≠ b.key
  get : ∀ x v, g x = some v ↔ ∃ e ∈ es.toList, e.key = .agg #[.int .u8 (by8 x 0), .int .u8 (by8 x 1), .int .u8 (by8 x 2), .int .u8 (by8 x 3), .int .u8 (by8 x 4), .int .u8 (by8 x 5), .int .u8 (by8 x 6), .int .u8 (by8 x 7)] ∧ e.val = v
  born : ∀ e ∈ es.toList, e.born < ck
  stamps : es.toList.Pairwise fun a b => a.born ≠ b.born
theorem MapD.empty : MapD #[] 0 fun _ => none := ⟨by simp, by simp, by simp, by simp, by simp⟩
section
variable {P : Program} {t k e : TypeId} {es : Array MapEntry} {ck b : Nat} {g : BitVec 64 → Option Value} {w : World}
theorem MapD.keyed (M : MapD es ck g) (T : MapT P t k e) : ∀ x ∈ es.toList, ∃ l, keyOf P k x.key = some l := fun x hx => by
  obtain ⟨y, hy⟩ := M.keys x hx
  rw [hy]; exact T.key y
theorem MapD.find (M : MapD es ck g) (T : MapT P t k e) (x : BitVec 64) : ((Instr.findKey k (.agg #[.int .u8 (by8 x 0), .int .u8 (by8 x 1), .int .u8 (by8 x 2), .int .u8 (by8 x 3), .int .u8 (by8 x 4), .int .u8 (by8 x 5), .int .u8 (by8 x 6), .int .u8 (by8 x 7)]) es.toList).run P w = .ok none w ∧ g x = none ∧ ∀ y ∈ es.toList, y.key ≠ .agg #[.int .u8 (by8 x 0), .int .u8 (by8 x 1), .int .u8 (by8 x 2), .int .u8 (by8 x 3), .int .u8 (by8 x 4), .int .u8 (by8 x 5), .int .u8 (by8 x 6), .int .u8 (by8 x 7)]) ∨ ∃ j y, (Instr.findKey k (.agg #[.int .u8 (by8 x 0), .int .u8 (by8 x 1), .int .u8 (by8 x 2), .int .u8 (by8 x 3), .int .u8 (by8 x 4), .int .u8 (by8 x 5), .int .u8 (by8 x 6), .int .u8 (by8 x 7)]) es.toList).run P w = .ok (some (j, y.val)) w ∧ es.toList[j]? = some y ∧ y.key = .agg #[.int .u8 (by8 x 0), .int .u8 (by8 x 1), .int .u8 (by8 x 2), .int .u8 (by8 x 3), .int .u8 (by8 x 4), .int .u8 (by8 x 5), .int .u8 (by8 x 6), .int .u8 (by8 x 7)] ∧ g x = some y.val := by
  obtain ⟨l, hl⟩ := T.key x
  rcases T.keyed.find w hl es.toList (M.keyed T) with ⟨h1, h2⟩ | ⟨j, y, h1, h2, h3⟩
  · refine .inl ⟨h1, ?_, h2⟩
    cases hg : g x with
    | none => rfl
    | some v =>
      obtain ⟨y, hy, hk, -⟩ := (M.get x v).1 hg
      exact absurd hk (h2 y hy)
  · exact .inr ⟨j, y, h1, h2, h3, (M.get x y.val).2 ⟨y, List.mem_of_getElem? h2, h3, rfl⟩⟩
theorem MapD.look_some (M : MapD es ck g) (T : MapT P t k e) (hb : w.heap[b]? = some (.map es ck)) (x : BitVec 64) {v : Value} (hg : g x = some v) (c : Bool) :
    (Instr.lookup t (.map (some b)) (.agg #[.int .u8 (by8 x 0), .int .u8 (by8 x 1), .int .u8 (by8 x 2), .int .u8 (by8 x 3), .int .u8 (by8 x 4), .int .u8 (by8 x 5), .int .u8 (by8 x 6), .int .u8 (by8 x 7)]) c).run P w = .ok (if c then .tuple #[v, .bool true] else v) w := by
  obtain ⟨l, hl⟩ := T.key x
  have hck := T.keyed.check w es.isEmpty hl
  rcases M.find T x (w := w) with ⟨-, h2, -⟩ | ⟨j, y, h1, -, -, h4⟩
  · rw [hg] at h2; cases h2
  · rw [hg] at h4
    cases h4
    simp [Instr.lookup, run_underlying T.und, MapKept.run_getObj_map hb, hck, h1, Result.andThen]
theorem MapD.look_none (M : MapD es ck g) (T : MapT P t k e) (hb : w.heap[b]? = some (.map es ck)) (x : BitVec 64) (hg : g x = none) {z : Value} (hz : (zeroValue e).run P w = .ok z w) (c : Bool) :
    (Instr.lookup t (.map (some b)) (.agg #[.int .u8 (by8 x 0), .int .u8 (by8 x 1), .int .u8 (by8 x 2), .int .u8 (by8 x 3), .int .u8 (by8 x 4), .int .u8 (by8 x 5), .int .u8 (by8 x 6), .int .u8 (by8 x 7)]) c).run P w = .ok (if c then .tuple #[z, .bool false] else z) w := by
  obtain ⟨l, hl⟩ := T.key x
  have hck := T.keyed.check w es.isEmpty hl
  rcases M.find T x (w := w) with ⟨h1, -, -⟩ | ⟨j, y, -, -, -, h4⟩
  · simp [Instr.lookup, run_underlying T.und, MapKept.run_getObj_map hb, hck, h1, hz, Result.andThen]
  · rw [hg] at h4; cases h4
def putF (g : BitVec 64 → Option Value) (x : BitVec 64) (v : Value) : BitVec 64 → Option Value := fun y => if y = x then some v else g y
def delF (g : BitVec 64 → Option Value) (x : BitVec 64) : BitVec 64 → Option Value := fun y => if y = x then none else g y
theorem MapD.put_new (M : MapD es ck g) (x : BitVec 64) (v : Value) (h : ∀ y ∈ es.toList, y.key ≠ .agg #[.int .u8 (by8 x 0), .int .u8 (by8 x 1), .int .u8 (by8 x 2), .int .u8 (by8 x 3), .int .u8 (by8 x 4), .int .u8 (by8 x 5), .int .u8 (by8 x 6), .int .u8 (by8 x 7)]) : MapD (es.push ⟨.agg #[.int .u8 (by8 x 0), .int .u8 (by8 x 1), .int .u8 (by8 x 2), .int .u8 (by8 x 3), .int .u8 (by8 x 4), .int .u8 (by8 x 5), .int .u8 (by8 x 6), .int .u8 (by8 x 7)], v, ck⟩) (ck + 1) (putF g x v) := by
  refine ⟨fun y hy => ?_, ?_, fun z u => ?_, fun y hy => ?_, ?_⟩
  rotate_left 3
  · simp only [Array.toList_push, List.mem_append, List.mem_singleton] at hy
    rcases hy with hy | rfl
    · have := M.born y hy; omega
    · show ck < ck + 1; omega
  · rw [Array.toList_push, List.pairwise_append]
    refine ⟨M.stamps, by simp, fun a ha b hb => ?_⟩
    rw [List.mem_singleton] at hb
    subst hb
    have := M.born a ha
    show a.born ≠ ck
    omega
  · simp only [Array.toList_push, List.mem_append, List.mem_singleton] at hy
    rcases hy with hy | rfl
    · exact M.keys y hy
    · exact ⟨x, rfl⟩
  · rw [Array.toList_push, List.pairwise_append]
    refine ⟨M.apart, by simp, fun a ha b hb => ?_⟩
    rw [List.mem_singleton] at hb
    subst hb
    exact h a ha
  · simp only [Array.toList_push, List.mem_append, List.mem_singleton, putF]
    by_cases hz : z = x
    · subst hz
      rw [if_pos rfl]
      constructor
      · intro hu
        cases hu
        exact ⟨_, .inr rfl, rfl, rfl⟩
      · rintro ⟨y, hy | rfl, h1, h2⟩
        · exact absurd h1 (h y hy)
        · rw [← h2]
    · rw [if_neg hz, M.get]
      constructor
      · rintro ⟨y, hy, h1, h2⟩
        exact ⟨y, .inl hy, h1, h2⟩
      · rintro ⟨y, hy | rfl, h1, h2⟩
        · exact ⟨y, hy, h1, h2⟩
        · exact absurd (dgv_inj h1).symm hz
theorem MapD.put_old (M : MapD es ck g) (x : BitVec 64) (v : Value) {j : Nat} {y : MapEntry} (hj : es.toList[j]? = some y) (hy : y.key = .agg #[.int .u8 (by8 x 0), .int .u8 (by8 x 1), .int .u8 (by8 x 2), .int .u8 (by8 x 3), .int .u8 (by8 x 4), .int .u8 (by8 x 5), .int .u8 (by8 x 6), .int .u8 (by8 x 7)]) : MapD (es.modify j fun e => { e with key := .agg #[.int .u8 (by8 x 0), .int .u8 (by8 x 1), .int .u8 (by8 x 2), .int .u8 (by8 x 3), .int .u8 (by8 x 4), .int .u8 (by8 x 5), .int .u8 (by8 x 6), .int .u8 (by8 x 7)], val := v }) ck (putF g x v) := by
  have hl : (es.modify j fun e => { e with key := .agg #[.int .u8 (by8 x 0), .int .u8 (by8 x 1), .int .u8 (by8 x 2), .int .u8 (by8 x 3), .int .u8 (by8 x 4), .int .u8 (by8 x 5), .int .u8 (by8 x 6), .int .u8 (by8 x 7)], val := v }).toList = es.toList.set j { y with key := .agg #[.int .u8 (by8 x 0), .int .u8 (by8 x 1), .int .u8 (by8 x 2), .int .u8 (by8 x 3), .int .u8 (by8 x 4), .int .u8 (by8 x 5), .int .u8 (by8 x 6), .int .u8 (by8 x 7)], val := v } := by
    rw [Array.toList_modify]
    apply List.ext_getElem?
    intro i
    rw [List.getElem?_modify, List.getElem?_set]
    by_cases h1 : j = i
    · subst h1
      rw [hj, if_pos rfl, if_pos (List.getElem?_eq_some_iff.1 hj).1]
      simp
    · rw [if_neg h1]
      simp [h1]
  have hjl : j < es.toList.length := (List.getElem?_eq_some_iff.1 hj).1
  have hmem : ∀ e, e ∈ es.toList.set j { y with key := .agg #[.int .u8 (by8 x 0), .int .u8 (by8 x 1), .int .u8 (by8 x 2), .int .u8 (by8 x 3), .int .u8 (by8 x 4), .int .u8 (by8 x 5), .int .u8 (by8 x 6), .int .u8 (by8 x 7)], val := v } ↔ e = { y with key := .agg #[.int .u8 (by8 x 0), .int .u8 (by8 x 1), .int .u8 (by8 x 2), .int .u8 (by8 x 3), .int .u8 (by8 x 4), .int .u8 (by8 x 5), .int .u8 (by8 x 6), .int .u8 (by8 x 7)], val := v } ∨ ∃ i, i ≠ j ∧ es.toList[i]? = some e := fun e => by
    constructor
    · intro h
      obtain ⟨i, hi⟩ := List.mem_iff_getElem?.1 h
      rw [List.getElem?_set] at hi
      by_cases h1 : j = i
      · subst h1
        rw [if_pos rfl, if_pos hjl] at hi
        cases hi
        exact .inl rfl
      · rw [if_neg h1] at hi
        exact .inr ⟨i, fun e => h1 e.symm, hi⟩
    · rintro (rfl | ⟨i, h1, h2⟩)
      · exact List.mem_iff_getElem?.2 ⟨j, by rw [List.getElem?_set, if_pos rfl, if_pos hjl]⟩
      · exact List.mem_iff_getElem?.2 ⟨i, by rw [List.getElem?_set, if_neg (fun e => h1 e.symm)]; exact h2⟩
  have hne : ∀ i e, i ≠ j → es.toList[i]? = some e → e.key ≠ .agg #[.int .u8 (by8 x 0), .int .u8 (by8 x 1), .int .u8 (by8 x 2), .int .u8 (by8 x 3), .int .u8 (by8 x 4), .int .u8 (by8 x 5), .int .u8 (by8 x 6), .int .u8 (by8 x 7)] := fun i e h1 h2 h3 => by
    have hp := List.pairwise_iff_getElem.1 M.apart
    have hil : i < es.toList.length := (List.getElem?_eq_some_iff.1 h2).1
    have e1 := (List.getElem?_eq_some_iff.1 h2).2
    have e2 := (List.getElem?_eq_some_iff.1 hj).2
    rcases Nat.lt_or_gt_of_ne h1 with h | h
    · exact hp i j hil hjl h (by rw [e1, e2, h3, hy])
    · exact hp j i hjl hil h (by rw [e1, e2, h3, hy])
  refine ⟨fun a ha => ?_, ?_, fun z u => ?_, fun a ha => ?_, ?_⟩
  rotate_left 3
  · rw [hl] at ha
    rcases (hmem a).1 ha with rfl | ⟨i, -, h2⟩
    · exact M.born y (List.mem_of_getElem? hj)
    · exact M.born a (List.mem_of_getElem? h2)
  · rw [hl]
    have hk : (es.toList.set j { y with key := .agg #[.int .u8 (by8 x 0), .int .u8 (by8 x 1), .int .u8 (by8 x 2), .int .u8 (by8 x 3), .int .u8 (by8 x 4), .int .u8 (by8 x 5), .int .u8 (by8 x 6), .int .u8 (by8 x 7)], val := v }).map (·.born) = es.toList.map (·.born) := by
      rw [List.map_set]
      apply List.ext_getElem?
      intro i
      rw [List.getElem?_set]
      by_cases h1 : j = i
      · subst h1
        rw [if_pos rfl, if_pos (by simpa using hjl), List.getElem?_map, hj]
        simp
      · rw [if_neg h1]
    have := List.pairwise_map.1 (hk ▸ List.pairwise_map.2 M.stamps : ((es.toList.set j { y with key := .agg #[.int .u8 (by8 x 0), .int .u8 (by8 x 1), .int .u8 (by8 x 2), .int .u8 (by8 x 3), .int .u8 (by8 x 4), .int .u8 (by8 x 5), .int .u8 (by8 x 6), .int .u8 (by8 x 7)], val := v }).map (·.born)).Pairwise (· ≠ ·))
    exact this
  · rw [hl] at ha
    rcases (hmem a).1 ha with rfl | ⟨i, -, h2⟩
    · exact ⟨x, rfl⟩
    · exact M.keys a (List.mem_of_getElem? h2)
  · rw [hl]
    have hk : (es.toList.set j { y with key := .agg #[.int .u8 (by8 x 0), .int .u8 (by8 x 1), .int .u8 (by8 x 2), .int .u8 (by8 x 3), .int .u8 (by8 x 4), .int .u8 (by8 x 5), .int .u8 (by8 x 6), .int .u8 (by8 x 7)], val := v }).map (·.key) = es.toList.map (·.key) := by
      rw [List.map_set]
      apply List.ext_getElem?
      intro i
      rw [List.getElem?_set]
      by_cases h1 : j = i
      · subst h1
        rw [if_pos rfl, if_pos (by simpa using hjl), List.getElem?_map, hj]
        simp [hy]
      · rw [if_neg h1]
    have := List.pairwise_map.1 (hk ▸ List.pairwise_map.2 M.apart : ((es.toList.set j { y with key := .agg #[.int .u8 (by8 x 0), .int .u8 (by8 x 1), .int .u8 (by8 x 2), .int .u8 (by8 x 3), .int .u8 (by8 x 4), .int .u8 (by8 x 5), .int .u8 (by8 x 6), .int .u8 (by8 x 7)], val := v }).map (·.key)).Pairwise (· ≠ ·))
    exact this
  · rw [hl]
    unfold putF
    by_cases hz : z = x
    · subst hz
      rw [if_pos rfl]
      constructor
      · intro hu
        cases hu
        exact ⟨_, (hmem _).2 (.inl rfl), rfl, rfl⟩
      · rintro ⟨a, ha, h1, h2⟩
        rcases (hmem a).1 ha with rfl | ⟨i, h3, h4⟩
        · rw [← h2]
        · exact absurd h1 (hne i a h3 h4)
    · rw [if_neg hz, M.get]
      constructor
      · rintro ⟨a, ha, h1, h2⟩
        obtain ⟨i, hi⟩ := List.mem_iff_getElem?.1 ha
        refine ⟨a, (hmem a).2 (.inr ⟨i, fun e => ?_, hi⟩), h1, h2⟩
        subst e
        rw [hj] at hi
        cases hi
        rw [hy] at h1
        exact hz (dgv_inj h1).symm
      · rintro ⟨a, ha, h1, h2⟩
        rcases (hmem a).1 ha with rfl | ⟨i, h3, h4⟩
        · exact absurd (dgv_inj h1).symm hz
        · exact ⟨a, List.mem_of_getElem? h4, h1, h2⟩
theorem MapD.put (M : MapD es ck g) (T : MapT P t k e) (hb : w.heap[b]? = some (.map es ck)) (x : BitVec 64) (v : Value) :
    ∃ es' ck', (Instr.mapUpdate t (.map (some b)) (.agg #[.int .u8 (by8 x 0), .int .u8 (by8 x 1), .int .u8 (by8 x 2), .int .u8 (by8 x 3), .int .u8 (by8 x 4), .int .u8 (by8 x 5), .int .u8 (by8 x 6), .int .u8 (by8 x 7)]) v).run P w = .ok () (setBlock w b (.map es' ck')) ∧ MapD es' ck' (putF g x v) := by
  obtain ⟨l, hl⟩ := T.key x
  have hck := T.keyed.check w false hl
  rcases M.find T x (w := w) with ⟨h1, -, h3⟩ | ⟨j, y, h1, h2, h3, -⟩
  · exact ⟨es.push ⟨.agg #[.int .u8 (by8 x 0), .int .u8 (by8 x 1), .int .u8 (by8 x 2), .int .u8 (by8 x 3), .int .u8 (by8 x 4), .int .u8 (by8 x 5), .int .u8 (by8 x 6), .int .u8 (by8 x 7)], v, ck⟩, ck + 1, by simp [Instr.mapUpdate, run_underlying T.und, MapKept.run_getObj_map hb, hck, h1, MapKept.run_setObj_map _ hb, Result.andThen, setBlock], M.put_new x v h3⟩
  · have hst := T.keyed.stays w hl
    have hj2 : es[j]? = some y := by simpa using h2
    refine ⟨es.modify j fun e => { e with key := .agg #[.int .u8 (by8 x 0), .int .u8 (by8 x 1), .int .u8 (by8 x 2), .int .u8 (by8 x 3), .int .u8 (by8 x 4), .int .u8 (by8 x 5), .int .u8 (by8 x 6), .int .u8 (by8 x 7)], val := v }, ck, ?_, M.put_old x v h2 h3⟩
    simp [Instr.mapUpdate, run_underlying T.und, MapKept.run_getObj_map hb, hck, h1, hj2, h3, hst, MapKept.run_setObj_map _ hb, Result.andThen, setBlock]
theorem MapD.del (M : MapD es ck g) (T : MapT P t k e) (hb : w.heap[b]? = some (.map es ck)) (x : BitVec 64) (ty kt : TypeId) :
    ∃ es', (Builtin.delete_ #[t, kt] ty #[.map (some b), .agg #[.int .u8 (by8 x 0), .int .u8 (by8 x 1), .int .u8 (by8 x 2), .int .u8 (by8 x 3), .int .u8 (by8 x 4), .int .u8 (by8 x 5), .int .u8 (by8 x 6), .int .u8 (by8 x 7)]]).run P w = .ok (.tuple #[]) (setBlock w b (.map es' ck)) ∧ MapD es' ck (delF g x) := by
  obtain ⟨l, hl⟩ := T.key x
  have hck := T.keyed.check w es.isEmpty hl
  rcases M.find T x (w := w) with ⟨h1, h2, h3⟩ | ⟨j, y, h1, h2, h3, -⟩
  · refine ⟨es, by simp [Builtin.delete_, run_underlying T.und, MapKept.run_getObj_map hb, hck, h1, MapKept.run_setObj_map _ hb, Result.andThen, setBlock], M.keys, M.apart, fun z u => ?_, M.born, M.stamps⟩
    unfold delF
    by_cases hz : z = x
    · subst hz
      rw [if_pos rfl]
      constructor
      · intro h; cases h
      · rintro ⟨a, ha, h4, -⟩
        exact absurd h4 (h3 a ha)
    · rw [if_neg hz, M.get]
  · have hjl : j < es.toList.length := (List.getElem?_eq_some_iff.1 h2).1
    have hjs : j < es.size := by simpa using hjl
    have hle : (es.eraseIdxIfInBounds j).toList = es.toList.eraseIdx j := by
      simp [Array.eraseIdxIfInBounds, hjs]
    have hmem : ∀ a, a ∈ es.toList.eraseIdx j ↔ ∃ i, i ≠ j ∧ es.toList[i]? = some a := fun a => List.mem_eraseIdx_iff_getElem?
    have hne : ∀ i a, i ≠ j → es.toList[i]? = some a → a.key ≠ .agg #[.int .u8 (by8 x 0), .int .u8 (by8 x 1), .int .u8 (by8 x 2), .int .u8 (by8 x 3), .int .u8 (by8 x 4), .int .u8 (by8 x 5), .int .u8 (by8 x 6), .int .u8 (by8 x 7)] := fun i a h4 h5 h6 => by
      have hp := List.pairwise_iff_getElem.1 M.apart
      have hil : i < es.toList.length := (List.getElem?_eq_some_iff.1 h5).1
      have e1 := (List.getElem?_eq_some_iff.1 h5).2
      have e2 := (List.getElem?_eq_some_iff.1 h2).2
      rcases Nat.lt_or_gt_of_ne h4 with h | h
      · exact hp i j hil hjl h (by rw [e1, e2, h6, h3])
      · exact hp j i hjl hil h (by rw [e1, e2, h6, h3])
    refine ⟨es.eraseIdxIfInBounds j, by simp [Builtin.delete_, run_underlying T.und, MapKept.run_getObj_map hb, hck, h1, MapKept.run_setObj_map _ hb, Result.andThen, setBlock], fun a ha => ?_, ?_, fun z u => ?_, fun a ha => ?_, ?_⟩
    rotate_left 3
    · rw [hle] at ha
      exact M.born a (List.mem_of_mem_eraseIdx ha)
    · rw [hle]
      exact M.stamps.sublist (List.eraseIdx_sublist _ _)
    · rw [hle] at ha
      exact M.keys a (List.mem_of_mem_eraseIdx ha)
    · rw [hle]
      exact M.apart.sublist (List.eraseIdx_sublist _ _)
    · rw [hle]
      unfold delF
      by_cases hz : z = x
      · subst hz
        rw [if_pos rfl]
        constructor
        · intro h; cases h
        · rintro ⟨a, ha, h4, -⟩
          obtain ⟨i, h5, h6⟩ := (hmem a).1 ha
          exact absurd h4 (hne i a h5 h6)
      · rw [if_neg hz, M.get]
        constructor
        · rintro ⟨a, ha, h4, h5⟩
          obtain ⟨i, hi⟩ := List.mem_iff_getElem?.1 ha
          refine ⟨a, (hmem a).2 ⟨i, fun e => ?_, hi⟩, h4, h5⟩
          subst e
          rw [h2] at hi
          cases hi
          rw [h3] at h4
          exact hz (dgv_inj h4).symm
        · rintro ⟨a, ha, h4, h5⟩
          exact ⟨a, List.mem_of_mem_eraseIdx ha, h4, h5⟩
end

end Go.Proofs.Yteopbfehfipcmaa
