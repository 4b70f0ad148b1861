/- Maps beside blocks: made, ranged over. Over any program. -/
import Derived.Test.YtghaiplhakeahaaMp
import Derived.Maps.RangeRun
namespace Go.Proofs.Ytghaiplhakeahaa
set_option linter.unusedSimpArgs false
set_option linter.unusedVariables false
open Go.RowKit Go.ChangeMaps

/-- A map's entries that are still to come, and those that came. -/
theorem left_all (es : Array MapEntry) : leftOf es #[] = es := by
  unfold leftOf
  simp
/-- One more has come. -/
theorem left_push {es : Array MapEntry} (hs : es.toList.Pairwise fun a b => a.born ≠ b.born) (seen : Array Nat) {e : MapEntry} (he : e ∈ (leftOf es seen).toList) : (leftOf es seen).toList.Perm (e :: (leftOf es (seen.push e.born)).toList) := by
  have e1 : (leftOf es seen).toList = es.toList.filter fun x => !seen.contains x.born := by unfold leftOf; rw [Array.toList_filter]
  have e2 : (leftOf es (seen.push e.born)).toList = (leftOf es seen).toList.filter fun x => !(x.born == e.born) := by
    rw [e1]
    unfold leftOf
    rw [Array.toList_filter, List.filter_filter]
    apply List.filter_congr
    intro x _
    rw [Array.contains_push, Bool.not_or, Bool.and_comm]
    try (congr 1; rw [Bool.eq_iff_iff]; simp [eq_comm])
  rw [e2]
  have hp : (leftOf es seen).toList.Pairwise fun a b => a.born ≠ b.born := by
    rw [e1]
    exact hs.sublist List.filter_sublist
  generalize (leftOf es seen).toList = l at he hp
  clear e1 e2
  induction l with
  | nil => cases he
  | cons x l ih =>
    have hp' := List.pairwise_cons.1 hp
    rcases List.mem_cons.1 he with rfl | he
    · have : (e :: l).filter (fun x => !(x.born == e.born)) = l := by
        rw [List.filter_cons_of_neg (by simp)]
        apply List.filter_eq_self.2
        intro y hy
        have := hp'.1 y hy
        simpa using fun q => this q.symm
      rw [this]
    · rw [List.filter_cons_of_pos (by simpa using hp'.1 e he)]
      exact (List.Perm.cons x (ih he hp'.2)).trans (List.Perm.swap e x _)
section
variable {P : Program} {w w0 : World} {ops : Array Oper} {rest : List Oper} {o : Oper} {a : Act} {Q : Exit → Act → World → Prop} {X B C L : List Blk} {K : List (Nat × Obj)} {t k e : TypeId} {b r : Nat} {es : Array MapEntry} {ck : Nat} {g : BitVec 64 → Option Value}
/-- 'range m'. -/
theorem Omw.rangeL (h : Omw w w0 X ((b, .map es ck) :: K)) (T : MapT P t k e) (hgd : o.guard = none) (m : Operand) (ho : o.op = .range t m) (hm : a.eval m = .map (some b))
    (h' : ∀ w' r, Omw w' w0 X ((r, .mapIter (some b) ck #[] ck) :: (b, .map es ck) :: K) → wpList P ops Q rest (a.put o.dst (.pointer (some ⟨r, 0, none⟩))) w') : wpList P ops Q (o :: rest) a w := by
  have hr := run_range_map (P := P) w t k e b es ck T.und (h.has _ (List.mem_cons_self ..))
  refine wpList_plain hgd fun K' hK' => ?_
  unfold Oper.wp
  simp [execOp, ho, hm, hr, Result.andThen]
  exact hK' _ _ (h' _ _ (h.keyObj _ (by intro c e f h; cases h) w.heap.size rfl))
/-- The step. -/
theorem Omw.nextL {seen : Array Nat} (h : Omw w w0 X ((r, .mapIter (some b) ck seen ck) :: (b, .map es ck) :: K)) (M : MapD es ck g) (hgd : o.guard = none) (it : Operand) (ho : o.op = .next it false) (hit : a.eval it = .pointer (some ⟨r, 0, none⟩))
    (hDone : leftOf es seen = #[] → wpList P ops Q rest (a.put o.dst (.tuple #[.bool false])) w)
    (hMore : ∀ x w', x ∈ (leftOf es seen).toList → Omw w' w0 X ((r, .mapIter (some b) ck (seen.push x.born) ck) :: (b, .map es ck) :: K) → (Instr.entry (.pointer (some ⟨r, 0, none⟩))).run P w' = .ok (.tuple #[x.key, x.val]) w' → wpList P ops Q rest (a.put o.dst (.tuple #[.bool true, x.key, x.val])) w') :
    wpList P ops Q (o :: rest) a w := by
  have hr := h.has (r, .mapIter (some b) ck seen ck) (List.mem_cons_self ..)
  have hb := h.has (b, .map es ck) (List.mem_cons_of_mem _ (List.mem_cons_self ..))
  refine wpList_plain hgd fun K' hK' => ?_
  unfold Oper.wp
  rcases run_next_at (P := P) w o.type r b ck ck seen es ck hr hb M.born (Nat.le_refl _) with ⟨h0, hrun⟩ | ⟨x, hx, w1, hw1, hrun⟩
  · simp [execOp, ho, hit, hrun, Result.andThen]
    exact hK' _ _ (hDone (Array.eq_empty_of_size_eq_zero h0))
  · simp [execOp, ho, hit, hrun, Result.andThen]
    have h1 : Omw w1 w0 X ((r, .mapIter (some b) ck seen ck) :: (b, .map es ck) :: K) := by
      rcases hw1 with rfl | rfl
      · exact h
      · exact h.drew
    have hr1 := h1.has (r, .mapIter (some b) ck seen ck) (List.mem_cons_self ..)
    have h2 : Omw (setBlock w1 r (.mapIter (some b) ck (seen.push x.born) ck)) w0 X ((r, .mapIter (some b) ck (seen.push x.born) ck) :: (b, .map es ck) :: K) :=
      h1.setObj (by intro c e f h; cases h) (by unfold setBlock; simp [(Array.getElem?_eq_some_iff.1 hr1).1]) (fun j hj => by unfold setBlock; simp [Array.getElem?_setIfInBounds, Ne.symm hj]) rfl rfl rfl (by simp [setBlock])
    refine hK' _ _ (hMore x _ hx h2 ?_)
    have hxe : x ∈ es.toList := by
      unfold leftOf at hx
      rw [Array.toList_filter] at hx
      exact (List.mem_filter.1 hx).1
    exact run_entry_at _ r b ck seen es ck x (h2.has _ (List.mem_cons_self ..)) (h2.has _ (List.mem_cons_of_mem _ (List.mem_cons_self ..))) hxe (List.pairwise_map.2 M.stamps)
/-- 'make(map[..]..)'. -/
theorem Omw.makeL (h : Omw w w0 X K) (hgd : o.guard = none) (ho : o.op = .makeMap t none)
    (h' : Omw (w.alloc (.map #[] 0)) w0 X ((w.heap.size, .map #[] 0) :: K) → wpList P ops Q rest (a.put o.dst (.map (some w.heap.size))) (w.alloc (.map #[] 0))) : wpList P ops Q (o :: rest) a w := by
  refine wpList_plain hgd fun K' hK' => ?_
  unfold Oper.wp
  simp [execOp, ho, Instr.makeMap, Result.andThen, Sem.run]
  exact hK' _ _ (h' (h.keyMap w.heap.size rfl))
end

/-! ### The same for one operation -/
section
variable {P : Program} {w w0 : World} {o : Oper} {a : Act} {Q : Exit → Act → World → Prop} {K' : Act → World → Prop} {X : List Blk} {K : List (Nat × Obj)} {t k e : TypeId} {b : Nat} {es : Array MapEntry} {ck : Nat} {g : BitVec 64 → Option Value}
theorem Omw.lookK (h : Omw w w0 X ((b, .map es ck) :: K)) (M : MapD es ck g) (T : MapT P t k e) (m x : Operand) (ho : o.op = .lookup t m x false) (hm : a.eval m = .map (some b)) (z : BitVec 64) (hx : a.eval x = .agg #[.int .u8 (by8 z 0), .int .u8 (by8 z 1), .int .u8 (by8 z 2), .int .u8 (by8 z 3), .int .u8 (by8 z 4), .int .u8 (by8 z 5), .int .u8 (by8 z 6), .int .u8 (by8 z 7)]) {v : Value} (hz : (zeroValue e).run P w = .ok v w)
    (h' : K' (a.put o.dst ((g z).getD v)) w) : o.wp P a w K' Q := by
  unfold Oper.wp
  cases hg : g z with
  | none =>
    have hr := M.look_none T (h.has _ (List.mem_cons_self ..)) z hg hz false
    simp [execOp, ho, hm, hx, hr, Result.andThen]
    rw [hg] at h'
    exact h'
  | some u =>
    have hr := M.look_some T (h.has _ (List.mem_cons_self ..)) z hg false
    simp [execOp, ho, hm, hx, hr, Result.andThen]
    rw [hg] at h'
    exact h'
theorem Omw.look2K (h : Omw w w0 X ((b, .map es ck) :: K)) (M : MapD es ck g) (T : MapT P t k e) (m x : Operand) (ho : o.op = .lookup t m x true) (hm : a.eval m = .map (some b)) (z : BitVec 64) (hx : a.eval x = .agg #[.int .u8 (by8 z 0), .int .u8 (by8 z 1), .int .u8 (by8 z 2), .int .u8 (by8 z 3), .int .u8 (by8 z 4), .int .u8 (by8 z 5), .int .u8 (by8 z 6), .int .u8 (by8 z 7)]) {v : Value} (hz : (zeroValue e).run P w = .ok v w)
    (h' : K' (a.put o.dst (.tuple #[(g z).getD v, .bool (g z).isSome])) w) : o.wp P a w K' Q := by
  unfold Oper.wp
  cases hg : g z with
  | none =>
    have hr := M.look_none T (h.has _ (List.mem_cons_self ..)) z hg hz true
    simp [execOp, ho, hm, hx, hr, Result.andThen]
    rw [hg] at h'
    exact h'
  | some u =>
    have hr := M.look_some T (h.has _ (List.mem_cons_self ..)) z hg true
    simp [execOp, ho, hm, hx, hr, Result.andThen]
    rw [hg] at h'
    exact h'
theorem Omw.putK (h : Omw w w0 X ((b, .map es ck) :: K)) (M : MapD es ck g) (T : MapT P t k e) (m x v : Operand) (ho : o.op = .mapUpdate t m x v) (hm : a.eval m = .map (some b)) (z : BitVec 64) (hx : a.eval x = .agg #[.int .u8 (by8 z 0), .int .u8 (by8 z 1), .int .u8 (by8 z 2), .int .u8 (by8 z 3), .int .u8 (by8 z 4), .int .u8 (by8 z 5), .int .u8 (by8 z 6), .int .u8 (by8 z 7)]) (u : Value) (hu : a.eval v = u)
    (h' : ∀ es' ck' w', Omw w' w0 X ((b, .map es' ck') :: K) → MapD es' ck' (putF g z u) → K' (a.put o.dst undef) w') : o.wp P a w K' Q := by
  obtain ⟨es', ck', hr, M'⟩ := M.put T (h.has _ (List.mem_cons_self ..)) z u
  unfold Oper.wp
  simp [execOp, ho, hm, hx, hu, hr, Result.andThen]
  exact h' es' ck' _ h.setMap M'
theorem Omw.delK (h : Omw w w0 X ((b, .map es ck) :: K)) (M : MapD es ck g) (T : MapT P t k e) (m x : Operand) (kt : TypeId) (ho : o.op = .call { callee := .builtin .delete, args := #[m, x], argTypes := #[t, kt] }) (hm : a.eval m = .map (some b)) (z : BitVec 64) (hx : a.eval x = .agg #[.int .u8 (by8 z 0), .int .u8 (by8 z 1), .int .u8 (by8 z 2), .int .u8 (by8 z 3), .int .u8 (by8 z 4), .int .u8 (by8 z 5), .int .u8 (by8 z 6), .int .u8 (by8 z 7)])
    (h' : ∀ es' w', Omw w' w0 X ((b, .map es' ck) :: K) → MapD es' ck (delF g z) → K' (a.put o.dst (.tuple #[])) w') : o.wp P a w K' Q := by
  obtain ⟨es', hr, M'⟩ := M.del T (h.has _ (List.mem_cons_self ..)) z o.type kt
  unfold Oper.wp
  simp [execOp, ho, resolve, invoke, builtin, hm, hx, hr, Result.andThen]
  exact h' es' _ h.setMap M'
end

end Go.Proofs.Ytghaiplhakeahaa
