/- Comparing arrays. Plain; over any program. -/
import Derived.Test.YteopbfehfipcmaaL
import Derived.Laws.Rows
namespace Go.Proofs.Yteopbfehfipcmaa
set_option linter.unusedSimpArgs false
set_option linter.unusedVariables false
open Go.RowKit

/-- Two arrays are the same if each element is: told of whatever is told of the elements. -/
theorem run_eq_array {P : Program} (w : World) (d : Nat) (t e : TypeId) (n s : Nat) (ht : P.underlying t = some (.array n e)) (hs : (sizeOf e).run P w = .ok s w) (xs ys : Array Value) (px py : Nat → Value) (b : Nat → Bool)
    (hx : ∀ i, i < n → (part e xs (i * s)).run P w = .ok (px i) w) (hy : ∀ i, i < n → (part e ys (i * s)).run P w = .ok (py i) w) (hb : ∀ i, i < n → (Op.equalIn (d + 1) e (px i) (py i)).run P w = .ok (b i) w) :
    (Op.equalIn (d + 2) t (.agg xs) (.agg ys)).run P w = .ok ((List.range n).all b) w := by
  rw [Op.equalIn, List.range_eq_range']
  simp only [Sem.run_bind, run_underlying ht, Result.andThen_ok, hs, Std.Legacy.Range.forIn_eq_forIn_range', Std.Legacy.Range.size, Nat.sub_zero, Nat.add_sub_cancel, Nat.div_one]
  have hl : ∀ i ∈ List.range' 0 n 1, i < n := by intro i hi; rw [List.mem_range'_1] at hi; omega
  revert hl
  generalize List.range' 0 n 1 = l
  intro hl
  induction l with
  | nil => simp
  | cons i l ih =>
    have hi := hl i List.mem_cons_self
    rw [List.all_cons]
    simp only [List.forIn_cons, Sem.run_bind, hx i hi, hy i hi, hb i hi, Result.andThen_ok]
    cases b i with
    | false => simp
    | true =>
      simp only [Bool.not_true, Bool.false_eq_true, if_false, Sem.run_pure, Result.andThen_ok, Bool.true_and]
      exact ih fun j hj => hl j (List.mem_cons_of_mem _ hj)

/-- A whole block is read, by an operation that a guard lets through. -/
theorem wpList_load_want {P : Program} {ops : Array Oper} {rest : List Oper} {o : Oper} {a : Act} {w : World} {Q : Exit → Act → World → Prop} (hw : Region.wanted o (yielded ops a.tmps) = true) (ty : TypeId) (x : Operand) (ho : o.op = .load ty x)
    (g : Nat) (hx : a.eval x = .pointer (some ⟨g, 0, none⟩)) (t : TypeId) (cs : Array Value) (fr : Nat × Nat) (d : TypeDesc) (hg : w.heap[g]? = some (.cells cs t fr))
    (hu : P.underlying ty = some d) (hd : (match d with | .struct _ | .array _ _ => true | _ => false) = true) (hi : (P.info? ty).map (·.size) = some cs.size)
    (h : wpList P ops Q rest (a.put o.dst (.agg cs)) w) : wpList P ops Q (o :: rest) a w := by
  refine wpList_step fun K hK => ?_
  rw [if_pos hw]
  exact wp_load_row ty x ho g hx t cs fr d hg hu hd hi (hK _ _ h)

/-- Arrays of integers. -/
theorem run_eq_ints {P : Program} (w : World) (t e : TypeId) (n : Nat) (k : IntKind) (ht : P.underlying t = some (.array n e)) (he : P.underlying e = some (.int k)) (hs : (sizeOf e).run P w = .ok 1 w) (xs ys : Array Value) (f g : Nat → Int)
    (hx : ∀ i, i < n → xs[i]? = some (.int k (f i))) (hy : ∀ i, i < n → ys[i]? = some (.int k (g i))) :
    (Op.equalIn 10000 t (.agg xs) (.agg ys)).run P w = .ok ((List.range n).all fun i => f i == g i) w := by
  have hp : ∀ (zs : Array Value) (h : Nat → Int), (∀ i, i < n → zs[i]? = some (.int k (h i))) → ∀ i, i < n → (part e zs (i * 1)).run P w = .ok (.int k (h i)) w := fun zs h hz i hi => by
    simp [part, isAgg, run_underlying he, hz i hi]
  exact run_eq_array w 9998 t e n 1 ht hs xs ys (fun i => .int k (f i)) (fun i => .int k (g i)) _ (hp xs f hx) (hp ys g hy) (fun i hi => run_equalIn_int w 9998 e k k _ _ he)

end Go.Proofs.Yteopbfehfipcmaa
