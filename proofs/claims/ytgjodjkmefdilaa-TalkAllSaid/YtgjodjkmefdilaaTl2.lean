/- A slice of one element that stands in the text, made in a region that draws its order. Plain; over any program. -/
import Derived.Test.YtgjodjkmefdilaaTl
namespace Go.Proofs.Ytgjodjkmefdilaa
set_option linter.unusedSimpArgs false
set_option linter.unusedVariables false
open Go.RowKit

/-- A slice of n elements in a block that was just made, behind the first B blocks. -/
def NewSl (B : Nat) (e : TypeId) (n : Nat) (cs : Array Value) : Pred := fun v w => ∃ b, v = .slice (some ⟨b, 0, none⟩) n n ∧ B ≤ b ∧ w.heap[b]? = some (.cells cs e (0, 0))
theorem stays_newSl (B : Nat) (e : TypeId) (n : Nat) (cs : Array Value) : Stays (NewSl B e n cs) := fun v w w' ⟨x, hx⟩ ⟨b, h1, h2, h3⟩ => by
  refine ⟨b, h1, h2, ?_⟩
  rw [hx, heap_plus _ _ _ _ (Array.getElem?_eq_some_iff.1 h3).1]
  exact h3

theorem foldl_writeAt (o : Nat) : ∀ (l : List Value) (k : Nat) (cs : Array Value), (l.zipIdx k).foldl (fun (cs : Array Value) (p : Value × Nat) => cs.setIfInBounds (o + p.2) p.1) cs = writeAt cs (o + k) l
  | [], _, _ => rfl
  | v :: r, k, cs => by
    rw [List.zipIdx_cons, List.foldl_cons, foldl_writeAt o r (k + 1), writeAt, Nat.add_assoc]
theorem fill_one (sz : Nat) (zero : Array Value) (v : Value) (hv : v.cells.size = sz) : Instr.fill (fun i => some (i * sz, sz)) ((Array.range (1 * sz)).map (fun i => zero[i % zero.size]!)) [(0, v)] = some v.cells := by
  have h := foldl_writeAt (0 * sz) v.cells.toList 0 ((Array.range (1 * sz)).map (fun i => zero[i % zero.size]!))
  rw [show 0 * sz + 0 = 0 by omega, writeAt_all _ _ (by simp [hv])] at h
  simp only [Instr.fill]
  rw [if_neg (by simp [hv])]
  congr 1
  rw [← Array.foldl_toList, Array.toList_zipIdx]
  simpa using h

theorem run_buildSlice_one {P : Program} {o : Oper} {ρ : Operand → Value} {t e : TypeId} {sz bytes : Nat} {x : Operand} (E : Elt P t e sz bytes) (ho : o.op = .buildSlice t 1 #[(0, x)]) (v : Value) (hx : ρ x = v) (hv : v.cells.size = sz) (hsz : sz ≤ 1000) (W : World) :
    (execOp ρ o).run P W = .ok (.value (.slice (some ⟨W.heap.size, 0, none⟩) 1 1)) (W.alloc (.cells v.cells e)) := by
  obtain ⟨i, z, ht, hi, hz, hs, hby, hzs, hpos⟩ := E
  have hu := run_underlying ht W
  have h1 : (sizeOf e).run P W = .ok sz W := by simp [sizeOf, typeInfo, hi, hs]
  have h2 : (zeroValue e).run P W = .ok z W := by simp [zeroValue, typeInfo, hi, hz]
  have hlt : ¬ 1 * sz > 2 ^ 24 := by omega
  have h0 : ¬ 1 * sz = 0 := by omega
  simp only [execOp, ho, Instr.buildSlice, Sem.run_bind, hu, Result.andThen, h1, h2, hlt, h0, if_false, Sem.run_pure]
  have hf := fill_one sz z.cells v hv
  simp only [List.map_toArray, List.map_cons, List.map_nil, hx, hf]
  rfl

theorem B_newsl {P : Program} {ops : Array Oper} {w0 : World} {Q : Slots → Prop} {a : Act} {R : List (Tmp × Pred)} {o : Oper} {rest : List Oper} {d : Tmp} {t e : TypeId} {sz bytes : Nat} {x : Operand} (E : Elt P t e sz bytes) (hd : o.dst = some d) (ho : o.op = .buildSlice t 1 #[(0, x)])
    (v : Value) (hx : a.eval x = v) (cs : Array Value) (hc : v.cells = cs) (hv : cs.size = sz) (hsz : sz ≤ 1000) (hB : (sideB true ops R a o && noSel o) = true)
    (hr : wpS P ops w0 Q rest (mix a ((d, NewSl w0.heap.size e 1 cs) :: R))) : wpS P ops w0 Q (o :: rest) (mix a R) := by
  subst hc
  exact B_make _ (stays_newSl _ _ _ _) hd hB (fun x => ⟨_, _, run_buildSlice_one E ho v hx hv hsz _, Ext.of_below (balloc (Below.refl _ _) _), _, rfl, by simp, heap_alloc_new _ _⟩) hr
theorem blk_news {w : World} {b : Nat} {cs : Array Value} {t : TypeId} (hb : w.heap[b]? = some (.cells cs t (0, 0))) : ∀ ad, some (⟨b, 0, none⟩ : Addr) = some ad → ∀ j u, cs.toList[j]? = some u → w.cell? (ad.add j) = some u := by
  intro ad had j u hj
  cases had
  have hadd : (⟨b, 0, none⟩ : Addr).add j = ⟨b, j, none⟩ := by unfold Addr.add; split <;> simp_all
  rw [hadd]
  simp only [World.cell?, hb]
  simpa using hj

end Go.Proofs.Ytgjodjkmefdilaa
