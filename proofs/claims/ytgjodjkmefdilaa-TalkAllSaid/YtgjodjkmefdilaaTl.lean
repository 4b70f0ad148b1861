/- The last operations of a region that draws its order, one behind the other. Plain; over any program. -/
import Derived.Test.YtgjodjkmefdilaaMem
import Derived.Test.YtgjodjkmefdilaaRc
namespace Go.Proofs.Ytgjodjkmefdilaa
set_option linter.unusedSimpArgs false
set_option linter.unusedVariables false
open Go.RowKit

section
variable {P : Program} {ops : Array Oper} {md : Region.Mode}
theorem step_one {Q : Exit → Act → World → Prop} {a : Act} {w : World} {LF : Array Bool} {k n : Nat} {o : Oper} (h1 : Region.ready md ops LF = [k]) (ho : ops[k]? = some o) (hg : o.guard = none)
    (h : ∀ K : Act → World → Prop, (∀ a w, wpAny P md ops Q n (LF.setIfInBounds k true) a w → K a w) → o.wp P a w K Q) : wpAny P md ops Q (n + 1) LF a w := by
  refine ⟨fun h0 => (by rw [h1] at h0; cases h0), fun i hi => ?_⟩
  rw [h1] at hi
  simp at hi
  subst hi
  unfold wpOp
  simp only [ho]
  rw [if_pos (by simp [Region.wanted, hg])]
  exact .inl (h _ fun a w hq => hq)
end

/-- A whole array is stored into a block of the call's own. -/
theorem wp_store_blk {P : Program} {w w0 : World} {o : Oper} {a : Act} {Q : Exit → Act → World → Prop} {K : Act → World → Prop} (ty : TypeId) (x y : Operand) (ho : o.op = .store ty x y) {B L : List Blk} {b : Nat} {t : TypeId} {cs : Array Value} (M : Mem w w0 (B ++ ⟨b, t, cs⟩ :: L))
    (hx : a.eval x = .pointer (some ⟨b, 0, none⟩)) (vs : Array Value) (hy : a.eval y = .agg vs) (hi : (P.info? ty).map (·.size) = some cs.size) (hs : vs.size = cs.size) (h1 : ∀ v ∈ vs.toList, v.oneCell' = true)
    (h : ∀ w', Mem w' w0 (B ++ ⟨b, t, vs⟩ :: L) → K (a.put o.dst undef) w') : o.wp P a w K Q :=
  wp_store_mid ty x y ho b 0 vs hx hy (by rw [hs]; exact M.there (t := t) (by simp)) (by rw [hs]; exact hi) (by have := all_oneCell_toArray h1; simpa using this) (h _ (M.fill vs hs))

/-- append of elements that stand in the text, as an operation. -/
theorem wp_append_new {P : Program} {w w0 : World} {o : Oper} {a : Act} {Q : Exit → Act → World → Prop} {K : Act → World → Prop} (s x : Operand) (t : TypeId) (ho : o.op = .call { callee := .builtin .append, args := #[s, x], argTypes := #[t, t] })
    {e : TypeId} {sz bytes : Nat} (E : Elt P t e sz bytes) {B L : List Blk} (M : Mem w w0 (B ++ L)) (hB : New w0 B)
    (v : Value) (n : Nat) (xs : List Value) (hs : a.eval s = v) (hR : Row e sz v n xs B) (cs : Array Value) (e' : TypeId)
    (k m c : Nat) (hx : a.eval x = .slice (some ⟨k, 0, none⟩) m c) (hk : k = w.heap.size) (hl : cs.size = m * sz) (h1 : ∀ u ∈ cs.toList, u.oneCell' = true)
    (h63 : n + m ≤ maxLen) (hbytes : (n + m) * bytes ≤ 140737488355328)
    (N : Nat) (hN : n + m = N) (ys : List Value) (hys : xs ++ cs.toList = ys)
    (h : ∀ ao' cap' B' w', Row e sz (.slice ao' N cap') N ys B' → Mem w' w0 (B' ++ L) → New w0 B' → K (a.put o.dst (.slice ao' N cap')) w') :
    o.wp P a (w.alloc (.cells cs e')) K Q := by
  refine wp_append_row s x t ho E (M.alloc _) hB v n xs hs hR (some ⟨k, 0, none⟩) m c cs.toList hx (by simpa using hl) (by simp) ?_ h1 h63 hbytes N hN ys hys h
  intro ad had j u hj
  cases had
  have hadd : (⟨k, 0, none⟩ : Addr).add j = ⟨k, j, none⟩ := by unfold Addr.add; split <;> simp_all
  rw [hadd, hk, World.cell?_alloc_at _ _ _ _ rfl]
  simpa using hj

end Go.Proofs.Ytgjodjkmefdilaa
