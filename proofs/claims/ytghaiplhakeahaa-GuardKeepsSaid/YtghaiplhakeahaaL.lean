/- Small laws on single operations, over any program. -/
import Derived.WalkKit
import Derived.WalkSpells
import Derived.WalkLawsBesides
import Derived.Handy
import Derived.Lib.Hide
namespace Go.Proofs.Ytghaiplhakeahaa
set_option linter.unusedSimpArgs false
set_option linter.unusedVariables false
open Go.RowKit

@[go_sem] theorem run_index_agg {P : Program} (w : World) (t : TypeId) (cs : Array Value) (k : IntKind) (i : Int)
    (h : P.underlying t = some (.array (P.arrayLen t) (P.elem t))) :
    (Instr.index t (.agg cs) (.int k i)).run P w =
      if 0 ≤ i ∧ i < P.arrayLen t then ((sizeOf (P.elem t)).run P w).andThen fun s w => (part (P.elem t) cs (i.toNat * s)).run P w
      else (boundsPanic k i (P.arrayLen t) .index).run P w := by
  have e : (Instr.index t (.agg cs) (.int k i)).run P w = (if 0 ≤ i ∧ i < P.arrayLen t then (do part (P.elem t) cs (i.toNat * (← sizeOf (P.elem t)))) else (boundsPanic k i (P.arrayLen t) .index)).run P w := by
    simp only [Instr.index, Sem.run_bind, asIntOf, run_underlying h, Sem.run_pure]
    rfl
  rw [e]
  by_cases hi : 0 ≤ i ∧ i < P.arrayLen t
  · rw [if_pos hi, if_pos hi, Sem.run_bind]
  · rw [if_neg hi, if_neg hi]

/-! ### A world with new blocks behind it -/
/-- w with the blocks g behind its own, and d answers drawn in all. -/
def plus (w : World) (g : Array Obj) (d : Nat) : World := { w with heap := w.heap ++ g, drawn := d }

attribute [go_sem] Array.append_assoc

section
variable (w : World) (g : Array Obj) (d : Nat)
@[simp, go_sem] theorem size_plus : (plus w g d).heap.size = w.heap.size + g.size := by simp [plus]
@[simp, go_sem] theorem drew_plus : (plus w g d).drew = plus w g (d + 1) := rfl
@[simp, go_sem] theorem plus_drew : plus w.drew g d = plus w g d := rfl
@[simp, go_sem] theorem drewN_plus (n : Nat) : (plus w g d).drewN n = plus w g (d + n) := rfl
@[simp, go_sem] theorem plus_drewN (n : Nat) : plus (w.drewN n) g d = plus w g d := rfl
@[go_sem] theorem alloc_drewN (n : Nat) (o : Obj) : (w.drewN n).alloc o = (w.alloc o).drewN n := rfl
@[go_sem] theorem setCell_drewN (n : Nat) (a : Addr) (v : Value) : (w.drewN n).setCell a v = (w.setCell a v).drewN n := rfl
@[go_sem] theorem plus_plus (h : Array Obj) (e : Nat) : plus (plus w g d) h e = plus w (g ++ h) e := by simp [plus, Array.append_assoc]
/-! Is a block one of a world's own? Told by the world's make, without a condition (simp discharges nested conditions two deep alone). -/
@[go_sem ↓] theorem lt_size_alloc (n : Nat) (o : Obj) : (n < (w.alloc o).heap.size) = (n < w.heap.size ∨ n = w.heap.size) := by
  simp only [World.size_alloc, eq_iff_iff]; omega
@[go_sem ↓] theorem lt_size_plus (n : Nat) : (n < (plus w g d).heap.size) = (n < w.heap.size ∨ (w.heap.size ≤ n ∧ n < w.heap.size + g.size)) := by
  simp only [size_plus, eq_iff_iff]; omega
@[go_sem ↓] theorem lt_size_setCell (n : Nat) (a : Addr) (v : Value) : (n < (w.setCell a v).heap.size) = (n < w.heap.size) := by simp [World.setCell]
@[go_sem ↓] theorem lt_size_drew (n : Nat) : (n < w.drew.heap.size) = (n < w.heap.size) := rfl
@[go_sem ↓] theorem lt_size_drewN (n k : Nat) : (n < (w.drewN k).heap.size) = (n < w.heap.size) := rfl
theorem heap_plus (k : Nat) (h : k < w.heap.size) : (plus w g d).heap[k]? = w.heap[k]? := by simp [plus, Array.getElem?_append, h]
@[go_sem] theorem cell?_plus (n i : Nat) (h : n < w.heap.size) : (plus w g d).cell? ⟨n, i, none⟩ = w.cell? ⟨n, i, none⟩ := by
  simp only [World.cell?, heap_plus w g d n h]
@[go_sem] theorem frozen?_plus (n i : Nat) (h : n < w.heap.size) : (plus w g d).frozen? ⟨n, i, none⟩ = w.frozen? ⟨n, i, none⟩ := by
  simp only [World.frozen?, heap_plus w g d n h]
@[go_sem] theorem setCell_plus (n i : Nat) (v : Value) (h : n < w.heap.size) : (plus w g d).setCell ⟨n, i, none⟩ v = plus (w.setCell ⟨n, i, none⟩ v) g d := by
  unfold World.setCell plus
  congr 1
  apply Array.ext_getElem?
  intro k
  simp only [Array.getElem?_modify, Array.getElem?_append, Array.size_modify]
  by_cases hk : n = k
  · subst hk; simp [h]
  · simp [hk]
@[go_sem] theorem setCell_setCell (a : Addr) (u v : Value) : (w.setCell a u).setCell a v = w.setCell a v := by
  unfold World.setCell
  congr 1
  apply Array.ext_getElem?
  intro k
  simp only [Array.getElem?_modify]
  by_cases hk : a.block = k
  · simp only [if_pos hk, Option.map_map]
    congr 1
    funext o
    cases o <;> simp only [Function.comp]
    split <;> simp
  · simp [hk]
end

/-- New blocks behind a world, gathered (not for the walk: it keeps the blocks of the call's own in sight). -/
theorem plus_alloc (w : World) (o : Obj) (g : Array Obj) (d : Nat) : plus (w.alloc o) g d = plus w (#[o] ++ g) d := by
  simp only [plus, World.alloc, Array.append_assoc, ← Array.append_singleton]
theorem alloc_plus (w : World) (o : Obj) (g : Array Obj) (d : Nat) : (plus w g d).alloc o = plus w (g ++ #[o]) d := by
  simp only [plus, World.alloc, ← Array.append_assoc, ← Array.append_singleton]

theorem plus_self (w : World) : w = plus w #[] w.drawn := by simp [plus]

theorem balloc {w W : World} (h : Below w.heap.size w W) (o : Obj) : Below w.heap.size w (W.alloc o) := h.alloc h.size o
theorem bplus {w W : World} (h : Below w.heap.size w W) (g : Array Obj) (d : Nat) : Below w.heap.size w (plus W g d) :=
  h.trans ⟨rfl, rfl, rfl, by simp, fun k hk => heap_plus _ _ _ _ (Nat.lt_of_lt_of_le hk h.size)⟩
theorem bdrewN {w W : World} (h : Below w.heap.size w W) (n : Nat) : Below w.heap.size w (W.drewN n) := h.trans ⟨rfl, rfl, rfl, Nat.le_refl _, fun _ _ => rfl⟩

/-- Behind a call that leaves all that was there as it was: the world, written out. -/
theorem plus_of_below {W w1 : World} (hb : Below W.heap.size W w1) : ∃ g d, w1 = plus W g d := by
  refine ⟨w1.heap.extract W.heap.size w1.heap.size, w1.drawn, ?_⟩
  obtain ⟨ho, ht, hu, hs, hk⟩ := hb
  have hh : w1.heap = W.heap ++ w1.heap.extract W.heap.size w1.heap.size := by
    apply Array.ext_getElem?
    intro k
    rw [Array.getElem?_append]
    split
    · rename_i h; exact hk k h
    · rename_i h
      rw [Array.getElem?_extract]
      split
      · congr 1; omega
      · rw [Array.getElem?_eq_none]; omega
  cases w1
  cases W
  simp only [plus] at *
  subst ho ht hu
  rw [← hh]

end Go.Proofs.Ytghaiplhakeahaa
