/- Memory told block by block: what the call's own blocks hold, and that what there was stays. Plain; over any program. -/
import Derived.Test.YtghaiplhakeahaaBq
import Derived.Test.YtghaiplhakeahaaR
import Derived.Test.YtghaiplhakeahaaBt
import Derived.Maps.AppendAt
import Derived.Deep.MidRow
import Derived.Laws.Rows
namespace Go.Proofs.Ytghaiplhakeahaa
set_option linter.unusedSimpArgs false
set_option linter.unusedVariables false
open Go.RowKit

/-- A block: its number, its elements' type, its cells. -/
structure Blk where
  no : Nat
  ty : TypeId
  cs : Array Value

/-- The world w: as w0 was, but for the blocks of L, which hold what L says; and others behind w0's. -/
structure Mem (w w0 : World) (L : List Blk) : Prop where
  os : w.os = w0.os
  tape : w.tape = w0.tape
  output : w.output = w0.output
  size : w0.heap.size ≤ w.heap.size
  old : ∀ k, k < w0.heap.size → (∀ x ∈ L, x.no ≠ k) → w.heap[k]? = w0.heap[k]?
  apart : L.Pairwise (fun x y => x.no ≠ y.no)
  has : ∀ x ∈ L, w.heap[x.no]? = some (.cells x.cs x.ty (0, 0))

section
variable {w w0 w' : World} {L : List Blk}
theorem Mem.start (w : World) : Mem w w [] := ⟨rfl, rfl, rfl, Nat.le_refl _, fun _ _ _ => rfl, .nil, by simp⟩
theorem Mem.lt (M : Mem w w0 L) {x : Blk} (hx : x ∈ L) : x.no < w.heap.size := (Array.getElem?_eq_some_iff.1 (M.has x hx)).1
theorem Mem.of_below (M : Mem w w0 L) (h : Below w.heap.size w w') : Mem w' w0 L :=
  ⟨h.os.trans M.os, h.tape.trans M.tape, h.output.trans M.output, Nat.le_trans M.size h.size,
    fun k hk hx => (h.block k (Nat.lt_of_lt_of_le hk M.size)).trans (M.old k hk hx), M.apart, fun x hx => (h.block _ (M.lt hx)).trans (M.has x hx)⟩
theorem Mem.plus (M : Mem w w0 L) (g : Array Obj) (d : Nat) : Mem (plus w g d) w0 L := M.of_below (bplus (Below.refl _ _) g d)
theorem Mem.drew (M : Mem w w0 L) : Mem w.drew w0 L := M.of_below (Below.refl _ _).drew
theorem Mem.drewN (M : Mem w w0 L) (n : Nat) : Mem (w.drewN n) w0 L := M.of_below (bdrewN (Below.refl _ _) n)
theorem Mem.alloc (M : Mem w w0 L) (o : Obj) : Mem (w.alloc o) w0 L := M.of_below (balloc (Below.refl _ _) o)
theorem Mem.key (M : Mem w w0 L) (cs : Array Value) (t : TypeId) (b : Nat) (hb : b = w.heap.size) : Mem (w.alloc (.cells cs t)) w0 (⟨b, t, cs⟩ :: L) := by
  subst hb
  have M' := M.alloc (.cells cs t)
  refine ⟨M'.os, M'.tape, M'.output, M'.size, fun k hk hx => M'.old k hk fun x hm => hx x (List.mem_cons_of_mem _ hm), ?_, ?_⟩
  · refine List.pairwise_cons.2 ⟨fun x hx => ?_, M.apart⟩
    have := M.lt hx
    show w.heap.size ≠ x.no
    omega
  · intro x hx
    rcases List.mem_cons.1 hx with rfl | hx
    · exact heap_alloc_new w _
    · exact M'.has x hx
theorem Mem.perm {L' : List Blk} (M : Mem w w0 L) (h : L.Perm L') : Mem w w0 L' :=
  ⟨M.os, M.tape, M.output, M.size, fun k hk hx => M.old k hk fun x hm => hx x (h.mem_iff.1 hm), (h.pairwise_iff (fun h => h.symm)).1 M.apart, fun x hx => M.has x (h.mem_iff.2 hx)⟩
theorem Mem.drop {x : Blk} (M : Mem w w0 (x :: L)) (h : w0.heap.size ≤ x.no) : Mem w w0 L :=
  ⟨M.os, M.tape, M.output, M.size, fun k hk hx => M.old k hk fun y hm => by
      rcases List.mem_cons.1 hm with rfl | hm
      · omega
      · exact hx y hm, (List.pairwise_cons.1 M.apart).2, fun y hy => M.has y (List.mem_cons_of_mem _ hy)⟩
theorem Mem.dropAll {B : List Blk} (M : Mem w w0 (B ++ L)) (h : ∀ x ∈ B, w0.heap.size ≤ x.no) : Mem w w0 L := by
  induction B with
  | nil => exact M
  | cons x B ih => exact ih (M.drop (h x (by simp))) fun y hy => h y (by simp [hy])
theorem Mem.below (M : Mem w w0 L) (h : ∀ x ∈ L, w0.heap.size ≤ x.no) : Below w0.heap.size w0 w :=
  ⟨M.os, M.tape, M.output, M.size, fun k hk => M.old k hk fun x hx => by have := h x hx; omega⟩
theorem Mem.set {b : Nat} {t : TypeId} {cs : Array Value} {B : List Blk} (M : Mem w w0 (B ++ ⟨b, t, cs⟩ :: L)) (i : Nat) (v : Value) : Mem (w.setCell ⟨b, i, none⟩ v) w0 (B ++ ⟨b, t, cs.setIfInBounds i v⟩ :: L) := by
  have hb := M.has ⟨b, t, cs⟩ (by simp)
  refine ⟨M.os, M.tape, M.output, by simpa using M.size, fun k hk hx => ?_, ?_, ?_⟩
  · have hk' : k ≠ b := fun e => hx ⟨b, t, cs.setIfInBounds i v⟩ (by simp) e.symm
    rw [Below.heap_setCell _ _ _ _ hk']
    refine M.old k hk fun y hy => ?_
    rcases List.mem_append.1 hy with hy | hy
    · exact hx y (by simp [hy])
    · rcases List.mem_cons.1 hy with rfl | hy
      · exact Ne.symm hk'
      · exact hx y (by simp [hy])
  · have h := M.apart
    rw [List.pairwise_append, List.pairwise_cons] at h ⊢
    refine ⟨h.1, ⟨fun y hy => h.2.1.1 y hy, h.2.1.2⟩, fun x hx y hy => ?_⟩
    rcases List.mem_cons.1 hy with rfl | hy
    · exact h.2.2 x hx ⟨b, t, cs⟩ (by simp)
    · exact h.2.2 x hx y (by simp [hy])
  · have h := M.apart
    rw [List.pairwise_append, List.pairwise_cons] at h
    intro x hx
    rcases List.mem_append.1 hx with hx | hx
    · rw [Below.heap_setCell _ _ _ _ (h.2.2 x hx ⟨b, t, cs⟩ (by simp))]
      exact M.has x (by simp [hx])
    · rcases List.mem_cons.1 hx with rfl | hx
      · simp only [World.setCell, Array.getElem?_modify, if_pos]
        rw [hb]; simp
      · rw [Below.heap_setCell _ _ _ _ (fun e => h.2.1.1 x hx e.symm)]
        exact M.has x (by simp [hx])
theorem Mem.cell (M : Mem w w0 L) {b : Nat} {t : TypeId} {cs : Array Value} (hx : ⟨b, t, cs⟩ ∈ L) (i : Nat) : w.cell? ⟨b, i, none⟩ = cs[i]? := by
  have h := M.has _ hx
  simp only at h
  simp [World.cell?, h]
theorem Mem.frozen (M : Mem w w0 L) {b : Nat} {t : TypeId} {cs : Array Value} (hx : ⟨b, t, cs⟩ ∈ L) (i : Nat) : w.frozen? ⟨b, i, none⟩ = false := by
  have h := M.has _ hx
  simp only at h
  simp [World.frozen?, h]
theorem Mem.block (M : Mem w w0 L) {k : Nat} (hk : k < w0.heap.size) (h : ∀ x ∈ L, x.no ≠ k) : w.heap[k]? = w0.heap[k]? := M.old k hk h
theorem Mem.oldcell (M : Mem w w0 L) (hL : ∀ x ∈ L, w0.heap.size ≤ x.no) {k : Nat} (hk : k < w0.heap.size) (i : Nat) : w.cell? ⟨k, i, none⟩ = w0.cell? ⟨k, i, none⟩ :=
  World.cell?_of_block (a := ⟨k, i, none⟩) (M.old k hk fun x hx => by have := hL x hx; omega)
theorem Mem.oldfrozen (M : Mem w w0 L) (hL : ∀ x ∈ L, w0.heap.size ≤ x.no) {k : Nat} (hk : k < w0.heap.size) (i : Nat) : w.frozen? ⟨k, i, none⟩ = w0.frozen? ⟨k, i, none⟩ :=
  World.frozen?_of_block (a := ⟨k, i, none⟩) (M.old k hk fun x hx => by have := hL x hx; omega)
theorem Mem.swap {x : Blk} {B : List Blk} (M : Mem w w0 (x :: (B ++ L))) : Mem w w0 (B ++ x :: L) := M.perm List.perm_middle.symm
theorem Mem.drop_mid {x : Blk} {B : List Blk} (M : Mem w w0 (B ++ x :: L)) (h : w0.heap.size ≤ x.no) : Mem w w0 (B ++ L) := (M.perm List.perm_middle).drop h
/-- A block that was made on the way. -/
theorem Mem.found {W : World} (M : Mem W w0 L) (hx : Ext W w) {b : Nat} {t : TypeId} {cs : Array Value} (hb : W.heap.size ≤ b) (h : w.heap[b]? = some (.cells cs t (0, 0))) : Mem w w0 (⟨b, t, cs⟩ :: L) := by
  obtain ⟨x, rfl⟩ := hx
  have M' := M.plus x.g x.d
  refine ⟨M'.os, M'.tape, M'.output, M'.size, fun k hk hy => M'.old k hk fun y hm => hy y (List.mem_cons_of_mem _ hm), ?_, ?_⟩
  · refine List.pairwise_cons.2 ⟨fun y hy => ?_, M.apart⟩
    have := M.lt hy
    show b ≠ y.no
    omega
  · intro y hy
    rcases List.mem_cons.1 hy with rfl | hy
    · exact h
    · exact M'.has y hy
/-- All blocks of L lie behind w0's. -/
def New (w0 : World) (L : List Blk) : Prop := ∀ x ∈ L, w0.heap.size ≤ x.no
theorem New.nil (w0 : World) : New w0 [] := by simp [New]
theorem New.cons {x : Blk} (h : w0.heap.size ≤ x.no) (k : New w0 L) : New w0 (x :: L) := by
  intro y hy
  rcases List.mem_cons.1 hy with rfl | hy
  · exact h
  · exact k y hy
theorem New.app {B : List Blk} (h : New w0 B) (k : New w0 L) : New w0 (B ++ L) := by
  intro y hy
  rcases List.mem_append.1 hy with hy | hy
  · exact h y hy
  · exact k y hy
end

section
variable {w w0 : World} {B L : List Blk} {b : Nat} {t : TypeId} {cs : Array Value} (M : Mem w w0 (B ++ ⟨b, t, cs⟩ :: L))
include M
theorem Mem.cell0 (i : Nat) : w.cell? ⟨b, i, none⟩ = cs[i]? := M.cell (t := t) (by simp) i
theorem Mem.frozen0 (i : Nat) : w.frozen? ⟨b, i, none⟩ = false := M.frozen (t := t) (cs := cs) (by simp) i
theorem Mem.blk0 : w.heap[b]? = some (.cells cs t (0, 0)) := M.has ⟨b, t, cs⟩ (by simp)
theorem Mem.lt0 : b < w.heap.size := M.lt (x := ⟨b, t, cs⟩) (by simp)
theorem Mem.set0 (i : Nat) (v : Value) : Mem (w.setCell ⟨b, i, none⟩ v) w0 (B ++ ⟨b, t, cs.setIfInBounds i v⟩ :: L) := by
  have := Mem.set (B := B ++ []) (L := L) (by simpa using M) i v
  simpa using this
end
section
variable {w w0 : World} {B L : List Blk} {y0 : Blk} {b : Nat} {t : TypeId} {cs : Array Value} (M : Mem w w0 (B ++ y0 :: ⟨b, t, cs⟩ :: L))
include M
theorem Mem.cell1 (i : Nat) : w.cell? ⟨b, i, none⟩ = cs[i]? := M.cell (t := t) (by simp) i
theorem Mem.frozen1 (i : Nat) : w.frozen? ⟨b, i, none⟩ = false := M.frozen (t := t) (cs := cs) (by simp) i
theorem Mem.blk1 : w.heap[b]? = some (.cells cs t (0, 0)) := M.has ⟨b, t, cs⟩ (by simp)
theorem Mem.lt1 : b < w.heap.size := M.lt (x := ⟨b, t, cs⟩) (by simp)
theorem Mem.set1 (i : Nat) (v : Value) : Mem (w.setCell ⟨b, i, none⟩ v) w0 (B ++ y0 :: ⟨b, t, cs.setIfInBounds i v⟩ :: L) := by
  have := Mem.set (B := B ++ [y0]) (L := L) (by simpa using M) i v
  simpa using this
end
section
variable {w w0 : World} {B L : List Blk} {y0 y1 : Blk} {b : Nat} {t : TypeId} {cs : Array Value} (M : Mem w w0 (B ++ y0 :: y1 :: ⟨b, t, cs⟩ :: L))
include M
theorem Mem.cell2 (i : Nat) : w.cell? ⟨b, i, none⟩ = cs[i]? := M.cell (t := t) (by simp) i
theorem Mem.frozen2 (i : Nat) : w.frozen? ⟨b, i, none⟩ = false := M.frozen (t := t) (cs := cs) (by simp) i
theorem Mem.blk2 : w.heap[b]? = some (.cells cs t (0, 0)) := M.has ⟨b, t, cs⟩ (by simp)
theorem Mem.lt2 : b < w.heap.size := M.lt (x := ⟨b, t, cs⟩) (by simp)
theorem Mem.set2 (i : Nat) (v : Value) : Mem (w.setCell ⟨b, i, none⟩ v) w0 (B ++ y0 :: y1 :: ⟨b, t, cs.setIfInBounds i v⟩ :: L) := by
  have := Mem.set (B := B ++ [y0, y1]) (L := L) (by simpa using M) i v
  simpa using this
end
section
variable {w w0 : World} {B L : List Blk} {y0 y1 y2 : Blk} {b : Nat} {t : TypeId} {cs : Array Value} (M : Mem w w0 (B ++ y0 :: y1 :: y2 :: ⟨b, t, cs⟩ :: L))
include M
theorem Mem.cell3 (i : Nat) : w.cell? ⟨b, i, none⟩ = cs[i]? := M.cell (t := t) (by simp) i
theorem Mem.frozen3 (i : Nat) : w.frozen? ⟨b, i, none⟩ = false := M.frozen (t := t) (cs := cs) (by simp) i
theorem Mem.blk3 : w.heap[b]? = some (.cells cs t (0, 0)) := M.has ⟨b, t, cs⟩ (by simp)
theorem Mem.lt3 : b < w.heap.size := M.lt (x := ⟨b, t, cs⟩) (by simp)
theorem Mem.set3 (i : Nat) (v : Value) : Mem (w.setCell ⟨b, i, none⟩ v) w0 (B ++ y0 :: y1 :: y2 :: ⟨b, t, cs.setIfInBounds i v⟩ :: L) := by
  have := Mem.set (B := B ++ [y0, y1, y2]) (L := L) (by simpa using M) i v
  simpa using this
end
section
variable {w w0 : World} {B L : List Blk} {y0 y1 y2 y3 : Blk} {b : Nat} {t : TypeId} {cs : Array Value} (M : Mem w w0 (B ++ y0 :: y1 :: y2 :: y3 :: ⟨b, t, cs⟩ :: L))
include M
theorem Mem.cell4 (i : Nat) : w.cell? ⟨b, i, none⟩ = cs[i]? := M.cell (t := t) (by simp) i
theorem Mem.frozen4 (i : Nat) : w.frozen? ⟨b, i, none⟩ = false := M.frozen (t := t) (cs := cs) (by simp) i
theorem Mem.blk4 : w.heap[b]? = some (.cells cs t (0, 0)) := M.has ⟨b, t, cs⟩ (by simp)
theorem Mem.lt4 : b < w.heap.size := M.lt (x := ⟨b, t, cs⟩) (by simp)
theorem Mem.set4 (i : Nat) (v : Value) : Mem (w.setCell ⟨b, i, none⟩ v) w0 (B ++ y0 :: y1 :: y2 :: y3 :: ⟨b, t, cs.setIfInBounds i v⟩ :: L) := by
  have := Mem.set (B := B ++ [y0, y1, y2, y3]) (L := L) (by simpa using M) i v
  simpa using this
end

/-! ### Whole blocks, read and written -/
def writeAt : Array Value → Nat → List Value → Array Value
  | cs, _, [] => cs
  | cs, o, v :: r => writeAt (cs.setIfInBounds o v) (o + 1) r
theorem writeAt_get : ∀ (vs : List Value) (cs : Array Value) (o i : Nat), (writeAt cs o vs)[i]? = if o ≤ i ∧ i < o + vs.length ∧ i < cs.size then vs[i - o]? else cs[i]?
  | [], cs, o, i => by
    rw [writeAt, if_neg]; simp; omega
  | v :: r, cs, o, i => by
    rw [writeAt, writeAt_get r _ (o + 1) i]
    simp only [Array.size_setIfInBounds, Array.getElem?_setIfInBounds, List.length_cons]
    by_cases h : i = o
    · subst h
      rw [if_neg (by omega), if_pos rfl]
      by_cases hs : i < cs.size
      · rw [if_pos hs, if_pos (by omega)]; simp
      · rw [if_neg hs, if_neg (by omega), Array.getElem?_eq_none (by omega)]
    · rw [if_neg (c := o = i) (fun e => h e.symm)]
      by_cases hc : o + 1 ≤ i ∧ i < o + 1 + r.length ∧ i < cs.size
      · rw [if_pos hc, if_pos (by omega), show i - o = (i - (o + 1)) + 1 by omega, List.getElem?_cons_succ]
      · rw [if_neg hc, if_neg (by omega)]
theorem writeAt_all (vs : List Value) (cs : Array Value) (h : vs.length = cs.size) : writeAt cs 0 vs = vs.toArray := by
  apply Array.ext_getElem?
  intro i
  rw [writeAt_get]
  by_cases hi : i < cs.size
  · rw [if_pos (by omega)]; simp
  · rw [if_neg (by omega), Array.getElem?_eq_none (by omega), Array.getElem?_eq_none (by simp; omega)]
theorem Mem.cells {w0 : World} {B L : List Blk} {b : Nat} {t : TypeId} : ∀ (vs : List Value) {w : World} {cs : Array Value} (o : Nat), Mem w w0 (B ++ ⟨b, t, cs⟩ :: L) → Mem (w.setCells b o vs) w0 (B ++ ⟨b, t, writeAt cs o vs⟩ :: L)
  | [], _, _, _, M => M
  | v :: r, _, _, o, M => Mem.cells r (o + 1) (M.set0 o v)
theorem Mem.fill {w w0 : World} {B L : List Blk} {b : Nat} {t : TypeId} {cs : Array Value} (M : Mem w w0 (B ++ ⟨b, t, cs⟩ :: L)) (vs : Array Value) (h : vs.size = cs.size) : Mem (w.setCells b 0 vs.toList) w0 (B ++ ⟨b, t, vs⟩ :: L) := by
  have := Mem.cells vs.toList 0 M
  rwa [writeAt_all _ _ (by simpa using h), Array.toArray_toList] at this
theorem Mem.there {w w0 : World} {L : List Blk} {b : Nat} {t : TypeId} {cs : Array Value} (M : Mem w w0 L) (hx : ⟨b, t, cs⟩ ∈ L) : w.there b 0 cs.size := fun j hj => by
  rw [M.cell hx, M.frozen hx]
  simp; omega
section
variable {P : Program} {w w0 : World} {ops : Array Oper} {rest : List Oper} {o : Oper} {a : Act} {Q : Exit → Act → World → Prop}
/-- A whole array is stored into a block of the call's own. -/
theorem wpList_store_blk (hgd : o.guard = none) (ty : TypeId) (x y : Operand) (ho : o.op = .store ty x y) {B L : List Blk} {b : Nat} {t : TypeId} {cs : Array Value} (M : Mem w w0 (B ++ ⟨b, t, cs⟩ :: L))
    (hx : a.eval x = .pointer (some ⟨b, 0, none⟩)) (vs : Array Value) (hy : a.eval y = .agg vs) (hi : (P.info? ty).map (·.size) = some cs.size) (hs : vs.size = cs.size) (h1 : ∀ v ∈ vs.toList, v.oneCell' = true)
    (h : ∀ w', Mem w' w0 (B ++ ⟨b, t, vs⟩ :: L) → wpList P ops Q rest (a.put o.dst undef) w') : wpList P ops Q (o :: rest) a w :=
  wpList_store_mid hgd ty x y ho b 0 vs hx hy (by rw [hs]; exact M.there (t := t) (by simp)) (by rw [hs]; exact hi) (by have := all_oneCell_toArray h1; simpa using this) (h _ (M.fill vs hs))
/-- A value of several cells is stored into a part of a block of the call's own. -/
theorem wpList_store_part (hgd : o.guard = none) (ty : TypeId) (x y : Operand) (ho : o.op = .store ty x y) {B L : List Blk} {b : Nat} {t : TypeId} {cs : Array Value} (M : Mem w w0 (B ++ ⟨b, t, cs⟩ :: L)) (k : Nat)
    (hx : a.eval x = .pointer (some ⟨b, k, none⟩)) (vs : Array Value) (hy : a.eval y = .agg vs) (hi : (P.info? ty).map (·.size) = some vs.size) (hs : k + vs.size ≤ cs.size) (h1 : ∀ v ∈ vs.toList, v.oneCell' = true)
    (h : ∀ w', Mem w' w0 (B ++ ⟨b, t, writeAt cs k vs.toList⟩ :: L) → wpList P ops Q rest (a.put o.dst undef) w') : wpList P ops Q (o :: rest) a w := by
  refine wpList_store_mid hgd ty x y ho b k vs hx hy (fun j hj => ?_) hi (by have := all_oneCell_toArray h1; simpa using this) (h _ (Mem.cells vs.toList k M))
  rw [M.cell0, M.frozen0]
  simp; omega
end
/-- In block b lie the cells cs. -/
def HasBlk (w : World) (b : Nat) (t : TypeId) (cs : Array Value) : Prop := w.heap[b]? = some (.cells cs t (0, 0))
section
variable {w : World} {b : Nat} {t : TypeId} {cs : Array Value}
theorem HasBlk.lt (h : HasBlk w b t cs) : b < w.heap.size := (Array.getElem?_eq_some_iff.1 h).1
theorem HasBlk.plus (h : HasBlk w b t cs) (g : Array Obj) (d : Nat) : HasBlk (Go.Proofs.Ytghaiplhakeahaa.plus w g d) b t cs := (heap_plus _ _ _ _ h.lt).trans h
theorem HasBlk.alloc (h : HasBlk w b t cs) (o : Obj) : HasBlk (w.alloc o) b t cs := (heap_alloc_old _ _ h.lt).trans h
theorem HasBlk.below {w' : World} (h : HasBlk w b t cs) (hb : Below w.heap.size w w') : HasBlk w' b t cs := (hb.block _ h.lt).trans h
theorem HasBlk.new (w : World) (t : TypeId) (cs : Array Value) (k : Nat) (hk : k = w.heap.size) : HasBlk (w.alloc (.cells cs t)) k t cs := by subst hk; exact heap_alloc_new _ _
theorem HasBlk.cell (h : HasBlk w b t cs) (i : Nat) : w.cell? ⟨b, i, none⟩ = cs[i]? := by
  unfold HasBlk at h; simp [World.cell?, h]
theorem HasBlk.frozen (h : HasBlk w b t cs) (i : Nat) : w.frozen? ⟨b, i, none⟩ = false := by
  unfold HasBlk at h; simp [World.frozen?, h]
end
theorem stays_bsl (l : List UInt8) : Stays (fun v w => BSl w v l) := fun v w w' ⟨x, hx⟩ h => by rw [hx]; exact h.plus _ _
/-! ### A block that a region makes -/
theorem run_alloc_op {P : Program} {o : Oper} {ρ : Operand → Value} {t : TypeId} {z : Value} (ho : o.op = .alloc t) (hz : ((P.info? t).bind (·.zero)) = some z) (W : World) :
    (execOp ρ o).run P W = .ok (.value (.pointer (some ⟨W.heap.size, 0, none⟩))) (W.alloc (.cells z.cells t)) := by
  obtain ⟨i, hi, hz⟩ := Option.bind_eq_some_iff.1 hz
  have h1 : (zeroValue t).run P W = .ok z W := by simp [zeroValue, typeInfo, hi, hz]
  simp only [execOp, ho, Instr.alloc, Sem.run_bind, h1, Result.andThen]
  rfl
/-- A block that was just made, behind the first B blocks. -/
def NewBlk (B : Nat) (t : TypeId) (cs : Array Value) : Pred := fun v w => ∃ b, v = .pointer (some ⟨b, 0, none⟩) ∧ B ≤ b ∧ w.heap[b]? = some (.cells cs t (0, 0))
theorem stays_newBlk (B : Nat) (t : TypeId) (cs : Array Value) : Stays (NewBlk B t cs) := fun v w w' ⟨x, hx⟩ ⟨b, h1, h2, h3⟩ => by
  refine ⟨b, h1, h2, ?_⟩
  rw [hx, heap_plus _ _ _ _ (Array.getElem?_eq_some_iff.1 h3).1]
  exact h3
theorem B_new {P : Program} {ops : Array Oper} {w0 : World} {Q : Slots → Prop} {a : Act} {R : List (Tmp × Pred)} {o : Oper} {rest : List Oper} {d : Tmp} {t : TypeId} {z : Value} (hd : o.dst = some d) (ho : o.op = .alloc t) (hz : ((P.info? t).bind (·.zero)) = some z) (hB : (sideB true ops R a o && noSel o) = true)
    (hr : wpS P ops w0 Q rest (mix a ((d, NewBlk w0.heap.size t z.cells) :: R))) : wpS P ops w0 Q (o :: rest) (mix a R) :=
  B_make _ (stays_newBlk _ _ _) hd hB (fun x => ⟨_, _, run_alloc_op ho hz _, Ext.of_below (balloc (Below.refl _ _) _), _, rfl, by simp, heap_alloc_new _ _⟩) hr

/-! ### A row that a slice owns -/
/-- The slice v of n elements (of type e, sz cells each) owns the row in the blocks B (one, or none while it is nil); its cells are xs. -/
inductive Row (e : TypeId) (sz : Nat) : Value → Nat → List Value → List Blk → Prop
  | void : Row e sz (.slice none 0 0) 0 [] []
  | one (r n cap : Nat) (cur : Array Value) (h1 : n ≤ cap) (h2 : cap ≤ maxLen) (h3 : cur.size = cap * sz) : Row e sz (.slice (some ⟨r, 0, none⟩) n cap) n (cur.toList.take (n * sz)) [⟨r, e, cur⟩]

section
variable {e : TypeId} {sz n : Nat} {v : Value} {xs : List Value} {B L : List Blk} {w w0 : World}
theorem Row.empty (e : TypeId) (sz r : Nat) : Row e sz (.slice (some ⟨r, 0, none⟩) 0 0) 0 [] [⟨r, e, #[]⟩] := by
  have := Row.one (e := e) (sz := sz) r 0 0 #[] (by omega) (by unfold maxLen; omega) (by simp)
  simpa using this
theorem Row.slice (h : Row e sz v n xs B) : ∃ ao cap, v = .slice ao n cap := by
  cases h with
  | void => exact ⟨none, 0, rfl⟩
  | one r n cap cur h1 h2 h3 => exact ⟨_, cap, rfl⟩
theorem Row.len (h : Row e sz v n xs B) : xs.length = n * sz := by
  cases h with
  | void => simp
  | one r n cap cur h1 h2 h3 => simp [h3]; rw [Nat.min_eq_left h1]
theorem Row.owns (h : Row e sz v n xs B) (M : Mem w w0 (B ++ L)) : w.ownsRow 0 e sz v n xs := by
  refine ⟨h.len, ?_⟩
  cases h with
  | void => exact .inl ⟨rfl, rfl⟩
  | one r n cap cur h1 h2 h3 => exact .inr ⟨r, cap, cur, rfl, Nat.zero_le _, M.has ⟨r, e, cur⟩ (by simp), h1, h2, h3, rfl⟩
theorem Row.ownBlock (h : Row e sz v n xs B) : v.ownBlock = B.head?.map (·.no) := by
  cases h <;> rfl
/-- Behind an append. -/
theorem Row.grown {w' : World} {v' : Value} {n' : Nat} {ys : List Value} (h : Row e sz v n xs B) (M : Mem w w0 (B ++ L)) (hB : New w0 B) (ho : w'.ownsRow 0 e sz v' n' ys) (hg : w.grownBy w' v.ownBlock)
    (hv : v'.ownBlock = v.ownBlock ∨ v'.ownBlock = some w.heap.size) : ∃ B', Row e sz v' n' ys B' ∧ Mem w' w0 (B' ++ L) ∧ New w0 B' := by
  have hap := M.apart
  rw [List.pairwise_append] at hap
  have hLB : ∀ x ∈ L, some x.no ≠ v.ownBlock := fun x hx => by
    rw [h.ownBlock]
    cases B with
    | nil => simp
    | cons b B => simp; exact fun e => hap.2.2 b (by simp) x hx e.symm
  have hold : ∀ k, k < w0.heap.size → some k ≠ v.ownBlock := fun k hk => by
    rw [h.ownBlock]
    cases B with
    | nil => simp
    | cons b B => have := hB b (by simp); simp; omega
  have hkeep : ∀ x ∈ L, w'.heap[x.no]? = some (.cells x.cs x.ty (0, 0)) := fun x hx => (hg.block _ (M.lt (by simp [hx])) (hLB x hx)).trans (M.has x (by simp [hx]))
  have hwas : ∀ k, k < w0.heap.size → (∀ x ∈ L, x.no ≠ k) → w'.heap[k]? = w0.heap[k]? := fun k hk hx =>
    (hg.block k (Nat.lt_of_lt_of_le hk M.size) (hold k hk)).trans (M.old k hk fun x hm => by
      rcases List.mem_append.1 hm with hm | hm
      · have := hB x hm; omega
      · exact hx x hm)
  rcases ho.2 with ⟨rfl, rfl⟩ | ⟨g, cap, cur, rfl, -, hgw, h1, h2, h3, rfl⟩
  · have : ys = [] := List.eq_nil_of_length_eq_zero (by simpa using ho.1)
    subst this
    exact ⟨[], .void, ⟨hg.os.trans M.os, hg.tape.trans M.tape, hg.output.trans M.output, Nat.le_trans M.size hg.size, by simpa using hwas, hap.2.1, by simpa using hkeep⟩, New.nil _⟩
  · have hgL : ∀ x ∈ L, g ≠ x.no := fun x hx e => by
      rcases hv with hv | hv
      · exact hLB x hx (by rw [← hv]; simp [Value.ownBlock, e])
      · have := M.lt (x := x) (by simp [hx])
        simp [Value.ownBlock] at hv
        omega
    have hg0 : w0.heap.size ≤ g := by
      rcases hv with hv | hv
      · rw [h.ownBlock] at hv
        cases B with
        | nil => simp [Value.ownBlock] at hv
        | cons b B =>
          have := hB b (by simp)
          simp [Value.ownBlock] at hv
          omega
      · simp [Value.ownBlock] at hv
        have := M.size
        omega
    refine ⟨[⟨g, e, cur⟩], .one g n' cap cur h1 h2 h3, ⟨hg.os.trans M.os, hg.tape.trans M.tape, hg.output.trans M.output, Nat.le_trans M.size hg.size, fun k hk hx => hwas k hk fun x hm => hx x (by simp [hm]), ?_, ?_⟩, New.cons hg0 (New.nil _)⟩
    · exact List.pairwise_cons.2 ⟨hgL, hap.2.1⟩
    · intro x hx
      rcases List.mem_append.1 hx with hx | hx
      · simp at hx; subst hx; exact hgw
      · exact hkeep x hx
theorem Row.cells (h : Row e sz v n xs B) (M : Mem w w0 (B ++ L)) : ∀ ao cap, v = .slice ao n cap → ∀ ad, ao = some ad → ∀ j u, xs[j]? = some u → w.cell? (ad.add j) = some u := by
  intro ao cap e1 ad e2 j u hj
  subst e2
  have ho := h.owns M
  cases h with
  | void => cases e1
  | one r n cap' cur h1 h2 h3 =>
    cases e1
    exact ho.cells (g := r) rfl j u hj
end

section
variable {P : Program} {w w0 : World} {ops : Array Oper} {rest : List Oper} {o : Oper} {a : Act} {Q : Exit → Act → World → Prop}

/-- append onto a row. -/
theorem wp_append_row {K : Act → World → Prop} (s x : Operand) (t : TypeId) (ho : o.op = .call { callee := .builtin .append, args := #[s, x], argTypes := #[t, t] })
    {e : TypeId} {sz bytes : Nat} (E : Elt P t e sz bytes) {B L : List Blk} (M : Mem w w0 (B ++ L)) (hB : New w0 B)
    (v : Value) (n : Nat) (xs : List Value) (hs : a.eval s = v) (hR : Row e sz v n xs B)
    (ao : Option Addr) (m c : Nat) (news : List Value) (hx : a.eval x = .slice ao m c) (hl : news.length = m * sz) (hnone : ao = none → m = 0 ∧ c = 0)
    (hc : ∀ ad, ao = some ad → ∀ j u, news[j]? = some u → w.cell? (ad.add j) = some u) (h1 : ∀ u ∈ news, u.oneCell' = true)
    (h63 : n + m ≤ maxLen) (hbytes : (n + m) * bytes ≤ 140737488355328)
    (N : Nat) (hN : n + m = N) (ys : List Value) (hys : xs ++ news = ys)
    (h : ∀ ao' cap' B' w', Row e sz (.slice ao' N cap') N ys B' → Mem w' w0 (B' ++ L) → New w0 B' → K (a.put o.dst (.slice ao' N cap')) w') :
    o.wp P a w K Q := by
  subst hN hys
  obtain ⟨i, z, ht, hi, hz, hsz, hby, hzs, hpos⟩ := E
  cases ao with
  | some ad =>
    obtain ⟨v', w', hrun, hown, hgrow, _, hat⟩ := run_append_own_at (P := P) w 0 t o.type e i z sz bytes ht hi hz hsz hby hzs hpos v n xs (hR.owns M) ad m c news hl (hc ad rfl) h1 h63 hbytes (Nat.zero_le _)
    obtain ⟨B', h2, h3, h4⟩ := hR.grown M hB hown hgrow hat
    obtain ⟨ao', cap', rfl⟩ := h2.slice
    unfold Oper.wp
    simp [execOp, ho, resolve, invoke, builtin, hs, hx, hrun, Result.andThen]
    exact h ao' cap' B' w' h2 h3 h4
  | none =>
    obtain ⟨rfl, rfl⟩ := hnone rfl
    have hn : news = [] := List.eq_nil_of_length_eq_zero (by simpa using hl)
    subst hn
    obtain ⟨ao', cap', rfl⟩ := hR.slice
    have hrun := run_append_owned_none (P := P) (w := w) 0 t o.type e i sz ht hi _ n xs (hR.owns M)
    unfold Oper.wp
    simp [execOp, ho, resolve, invoke, builtin, hs, hx, hrun, Result.andThen]
    exact h ao' cap' B w (by simpa using hR) M hB

theorem wpList_append_row (hgd : o.guard = none) (s x : Operand) (t : TypeId) (ho : o.op = .call { callee := .builtin .append, args := #[s, x], argTypes := #[t, t] })
    {e : TypeId} {sz bytes : Nat} (E : Elt P t e sz bytes) {B L : List Blk} (M : Mem w w0 (B ++ L)) (hB : New w0 B)
    (v : Value) (n : Nat) (xs : List Value) (hs : a.eval s = v) (hR : Row e sz v n xs B)
    (ao : Option Addr) (m c : Nat) (news : List Value) (hx : a.eval x = .slice ao m c) (hl : news.length = m * sz) (hnone : ao = none → m = 0 ∧ c = 0)
    (hc : ∀ ad, ao = some ad → ∀ j u, news[j]? = some u → w.cell? (ad.add j) = some u) (h1 : ∀ u ∈ news, u.oneCell' = true)
    (h63 : n + m ≤ maxLen) (hbytes : (n + m) * bytes ≤ 140737488355328)
    (N : Nat) (hN : n + m = N) (ys : List Value) (hys : xs ++ news = ys)
    (h : ∀ ao' cap' B' w', Row e sz (.slice ao' N cap') N ys B' → Mem w' w0 (B' ++ L) → New w0 B' → wpList P ops Q rest (a.put o.dst (.slice ao' N cap')) w') :
    wpList P ops Q (o :: rest) a w :=
  wpList_plain hgd fun _ hK => wp_append_row s x t ho E M hB v n xs hs hR ao m c news hx hl hnone hc h1 h63 hbytes N hN ys hys fun ao' cap' B' w' h2 h3 h4 => hK _ _ (h ao' cap' B' w' h2 h3 h4)

theorem step_append_row {K : Act → World → Prop} {E' : Prop} (hgd : o.guard = none) (s x : Operand) (t : TypeId) (ho : o.op = .call { callee := .builtin .append, args := #[s, x], argTypes := #[t, t] })
    {e : TypeId} {sz bytes : Nat} (E : Elt P t e sz bytes) {B L : List Blk} (M : Mem w w0 (B ++ L)) (hB : New w0 B)
    (v : Value) (n : Nat) (xs : List Value) (hs : a.eval s = v) (hR : Row e sz v n xs B)
    (ao : Option Addr) (m c : Nat) (news : List Value) (hx : a.eval x = .slice ao m c) (hl : news.length = m * sz) (hnone : ao = none → m = 0 ∧ c = 0)
    (hc : ∀ ad, ao = some ad → ∀ j u, news[j]? = some u → w.cell? (ad.add j) = some u) (h1 : ∀ u ∈ news, u.oneCell' = true)
    (h63 : n + m ≤ maxLen) (hbytes : (n + m) * bytes ≤ 140737488355328)
    (N : Nat) (hN : n + m = N) (ys : List Value) (hys : xs ++ news = ys)
    (h : ∀ ao' cap' B' w', Row e sz (.slice ao' N cap') N ys B' → Mem w' w0 (B' ++ L) → New w0 B' → K (a.put o.dst (.slice ao' N cap')) w') :
    if Region.wanted o (yielded ops a.tmps) = true then Oper.wp P o a w K Q else E' := by
  rw [if_pos (by simp [Region.wanted, hgd])]
  exact wp_append_row s x t ho E M hB v n xs hs hR ao m c news hx hl hnone hc h1 h63 hbytes N hN ys hys h

/-- append of elements that stand in the text: they lie in a block of their own, the newest. -/
theorem wpList_append_new (hgd : o.guard = none) (s x : Operand) (t : TypeId) (ho : o.op = .call { callee := .builtin .append, args := #[s, x], argTypes := #[t, t] })
    {e : TypeId} {sz bytes : Nat} (E : Elt P t e sz bytes) {B L : List Blk} (M : Mem w w0 (B ++ L)) (hB : New w0 B)
    (v : Value) (n : Nat) (xs : List Value) (hs : a.eval s = v) (hR : Row e sz v n xs B) (cs : Array Value) (e' : TypeId)
    (k m c : Nat) (hx : a.eval x = .slice (some ⟨k, 0, none⟩) m c) (hk : k = w.heap.size) (hl : cs.size = m * sz) (h1 : ∀ u ∈ cs.toList, u.oneCell' = true)
    (h63 : n + m ≤ maxLen) (hbytes : (n + m) * bytes ≤ 140737488355328)
    (N : Nat) (hN : n + m = N) (ys : List Value) (hys : xs ++ cs.toList = ys)
    (h : ∀ ao' cap' B' w', Row e sz (.slice ao' N cap') N ys B' → Mem w' w0 (B' ++ L) → New w0 B' → wpList P ops Q rest (a.put o.dst (.slice ao' N cap')) w') :
    wpList P ops Q (o :: rest) a (w.alloc (.cells cs e')) := by
  refine wpList_append_row hgd s x t ho E (M.alloc _) hB v n xs hs hR (some ⟨k, 0, none⟩) m c cs.toList hx (by simpa using hl) (by simp) ?_ h1 h63 hbytes N hN ys hys h
  intro ad had j u hj
  cases had
  have hadd : (⟨k, 0, none⟩ : Addr).add j = ⟨k, j, none⟩ := by unfold Addr.add; split <;> simp_all
  rw [hadd, hk, World.cell?_alloc_at _ _ _ _ rfl]
  simpa using hj
end

/-- A row of bytes, as a slice of bytes. -/
theorem Row.bsl {e : TypeId} {n : Nat} {v : Value} {l : List UInt8} {B L : List Blk} {w w0 : World} (h : Row e 1 v n (bcs l) B) (M : Mem w w0 (B ++ L)) : BSl w v l := by
  have hn := h.len
  rw [bcs_len] at hn
  have hc := h.cells M
  generalize hy : bcs l = ys at h
  cases h with
  | void =>
    have : l = [] := by cases l <;> simp [bcs] at hy ⊢
    subst this; exact BSl.nil w
  | one r n cap cur h1 h2 h3 =>
    have hn' : n = l.length := by omega
    subst hn'
    refine ⟨_, cap, rfl, ⟨h1, fun h => by cases h⟩, .inr ⟨r, 0, rfl, M.lt (x := ⟨r, e, cur⟩) (by simp), fun i hi => ?_⟩⟩
    have := hc _ _ rfl ⟨r, 0, none⟩ rfl i _ (bcs_get l i hi)
    rw [← this]
    congr 1
    unfold Addr.add; split <;> simp_all

/-- A row of digests, as a slice of digests. -/
theorem Row.dsl {e : TypeId} {n : Nat} {v : Value} {xs : List (BitVec 64)} {B L : List Blk} {w w0 : World} (h : Row e 8 v n (dall xs) B) (M : Mem w w0 (B ++ L)) : DSl w v xs := by
  have hn := h.len
  rw [dall_len] at hn
  have hc := h.cells M
  generalize hy : dall xs = ys at h
  cases h with
  | void =>
    have : xs = [] := List.eq_nil_of_length_eq_zero (by omega)
    subst this
    exact ⟨none, 0, rfl, ⟨by simp, fun _ => ⟨rfl, rfl⟩⟩, .inl rfl⟩
  | one r n cap cur h1 h2 h3 =>
    have hn' : n = xs.length := by omega
    subst hn'
    refine ⟨_, cap, rfl, ⟨h1, fun h => by cases h⟩, .inr ⟨r, 0, rfl, M.lt (x := ⟨r, e, cur⟩) (by simp), fun i hi j hj => ?_⟩⟩
    have := hc _ _ rfl ⟨r, 0, none⟩ rfl (i * 8 + j) _ (dall_get xs i hi j hj)
    rw [← this]
    congr 1
    unfold Addr.add; split <;> simp_all

end Go.Proofs.Ytghaiplhakeahaa
