/- Messages: slices of bytes whose bytes lie in what was there at the start, or in blocks that are known whole; lists of them. Plain; over any program. -/
import Derived.Test.YtghaiplhakeahaaMem
import Derived.Test.YtghaiplhakeahaaTl
namespace Go.Proofs.Ytghaiplhakeahaa
set_option linter.unusedSimpArgs false
set_option linter.unusedVariables false
open Go.RowKit

/-! ### How often a block stands in a list -/
noncomputable def one1 (x y : Blk) : Nat := open Classical in if x = y then 1 else 0
noncomputable def cnt (x : Blk) : List Blk → Nat
  | [] => 0
  | y :: l => one1 x y + cnt x l
theorem cnt_nil (x : Blk) : cnt x [] = 0 := rfl
theorem cnt_cons (x y : Blk) (l : List Blk) : cnt x (y :: l) = one1 x y + cnt x l := rfl
theorem cnt_append (x : Blk) (l r : List Blk) : cnt x (l ++ r) = cnt x l + cnt x r := by
  induction l with
  | nil => simp [cnt]
  | cons y l ih => simp only [List.cons_append, cnt_cons, ih]; omega
theorem cnt_mem (x : Blk) (l : List Blk) : 0 < cnt x l ↔ x ∈ l := by
  induction l with
  | nil => simp [cnt]
  | cons y l ih =>
    rw [cnt_cons, List.mem_cons, ← ih]
    by_cases h : x = y
    · simp [one1, h]; omega
    · simp [one1, h]
theorem perm_cnt {A B : List Blk} (h : ∀ x, cnt x A = cnt x B) : A.Perm B := by
  classical
  rw [List.perm_iff_count]
  intro x
  have key : ∀ l : List Blk, l.count x = cnt x l := fun l => by
    induction l with
    | nil => rfl
    | cons y l ih =>
      rw [List.count_cons, ih, cnt_cons]
      by_cases e : x = y
      · subst e; simp [one1]; omega
      · have e' : ¬ y = x := fun q => e q.symm
        simp [one1, e, e']
  rw [key, key, h]
theorem sub_cnt {A B : List Blk} (h : ∀ x, 0 < cnt x A → 0 < cnt x B) : ∀ x ∈ A, x ∈ B := fun x hx => (cnt_mem x B).1 (h x ((cnt_mem x A).2 hx))
theorem cnt_sub {A B : List Blk} (h : ∀ x ∈ A, x ∈ B) (x : Blk) : 0 < cnt x A → 0 < cnt x B := fun hx => (cnt_mem x B).2 (h x ((cnt_mem x A).1 hx))

theorem wp_opq {P : Program} {c : Code} {Q : Exit → Act → World → Prop} {a : Act} {W : World} (S : World → Prop) (h : S W) (k : ∀ W', S W' → c.wp P Q a W') : c.wp P Q a W := k W h
theorem calls_opq {P : Program} {f : FuncId} {args : Array Value} {Q : Ending → World → Prop} {W : World} (S : World → Prop) (h : S W) (k : ∀ W', S W' → Calls P f args W' Q) : Calls P f args W Q := k W h
/-- From cell o of block r on lie the cells xs: in the world w0, or in a block of L. -/
def Cel (w0 : World) (L : List Blk) (r o : Nat) (xs : List Value) : Prop :=
  (r < w0.heap.size ∧ ∀ j u, xs[j]? = some u → w0.cell? ⟨r, o + j, none⟩ = some u) ∨ ∃ t cs, (⟨r, t, cs⟩ : Blk) ∈ L ∧ ∀ j u, xs[j]? = some u → cs[o + j]? = some u
/-- The slice v of n elements (one cell each) has the cells xs. -/
def Sl (w0 : World) (L : List Blk) (v : Value) (n : Nat) (xs : List Value) : Prop :=
  xs.length = n ∧ ∃ ao cap, v = .slice ao n cap ∧ (n ≤ cap ∧ (ao = none → n = 0 ∧ cap = 0)) ∧ (n = 0 ∨ ∃ r o, ao = some ⟨r, o, none⟩ ∧ Cel w0 L r o xs)
/-- The value v is the message m. -/
def Msg (w0 : World) (L : List Blk) (v : Value) (m : List UInt8) : Prop := Sl w0 L v m.length (bcs m)
/-- Values that are messages. -/
def Msgs (w0 : World) (L : List Blk) (vs : List Value) (ms : List (List UInt8)) : Prop := vs.length = ms.length ∧ ∀ (i : Nat) (v : Value) (m : List UInt8), vs[i]? = some v → ms[i]? = some m → Msg w0 L v m
/-- The slice v of messages. -/
def MsgL (w0 : World) (L : List Blk) (v : Value) (ms : List (List UInt8)) : Prop := ∃ vs, Sl w0 L v ms.length vs ∧ Msgs w0 L vs ms
/-- What the world w is: as w0 was, with new blocks X. -/
structure Ow (w w0 : World) (X : List Blk) : Prop where
  mem : Mem w w0 X
  new : New w0 X

section
variable {w w0 : World} {L L' X : List Blk} {v : Value} {n : Nat} {xs : List Value}
theorem Ow.start (w : World) : Ow w w [] := ⟨Mem.start w, New.nil w⟩
theorem Ow.perm (h : Ow w w0 L) (p : L.Perm L') : Ow w w0 L' := ⟨h.mem.perm p, fun x hx => h.new x (p.mem_iff.2 hx)⟩
theorem Ow.plus (h : Ow w w0 X) (g : Array Obj) (d : Nat) : Ow (Go.Proofs.Ytghaiplhakeahaa.plus w g d) w0 X := ⟨h.mem.plus g d, h.new⟩
theorem Ow.of_below {w' : World} (h : Ow w w0 X) (hb : Below w.heap.size w w') : Ow w' w0 X := ⟨h.mem.of_below hb, h.new⟩
theorem Ow.below (h : Ow w w0 X) : Below w0.heap.size w0 w := h.mem.below h.new
theorem Ow.alloc (h : Ow w w0 L) (o : Obj) : Ow (w.alloc o) w0 L := ⟨h.mem.alloc o, h.new⟩
theorem Ow.key (h : Ow w w0 L) (cs : Array Value) (t : TypeId) (b : Nat) (hb : b = w.heap.size) : Ow (w.alloc (.cells cs t)) w0 (⟨b, t, cs⟩ :: L) :=
  ⟨h.mem.key cs t b hb, New.cons (by subst hb; exact h.mem.size) h.new⟩
theorem Ow.has (h : Ow w w0 X) {b : Nat} {t : TypeId} {cs : Array Value} (hx : (⟨b, t, cs⟩ : Blk) ∈ X) : HasBlk w b t cs := h.mem.has _ hx
theorem Ow.drop {B : List Blk} (h : Ow w w0 (B ++ L)) : Ow w w0 L := ⟨h.mem.dropAll fun x hx => h.new x (by simp [hx]), fun x hx => h.new x (by simp [hx])⟩
theorem Ow.drop1 {x : Blk} (h : Ow w w0 (x :: L)) : Ow w w0 L := Ow.drop (B := [x]) h
theorem Ow.old (h : Ow w w0 X) {k : Nat} (hk : k < w0.heap.size) (i : Nat) : w.cell? ⟨k, i, none⟩ = w0.cell? ⟨k, i, none⟩ := h.mem.oldcell h.new hk i
theorem Ow.set {b : Nat} {t : TypeId} {cs : Array Value} (h : Ow w w0 (⟨b, t, cs⟩ :: L)) (i : Nat) (v : Value) : Ow (w.setCell ⟨b, i, none⟩ v) w0 (⟨b, t, cs.setIfInBounds i v⟩ :: L) :=
  ⟨Mem.set (B := []) h.mem i v, New.cons (h.new ⟨b, t, cs⟩ (by simp)) fun x hx => h.new x (by simp [hx])⟩
theorem Ow.as (h : Ow w w0 L) (e : L = L') : Ow w w0 L' := e ▸ h
/-- Blocks that were made on the way. -/
theorem Ow.found {W : World} : ∀ {B : List Blk}, Ow W w0 L → Ext W w → B.Pairwise (fun x y => x.no ≠ y.no) → (∀ x ∈ B, W.heap.size ≤ x.no ∧ HasBlk w x.no x.ty x.cs) → Ow w w0 (B ++ L)
  | [], h, ⟨x, hx⟩, _, _ => by rw [hx]; exact h.plus _ _
  | b :: B, h, hx, hp, hb => by
    have hp' := List.pairwise_cons.1 hp
    have ih := Ow.found (B := B) h hx hp'.2 fun x hx => hb x (by simp [hx])
    have h1 := hb b (by simp)
    refine ⟨⟨ih.mem.os, ih.mem.tape, ih.mem.output, ih.mem.size, fun k hk hq => ih.mem.old k hk fun x hm => hq x (List.mem_cons_of_mem _ hm), ?_, ?_⟩, New.cons (Nat.le_trans h.mem.size h1.1) ih.new⟩
    · show (b :: (B ++ L)).Pairwise _
      refine List.pairwise_cons.2 ⟨fun y hy => ?_, ih.mem.apart⟩
      rcases List.mem_append.1 hy with hy | hy
      · exact hp'.1 y hy
      · have := h.mem.lt hy
        omega
    · intro y hy
      rcases List.mem_cons.1 hy with rfl | hy
      · exact h1.2
      · exact ih.mem.has y hy

theorem Cel.mono {r o : Nat} (h : Cel w0 L r o xs) (hL : ∀ x ∈ L, x ∈ L') : Cel w0 L' r o xs := h.imp id fun ⟨t, cs, h1, h2⟩ => ⟨t, cs, hL _ h1, h2⟩
theorem Cel.get {r o : Nat} (h : Cel w0 L r o xs) (M : Ow w w0 X) (hL : ∀ x ∈ L, x ∈ X) (j : Nat) (u : Value) (hj : xs[j]? = some u) : w.cell? ⟨r, o + j, none⟩ = some u := by
  rcases h with ⟨h1, h2⟩ | ⟨t, cs, h1, h2⟩
  · rw [M.old h1]; exact h2 j u hj
  · rw [M.mem.cell (hL _ h1)]; exact h2 j u hj
theorem Cel.lt {r o : Nat} (h : Cel w0 L r o xs) (M : Ow w w0 X) (hL : ∀ x ∈ L, x ∈ X) : r < w.heap.size := by
  rcases h with ⟨h1, _⟩ | ⟨t, cs, h1, _⟩
  · exact Nat.lt_of_lt_of_le h1 M.mem.size
  · exact M.mem.lt (hL _ h1)
theorem Sl.mono (h : Sl w0 L v n xs) (hL : ∀ x ∈ L, x ∈ L') : Sl w0 L' v n xs := by
  obtain ⟨h0, ao, cap, h1, h2, h3⟩ := h
  refine ⟨h0, ao, cap, h1, h2, h3.imp id ?_⟩
  rintro ⟨r, o, h4, h5⟩
  exact ⟨r, o, h4, h5.mono hL⟩
theorem Sl.slice (h : Sl w0 L v n xs) : ∃ ao cap, v = .slice ao n cap ∧ n ≤ cap ∧ (ao = none → n = 0 ∧ cap = 0) := by
  obtain ⟨h0, ao, cap, h1, h2, _⟩ := h; exact ⟨ao, cap, h1, h2.1, h2.2⟩
theorem Sl.nil (w0 : World) (L : List Blk) : Sl w0 L (.slice none 0 0) 0 [] := ⟨rfl, none, 0, rfl, ⟨Nat.le_refl _, fun _ => ⟨rfl, rfl⟩⟩, .inl rfl⟩
/-- Its cells, in a world that has them. -/
theorem Sl.cells {ao : Option Addr} {m cap : Nat} (h : Sl w0 L (.slice ao m cap) n xs) (M : Ow w w0 X) (hL : ∀ x ∈ L, x ∈ X) : ∀ ad, ao = some ad → ∀ j u, xs[j]? = some u → w.cell? (ad.add j) = some u := by
  obtain ⟨h0, ao', cap', h1, h2, h3⟩ := h
  cases h1
  intro ad had j u hj
  have hlt := (List.getElem?_eq_some_iff.1 hj).1
  rcases h3 with h3 | ⟨r, o, h4, h5⟩
  · omega
  · rw [had] at h4
    cases h4
    have hadd : (⟨r, o, none⟩ : Addr).add j = ⟨r, o + j, none⟩ := by
      unfold Addr.add; split <;> simp_all
    rw [hadd]
    exact h5.get M hL j u hj
theorem Sl.open_ {ao : Option Addr} {m cap : Nat} (h : Sl w0 L (.slice ao m cap) n xs) (M : Ow w w0 X) (hL : ∀ x ∈ L, x ∈ X) (h0 : 0 < n) : ∃ r o, ao = some ⟨r, o, none⟩ ∧ r < w.heap.size ∧ ∀ j u, xs[j]? = some u → w.cell? ⟨r, o + j, none⟩ = some u := by
  obtain ⟨h0, ao', cap', h1, h2, h3⟩ := h
  cases h1
  rcases h3 with h3 | ⟨r, o, h4, h5⟩
  · omega
  · exact ⟨r, o, h4, h5.lt M hL, fun j u hj => h5.get M hL j u hj⟩
theorem Sl.of_vsl {f : Nat → Value} (h : VSl w0 v n f) : Sl w0 [] v n ((List.range n).map f) := by
  obtain ⟨ao, cap, rfl, h1, h2⟩ := h
  refine ⟨by simp, ao, cap, rfl, h1, h2.imp id ?_⟩
  rintro ⟨r, o, h3, h4, h5⟩
  refine ⟨r, o, h3, .inl ⟨h4, fun j u hj => ?_⟩⟩
  have hlt := (List.getElem?_eq_some_iff.1 hj).1
  simp at hlt
  simp [hlt] at hj
  rw [h5 j hlt, hj]
/-- A part of a slice. -/
theorem Sl.part {ao : Option Addr} {m cap c : Nat} (h : Sl w0 L (.slice ao m cap) n xs) (k l : Nat) (hk : k + l ≤ n) (hc : l ≤ c) (ao' : Option Addr) (hao : ∀ ad, ao = some ad → 0 < l → ao' = some (ad.add k)) (h00 : ao' = none → l = 0 ∧ c = 0) : Sl w0 L (.slice ao' l c) l ((xs.drop k).take l) := by
  obtain ⟨h0, ao1, cap', h1, h2, h3⟩ := h
  cases h1
  refine ⟨by simp; omega, ao', c, rfl, ⟨hc, h00⟩, ?_⟩
  by_cases hl : l = 0
  · exact .inl hl
  · rcases h3 with h3 | ⟨r, o, h4, h5⟩
    · omega
    · right
      have h6 := hao _ h4 (by omega)
      have hadd : (⟨r, o, none⟩ : Addr).add k = ⟨r, o + k, none⟩ := by
        unfold Addr.add; split <;> simp_all
      rw [hadd] at h6
      refine ⟨r, o + k, h6, ?_⟩
      have key : ∀ j u, ((xs.drop k).take l)[j]? = some u → xs[k + j]? = some u := fun j u hj => by
        rw [List.getElem?_take] at hj
        split at hj
        · rwa [List.getElem?_drop] at hj
        · cases hj
      rcases h5 with ⟨h7, h8⟩ | ⟨t, cs, h7, h8⟩
      · exact .inl ⟨h7, fun j u hj => by rw [Nat.add_assoc]; exact h8 _ _ (key j u hj)⟩
      · exact .inr ⟨t, cs, h7, fun j u hj => by rw [Nat.add_assoc]; exact h8 _ _ (key j u hj)⟩
theorem Row.sl {e : TypeId} {B : List Blk} (h : Row e 1 v n xs B) (w0 : World) : Sl w0 B v n xs := by
  have hn := h.len
  cases h with
  | void => exact Sl.nil w0 []
  | one r n cap cur h1 h2 h3 =>
    refine ⟨by omega, _, cap, rfl, ⟨h1, fun h => by cases h⟩, .inr ⟨r, 0, rfl, .inr ⟨e, cur, by simp, fun j u hj => ?_⟩⟩⟩
    rw [List.getElem?_take] at hj
    split at hj
    · rw [Nat.zero_add]; rwa [Array.getElem?_toList] at hj
    · cases hj

theorem Msg.mono {m : List UInt8} (h : Msg w0 L v m) (hL : ∀ x ∈ L, x ∈ L') : Msg w0 L' v m := Sl.mono h hL
theorem Msg.slice {m : List UInt8} (h : Msg w0 L v m) : ∃ ao cap, v = .slice ao m.length cap := by
  obtain ⟨ao, cap, h1, _⟩ := Sl.slice h; exact ⟨ao, cap, h1⟩
theorem Msg.one {m : List UInt8} (h : Msg w0 L v m) : v.oneCell' = true := by
  obtain ⟨ao, cap, rfl⟩ := h.slice; rfl
theorem Msg.bsl {m : List UInt8} (h : Msg w0 L v m) (M : Ow w w0 X) (hL : ∀ x ∈ L, x ∈ X) : BSl w v m := by
  obtain ⟨h0, ao, cap, rfl, h1, h3⟩ := h
  refine ⟨ao, cap, rfl, h1, h3.imp id ?_⟩
  rintro ⟨r, o, rfl, h5⟩
  exact ⟨r, o, rfl, h5.lt M hL, fun i hi => h5.get M hL i _ (bcs_get m i hi)⟩
theorem Msg.of_bsl {m : List UInt8} (h : BSl w0 v m) : Msg w0 [] v m := by
  have h1 := Sl.of_vsl h
  have h2 : (List.range m.length).map (fun i => Value.int .u8 ((m.getD i 0).toNat : Int)) = bcs m := by
    apply List.ext_getElem?
    intro i
    by_cases hi : i < m.length
    · rw [bcs_get m i hi]; simp [hi]
    · rw [List.getElem?_eq_none (by simp; omega), List.getElem?_eq_none (by rw [bcs_len]; omega)]
  rw [h2] at h1
  exact h1
theorem Msgs.nil (w0 : World) (L : List Blk) : Msgs w0 L [] [] := ⟨rfl, fun i v m hv => by simp at hv⟩
theorem Msgs.mono {vs : List Value} {ms : List (List UInt8)} (h : Msgs w0 L vs ms) (hL : ∀ x ∈ L, x ∈ L') : Msgs w0 L' vs ms := ⟨h.1, fun i v m hv hm => (h.2 i v m hv hm).mono hL⟩
theorem Msgs.get {vs : List Value} {ms : List (List UInt8)} (h : Msgs w0 L vs ms) (i : Nat) (hi : i < ms.length) : ∃ v, vs[i]? = some v ∧ Msg w0 L v (ms.getD i []) := by
  have hv : i < vs.length := by rw [h.1]; exact hi
  refine ⟨vs[i], List.getElem?_eq_getElem hv, h.2 i _ _ (List.getElem?_eq_getElem hv) ?_⟩
  rw [List.getD_eq_getElem?_getD, List.getElem?_eq_getElem hi]; rfl
theorem Msgs.snoc {vs : List Value} {ms : List (List UInt8)} (h : Msgs w0 L vs ms) {m : List UInt8} (hm : Msg w0 L v m) : Msgs w0 L (vs ++ [v]) (ms ++ [m]) := by
  refine ⟨by simp [h.1], fun i v' m' hv hm' => ?_⟩
  by_cases hlt : i < ms.length
  · rw [List.getElem?_append_left (by rw [h.1]; exact hlt)] at hv
    rw [List.getElem?_append_left hlt] at hm'
    exact h.2 i _ _ hv hm'
  · rw [List.getElem?_append_right (by rw [h.1]; omega), h.1] at hv
    rw [List.getElem?_append_right (by omega)] at hm'
    have h0 : i - ms.length = 0 := by
      have := (List.getElem?_eq_some_iff.1 hv).1
      simp at this; exact this
    rw [h0] at hv hm'
    simp at hv hm'
    subst hv hm'
    exact hm
theorem Msgs.app {vs us : List Value} {ms ns : List (List UInt8)} (h : Msgs w0 L vs ms) (k : Msgs w0 L us ns) : Msgs w0 L (vs ++ us) (ms ++ ns) := by
  refine ⟨by simp [h.1, k.1], fun i v' m' hv hm' => ?_⟩
  by_cases hlt : i < ms.length
  · rw [List.getElem?_append_left (by rw [h.1]; exact hlt)] at hv
    rw [List.getElem?_append_left hlt] at hm'
    exact h.2 i _ _ hv hm'
  · rw [List.getElem?_append_right (by rw [h.1]; omega), h.1] at hv
    rw [List.getElem?_append_right (by omega)] at hm'
    exact k.2 _ _ _ hv hm'
theorem Msgs.drop {vs : List Value} {ms : List (List UInt8)} (h : Msgs w0 L vs ms) (n : Nat) : Msgs w0 L (vs.drop n) (ms.drop n) := by
  refine ⟨by simp [h.1], fun i v m hv hm => ?_⟩
  rw [List.getElem?_drop] at hv hm
  exact h.2 (n + i) _ _ hv hm
theorem Msgs.take {vs : List Value} {ms : List (List UInt8)} (h : Msgs w0 L vs ms) (n : Nat) : Msgs w0 L (vs.take n) (ms.take n) := by
  refine ⟨by simp [h.1], fun i v m hv hm => ?_⟩
  rw [List.getElem?_take] at hv hm
  split at hv
  · rename_i hlt
    rw [if_pos hlt] at hm
    exact h.2 i _ _ hv hm
  · cases hv
theorem Msgs.one {vs : List Value} {ms : List (List UInt8)} (h : Msgs w0 L vs ms) : ∀ v ∈ vs, v.oneCell' = true := fun v hv => by
  obtain ⟨i, hi, rfl⟩ := List.getElem_of_mem hv
  have him : i < ms.length := by rw [← h.1]; exact hi
  exact (h.2 i _ _ (List.getElem?_eq_getElem hi) (List.getElem?_eq_getElem him)).one
theorem MsgL.mono {ms : List (List UInt8)} (h : MsgL w0 L v ms) (hL : ∀ x ∈ L, x ∈ L') : MsgL w0 L' v ms := by
  obtain ⟨vs, h1, h2⟩ := h
  exact ⟨vs, h1.mono hL, h2.mono hL⟩
theorem MsgL.nil (w0 : World) (L : List Blk) : MsgL w0 L (.slice none 0 0) [] := ⟨[], Sl.nil w0 L, Msgs.nil w0 L⟩
theorem MsgL.part {ms : List (List UInt8)} {ao : Option Addr} {m cap c : Nat} (h : MsgL w0 L (.slice ao m cap) ms) (k l : Nat) (hk : k + l ≤ ms.length) (hc : l ≤ c) (ao' : Option Addr) (hao : ∀ ad, ao = some ad → 0 < l → ao' = some (ad.add k)) (h00 : ao' = none → l = 0 ∧ c = 0) : MsgL w0 L (.slice ao' l c) ((ms.drop k).take l) := by
  obtain ⟨vs, h1, h2⟩ := h
  have hl : ((ms.drop k).take l).length = l := by simp; omega
  refine ⟨(vs.drop k).take l, by rw [hl]; exact h1.part k l hk hc ao' hao h00, (h2.drop k).take l⟩
theorem Row.msgl {e : TypeId} {B : List Blk} {vs : List Value} {ms : List (List UInt8)} (h : Row e 1 v ms.length vs B) (hm : Msgs w0 L vs ms) : MsgL w0 (B ++ L) v ms :=
  ⟨vs, (h.sl w0).mono (by intro x hx; simp [hx]), hm.mono (by intro x hx; simp [hx])⟩
theorem Row.msg {e : TypeId} {B : List Blk} {m : List UInt8} (h : Row e 1 v m.length (bcs m) B) (w0 : World) : Msg w0 B v m := h.sl w0
theorem Row.apart {e : TypeId} {sz : Nat} {B : List Blk} (h : Row e sz v n xs B) : B.Pairwise (fun x y => x.no ≠ y.no) := by
  cases h <;> simp
theorem sub_app_left {A B : List Blk} : ∀ x ∈ A, x ∈ A ++ B := fun x hx => by simp [hx]
theorem sub_app_right {A B : List Blk} : ∀ x ∈ B, x ∈ A ++ B := fun x hx => by simp [hx]
end

end Go.Proofs.Ytghaiplhakeahaa
