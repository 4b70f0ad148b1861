/- Rows of the call's own, in the blocks behind a world; append onto them. -/
import Derived.Test.YtghaiplhakeahaaL
import Derived.Laws.AppendOwnNone
namespace Go.Proofs.Ytghaiplhakeahaa
set_option linter.unusedSimpArgs false
set_option linter.unusedVariables false
open Go.RowKit

/-- Among the blocks g behind B others lies the row that the slice v of n elements owns; its first cells are xs. -/
def GRow (B : Nat) (g : Array Obj) (e : TypeId) (s : Nat) (v : Value) (n : Nat) (xs : List Value) : Prop :=
  xs.length = n * s ∧ ((v = .slice none 0 0 ∧ n = 0) ∨
    ∃ j cap cur, v = .slice (some ⟨B + j, 0, none⟩) n cap ∧ g[j]? = some (.cells cur e (0, 0)) ∧ n ≤ cap ∧ cap ≤ maxLen ∧ cur.size = cap * s ∧ cur.toList.take (n * s) = xs)

theorem GRow.nil (B : Nat) (g : Array Obj) (e : TypeId) (s : Nat) : GRow B g e s (.slice none 0 0) 0 [] := ⟨by simp, .inl ⟨rfl, rfl⟩⟩

/-- An empty slice that stands in the text. -/
theorem GRow.empty (B : Nat) (e : TypeId) (s : Nat) : GRow B #[.cells #[] e] e s (.slice (some ⟨B, 0, none⟩) 0 0) 0 [] :=
  ⟨by simp, .inr ⟨0, 0, #[], by simp, by simp, by omega, by unfold maxLen; omega, by simp, by simp⟩⟩
theorem alloc_self (w : World) (o : Obj) : w.alloc o = plus w #[o] w.drawn := by
  show ({ w with heap := w.heap.push o } : World) = { w with heap := w.heap ++ #[o], drawn := w.drawn }
  rw [Array.append_singleton]

theorem GRow.more {B : Nat} {g : Array Obj} {e : TypeId} {s : Nat} {v : Value} {n : Nat} {xs : List Value} (h : GRow B g e s v n xs) (k : Array Obj) : GRow B (g ++ k) e s v n xs := by
  refine ⟨h.1, h.2.imp id ?_⟩
  rintro ⟨j, cap, cur, hv, hg, rest⟩
  refine ⟨j, cap, cur, hv, ?_, rest⟩
  have hj := (Array.getElem?_eq_some_iff.1 hg).1
  rw [Array.getElem?_append_left hj]; exact hg

theorem GRow.owns {W0 : World} {g : Array Obj} {e : TypeId} {s : Nat} {v : Value} {n : Nat} {xs : List Value} (h : GRow W0.heap.size g e s v n xs) (d : Nat) : (plus W0 g d).ownsRow W0.heap.size e s v n xs := by
  refine ⟨h.1, h.2.imp id ?_⟩
  rintro ⟨j, cap, cur, hv, hg, rest⟩
  refine ⟨W0.heap.size + j, cap, cur, hv, by omega, ?_, rest⟩
  simp only [plus]
  rw [Array.getElem?_append_right (by omega)]
  simpa using hg

theorem GRow.of_owns {W0 : World} {g : Array Obj} {d : Nat} {e : TypeId} {s : Nat} {v : Value} {n : Nat} {xs : List Value} (h : (plus W0 g d).ownsRow W0.heap.size e s v n xs) : GRow W0.heap.size g e s v n xs := by
  refine ⟨h.1, h.2.imp id ?_⟩
  rintro ⟨k, cap, cur, hv, hb, hg, rest⟩
  refine ⟨k - W0.heap.size, cap, cur, by rw [hv]; congr 4; omega, ?_, rest⟩
  simp only [plus] at hg
  rw [Array.getElem?_append_right hb] at hg
  exact hg

theorem GRow.slice {B : Nat} {g : Array Obj} {e : TypeId} {s : Nat} {v : Value} {n : Nat} {xs : List Value} (h : GRow B g e s v n xs) : ∃ ao cap, v = .slice ao n cap := by
  rcases h.2 with ⟨rfl, rfl⟩ | ⟨j, cap, cur, rfl, _⟩
  · exact ⟨none, 0, rfl⟩
  · exact ⟨_, cap, rfl⟩

/-- What is told of an element's type, in one. -/
def Elt (P : Program) (t e : TypeId) (s bytes : Nat) : Prop :=
  ∃ i z, P.underlying t = some (.slice e) ∧ P.info? e = some i ∧ i.zero = some z ∧ i.size = s ∧ i.bytes = bytes ∧ z.cells.size = s ∧ 0 < s

theorem elt_mk {P : Program} {t e : TypeId} {s bytes : Nat} (z : Value) (h1 : P.underlying t = some (.slice e)) (h2 : (P.info? e).map (fun i => (i.zero, i.size, i.bytes)) = some (some z, s, bytes)) (h3 : z.cells.size = s) (h4 : 0 < s) : Elt P t e s bytes := by
  obtain ⟨i, hi, hz0, hz1, hz2⟩ := info_parts h2
  exact ⟨i, z, h1, hi, hz0, hz1, hz2, h3, h4⟩

section
variable {P : Program} {w : World} {ops : Array Oper} {rest : List Oper} {o : Oper} {a : Act} {Q : Exit → Act → World → Prop}

/-- append onto a row of the call's own, from whatever slice: the world behind it is W0 with other blocks behind it. -/
theorem wp_append_in {K : Act → World → Prop} (s x : Operand) (t : TypeId) (ho : o.op = .call { callee := .builtin .append, args := #[s, x], argTypes := #[t, t] })
    (W0 : World) {e : TypeId} {sz bytes : Nat} (E : Elt P t e sz bytes) (hB : Below W0.heap.size W0 w)
    (v : Value) (n : Nat) (xs : List Value) (hs : a.eval s = v) (hown : w.ownsRow W0.heap.size e sz v n xs)
    (ao : Option Addr) (m c : Nat) (news : List Value) (hx : a.eval x = .slice ao m c) (hl : news.length = m * sz) (hnone : ao = none → m = 0 ∧ c = 0)
    (hc : ∀ ad, ao = some ad → ∀ j u, news[j]? = some u → w.cell? (ad.add j) = some u) (h1 : ∀ u ∈ news, u.oneCell' = true)
    (h63 : n + m ≤ maxLen) (hbytes : (n + m) * bytes ≤ 140737488355328)
    (N : Nat) (hN : n + m = N) (ys : List Value) (hys : xs ++ news = ys)
    (h : ∀ ao' cap' g d, GRow W0.heap.size g e sz (.slice ao' N cap') N ys → (Value.slice ao' N cap' = .slice none 0 0 ↔ v = .slice none 0 0 ∧ m = 0) → K (a.put o.dst (.slice ao' N cap')) (plus W0 g d)) :
    o.wp P a w K Q := by
  subst hN hys
  obtain ⟨i, z, ht, hi, hz, hsz, hby, hzs, hpos⟩ := E
  cases ao with
  | some ad =>
    refine wp_append_own w s x t ho W0.heap.size e i z sz bytes ht hi hz hsz hby hzs hpos v n xs hs hown ad m c news hx hl (hc ad rfl) h1 h63 hbytes hB.size ?_
    intro v' w' h2 h3 h4
    obtain ⟨g, d, rfl⟩ := plus_of_below (hB.grown h3 hB.size (fun k hk => (hown.lt k hk).1))
    obtain ⟨ao', cap', rfl⟩ := (GRow.of_owns h2).slice
    exact h ao' cap' g d (GRow.of_owns h2) h4
  | none =>
    obtain ⟨rfl, rfl⟩ := hnone rfl
    have hn : news = [] := List.eq_nil_of_length_eq_zero (by simpa using hl)
    subst hn
    obtain ⟨g, d, rfl⟩ := plus_of_below hB
    obtain ⟨ao', cap', rfl⟩ := (GRow.of_owns hown).slice
    have hrun := run_append_owned_none (P := P) (w := plus W0 g d) W0.heap.size t o.type e i sz ht hi _ n xs hown
    unfold Oper.wp
    simp [execOp, ho, resolve, invoke, builtin, hs, hx, hrun, Result.andThen]
    exact h ao' cap' g d (by simpa using GRow.of_owns hown) (by simp)

theorem wpList_append_in (hgd : o.guard = none) (s x : Operand) (t : TypeId) (ho : o.op = .call { callee := .builtin .append, args := #[s, x], argTypes := #[t, t] })
    (W0 : World) {e : TypeId} {sz bytes : Nat} (E : Elt P t e sz bytes) (hB : Below W0.heap.size W0 w)
    (v : Value) (n : Nat) (xs : List Value) (hs : a.eval s = v) (hown : w.ownsRow W0.heap.size e sz v n xs)
    (ao : Option Addr) (m c : Nat) (news : List Value) (hx : a.eval x = .slice ao m c) (hl : news.length = m * sz) (hnone : ao = none → m = 0 ∧ c = 0)
    (hc : ∀ ad, ao = some ad → ∀ j u, news[j]? = some u → w.cell? (ad.add j) = some u) (h1 : ∀ u ∈ news, u.oneCell' = true)
    (h63 : n + m ≤ maxLen) (hbytes : (n + m) * bytes ≤ 140737488355328)
    (N : Nat) (hN : n + m = N) (ys : List Value) (hys : xs ++ news = ys)
    (h : ∀ ao' cap' g d, GRow W0.heap.size g e sz (.slice ao' N cap') N ys → (Value.slice ao' N cap' = .slice none 0 0 ↔ v = .slice none 0 0 ∧ m = 0) → wpList P ops Q rest (a.put o.dst (.slice ao' N cap')) (plus W0 g d)) :
    wpList P ops Q (o :: rest) a w :=
  wpList_plain hgd fun _ hK => wp_append_in s x t ho W0 E hB v n xs hs hown ao m c news hx hl hnone hc h1 h63 hbytes N hN ys hys fun ao' cap' g d h2 h3 => hK _ _ (h ao' cap' g d h2 h3)

/-- The same as a step of a region that draws its order. -/
theorem step_append_in {K : Act → World → Prop} {E' : Prop} (hgd : o.guard = none) (s x : Operand) (t : TypeId) (ho : o.op = .call { callee := .builtin .append, args := #[s, x], argTypes := #[t, t] })
    (W0 : World) {e : TypeId} {sz bytes : Nat} (E : Elt P t e sz bytes) (hB : Below W0.heap.size W0 w)
    (v : Value) (n : Nat) (xs : List Value) (hs : a.eval s = v) (hown : w.ownsRow W0.heap.size e sz v n xs)
    (ao : Option Addr) (m c : Nat) (news : List Value) (hx : a.eval x = .slice ao m c) (hl : news.length = m * sz) (hnone : ao = none → m = 0 ∧ c = 0)
    (hc : ∀ ad, ao = some ad → ∀ j u, news[j]? = some u → w.cell? (ad.add j) = some u) (h1 : ∀ u ∈ news, u.oneCell' = true)
    (h63 : n + m ≤ maxLen) (hbytes : (n + m) * bytes ≤ 140737488355328)
    (N : Nat) (hN : n + m = N) (ys : List Value) (hys : xs ++ news = ys)
    (h : ∀ ao' cap' g d, GRow W0.heap.size g e sz (.slice ao' N cap') N ys → (Value.slice ao' N cap' = .slice none 0 0 ↔ v = .slice none 0 0 ∧ m = 0) → K (a.put o.dst (.slice ao' N cap')) (plus W0 g d)) :
    if Region.wanted o (yielded ops a.tmps) = true then Oper.wp P o a w K Q else E' := by
  rw [if_pos (by simp [Region.wanted, hgd])]
  exact wp_append_in s x t ho W0 E hB v n xs hs hown ao m c news hx hl hnone hc h1 h63 hbytes N hN ys hys h

/-- append of elements that stand in the text: they lie in a block of their own, the newest. -/
theorem wp_append_fresh {K : Act → World → Prop} (s x : Operand) (t : TypeId) (ho : o.op = .call { callee := .builtin .append, args := #[s, x], argTypes := #[t, t] })
    (W0 : World) (g : Array Obj) (d : Nat) (cs : Array Value) (e' : TypeId) {e : TypeId} {sz bytes : Nat} (E : Elt P t e sz bytes)
    (v : Value) (n : Nat) (xs : List Value) (hs : a.eval s = v) {B : Nat} (hown : GRow B g e sz v n xs) (hB : B = W0.heap.size)
    (k m c : Nat) (hx : a.eval x = .slice (some ⟨k, 0, none⟩) m c) (hk : k = W0.heap.size + g.size) (hl : cs.size = m * sz)
    (h1 : ∀ u ∈ cs.toList, u.oneCell' = true) (h63 : n + m ≤ maxLen) (hbytes : (n + m) * bytes ≤ 140737488355328)
    (N : Nat) (hN : n + m = N) (ys : List Value) (hys : xs ++ cs.toList = ys)
    (h : ∀ ao' cap' g d, GRow B g e sz (.slice ao' N cap') N ys → (Value.slice ao' N cap' = .slice none 0 0 ↔ v = .slice none 0 0 ∧ m = 0) → K (a.put o.dst (.slice ao' N cap')) (plus W0 g d)) :
    o.wp P a ((plus W0 g d).alloc (.cells cs e')) K Q := by
  subst hB
  refine wp_append_in s x t ho W0 E ((bplus (Below.refl _ _) g d).alloc (by simp) _) v n xs hs ((hown.owns d).alloc _) (some ⟨k, 0, none⟩) m c cs.toList hx (by simpa using hl) (by simp) ?_ h1 h63 hbytes N hN ys hys h
  intro ad had j u hj
  cases had
  have hadd : (⟨k, 0, none⟩ : Addr).add j = ⟨k, j, none⟩ := by unfold Addr.add; split <;> simp_all
  rw [hadd, hk, World.cell?_alloc_at _ _ _ _ (by simp)]
  simpa using hj

theorem wpList_append_fresh (hgd : o.guard = none) (s x : Operand) (t : TypeId) (ho : o.op = .call { callee := .builtin .append, args := #[s, x], argTypes := #[t, t] })
    (W0 : World) (g : Array Obj) (d : Nat) (cs : Array Value) (e' : TypeId) {e : TypeId} {sz bytes : Nat} (E : Elt P t e sz bytes)
    (v : Value) (n : Nat) (xs : List Value) (hs : a.eval s = v) {B : Nat} (hown : GRow B g e sz v n xs) (hB : B = W0.heap.size)
    (k m c : Nat) (hx : a.eval x = .slice (some ⟨k, 0, none⟩) m c) (hk : k = W0.heap.size + g.size) (hl : cs.size = m * sz)
    (h1 : ∀ u ∈ cs.toList, u.oneCell' = true) (h63 : n + m ≤ maxLen) (hbytes : (n + m) * bytes ≤ 140737488355328)
    (N : Nat) (hN : n + m = N) (ys : List Value) (hys : xs ++ cs.toList = ys)
    (h : ∀ ao' cap' g d, GRow B g e sz (.slice ao' N cap') N ys → (Value.slice ao' N cap' = .slice none 0 0 ↔ v = .slice none 0 0 ∧ m = 0) → wpList P ops Q rest (a.put o.dst (.slice ao' N cap')) (plus W0 g d)) :
    wpList P ops Q (o :: rest) a ((plus W0 g d).alloc (.cells cs e')) :=
  wpList_plain hgd fun _ hK => wp_append_fresh s x t ho W0 g d cs e' E v n xs hs hown hB k m c hx hk hl h1 h63 hbytes N hN ys hys fun ao' cap' g d h2 h3 => hK _ _ (h ao' cap' g d h2 h3)

theorem step_append_fresh {K : Act → World → Prop} {E' : Prop} (hgd : o.guard = none) (s x : Operand) (t : TypeId) (ho : o.op = .call { callee := .builtin .append, args := #[s, x], argTypes := #[t, t] })
    (W0 : World) (g : Array Obj) (d : Nat) (cs : Array Value) (e' : TypeId) {e : TypeId} {sz bytes : Nat} (E : Elt P t e sz bytes)
    (v : Value) (n : Nat) (xs : List Value) (hs : a.eval s = v) {B : Nat} (hown : GRow B g e sz v n xs) (hB : B = W0.heap.size)
    (k m c : Nat) (hx : a.eval x = .slice (some ⟨k, 0, none⟩) m c) (hk : k = W0.heap.size + g.size) (hl : cs.size = m * sz)
    (h1 : ∀ u ∈ cs.toList, u.oneCell' = true) (h63 : n + m ≤ maxLen) (hbytes : (n + m) * bytes ≤ 140737488355328)
    (N : Nat) (hN : n + m = N) (ys : List Value) (hys : xs ++ cs.toList = ys)
    (h : ∀ ao' cap' g d, GRow B g e sz (.slice ao' N cap') N ys → (Value.slice ao' N cap' = .slice none 0 0 ↔ v = .slice none 0 0 ∧ m = 0) → K (a.put o.dst (.slice ao' N cap')) (plus W0 g d)) :
    if Region.wanted o (yielded ops a.tmps) = true then Oper.wp P o a ((plus W0 g d).alloc (.cells cs e')) K Q else E' := by
  rw [if_pos (by simp [Region.wanted, hgd])]
  exact wp_append_fresh s x t ho W0 g d cs e' E v n xs hs hown hB k m c hx hk hl h1 h63 hbytes N hN ys hys h

end

end Go.Proofs.Ytghaiplhakeahaa
