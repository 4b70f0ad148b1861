/- A region that draws its order, walked under an invariant, the frame opaque: each operation's goal knows of the frame what it looks at. Plain; over any program. -/
import Derived.Test.YtghaiplhakeahaaInv
namespace Go.Proofs.Ytghaiplhakeahaa
set_option linter.unusedSimpArgs false
set_option linter.unusedVariables false
open Go.RowKit

/-- What stands in a slot of a frame with marks. -/
def look (A : Act) : List (Bool × Tmp × Value) → Tmp → Value
  | [], s => A.tmps.getD s undef
  | (b, d, v) :: l, s => if d = s then (bif b then v else look A l s) else look A l s
/-- A slot's mark is set. -/
def setF : List (Bool × Tmp × Value) → Tmp → Value → List (Bool × Tmp × Value)
  | [], _, _ => []
  | (b, d, v) :: l, e, u => if d = e then (true, d, u) :: l else (b, d, v) :: setF l e u
theorem ovl_size (A : Act) : ∀ F, (ovl A F).tmps.size = A.tmps.size
  | [] => rfl
  | (b, d, v) :: l => by
    unfold ovl
    simp only [Array.size_setIfInBounds]
    exact ovl_size A l
theorem ovl_defers (A : Act) : ∀ F, (ovl A F).defers = A.defers
  | [] => rfl
  | (b, d, v) :: l => by
    unfold ovl
    exact ovl_defers A l
theorem ovl_get (A : Act) : ∀ (F : List (Bool × Tmp × Value)), (∀ p ∈ F, p.2.1 < A.tmps.size) → ∀ s, (ovl A F).tmps.getD s undef = look A F s
  | [], _, s => rfl
  | (b, d, v) :: l, h, s => by
    have ih := ovl_get A l (fun p hp => h p (List.mem_cons_of_mem _ hp))
    have hd : d < (ovl A l).tmps.size := by rw [ovl_size]; exact h (b, d, v) (List.mem_cons_self ..)
    unfold ovl look
    simp only [Array.getD_eq_getD_getElem?] at ih ⊢
    by_cases e : d = s
    · subst e
      rw [Array.getElem?_setIfInBounds_self_of_lt hd, if_pos rfl]
      cases b with
      | true => rfl
      | false =>
        have := ih d
        simp only [cond_false, Option.getD_some]
        exact this
    · rw [Array.getElem?_setIfInBounds_ne e, if_neg e]
      exact ih s
theorem ovl_cons (A : Act) (b : Bool) (d : Tmp) (v : Value) (l : List (Bool × Tmp × Value)) : ovl A ((b, d, v) :: l) = ⟨(ovl A l).tmps.setIfInBounds d (bif b then v else (ovl A l).tmps.getD d undef), (ovl A l).defers⟩ := rfl
theorem set_set (ts : Array Value) (d : Nat) (x y : Value) : (ts.setIfInBounds d x).setIfInBounds d y = ts.setIfInBounds d y := by
  apply Array.ext_getElem?
  intro i
  by_cases hi : d = i
  · subst hi
    by_cases hs : d < ts.size
    · rw [Array.getElem?_setIfInBounds_self_of_lt (by simpa using hs), Array.getElem?_setIfInBounds_self_of_lt hs]
    · rw [Array.getElem?_eq_none (by simpa using hs), Array.getElem?_eq_none (by simpa using hs)]
  · rw [Array.getElem?_setIfInBounds_ne hi, Array.getElem?_setIfInBounds_ne hi, Array.getElem?_setIfInBounds_ne hi]
theorem set_comm (ts : Array Value) (d e : Nat) (h : d ≠ e) (x y : Value) : (ts.setIfInBounds d x).setIfInBounds e y = (ts.setIfInBounds e y).setIfInBounds d x := by
  apply Array.ext_getElem?
  intro i
  by_cases hi : d = i
  · subst hi
    rw [Array.getElem?_setIfInBounds_ne (fun q => h q.symm)]
    by_cases hs : d < ts.size
    · rw [Array.getElem?_setIfInBounds_self_of_lt hs, Array.getElem?_setIfInBounds_self_of_lt (by simpa using hs)]
    · rw [Array.getElem?_eq_none (by simpa using hs), Array.getElem?_eq_none (by simpa using hs)]
  · rw [Array.getElem?_setIfInBounds_ne hi]
    by_cases hie : e = i
    · subst hie
      by_cases hs : e < ts.size
      · rw [Array.getElem?_setIfInBounds_self_of_lt (by simpa using hs), Array.getElem?_setIfInBounds_self_of_lt hs]
      · rw [Array.getElem?_eq_none (by simpa using hs), Array.getElem?_eq_none (by simpa using hs)]
    · rw [Array.getElem?_setIfInBounds_ne hie, Array.getElem?_setIfInBounds_ne hi, Array.getElem?_setIfInBounds_ne hie]
theorem ovl_put (A : Act) : ∀ (F : List (Bool × Tmp × Value)) (e : Tmp) (u : Value), (F.map (·.2.1)).Nodup → e ∈ F.map (·.2.1) → (ovl A F).put (some e) u = ovl A (setF F e u)
  | [], _, _, _, h => by cases h
  | (b, d, v) :: l, e, u, hn, hm => by
    rw [List.map_cons, List.nodup_cons] at hn
    by_cases he : d = e
    · subst he
      rw [setF, if_pos rfl, ovl_cons, ovl_cons]
      show Act.mk _ _ = Act.mk _ _
      rw [set_set]
      rfl
    · have hm' : e ∈ l.map (·.2.1) := by
        rcases List.mem_cons.1 hm with h1 | h1
        · exact absurd h1.symm he
        · exact h1
      have ih := ovl_put A l e u hn.2 hm'
      have ht : (ovl A l).tmps.setIfInBounds e u = (ovl A (setF l e u)).tmps := congrArg Act.tmps ih
      rw [setF, if_neg he, ovl_cons, ovl_cons]
      show Act.mk _ _ = Act.mk _ _
      rw [ovl_defers, ovl_defers, set_comm _ _ _ he, ht]
      congr 2
      cases b with
      | true => rfl
      | false =>
        simp only [cond_false]
        rw [← ht]
        simp only [Array.getD_eq_getD_getElem?]
        rw [Array.getElem?_setIfInBounds_ne (fun q => he q.symm)]
/-- What is put where an operation ends. -/
def putO (F : List (Bool × Tmp × Value)) (d : Option Tmp) (u : Value) : List (Bool × Tmp × Value) := match d with | none => F | some e => setF F e u
section
variable {P : Program} {Q : Exit → Act → World → Prop} {α : Type}
def StepB (P : Program) (all : Array Oper) (Q : Exit → Act → World → Prop) (A : Act) (F : (Nat → Bool) → α → List (Bool × Tmp × Value)) (Wd : (Nat → Bool) → α → World → Prop) (i : Nat) (o : Oper) : Prop :=
  ∀ L x w, Wd L x w → Shut all L → L i = false → depsB o L → ∀ (B : Act) (K : Act → World → Prop), Hid (∀ s, B.tmps.getD s undef = look A (F L x) s) →
    Hid (∀ v x' w', putO (F L x) o.dst v = F (upd L i) x' → Wd (upd L i) x' w' → K (B.put o.dst v) w') →
    match o.guard with
    | none => o.wp P B w K Q
    | some _ => if Region.wanted o (yielded all B.tmps) = true then o.wp P B w K Q else K (B.put o.dst undef) w
def StepsB (P : Program) (all : Array Oper) (Q : Exit → Act → World → Prop) (A : Act) (F : (Nat → Bool) → α → List (Bool × Tmp × Value)) (Wd : (Nat → Bool) → α → World → Prop) : Nat → List Oper → Prop
  | _, [] => True
  | i, o :: rest => StepB P all Q A F Wd i o ∧ StepsB P all Q A F Wd (i + 1) rest
theorem stepsB_O {all : Array Oper} {A : Act} {F : (Nat → Bool) → α → List (Bool × Tmp × Value)} {Wd : (Nat → Bool) → α → World → Prop} {D : List Tmp} (hF : ∀ L x, (F L x).map (·.2.1) = D) (hD : D.Nodup) (hs : ∀ d ∈ D, d < A.tmps.size) :
    ∀ (l : List Oper) (i : Nat), (∀ o ∈ l, ∀ d, o.dst = some d → d ∈ D) → StepsB P all Q A F Wd i l → StepsO P all Q A F Wd i l
  | [], _, _, _ => trivial
  | o :: l, i, hl, ⟨h1, h2⟩ => ⟨fun L x w hw hC hL hd K hK => by
      have hsz : ∀ p ∈ F L x, p.2.1 < A.tmps.size := fun p hp => hs _ (by rw [← hF L x]; exact List.mem_map.2 ⟨p, hp, rfl⟩)
      refine h1 L x w hw hC hL hd (ovl A (F L x)) K (ovl_get A _ hsz) ?_
      intro v x' w' he hw'
      have hp : (ovl A (F L x)).put o.dst v = ovl A (putO (F L x) o.dst v) := by
        cases hdst : o.dst with
        | none => rfl
        | some d => exact ovl_put A _ d v (by rw [hF]; exact hD) (by rw [hF]; exact hl o (List.mem_cons_self ..) d hdst)
      rw [hp, he]
      exact hK x' w' hw', stepsB_O hF hD hs l (i + 1) (fun o ho => hl o (List.mem_cons_of_mem _ ho)) h2⟩
theorem wp_region_o2 {id : Nat} {a : Act} {w : World} {L : List Oper} (D : List Tmp) (F : (Nat → Bool) → α → List (Bool × Tmp × Value)) (Wd : (Nat → Bool) → α → World → Prop) (x : α) (hm : P.follows .mixedOrders = true) (hb : backB L.toArray = true)
    (n : Nat) (hn : a.tmps.size = n) (hFD : ∀ L x, (F L x).map (·.2.1) = D) (hD : decide D.Nodup = true) (hs : (D.all fun d => decide (d < n)) = true) (hl : (L.all fun o => match o.dst with | none => true | some d => D.contains d) = true)
    (hF : ((F (fun j => decide (L.length ≤ j)) x).all fun p => !p.1) = true) (h0 : Wd (fun j => decide (L.length ≤ j)) x w.drew)
    (hf : ∀ x w, Wd (fun _ => true) x w → Q .normal (ovl a (F (fun _ => true) x)) w) (hst : StepsB P L.toArray Q a F Wd 0 L) : (Code.region id L.toArray true).wp P Q a w :=
  wp_region_ov F Wd x hm hb hF h0 hf (stepsB_O hFD (of_decide_eq_true hD) (fun d hd => by rw [hn]; exact of_decide_eq_true (List.all_eq_true.1 hs d hd)) L 0 (fun o ho d hd => by
    have h := List.all_eq_true.1 hl o ho
    rw [hd] at h
    simpa using h) hst)
/-- Whether an operation is wanted. -/
theorem wanted_B {all : Array Oper} {B : Act} {o : Oper} {j d : Nat} {t c : Bool} (hg : o.guard = some (j, t)) (hj : (all[j]?).bind (·.dst) = some d) (hv : B.tmps.getD d undef = .bool c) : Region.wanted o (yielded all B.tmps) = (c == t) := by
  have h1 : B.tmps[d]? = some (.bool c) := by
    rw [Array.getD_eq_getD_getElem?] at hv
    cases h : B.tmps[d]? with
    | none => rw [h] at hv; cases hv
    | some y => rw [h] at hv; rw [show y = .bool c from hv]
  unfold Region.wanted yielded
  rw [hg]
  simp only [hj, Option.bind_some, h1]
  cases c <;> cases t <;> rfl
end

end Go.Proofs.Ytghaiplhakeahaa
