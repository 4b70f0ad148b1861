/- A region that draws its order, walked operation by operation under an invariant that tells of each operation done what stands in its slot. Plain; over any program. -/
import Derived.Test.YtghaiplhakeahaaBq
namespace Go.Proofs.Ytghaiplhakeahaa
set_option linter.unusedSimpArgs false
set_option linter.unusedVariables false
open Go.RowKit

def upd (L : Nat → Bool) (i : Nat) : Nat → Bool := fun j => decide (j = i) || L j
/-- What an operation waits for is done. -/
def depsB (o : Oper) (L : Nat → Bool) : Prop := ∀ e ∈ o.after.toList.filter (Region.binds .any), L e.on = true
/-- Whatever is done, what it waits for is done. -/
def Shut (ops : Array Oper) (L : Nat → Bool) : Prop := ∀ k o, ops[k]? = some o → L k = true → depsB o L
theorem shut_upd {ops : Array Oper} {L : Nat → Bool} (h : Shut ops L) {i : Nat} {o : Oper} (ho : ops[i]? = some o) (hd : depsB o L) : Shut ops (upd L i) := fun k ok hk hl e he => by
  simp only [upd, Bool.or_eq_true, decide_eq_true_eq] at hl ⊢
  rcases hl with rfl | hl
  · rw [ho] at hk; cases hk; exact .inr (hd e he)
  · exact .inr (h k ok hk hl e he)
def StepI (P : Program) (all : Array Oper) (Q : Exit → Act → World → Prop) (J : (Nat → Bool) → Act → World → Prop) (i : Nat) (o : Oper) : Prop :=
  ∀ L a w, J L a w → Shut all L → L i = false → depsB o L → ∀ K : Act → World → Prop, (∀ a' w', J (upd L i) a' w' → K a' w') →
    match o.guard with
    | none => o.wp P a w K Q
    | some _ => if Region.wanted o (yielded all a.tmps) = true then o.wp P a w K Q else K (a.put o.dst undef) w
def StepsI (P : Program) (all : Array Oper) (Q : Exit → Act → World → Prop) (J : (Nat → Bool) → Act → World → Prop) : Nat → List Oper → Prop
  | _, [] => True
  | i, o :: rest => StepI P all Q J i o ∧ StepsI P all Q J (i + 1) rest
theorem stepsI_at {P : Program} {all : Array Oper} {Q : Exit → Act → World → Prop} {J : (Nat → Bool) → Act → World → Prop} : ∀ (l : List Oper) (k : Nat), StepsI P all Q J k l → ∀ j o, l[j]? = some o → StepI P all Q J (k + j) o
  | [], _, _, j, o, h => by simp at h
  | x :: l, k, ⟨h1, h2⟩, 0, o, h => by simp at h; subst h; exact h1
  | x :: l, k, ⟨h1, h2⟩, j + 1, o, h => by
    have := stepsI_at l (k + 1) h2 j o (by simpa using h)
    rwa [show k + (j + 1) = k + 1 + j by omega]
/-- All edges lead back. -/
def backB (ops : Array Oper) : Bool := (List.range ops.size).all fun i => match ops[i]? with | some o => o.after.all fun e => !Region.binds .any e || decide (e.on < i) | none => true
def lst (LF : Array Bool) : Nat → Bool := fun j => LF.getD j true
theorem lst_set (LF : Array Bool) (i : Nat) : lst (LF.setIfInBounds i true) = upd (lst LF) i := by
  funext j
  simp only [lst, upd, Array.getD_eq_getD_getElem?]
  by_cases h : j = i
  · subst h
    rcases Nat.lt_or_ge j LF.size with h' | h'
    · rw [Array.getElem?_setIfInBounds_self_of_lt h']; simp
    · rw [Array.getElem?_eq_none (by simpa using h')]; simp
  · rw [Array.getElem?_setIfInBounds_ne (Ne.symm h)]; simp [h]
theorem lst_start (n : Nat) : lst (Array.replicate n false) = fun j => decide (n ≤ j) := by
  funext j
  simp only [lst, Array.getD_eq_getD_getElem?]
  rcases Nat.lt_or_ge j n with h | h
  · rw [Array.getElem?_eq_getElem (by simpa using h)]; simp; omega
  · rw [Array.getElem?_eq_none (by simpa using h)]; simp [h]
theorem all_listed {ops : Array Oper} (hb : backB ops = true) {LF : Array Bool} (hsz : LF.size = ops.size) (h : Region.ready .any ops LF = []) : ∀ i, lst LF i = true := by
  intro i
  induction i using Nat.strongRecOn with
  | ind i ih =>
    rcases Nat.lt_or_ge i LF.size with hL | hL
    case inr => simp [lst, Array.getD_eq_getD_getElem?, Array.getElem?_eq_none hL]
    cases hc : lst LF i with
    | true => rfl
    | false =>
      exfalso
      have hc' : LF.getD i true = false := hc
      rcases Nat.lt_or_ge i ops.size with hi | hi
      · have hm : i ∈ Region.ready .any ops LF := mem_ready.2 ⟨hc', ops[i], Array.getElem?_eq_getElem hi, fun e he hbd => by
          have h1 := List.all_eq_true.1 hb i (List.mem_range.2 hi)
          simp only [Array.getElem?_eq_getElem hi] at h1
          have h2 := Array.all_eq_true'.1 h1 e he
          simp only [hbd, Bool.not_true, Bool.false_or] at h2
          have h3 := of_decide_eq_true h2
          have h4 := ih _ h3
          have h5 : e.on < LF.size := by omega
          simp only [lst, Array.getD_eq_getD_getElem?, Array.getElem?_eq_getElem h5, Option.getD_some] at h4 ⊢
          exact h4⟩
        rw [h] at hm; cases hm
      · omega
theorem unl_zero (l : Array Bool) : ∀ m, unl m l = 0 → ∀ i, i < m → l.getD i true = true
  | 0, _, i, hi => by omega
  | m + 1, h, i, hi => by
    unfold unl at h
    by_cases he : i = m
    · subst he
      by_cases hc : l.getD i true = true
      · exact hc
      · rw [if_neg hc] at h; omega
    · exact unl_zero l m (by omega) i (by omega)
theorem unl_rep (n : Nat) : ∀ m, m ≤ n → unl m (Array.replicate n false) = m
  | 0, _ => rfl
  | m + 1, h => by
    unfold unl
    rw [unl_rep n m (by omega)]
    simp [Array.getD_eq_getD_getElem?, show m < n by omega]
section
variable {P : Program} {Q : Exit → Act → World → Prop} {ops : Array Oper}
theorem wpAny_inv (J : (Nat → Bool) → Act → World → Prop) (hb : backB ops = true) (hs : StepsI P ops Q J 0 ops.toList) (hf : ∀ a w, J (fun _ => true) a w → Q .normal a w) :
    ∀ (n : Nat) (LF : Array Bool) (a : Act) (w : World), LF.size = ops.size → unl ops.size LF = n → Shut ops (lst LF) → J (lst LF) a w → wpAny P .any ops Q n LF a w := by
  have fin : ∀ (LF : Array Bool) (a : Act) (w : World), LF.size = ops.size → J (lst LF) a w → Region.ready .any ops LF = [] → Q .normal a w := fun LF a w hz hj hr => by
    refine hf a w ?_
    have : lst LF = fun _ => true := funext fun i => all_listed hb hz hr i
    rwa [this] at hj
  intro n
  induction n with
  | zero =>
    intro LF a w hz hu _ hj
    have hr : Region.ready .any ops LF = [] := by
      cases hc : Region.ready .any ops LF with
      | nil => rfl
      | cons i r =>
        have hi : i ∈ Region.ready .any ops LF := by rw [hc]; exact List.mem_cons_self ..
        obtain ⟨h1, o, ho, _⟩ := mem_ready.1 hi
        have := unl_zero LF ops.size hu i (Array.getElem?_eq_some_iff.1 ho).1
        rw [h1] at this; cases this
    exact ⟨hr, fin LF a w hz hj hr⟩
  | succ n ih =>
    intro LF a w hz hu hC hj
    refine ⟨fin LF a w hz hj, fun i hi => ?_⟩
    obtain ⟨h1, o, ho, hd⟩ := mem_ready.1 hi
    have hlt := (Array.getElem?_eq_some_iff.1 ho).1
    have hst := stepsI_at ops.toList 0 hs i o (by rw [Array.getElem?_toList]; exact ho)
    rw [Nat.zero_add] at hst
    have hu2 := unl_set LF i ops.size hlt h1
    have hdep : depsB o (lst LF) := fun e he => by
      obtain ⟨he1, he2⟩ := List.mem_filter.1 he
      have h3 := hd e (by simpa using he1) he2
      simp only [lst, Array.getD_eq_getD_getElem?] at h3 ⊢
      cases h4 : LF[e.on]? with
      | none => rfl
      | some b => rw [h4] at h3; simpa using h3
    have hk : ∀ a' w', J (upd (lst LF) i) a' w' → wpAny P .any ops Q n (LF.setIfInBounds i true) a' w' := fun a' w' hj' =>
      ih (LF.setIfInBounds i true) a' w' (by simpa using hz) (by omega) (by rw [lst_set]; exact shut_upd hC ho hdep) (by rw [lst_set]; exact hj')
    have := hst (lst LF) a w hj hC h1 hdep _ hk
    unfold wpOp
    rw [ho]
    simp only
    cases hg : o.guard with
    | none =>
      rw [hg] at this
      rw [if_pos (by simp [Region.wanted, hg])]
      exact .inl this
    | some g =>
      rw [hg] at this
      simp only at this
      split
      · rename_i hw; rw [if_pos hw] at this; exact .inl this
      · rename_i hw; rw [if_neg hw] at this; exact this
theorem wp_region_inv {id : Nat} {a : Act} {w : World} {L : List Oper} (J : (Nat → Bool) → Act → World → Prop) (hm : P.follows .mixedOrders = true) (hb : backB L.toArray = true) (h0 : J (fun j => decide (L.length ≤ j)) a w.drew)
    (hs : StepsI P L.toArray Q J 0 L) (hf : ∀ a w, J (fun _ => true) a w → Q .normal a w) : (Code.region id L.toArray true).wp P Q a w := by
  refine wp_region_any hm (wpAny_inv J hb hs hf L.toArray.size _ a _ (by simp) (unl_rep _ _ (Nat.le_refl _)) ?_ ?_)
  · rw [lst_start]
    intro k o hk hl
    have := (Array.getElem?_eq_some_iff.1 hk).1
    simp at hl this
    omega
  · rw [lst_start]
    simpa using h0
end
/-- A frame in some of whose slots stands what is told, where the mark is set. -/
def ovl (a : Act) : List (Bool × Tmp × Value) → Act
  | [] => a
  | (b, d, v) :: l => { ovl a l with tmps := (ovl a l).tmps.setIfInBounds d (bif b then v else (ovl a l).tmps.getD d undef) }
theorem ovl_false (a : Act) : ∀ l : List (Bool × Tmp × Value), (l.all fun p => !p.1) = true → ovl a l = a
  | [], _ => rfl
  | (b, d, v) :: l, h => by
    simp only [List.all_cons, Bool.and_eq_true, Bool.not_eq_true'] at h
    obtain ⟨rfl, h2⟩ := h
    unfold ovl
    rw [ovl_false a l h2]
    simp only [cond_false]
    cases a with
    | mk ts ds =>
      congr 1
      apply Array.ext_getElem?
      intro i
      by_cases hi : d = i
      · subst hi
        rcases Nat.lt_or_ge d ts.size with h' | h'
        · rw [Array.getElem?_setIfInBounds_self_of_lt h', Array.getD_eq_getD_getElem?, Array.getElem?_eq_getElem h']; rfl
        · rw [Array.getElem?_eq_none (by simpa using h'), Array.getElem?_eq_none h']
      · rw [Array.getElem?_setIfInBounds_ne hi]
section
variable {P : Program} {Q : Exit → Act → World → Prop} {α : Type}
def StepO (P : Program) (all : Array Oper) (Q : Exit → Act → World → Prop) (A : Act) (F : (Nat → Bool) → α → List (Bool × Tmp × Value)) (Wd : (Nat → Bool) → α → World → Prop) (i : Nat) (o : Oper) : Prop :=
  ∀ L x w, Wd L x w → Shut all L → L i = false → depsB o L → ∀ K : Act → World → Prop, (∀ x' w', Wd (upd L i) x' w' → K (ovl A (F (upd L i) x')) w') →
    match o.guard with
    | none => o.wp P (ovl A (F L x)) w K Q
    | some _ => if Region.wanted o (yielded all (ovl A (F L x)).tmps) = true then o.wp P (ovl A (F L x)) w K Q else K ((ovl A (F L x)).put o.dst undef) w
def StepsO (P : Program) (all : Array Oper) (Q : Exit → Act → World → Prop) (A : Act) (F : (Nat → Bool) → α → List (Bool × Tmp × Value)) (Wd : (Nat → Bool) → α → World → Prop) : Nat → List Oper → Prop
  | _, [] => True
  | i, o :: rest => StepO P all Q A F Wd i o ∧ StepsO P all Q A F Wd (i + 1) rest
theorem stepsO_I {all : Array Oper} {A : Act} {F : (Nat → Bool) → α → List (Bool × Tmp × Value)} {Wd : (Nat → Bool) → α → World → Prop} : ∀ (l : List Oper) (i : Nat), StepsO P all Q A F Wd i l → StepsI P all Q (fun L a w => ∃ x, a = ovl A (F L x) ∧ Wd L x w) i l
  | [], _, _ => trivial
  | o :: l, i, ⟨h1, h2⟩ => ⟨fun L a w ⟨x, ha, hw⟩ hC hL hd K hK => by subst ha; exact h1 L x w hw hC hL hd K fun x' w' hw' => hK _ w' ⟨x', rfl, hw'⟩, stepsO_I l (i + 1) h2⟩
/-- The region, walked under an invariant: F tells what stands in the slots, Wd what the world is. -/
theorem wp_region_ov {id : Nat} {a : Act} {w : World} {L : List Oper} (F : (Nat → Bool) → α → List (Bool × Tmp × Value)) (Wd : (Nat → Bool) → α → World → Prop) (x : α) (hm : P.follows .mixedOrders = true) (hb : backB L.toArray = true)
    (hF : ((F (fun j => decide (L.length ≤ j)) x).all fun p => !p.1) = true) (h0 : Wd (fun j => decide (L.length ≤ j)) x w.drew)
    (hf : ∀ x w, Wd (fun _ => true) x w → Q .normal (ovl a (F (fun _ => true) x)) w) (hs : StepsO P L.toArray Q a F Wd 0 L) : (Code.region id L.toArray true).wp P Q a w :=
  wp_region_inv (fun L a' w => ∃ x, a' = ovl a (F L x) ∧ Wd L x w) hm hb ⟨x, (ovl_false a _ hF).symm, h0⟩ (stepsO_I L 0 hs) fun a' w ⟨x, ha, hw⟩ => by subst ha; exact hf x w hw
end
theorem wp_call_in {P : Program} {o : Oper} (f : FuncId) {xs : Array Operand} {ts : Array TypeId} (ho : o.op = .call { callee := .value (.func f), args := xs, argTypes := ts }) (he : entersB P f = true) {a : Act} {w : World} {K : Act → World → Prop} {Q : Exit → Act → World → Prop} (args : Array Value) (hargs : xs.map a.eval = args)
    (h : Calls P f args w (fun e w' => ∃ v, e = .returned v ∧ K (a.put o.dst v) w')) : o.wp P a w K Q := by
  subst hargs
  unfold Oper.wp
  rw [run_enter ho he]
  simp only [Oper.upon]
  refine Calls.mono h ?_
  rintro e w' ⟨v, rfl, hk⟩
  exact hk

/-- What stands in a slot of a frame with marks. -/
def look (A : Act) : List (Bool × Tmp × Value) → Tmp → Value
  | [], s => A.tmps.getD s undef
  | (b, d, v) :: l, s => if d = s then (bif b then v else look A l s) else look A l s
/-- A slot's mark is set. -/
def setF : List (Bool × Tmp × Value) → Tmp → Value → List (Bool × Tmp × Value)
  | [], _, _ => []
  | (b, d, v) :: l, e, u => if d = e then (true, d, u) :: l else (b, d, v) :: setF l e u
theorem ovl_size (A : Act) : ∀ F, (ovl A F).tmps.size = A.tmps.size
  | [] => rfl
  | (b, d, v) :: l => by
    unfold ovl
    simp only [Array.size_setIfInBounds]
    exact ovl_size A l
theorem ovl_defers (A : Act) : ∀ F, (ovl A F).defers = A.defers
  | [] => rfl
  | (b, d, v) :: l => by
    unfold ovl
    exact ovl_defers A l
theorem ovl_get (A : Act) : ∀ (F : List (Bool × Tmp × Value)), (∀ p ∈ F, p.2.1 < A.tmps.size) → ∀ s, (ovl A F).tmps.getD s undef = look A F s
  | [], _, s => rfl
  | (b, d, v) :: l, h, s => by
    have ih := ovl_get A l (fun p hp => h p (List.mem_cons_of_mem _ hp))
    have hd : d < (ovl A l).tmps.size := by rw [ovl_size]; exact h (b, d, v) (List.mem_cons_self ..)
    unfold ovl look
    simp only [Array.getD_eq_getD_getElem?] at ih ⊢
    by_cases e : d = s
    · subst e
      rw [Array.getElem?_setIfInBounds_self_of_lt hd, if_pos rfl]
      cases b with
      | true => rfl
      | false =>
        have := ih d
        simp only [cond_false, Option.getD_some]
        exact this
    · rw [Array.getElem?_setIfInBounds_ne e, if_neg e]
      exact ih s
theorem ovl_cons (A : Act) (b : Bool) (d : Tmp) (v : Value) (l : List (Bool × Tmp × Value)) : ovl A ((b, d, v) :: l) = ⟨(ovl A l).tmps.setIfInBounds d (bif b then v else (ovl A l).tmps.getD d undef), (ovl A l).defers⟩ := rfl
theorem set_set (ts : Array Value) (d : Nat) (x y : Value) : (ts.setIfInBounds d x).setIfInBounds d y = ts.setIfInBounds d y := by
  apply Array.ext_getElem?
  intro i
  by_cases hi : d = i
  · subst hi
    by_cases hs : d < ts.size
    · rw [Array.getElem?_setIfInBounds_self_of_lt (by simpa using hs), Array.getElem?_setIfInBounds_self_of_lt hs]
    · rw [Array.getElem?_eq_none (by simpa using hs), Array.getElem?_eq_none (by simpa using hs)]
  · rw [Array.getElem?_setIfInBounds_ne hi, Array.getElem?_setIfInBounds_ne hi, Array.getElem?_setIfInBounds_ne hi]
theorem set_comm (ts : Array Value) (d e : Nat) (h : d ≠ e) (x y : Value) : (ts.setIfInBounds d x).setIfInBounds e y = (ts.setIfInBounds e y).setIfInBounds d x := by
  apply Array.ext_getElem?
  intro i
  by_cases hi : d = i
  · subst hi
    rw [Array.getElem?_setIfInBounds_ne (fun q => h q.symm)]
    by_cases hs : d < ts.size
    · rw [Array.getElem?_setIfInBounds_self_of_lt hs, Array.getElem?_setIfInBounds_self_of_lt (by simpa using hs)]
    · rw [Array.getElem?_eq_none (by simpa using hs), Array.getElem?_eq_none (by simpa using hs)]
  · rw [Array.getElem?_setIfInBounds_ne hi]
    by_cases hie : e = i
    · subst hie
      by_cases hs : e < ts.size
      · rw [Array.getElem?_setIfInBounds_self_of_lt (by simpa using hs), Array.getElem?_setIfInBounds_self_of_lt hs]
      · rw [Array.getElem?_eq_none (by simpa using hs), Array.getElem?_eq_none (by simpa using hs)]
    · rw [Array.getElem?_setIfInBounds_ne hie, Array.getElem?_setIfInBounds_ne hi, Array.getElem?_setIfInBounds_ne hie]
theorem ovl_put (A : Act) : ∀ (F : List (Bool × Tmp × Value)) (e : Tmp) (u : Value), (F.map (·.2.1)).Nodup → e ∈ F.map (·.2.1) → (ovl A F).put (some e) u = ovl A (setF F e u)
  | [], _, _, _, h => by cases h
  | (b, d, v) :: l, e, u, hn, hm => by
    rw [List.map_cons, List.nodup_cons] at hn
    by_cases he : d = e
    · subst he
      rw [setF, if_pos rfl, ovl_cons, ovl_cons]
      show Act.mk _ _ = Act.mk _ _
      rw [set_set]
      rfl
    · have hm' : e ∈ l.map (·.2.1) := by
        rcases List.mem_cons.1 hm with h1 | h1
        · exact absurd h1.symm he
        · exact h1
      have ih := ovl_put A l e u hn.2 hm'
      have ht : (ovl A l).tmps.setIfInBounds e u = (ovl A (setF l e u)).tmps := congrArg Act.tmps ih
      rw [setF, if_neg he, ovl_cons, ovl_cons]
      show Act.mk _ _ = Act.mk _ _
      rw [ovl_defers, ovl_defers, set_comm _ _ _ he, ht]
      congr 2
      cases b with
      | true => rfl
      | false =>
        simp only [cond_false]
        rw [← ht]
        simp only [Array.getD_eq_getD_getElem?]
        rw [Array.getElem?_setIfInBounds_ne (fun q => he q.symm)]
/-- What is put where an operation ends. -/
def putO (F : List (Bool × Tmp × Value)) (d : Option Tmp) (u : Value) : List (Bool × Tmp × Value) := match d with | none => F | some e => setF F e u
section
variable {P : Program} {Q : Exit → Act → World → Prop} {α : Type}
def StepB (P : Program) (all : Array Oper) (Q : Exit → Act → World → Prop) (A : Act) (F : (Nat → Bool) → α → List (Bool × Tmp × Value)) (Wd : (Nat → Bool) → α → World → Prop) (i : Nat) (o : Oper) : Prop :=
  ∀ L x w, Wd L x w → Shut all L → L i = false → depsB o L → ∀ (B : Act) (K : Act → World → Prop), Hid (∀ s, B.tmps.getD s undef = look A (F L x) s) →
    Hid (∀ v x' w', putO (F L x) o.dst v = F (upd L i) x' → Wd (upd L i) x' w' → K (B.put o.dst v) w') →
    match o.guard with
    | none => o.wp P B w K Q
    | some _ => if Region.wanted o (yielded all B.tmps) = true then o.wp P B w K Q else K (B.put o.dst undef) w
def StepsB (P : Program) (all : Array Oper) (Q : Exit → Act → World → Prop) (A : Act) (F : (Nat → Bool) → α → List (Bool × Tmp × Value)) (Wd : (Nat → Bool) → α → World → Prop) : Nat → List Oper → Prop
  | _, [] => True
  | i, o :: rest => StepB P all Q A F Wd i o ∧ StepsB P all Q A F Wd (i + 1) rest
theorem stepsB_O {all : Array Oper} {A : Act} {F : (Nat → Bool) → α → List (Bool × Tmp × Value)} {Wd : (Nat → Bool) → α → World → Prop} {D : List Tmp} (hF : ∀ L x, (F L x).map (·.2.1) = D) (hD : D.Nodup) (hs : ∀ d ∈ D, d < A.tmps.size) :
    ∀ (l : List Oper) (i : Nat), (∀ o ∈ l, ∀ d, o.dst = some d → d ∈ D) → StepsB P all Q A F Wd i l → StepsO P all Q A F Wd i l
  | [], _, _, _ => trivial
  | o :: l, i, hl, ⟨h1, h2⟩ => ⟨fun L x w hw hC hL hd K hK => by
      have hsz : ∀ p ∈ F L x, p.2.1 < A.tmps.size := fun p hp => hs _ (by rw [← hF L x]; exact List.mem_map.2 ⟨p, hp, rfl⟩)
      refine h1 L x w hw hC hL hd (ovl A (F L x)) K (ovl_get A _ hsz) ?_
      intro v x' w' he hw'
      have hp : (ovl A (F L x)).put o.dst v = ovl A (putO (F L x) o.dst v) := by
        cases hdst : o.dst with
        | none => rfl
        | some d => exact ovl_put A _ d v (by rw [hF]; exact hD) (by rw [hF]; exact hl o (List.mem_cons_self ..) d hdst)
      rw [hp, he]
      exact hK x' w' hw', stepsB_O hF hD hs l (i + 1) (fun o ho => hl o (List.mem_cons_of_mem _ ho)) h2⟩
theorem wp_region_o2 {id : Nat} {a : Act} {w : World} {L : List Oper} (D : List Tmp) (F : (Nat → Bool) → α → List (Bool × Tmp × Value)) (Wd : (Nat → Bool) → α → World → Prop) (x : α) (hm : P.follows .mixedOrders = true) (hb : backB L.toArray = true)
    (n : Nat) (hn : a.tmps.size = n) (hFD : ∀ L x, (F L x).map (·.2.1) = D) (hD : decide D.Nodup = true) (hs : (D.all fun d => decide (d < n)) = true) (hl : (L.all fun o => match o.dst with | none => true | some d => D.contains d) = true)
    (hF : ((F (fun j => decide (L.length ≤ j)) x).all fun p => !p.1) = true) (h0 : Wd (fun j => decide (L.length ≤ j)) x w.drew)
    (hf : ∀ x w, Wd (fun _ => true) x w → Q .normal (ovl a (F (fun _ => true) x)) w) (hst : StepsB P L.toArray Q a F Wd 0 L) : (Code.region id L.toArray true).wp P Q a w :=
  wp_region_ov F Wd x hm hb hF h0 hf (stepsB_O hFD (of_decide_eq_true hD) (fun d hd => by rw [hn]; exact of_decide_eq_true (List.all_eq_true.1 hs d hd)) L 0 (fun o ho d hd => by
    have h := List.all_eq_true.1 hl o ho
    rw [hd] at h
    simpa using h) hst)
/-- Whether an operation is wanted. -/
theorem wanted_B {all : Array Oper} {B : Act} {o : Oper} {j d : Nat} {t c : Bool} (hg : o.guard = some (j, t)) (hj : (all[j]?).bind (·.dst) = some d) (hv : B.tmps.getD d undef = .bool c) : Region.wanted o (yielded all B.tmps) = (c == t) := by
  have h1 : B.tmps[d]? = some (.bool c) := by
    rw [Array.getD_eq_getD_getElem?] at hv
    cases h : B.tmps[d]? with
    | none => rw [h] at hv; cases hv
    | some y => rw [h] at hv; rw [show y = .bool c from hv]
  unfold Region.wanted yielded
  rw [hg]
  simp only [hj, Option.bind_some, h1]
  cases c <;> cases t <;> rfl
end

end Go.Proofs.Ytghaiplhakeahaa
