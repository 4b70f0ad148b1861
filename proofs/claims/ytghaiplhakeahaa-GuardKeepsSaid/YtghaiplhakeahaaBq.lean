/- A region that draws its order, whose operations read and whose callees make memory but leave what there is: one walk. -/
import Derived.Test.YtghaiplhakeahaaL
import Derived.BigQuiet
import Derived.Deep.QuietTactic
namespace Go.Proofs.Ytghaiplhakeahaa
set_option linter.unusedSimpArgs false
set_option linter.unusedVariables false
open Go.RowKit

/-- What lies behind a world: new blocks, and draws. -/
structure Gd where
  g : Array Obj
  d : Nat
instance : Nonempty Gd := ⟨⟨#[], 0⟩⟩

/-- A region of calls that make memory, at the class of the worlds that have more behind them: walked once, in the text's order. -/
theorem wp_region_bq {P : Program} {id : Nat} {Q : Exit → Act → World → Prop} {a : Act} {w : World} {l : List Oper} (hm : P.follows .mixedOrders = true) (hB : Region.lexB .any l.toArray = true)
    (h : wpQuiet P l.toArray (fun w' => ∃ x : Gd, w' = plus w x.g x.d) (fun a' => ∀ w', (∃ x : Gd, w' = plus w x.g x.d) → Q .normal a' w') l a) : (Code.region id l.toArray true).wp P Q a w :=
  wp_region_quiet (C := fun w' => ∃ x : Gd, w' = plus w x.g x.d) hm hB ⟨⟨#[], w.drawn + 1⟩, by simp [plus]⟩ (by simpa using h)

/-- A callee's contract, met in that class. -/
theorem quiet_below {P : Program} {f : FuncId} {args : Array Value} {w : World} {x : Gd} {v : Value}
    (h : Calls P f args (plus w x.g x.d) fun e w' => e = .returned v ∧ Below (plus w x.g x.d).heap.size (plus w x.g x.d) w') :
    Calls P f args (plus w x.g x.d) fun e w'' => e = .returned v ∧ ∃ y : Gd, w'' = plus w y.g y.d :=
  h.mono fun _ _ ⟨he, hb⟩ => by
    obtain ⟨g, d, rfl⟩ := plus_of_below hb
    exact ⟨he, ⟨x.g ++ g, d⟩, by rw [plus_plus]⟩

theorem quiet_same {P : Program} {f : FuncId} {args : Array Value} {w : World} {x : Gd} {v : Value}
    (h : Calls P f args (plus w x.g x.d) fun e w' => e = .returned v ∧ w' = plus w x.g x.d) :
    Calls P f args (plus w x.g x.d) fun e w'' => e = .returned v ∧ ∃ y : Gd, w'' = plus w y.g y.d :=
  h.mono fun _ _ ⟨he, hb⟩ => ⟨he, x, hb⟩

/-- What is known of a slot's value, in a world. -/
abbrev Pred := Value → World → Prop
/-- What is known of each slot. -/
abbrev Slots := Tmp → Pred

def Ext (w w' : World) : Prop := ∃ x : Gd, w' = plus w x.g x.d
theorem Ext.refl (w : World) : Ext w w := ⟨⟨#[], w.drawn⟩, plus_self w⟩
theorem Ext.trans {a b c : World} (h : Ext a b) (k : Ext b c) : Ext a c := by
  obtain ⟨x, rfl⟩ := h
  obtain ⟨y, rfl⟩ := k
  exact ⟨⟨x.g ++ y.g, y.d⟩, by rw [plus_plus]⟩
theorem Ext.of_below {w w' : World} (h : Below w.heap.size w w') : Ext w w' := by
  obtain ⟨g, d, rfl⟩ := plus_of_below h
  exact ⟨⟨g, d⟩, rfl⟩
/-- What holds once holds in every world that has more behind it. -/
def Stays (Ψ : Pred) : Prop := ∀ v w w', Ext w w' → Ψ v w → Ψ v w'
theorem stays_eq (u : Value) : Stays (fun v _ => v = u) := fun _ _ _ _ h => h

def Slots.put (X : Slots) (d : Option Tmp) (Ψ : Pred) : Slots := fun s => if d = some s then Ψ else X s

section
variable {P : Program} {ops : Array Oper} {md : Region.Mode} {w0 : World}

def UponS (P : Program) (w : World) (Ψ : Pred) : Result Next → Prop
  | .ok (.value u) w' => Ext w w' ∧ Ψ u w'
  | .ok .skip w' => w' = w ∧ Ψ undef w
  | .ok (.enter f args) w' => w' = w ∧ Calls P f args w (fun e w'' => ∃ v, e = .returned v ∧ Ext w w'' ∧ Ψ v w'')
  | _ => False

/-- In every frame and world of which the slots it looks at are known so, the operation leaves what Ψ says in its slot. -/
def Does (P : Program) (ops : Array Oper) (w0 : World) (o : Oper) (X : Slots) (Ψ : Pred) : Prop :=
  ∀ (a : Act) (w : World), Ext w0 w → (∀ s ∈ o.looksAt ops, X s (a.tmps.getD s undef) w) →
    (Region.wanted o (yielded ops a.tmps) = true ∧ UponS P w Ψ ((execOp a.eval o).run P w)) ∨ (Region.wanted o (yielded ops a.tmps) = false ∧ Ψ undef w)

def sStep (P : Program) (ops : Array Oper) (w0 : World) (o : Oper) (X : Slots) (K : Slots → Prop) : Prop := ∃ Ψ, Stays Ψ ∧ Does P ops w0 o X Ψ ∧ K (X.put o.dst Ψ)

def wpS (P : Program) (ops : Array Oper) (w0 : World) (Q : Slots → Prop) : List Oper → Slots → Prop
  | [], X => Q X
  | o :: l, X => sStep P ops w0 o X (wpS P ops w0 Q l)

def sOp (P : Program) (ops : Array Oper) (w0 : World) (i : Nat) (K : Slots → Prop) (X : Slots) : Prop :=
  match ops[i]? with
  | none => K X
  | some o => sStep P ops w0 o X K

theorem sOp_mono {i : Nat} {X : Slots} {K K' : Slots → Prop} (h : ∀ X, K X → K' X) (hh : sOp P ops w0 i K X) : sOp P ops w0 i K' X := by
  unfold sOp at *
  cases ho : ops[i]? with
  | none => simp only [ho] at hh ⊢; exact h _ hh
  | some o =>
    simp only [ho] at hh ⊢
    obtain ⟨Ψ, h1, h2, h3⟩ := hh
    exact ⟨Ψ, h1, h2, h _ h3⟩

def wpAnyR (P : Program) (md : Region.Mode) (ops : Array Oper) (w0 : World) (Q : Slots → Prop) : Nat → Array Bool → Slots → Prop
  | 0, listed, X => Region.ready md ops listed = [] ∧ Q X
  | fuel + 1, listed, X =>
    (Region.ready md ops listed = [] → Q X) ∧
    ∀ i ∈ Region.ready md ops listed, sOp P ops w0 i (wpAnyR P md ops w0 Q fuel (listed.setIfInBounds i true)) X

/-- A frame and a world that are as X says. -/
structure Meets (w0 : World) (X : Slots) (n : Nat) (ds : List Deferred) (a : Act) (w : World) : Prop where
  base : Ext w0 w
  size : a.tmps.size = n
  defs : a.defers = ds
  has : ∀ s, X s (a.tmps.getD s undef) w

theorem Meets.put {X : Slots} {n : Nat} {ds : List Deferred} {a : Act} {w w' : World} (h : Meets w0 X n ds a w) (hS : ∀ s, Stays (X s)) {dst : Option Tmp} (hd : ∀ d, dst = some d → d < n) {Ψ : Pred} {v : Value}
    (hx : Ext w w') (hv : Ψ v w') : Meets w0 (X.put dst Ψ) n ds (a.put dst v) w' := by
  refine ⟨h.base.trans hx, ?_, ?_, fun s => ?_⟩
  · cases dst <;> simp [Act.put, h.size]
  · cases dst <;> simp [Act.put, h.defs]
  · unfold Slots.put
    cases dst with
    | none => simp only [Act.put, reduceCtorEq, if_false]; exact hS s _ _ _ hx (h.has s)
    | some d =>
      by_cases hds : d = s
      · subst hds
        have hlt : d < a.tmps.size := by rw [h.size]; exact hd d rfl
        simp [Act.put, hlt]
        exact hv
      · have : ¬ (some d = some s) := fun e => hds (by injection e)
        simp only [if_neg this]
        have e : (a.put (some d) v).tmps.getD s undef = a.tmps.getD s undef := by
          simp [Act.put, Array.getElem?_setIfInBounds_ne hds]
        rw [e]
        exact hS s _ _ _ hx (h.has s)

theorem Slots.put_stays {X : Slots} (hS : ∀ s, Stays (X s)) {d : Option Tmp} {Ψ : Pred} (hΨ : Stays Ψ) : ∀ s, Stays (X.put d Ψ s) := fun s => by
  unfold Slots.put; split
  · exact hΨ
  · exact hS s

theorem wpOp_of_sOp {Q' : Exit → Act → World → Prop} {i : Nat} {X : Slots} {n : Nat} {ds : List Deferred} {a : Act} {w : World} {K : Slots → Prop} {K' : Act → World → Prop} (hM : Meets w0 X n ds a w) (hS : ∀ s, Stays (X s))
    (hd : ∀ (i : Nat) (o : Oper) (d : Tmp), ops[i]? = some o → o.dst = some d → d < n) (h : ∀ X a w, Meets w0 X n ds a w → (∀ s, Stays (X s)) → K X → K' a w) (hh : sOp P ops w0 i K X) : wpOp P ops Q' i K' a w := by
  unfold sOp at hh
  unfold wpOp
  cases ho : ops[i]? with
  | none => simp only [ho] at hh ⊢; exact h _ _ _ hM hS hh
  | some o =>
    simp only [ho] at hh ⊢
    obtain ⟨Ψ, hΨ, hD, hK⟩ := hh
    have hdo : ∀ d, o.dst = some d → d < n := fun d => hd i o d ho
    have hS' : ∀ s, Stays (X.put o.dst Ψ s) := Slots.put_stays hS hΨ
    rcases hD a w hM.base (fun s _ => hM.has s) with ⟨hw, hu⟩ | ⟨hw, hu⟩
    · simp only [hw, if_true]
      refine .inl ?_
      unfold Oper.wp
      generalize (execOp a.eval o).run P w = r at *
      cases r with
      | ok m w' =>
        cases m <;> simp only [UponS] at hu <;> simp only [Oper.upon]
        case value u => exact h _ _ _ (hM.put hS hdo hu.1 hu.2) hS' hK
        case skip => obtain ⟨e1, e2⟩ := hu; rw [e1]; exact h _ _ _ (hM.put hS hdo (Ext.refl _) e2) hS' hK
        case enter f args =>
          obtain ⟨e1, hc⟩ := hu
          rw [e1]
          exact hc.mono fun e w'' ⟨v, he, hx, hv⟩ => by subst he; exact h _ _ _ (hM.put hS hdo hx hv) hS' hK
      | halt x w' => simp only [UponS] at hu
    · simp only [hw, Bool.false_eq_true, if_false]
      exact h _ _ _ (hM.put hS hdo (Ext.refl _) hu) hS' hK

theorem wpAny_of_R {Q : Slots → Prop} {Q' : Exit → Act → World → Prop} {n : Nat} {ds : List Deferred} (hd : ∀ (i : Nat) (o : Oper) (d : Tmp), ops[i]? = some o → o.dst = some d → d < n) (hQ : ∀ X a w, Meets w0 X n ds a w → Q X → Q' .normal a w) :
    ∀ (fuel : Nat) (listed : Array Bool) (X : Slots) (a : Act) (w : World), Meets w0 X n ds a w → (∀ s, Stays (X s)) → wpAnyR P md ops w0 Q fuel listed X → wpAny P md ops Q' fuel listed a w
  | 0, _, _, _, _, hM, _, h => ⟨h.1, hQ _ _ _ hM h.2⟩
  | fuel + 1, _, _, _, _, hM, hS, h => ⟨fun h0 => hQ _ _ _ hM (h.1 h0), fun i hi => wpOp_of_sOp hM hS hd (fun X a w hM hS => wpAny_of_R hd hQ fuel _ X a w hM hS) (h.2 i hi)⟩

theorem Does.congr {o : Oper} {X Y : Slots} {Ψ : Pred} (h : ∀ s ∈ o.looksAt ops, X s = Y s) (hD : Does P ops w0 o X Ψ) : Does P ops w0 o Y Ψ := fun a w hx hs => hD a w hx fun s hsl => by rw [h s hsl]; exact hs s hsl
theorem Slots.put_ne {X : Slots} {d : Option Tmp} {Ψ : Pred} {s : Tmp} (h : d ≠ some s) : X.put d Ψ s = X s := by unfold Slots.put; rw [if_neg h]
theorem Slots.put_comm (X : Slots) {d e : Option Tmp} (Ψ Φ : Pred) (h : ∀ t, d = some t → e ≠ some t) : (X.put d Ψ).put e Φ = (X.put e Φ).put d Ψ := by
  funext s
  unfold Slots.put
  by_cases hd : d = some s
  · rw [if_neg (h s hd), if_pos hd, if_pos hd]
  · rw [if_neg hd, if_neg hd]

theorem sOp_put {j : Nat} {oi oj : Oper} {Ψ : Pred} (hj : ops[j]? = some oj) (hap : oi.apart ops oj = true) {K : Slots → Prop} {X : Slots}
    (hy : Does P ops w0 oi X Ψ) (h : sOp P ops w0 j K (X.put oi.dst Ψ)) : sOp P ops w0 j (fun X' => Does P ops w0 oi X' Ψ ∧ K (X'.put oi.dst Ψ)) X := by
  obtain ⟨h1, h2, h3⟩ := Oper.apart_spec hap
  unfold sOp at *
  simp only [hj] at *
  obtain ⟨Φ, hΦ, hD, hK⟩ := h
  refine ⟨Φ, hΦ, hD.congr fun s hs => Slots.put_ne fun e => h1 s e hs, hy.congr fun s hs => (Slots.put_ne fun e => h3 s e hs).symm, ?_⟩
  rw [← Slots.put_comm X Ψ Φ h2]
  exact hK

theorem Does.sOp {i : Nat} {oi : Oper} {Ψ : Pred} {X : Slots} {K : Slots → Prop} (hi : ops[i]? = some oi) (hΨ : Stays Ψ) (hy : Does P ops w0 oi X Ψ) (h : K (X.put oi.dst Ψ)) : sOp P ops w0 i K X := by
  unfold Go.Proofs.Ytghaiplhakeahaa.sOp
  simp only [hi]
  exact ⟨Ψ, hΨ, hy, h⟩

theorem wpAnyR_first {Q : Slots → Prop} {i : Nat} {oi : Oper} {Ψ : Pred} (hi : ops[i]? = some oi) (hΨ : Stays Ψ) :
    ∀ (fuel : Nat) (listed : Array Bool) (X : Slots),
      (∀ j oj, ops[j]? = some oj → j ≠ i → listed.getD j true = false → (∀ e ∈ oj.after, Region.binds md e = true → e.on ≠ i) → oi.apart ops oj = true) →
      i ∈ Region.ready md ops listed → Does P ops w0 oi X Ψ →
      wpAnyR P md ops w0 Q fuel (listed.setIfInBounds i true) (X.put oi.dst Ψ) → wpAnyR P md ops w0 Q (fuel + 1) listed X := by
  intro fuel
  induction fuel with
  | zero =>
    intro listed X _ hr hy H
    refine ⟨fun h => (by rw [h] at hr; cases hr), fun j hj => ?_⟩
    by_cases hji : j = i
    · subst hji; exact hy.sOp hi hΨ H
    · have := ready_mono hj hji
      rw [H.1] at this
      cases this
  | succ fuel ih =>
    intro listed X hfree hr hy H
    refine ⟨fun h => (by rw [h] at hr; cases hr), fun j hj => ?_⟩
    by_cases hji : j = i
    · subst hji; exact hy.sOp hi hΨ H
    · have h1 := H.2 j (ready_mono hj hji)
      obtain ⟨hjun, oj, hoj, hall⟩ := mem_ready.1 hj
      have hnot : ∀ e ∈ oj.after, Region.binds md e = true → e.on ≠ i := fun e he hb heq => by
        have h1 := hall e he hb
        have h0 := (mem_ready.1 hr).1
        rw [heq] at h1
        rcases Nat.lt_or_ge i listed.size with h' | h'
        · simp [h'] at h0 h1; rw [h0] at h1; cases h1
        · simp [Array.getElem?_eq_none h'] at h1
      have h2 := sOp_put hoj (hfree j oj hoj hji hjun hnot) hy h1
      have hfree' : ∀ k ok, ops[k]? = some ok → k ≠ i → (listed.setIfInBounds j true).getD k true = false →
          (∀ e ∈ ok.after, Region.binds md e = true → e.on ≠ i) → oi.apart ops ok = true := fun k ok hk hki hun hno => by
        refine hfree k ok hk hki ?_ hno
        by_cases hjk : j = k
        · subst hjk; exact hjun
        · rw [getD_set_ne true hjk] at hun; exact hun
      refine sOp_mono (fun X' h3 => ih (listed.setIfInBounds j true) X' hfree' (ready_mono hr (Ne.symm hji)) h3.1 ?_) h2
      rw [Array.setIfInBounds_comm _ _ hji]
      exact h3.2

theorem wpAnyR_lex {Q : Slots → Prop} : ∀ (l : List Oper) (k : Nat) (listed : Array Bool) (X : Slots), (∀ j, l[j]? = ops[k + j]?) →
    Region.lexFrom md ops l.length k listed = true → wpS P ops w0 Q l X → wpAnyR P md ops w0 Q l.length listed X
  | [], _, _, _, _, hB, h => ⟨by simpa [Region.lexFrom] using hB, h⟩
  | o :: l, k, listed, X, hl, hB, h => by
    have h0 : ops[k]? = some o := by simpa using (hl 0).symm
    simp only [List.length_cons, Region.lexFrom, Bool.and_eq_true] at hB
    obtain ⟨⟨hr, hf⟩, hB'⟩ := hB
    obtain ⟨Ψ, hΨ, hD, hK⟩ := h
    exact wpAnyR_first h0 hΨ l.length listed X (Region.free_spec h0 hf) (by simpa using hr) hD
      (wpAnyR_lex l (k + 1) _ _ (fun j => by have := hl (j + 1); simpa [Nat.add_assoc, Nat.add_comm 1 j] using this) hB' hK)

/-! ### Slots, written out: a frame, and a list of the slots that are known by a property -/
def relAt : List (Tmp × Pred) → Tmp → Option Pred
  | [], _ => none
  | (t, Ψ) :: R, s => if t = s then some Ψ else relAt R s
def mix (a : Act) (R : List (Tmp × Pred)) : Slots := fun s => match relAt R s with
  | some Ψ => Ψ
  | none => fun v _ => v = a.tmps.getD s undef
def fin : List (Tmp × Pred) → Act → (Act → Prop) → World → Prop
  | [], a, G, _ => G a
  | (d, Ψ) :: R, a, G, w => ∀ v, Ψ v w → fin R (a.put (some d) v) G w
def keysOk (n : Nat) : List (Tmp × Pred) → Prop
  | [] => True
  | (d, _) :: R => relAt R d = none ∧ d < n ∧ keysOk n R

theorem Meets.fin {n : Nat} {ds : List Deferred} {a' : Act} {w : World} {G : Act → Prop} : ∀ (R : List (Tmp × Pred)) (a : Act), Meets w0 (mix a R) n ds a' w → a.tmps.size = n → a.defers = ds → keysOk n R → Go.Proofs.Ytghaiplhakeahaa.fin R a G w → G a'
  | [], a, hM, hn, hds, _, h => by
    have e : a' = a := by
      obtain ⟨_, h1, h2, h3⟩ := hM
      cases a; cases a'
      simp only at h1 h2 h3 hn hds
      subst h2 hds
      congr 1
      apply Array.ext
      · rw [h1, hn]
      · intro i hi hi'
        have := h3 i
        simp [mix, relAt, hi, hi'] at this
        exact this
    rw [e]; exact h
  | (d, Ψ) :: R, a, hM, hn, hds, hk, h => by
    obtain ⟨hk1, hk2, hk3⟩ := hk
    have hd := hM.has d
    simp only [mix, relAt, if_pos] at hd
    refine Meets.fin R (a.put (some d) (a'.tmps.getD d undef)) ⟨hM.base, hM.size, hM.defs, fun s => ?_⟩ (by simp [Act.put, hn]) (by simp [Act.put, hds]) hk3 (h _ hd)
    have hs := hM.has s
    simp only [mix, relAt] at hs ⊢
    by_cases hds : d = s
    · subst hds
      rw [hk1]
      have : d < a.tmps.size := by rw [hn]; exact hk2
      simp [Act.put, this]
    · rw [if_neg hds] at hs
      cases hR : relAt R s with
      | some Φ => rw [hR] at hs; exact hs
      | none =>
        rw [hR] at hs
        simp only at hs ⊢
        rw [hs]
        simp [Act.put, Array.getElem?_setIfInBounds_ne hds]

theorem mix_put_rel (a : Act) (R : List (Tmp × Pred)) (d : Tmp) (Ψ : Pred) : (mix a R).put (some d) Ψ = mix a ((d, Ψ) :: R) := by
  funext s
  unfold Slots.put mix
  simp only [relAt, Option.some.injEq]
  by_cases h : d = s
  · simp [h]
  · simp [h]
theorem mix_put_ex (a : Act) (R : List (Tmp × Pred)) (d : Tmp) (v : Value) (hR : relAt R d = none) (hd : d < a.tmps.size) : (mix a R).put (some d) (fun u _ => u = v) = mix (a.put (some d) v) R := by
  funext s
  unfold Slots.put mix
  by_cases h : d = s
  · subst h
    rw [if_pos rfl, hR]
    simp [Act.put, hd]
  · rw [if_neg (fun e => h (by injection e))]
    cases hs : relAt R s with
    | some Φ => rfl
    | none => simp [Act.put, Array.getElem?_setIfInBounds_ne h]

/-- An operation that looks at no slot that is known by a property. -/
def sees (ops : Array Oper) (R : List (Tmp × Pred)) (o : Oper) : Bool := (o.looksAt ops).all fun s => (relAt R s).isNone
def noSel (o : Oper) : Bool := match o.op with | .select .. => false | _ => true

theorem same_of_sees {o : Oper} {a a' : Act} {R : List (Tmp × Pred)} {w : World} (hv : sees ops R o = true) (hs : ∀ s ∈ o.looksAt ops, mix a R s (a'.tmps.getD s undef) w) : ∀ s ∈ o.looksAt ops, a'.tmps.getD s undef = a.tmps.getD s undef := fun s h => by
  have h1 := List.all_eq_true.1 hv s h
  have h2 := hs s h
  simp only [mix] at h2
  cases hR : relAt R s with
  | some Φ => rw [hR] at h1; cases h1
  | none => rw [hR] at h2; exact h2

theorem exec_same {o : Oper} {a a' : Act} (hn : noSel o = true) (hs : ∀ s ∈ o.looksAt ops, a'.tmps.getD s undef = a.tmps.getD s undef) : execOp a'.eval o = execOp a.eval o :=
  execOp_congr o (fun cs b e => by simp [noSel, e] at hn) fun x hx => by
    cases x with
    | tmp t => exact hs t (List.mem_append_left _ (List.mem_filterMap.2 ⟨.tmp t, by simpa using hx, rfl⟩))
    | _ => rfl

theorem wanted_same {o : Oper} {a a' : Act} (hs : ∀ s ∈ o.looksAt ops, a'.tmps.getD s undef = a.tmps.getD s undef) : Region.wanted o (yielded ops a'.tmps) = Region.wanted o (yielded ops a.tmps) := by
  unfold Region.wanted
  cases hg : o.guard with
  | none => rfl
  | some gw =>
    obtain ⟨g, want⟩ := gw
    have hy : yielded ops a'.tmps g = yielded ops a.tmps g := by
      unfold yielded
      cases ht : (ops[g]?).bind (·.dst) with
      | none => rfl
      | some t =>
        have hl : t ∈ o.looksAt ops := by simp [Oper.looksAt, hg, ht]
        have := hs t hl
        simp only [Array.getD_eq_getD_getElem?] at this
        simp only [Option.bind_some]
        cases h1 : a'.tmps[t]? <;> cases h2 : a.tmps[t]? <;> rw [h1, h2] at this <;> simp [undef] at this ⊢
        · rw [← this]
        · rw [this]
        · rw [this]
    simp only [hy]

def plainOp (o : Oper) : Bool := match o.op with
  | .move _ | .assign _ | .pick .. | .load .. | .binOp .. | .unOp .. | .convert .. | .sliceToArrayPointer .. | .slice .. | .fieldAddr .. | .field .. | .indexAddr .. | .index .. | .build .. | .extract .. => true
  | .call c => match c.callee with | .builtin .len | .builtin .cap | .builtin .min | .builtin .max => true | _ => false
  | _ => false

theorem v_no_enter (s : Sem Value) (w : World) (f : FuncId) (args : Array Value) (w' : World) : (do pure (Next.value (← s)) : Sem Next).run P w ≠ .ok (.enter f args) w' := by
  rw [Sem.run_bind]
  cases s.run P w with
  | ok v w1 => simp [Result.andThen, Sem.run_pure]
  | halt x w1 => simp [Result.andThen]

theorem no_enter {ρ : Operand → Value} {o : Oper} (h : plainOp o = true) (w : World) (f : FuncId) (args : Array Value) (w' : World) : (execOp ρ o).run P w ≠ .ok (.enter f args) w' := by
  obtain ⟨dst, op, type, pos, after, guard⟩ := o
  cases op <;> simp only [plainOp] at h <;> (try exact absurd h (by decide)) <;> simp only [execOp]
  case move x => simp [Sem.run_pure]
  case assign x => simp [Sem.run_pure]
  case pick c a b =>
    rw [Sem.run_bind]
    cases (asBool (ρ c)).run P w with
    | ok v w1 => simp [Result.andThen, Sem.run_pure]
    | halt x w1 => simp [Result.andThen]
  case call c =>
    obtain ⟨callee, cargs, ats⟩ := c
    cases callee with
    | builtin b =>
      cases b <;> simp only at h <;> (try exact absurd h (by decide)) <;> simp only [resolve, pure_bind, invoke, builtin] <;> exact v_no_enter _ _ _ _ _
    | _ => simp only at h; exact absurd h (by decide)
  all_goals exact v_no_enter _ _ _ _ _

/-! ### The steps -/
variable {Q : Slots → Prop} {a : Act} {R : List (Tmp × Pred)} {o : Oper} {rest : List Oper}

theorem S_ex {v : Value} (hd : ∀ d, o.dst = some d → relAt R d = none ∧ d < a.tmps.size) (hD : Does P ops w0 o (mix a R) (fun u _ => u = v)) (h : wpS P ops w0 Q rest (mix (a.put o.dst v) R)) : wpS P ops w0 Q (o :: rest) (mix a R) := by
  refine ⟨_, stays_eq v, hD, ?_⟩
  cases ho : o.dst with
  | none => rw [ho] at h; exact h
  | some d =>
    rw [ho] at h
    obtain ⟨h1, h2⟩ := hd d ho
    rw [mix_put_ex _ _ _ _ h1 h2]; exact h

theorem S_skip {d : Tmp} (hd : o.dst = some d) (hR : relAt R d = none) (hz : d < a.tmps.size) (hv : sees ops R o = true) (hw : Region.wanted o (yielded ops a.tmps) = false) (h : wpS P ops w0 Q rest (mix (a.put (some d) undef) R)) : wpS P ops w0 Q (o :: rest) (mix a R) := by
  refine S_ex (v := undef) (fun d' e => by rw [hd] at e; cases e; exact ⟨hR, hz⟩) (fun a' w _ hs => .inr ⟨?_, rfl⟩) (by rw [hd]; exact h)
  rw [wanted_same (same_of_sees hv hs)]; exact hw

theorem S_plain {d : Tmp} (hd : o.dst = some d) (hR : relAt R d = none) (hz : d < a.tmps.size) (hv : sees ops R o = true) (hp : plainOp o = true) (hw : Region.wanted o (yielded ops a.tmps) = true)
    (h : ∀ K : Act → Prop, (∀ a', wpS P ops w0 Q rest (mix a' R) → K a') → o.quiet P a (fun w' => ∃ x : Gd, w' = plus w0 x.g x.d) K) : wpS P ops w0 Q (o :: rest) (mix a R) := by
  obtain ⟨v, h1, h2⟩ := h _ (fun _ h => h)
  refine S_ex (v := v) (fun d' e => by rw [hd] at e; cases e; exact ⟨hR, hz⟩) (fun a' w hx hs => .inl ⟨?_, ?_⟩) h2
  · rw [wanted_same (same_of_sees hv hs)]; exact hw
  · have hn : noSel o = true := by
      unfold plainOp at hp
      unfold noSel
      cases ho : o.op <;> simp [ho] at hp ⊢
    rw [exec_same hn (same_of_sees hv hs)]
    have h3 := h1 w hx
    unfold Oper.quietAt at h3
    have h4 := fun f args w' => no_enter (P := P) (ρ := a.eval) hp w f args w'
    generalize (execOp a.eval o).run P w = r at *
    cases r with
    | ok m w' =>
      cases m <;> simp only [Oper.quietUpon] at h3 <;> simp only [UponS]
      case value u => rw [h3.1]; exact ⟨Ext.refl _, h3.2⟩
      case skip => exact ⟨h3.1, h3.2.symm⟩
      case enter f args => exact absurd rfl (h4 f args w')
    | halt x w' => simp only [Oper.quietUpon] at h3

/-- What a callee leaves: a value, and more behind the world. -/
def RetB (v : Value) (W : World) (e : Ending) (w' : World) : Prop := e = .returned v ∧ Below W.heap.size W w'
theorem retB {f : FuncId} {args : Array Value} {W : World} {v : Value} (h : Calls P f args W fun e w' => e = .returned v ∧ Below W.heap.size W w') : Calls P f args W (RetB v W) := h
theorem retB_same {f : FuncId} {args : Array Value} {W : World} {v : Value} (h : Calls P f args W fun e w' => e = .returned v ∧ w' = W) : Calls P f args W (RetB v W) := h.mono fun _ _ ⟨he, hb⟩ => ⟨he, by rw [hb]; exact Below.refl _ _⟩
def RetR (Ψ : Pred) (W : World) (e : Ending) (w' : World) : Prop := ∃ u, e = .returned u ∧ Below W.heap.size W w' ∧ Ψ u w'
theorem retR {f : FuncId} {args : Array Value} {W : World} {Ψ : Pred} (h : Calls P f args W fun e w' => ∃ u, e = .returned u ∧ Below W.heap.size W w' ∧ Ψ u w') : Calls P f args W (RetR Ψ W) := h

def entersB (P : Program) (f : FuncId) : Bool := match P.funcs[f]? with
  | some fn => !(fn.name == "runtime.NumGoroutine") && !fn.body.isNone
  | none => false
theorem run_enter {f : FuncId} {xs : Array Operand} {ts : Array TypeId} (ho : o.op = .call { callee := .value (.func f), args := xs, argTypes := ts }) (he : entersB P f = true) (a : Act) (w : World) :
    (execOp a.eval o).run P w = .ok (.enter f (xs.map a.eval)) w := by
  unfold entersB at he
  cases hf : P.funcs[f]? with
  | none => rw [hf] at he; cases he
  | some fn =>
    rw [hf] at he
    simp only [Bool.and_eq_true, Bool.not_eq_true'] at he
    have h1 : fn.name ≠ "runtime.NumGoroutine" := by simpa using he.1
    have h2 : fn.body ≠ none := fun e => by rw [e] at he; exact absurd he.2 (by decide)
    simp [execOp, ho, resolve, Deferred.ofValue, Act.eval, invoke, callFunc, hf, h1, h2]

/-- What is known of an operand. -/
def argOk (a : Act) (R : List (Tmp × Pred)) (x : Operand) (v : Value) (w : World) : Prop := match x with
  | .tmp s => mix a R s v w
  | x => v = a.eval x
def argsOk (a : Act) (R : List (Tmp × Pred)) : List Operand → List Value → World → Prop
  | [], vs, _ => vs = []
  | x :: xs, vs, w => ∃ v vs', vs = v :: vs' ∧ argOk a R x v w ∧ argsOk a R xs vs' w
theorem argsOk_map {a a' : Act} {R : List (Tmp × Pred)} {w : World} : ∀ (xs : List Operand), (∀ s, Operand.tmp s ∈ xs → mix a R s (a'.tmps.getD s undef) w) → argsOk a R xs (xs.map a'.eval) w
  | [], _ => rfl
  | x :: xs, h => ⟨_, _, rfl, by
      cases x with
      | tmp s => exact h s (by simp)
      | _ => rfl, argsOk_map xs fun s hs => h s (by simp [hs])⟩

theorem does_call {f : FuncId} {xs : Array Operand} {ts : Array TypeId} (ho : o.op = .call { callee := .value (.func f), args := xs, argTypes := ts }) (he : entersB P f = true)
    (hg : match o.guard with | some (g, _) => (match (ops[g]?).bind (·.dst) with | some t => relAt R t = none | none => True) | none => True)
    (hw : Region.wanted o (yielded ops a.tmps) = true) {Ψ : Pred}
    (h : ∀ (x : Gd) (vs : List Value), argsOk a R xs.toList vs (plus w0 x.g x.d) → Calls P f vs.toArray (plus w0 x.g x.d) fun e w' => ∃ u, e = .returned u ∧ Below (plus w0 x.g x.d).heap.size (plus w0 x.g x.d) w' ∧ Ψ u w') :
    Does P ops w0 o (mix a R) Ψ := by
  rintro a' w ⟨x, rfl⟩ hs
  refine .inl ⟨?_, ?_⟩
  · rw [← hw]
    unfold Region.wanted
    cases hgd : o.guard with
    | none => rfl
    | some gw =>
      obtain ⟨g, want⟩ := gw
      have hy : yielded ops a'.tmps g = yielded ops a.tmps g := by
        rw [hgd] at hg
        simp only at hg
        unfold yielded
        cases ht : (ops[g]?).bind (·.dst) with
        | none => rfl
        | some t =>
          rw [ht] at hg
          simp only at hg
          have hl : t ∈ o.looksAt ops := by simp [Oper.looksAt, hgd, ht]
          have := hs t hl
          simp only [mix, hg, Array.getD_eq_getD_getElem?] at this
          simp only [Option.bind_some]
          cases h1 : a'.tmps[t]? <;> cases h2 : a.tmps[t]? <;> rw [h1, h2] at this <;> simp [undef] at this ⊢
          · rw [← this]
          · rw [this]
          · rw [this]
      simp only [hy]
  · rw [run_enter ho he]
    refine ⟨rfl, ?_⟩
    have h1 := h x (xs.toList.map a'.eval) (argsOk_map _ fun s hm => hs s (List.mem_append_left _ (List.mem_filterMap.2 ⟨.tmp s, by rw [ho]; simpa [Op.operands, Call.operands] using hm, rfl⟩)))
    have e : (xs.toList.map a'.eval).toArray = xs.map a'.eval := by apply Array.ext'; simp
    rw [e] at h1
    exact h1.mono fun e w' ⟨u, h2, h3, h4⟩ => ⟨u, h2, Ext.of_below h3, h4⟩

/-- A call whose result is known. -/
theorem S_callX {d : Tmp} {f : FuncId} {xs : Array Operand} {ts : Array TypeId} {v : Value} (hd : o.dst = some d) (hR : relAt R d = none) (hz : d < a.tmps.size) (ho : o.op = .call { callee := .value (.func f), args := xs, argTypes := ts }) (he : entersB P f = true)
    (hg : match o.guard with | some (g, _) => (match (ops[g]?).bind (·.dst) with | some t => relAt R t = none | none => True) | none => True)
    (hw : Region.wanted o (yielded ops a.tmps) = true)
    (h : ∀ (x : Gd) (vs : List Value), argsOk a R xs.toList vs (plus w0 x.g x.d) → Calls P f vs.toArray (plus w0 x.g x.d) (RetB v (plus w0 x.g x.d)))
    (hr : wpS P ops w0 Q rest (mix (a.put (some d) v) R)) : wpS P ops w0 Q (o :: rest) (mix a R) :=
  S_ex (v := v) (fun d' e => by rw [hd] at e; cases e; exact ⟨hR, hz⟩) (does_call ho he hg hw fun x vs hvs => (h x vs hvs).mono fun e w' ⟨h1, h2⟩ => ⟨v, h1, h2, rfl⟩) (by rw [hd]; exact hr)

/-- A call whose result is known by a property. -/
theorem S_callR (Ψ : Pred) (hΨ : Stays Ψ) {d : Tmp} {f : FuncId} {xs : Array Operand} {ts : Array TypeId} (hd : o.dst = some d) (ho : o.op = .call { callee := .value (.func f), args := xs, argTypes := ts }) (he : entersB P f = true)
    (hg : match o.guard with | some (g, _) => (match (ops[g]?).bind (·.dst) with | some t => relAt R t = none | none => True) | none => True)
    (hw : Region.wanted o (yielded ops a.tmps) = true)
    (h : ∀ (x : Gd) (vs : List Value), argsOk a R xs.toList vs (plus w0 x.g x.d) → Calls P f vs.toArray (plus w0 x.g x.d) (RetR Ψ (plus w0 x.g x.d)))
    (hr : wpS P ops w0 Q rest (mix a ((d, Ψ) :: R))) : wpS P ops w0 Q (o :: rest) (mix a R) := by
  refine ⟨Ψ, hΨ, does_call ho he hg hw h, ?_⟩
  rw [hd, mix_put_rel]; exact hr

/-- A move out of a slot that is known by a property. -/
theorem S_moveR (Ψ : Pred) (hΨ : Stays Ψ) {d s : Tmp} (hd : o.dst = some d) (ho : o.op = .move (.tmp s) ∨ o.op = .assign (.tmp s)) (hs : relAt R s = some Ψ)
    (hg : match o.guard with | some (g, _) => (match (ops[g]?).bind (·.dst) with | some t => relAt R t = none | none => True) | none => True)
    (hw : Region.wanted o (yielded ops a.tmps) = true) (hr : wpS P ops w0 Q rest (mix a ((d, Ψ) :: R))) : wpS P ops w0 Q (o :: rest) (mix a R) := by
  refine ⟨Ψ, hΨ, ?_, by rw [hd, mix_put_rel]; exact hr⟩
  intro a' w _ hl
  refine .inl ⟨?_, ?_⟩
  · rw [← hw]
    unfold Region.wanted
    cases hgd : o.guard with
    | none => rfl
    | some gw =>
      obtain ⟨g, want⟩ := gw
      have hy : yielded ops a'.tmps g = yielded ops a.tmps g := by
        rw [hgd] at hg
        simp only at hg
        unfold yielded
        cases ht : (ops[g]?).bind (·.dst) with
        | none => rfl
        | some t =>
          rw [ht] at hg
          simp only at hg
          have hlk : t ∈ o.looksAt ops := by simp [Oper.looksAt, hgd, ht]
          have := hl t hlk
          simp only [mix, hg, Array.getD_eq_getD_getElem?] at this
          simp only [Option.bind_some]
          cases h1 : a'.tmps[t]? <;> cases h2 : a.tmps[t]? <;> rw [h1, h2] at this <;> simp [undef] at this ⊢
          · rw [← this]
          · rw [this]
          · rw [this]
      simp only [hy]
  · have hsl : s ∈ o.looksAt ops := by rcases ho with ho | ho <;> simp [Oper.looksAt, ho, Op.operands]
    have := hl s hsl
    simp only [mix, hs] at this
    rcases ho with ho | ho <;> simp only [execOp, ho, Sem.run_pure, UponS, Act.eval] <;> exact ⟨Ext.refl _, this⟩

/-- Any other operation, run by hand. -/
theorem S_any (Ψ : Pred) (hΨ : Stays Ψ) {d : Tmp} (hd : o.dst = some d) (hD : Does P ops w0 o (mix a R) Ψ) (hr : wpS P ops w0 Q rest (mix a ((d, Ψ) :: R))) : wpS P ops w0 Q (o :: rest) (mix a R) :=
  ⟨Ψ, hΨ, hD, by rw [hd, mix_put_rel]; exact hr⟩

theorem S_nil {G : Act → World → Prop} (hk : keysOk a.tmps.size R) (h : ∀ w', Ext w0 w' → fin R a (fun a' => G a' w') w') : wpS P ops w0 (fun X => ∀ a' w', Meets w0 X a.tmps.size a.defers a' w' → G a' w') [] (mix a R) :=
  fun a' w' hM => Meets.fin R a hM rfl rfl hk (h w' hM.base)

def dstsB (ops : Array Oper) (n : Nat) : Bool := ops.all fun o => match o.dst with | some d => decide (d < n) | none => true

/-! ### The same steps, their side conditions as one Bool -/
def sideB (want : Bool) (ops : Array Oper) (R : List (Tmp × Pred)) (a : Act) (o : Oper) : Bool := match o.dst with
  | some d => (Region.wanted o (yielded ops a.tmps) == want) && (relAt R d).isNone && decide (d < a.tmps.size) && sees ops R o
  | none => false
theorem sideB_out {want : Bool} (h : sideB want ops R a o = true) : ∃ d, o.dst = some d ∧ relAt R d = none ∧ d < a.tmps.size ∧ sees ops R o = true ∧ Region.wanted o (yielded ops a.tmps) = want := by
  unfold sideB at h
  cases hd : o.dst with
  | none => rw [hd] at h; cases h
  | some d =>
    rw [hd] at h
    simp only [Bool.and_eq_true, beq_iff_eq, decide_eq_true_eq, Option.isNone_iff_eq_none] at h
    exact ⟨d, rfl, h.1.1.2, h.1.2, h.2, h.1.1.1⟩
theorem B_skip (hB : sideB false ops R a o = true) (h : wpS P ops w0 Q rest (mix (a.put o.dst undef) R)) : wpS P ops w0 Q (o :: rest) (mix a R) := by
  obtain ⟨d, hd, h1, h2, h3, h4⟩ := sideB_out hB
  exact S_skip hd h1 h2 h3 h4 (by rw [hd] at h; exact h)
theorem B_plain (hB : (sideB true ops R a o && plainOp o) = true) (h : ∀ K : Act → Prop, (∀ a', wpS P ops w0 Q rest (mix a' R) → K a') → o.quiet P a (fun w' => ∃ x : Gd, w' = plus w0 x.g x.d) K) : wpS P ops w0 Q (o :: rest) (mix a R) := by
  simp only [Bool.and_eq_true] at hB
  obtain ⟨d, hd, h1, h2, h3, h4⟩ := sideB_out hB.1
  exact S_plain hd h1 h2 h3 hB.2 h4 h
theorem B_move {x : Operand} (ho : o.op = .move x) (hB : sideB true ops R a o = true) (h : wpS P ops w0 Q rest (mix (a.put o.dst (a.eval x)) R)) : wpS P ops w0 Q (o :: rest) (mix a R) := by
  obtain ⟨d, hd, h1, h2, h3, h4⟩ := sideB_out hB
  exact S_plain hd h1 h2 h3 (by simp [plainOp, ho]) h4 fun K hK => BigFrame.quiet_move x ho (hK _ h)

def sideC (ops : Array Oper) (R : List (Tmp × Pred)) (a : Act) (o : Oper) : Bool := (match o.dst with
  | some d => (Region.wanted o (yielded ops a.tmps) == true) && (relAt R d).isNone && decide (d < a.tmps.size)
  | none => false) && (match o.guard with | some (g, _) => (match (ops[g]?).bind (·.dst) with | some t => (relAt R t).isNone | none => true) | none => true)
theorem sideC_out (h : sideC ops R a o = true) : ∃ d, o.dst = some d ∧ relAt R d = none ∧ d < a.tmps.size ∧ Region.wanted o (yielded ops a.tmps) = true ∧
    (match o.guard with | some (g, _) => (match (ops[g]?).bind (·.dst) with | some t => relAt R t = none | none => True) | none => True) := by
  unfold sideC at h
  simp only [Bool.and_eq_true] at h
  obtain ⟨h, hg⟩ := h
  cases hd : o.dst with
  | none => rw [hd] at h; cases h
  | some d =>
    rw [hd] at h
    simp only [Bool.and_eq_true, beq_iff_eq, decide_eq_true_eq, Option.isNone_iff_eq_none] at h
    refine ⟨d, rfl, h.1.2, h.2, h.1.1, ?_⟩
    cases hgd : o.guard with
    | none => trivial
    | some gw =>
      rw [hgd] at hg
      simp only at hg ⊢
      cases ht : (ops[gw.1]?).bind (·.dst) with
      | none => trivial
      | some t => rw [ht] at hg; simpa using hg
theorem args_exact {xs : List Operand} {vs : List Value} {w : World} (h : argsOk a R xs vs w) (hx : xs.all (fun x => match x with | .tmp s => (relAt R s).isNone | _ => true) = true) : vs = xs.map a.eval := by
  induction xs generalizing vs with
  | nil => exact h
  | cons x xs ih =>
    obtain ⟨v, vs', rfl, h1, h2⟩ := h
    simp only [List.all_cons, Bool.and_eq_true] at hx
    rw [ih h2 hx.2, List.map_cons]
    congr 1
    cases x with
    | tmp s =>
      have := hx.1
      simp only [Option.isNone_iff_eq_none] at this
      simp only [argOk, mix, this] at h1
      exact h1
    | _ => exact h1
def argsB (R : List (Tmp × Pred)) (xs : List Operand) : Bool := xs.all (fun x => match x with | .tmp s => (relAt R s).isNone | _ => true)
/-- A call whose operands and whose result are known. -/
theorem B_callX {f : FuncId} {xs : Array Operand} {ts : Array TypeId} {v : Value} (ho : o.op = .call { callee := .value (.func f), args := xs, argTypes := ts }) (he : entersB P f = true) (hB : (sideC ops R a o && argsB R xs.toList) = true)
    (h : ∀ x : Gd, Calls P f (xs.map a.eval) (plus w0 x.g x.d) (RetB v (plus w0 x.g x.d)))
    (hr : wpS P ops w0 Q rest (mix (a.put o.dst v) R)) : wpS P ops w0 Q (o :: rest) (mix a R) := by
  simp only [Bool.and_eq_true] at hB
  obtain ⟨d, hd, h1, h2, h3, h4⟩ := sideC_out hB.1
  refine S_callX (v := v) hd h1 h2 ho he h4 h3 (fun x vs hvs => ?_) (by rw [hd] at hr; exact hr)
  rw [args_exact hvs hB.2]
  have e : (xs.toList.map a.eval).toArray = xs.map a.eval := by apply Array.ext'; simp
  rw [e]; exact h x
/-- A call whose operands are known, its result by a property. -/
theorem B_callR (Ψ : Pred) (hΨ : Stays Ψ) {d : Tmp} {f : FuncId} {xs : Array Operand} {ts : Array TypeId} (hd : o.dst = some d) (ho : o.op = .call { callee := .value (.func f), args := xs, argTypes := ts }) (he : entersB P f = true) (hB : (sideC ops R a o && argsB R xs.toList) = true)
    (h : ∀ x : Gd, Calls P f (xs.map a.eval) (plus w0 x.g x.d) (RetR Ψ (plus w0 x.g x.d)))
    (hr : wpS P ops w0 Q rest (mix a ((d, Ψ) :: R))) : wpS P ops w0 Q (o :: rest) (mix a R) := by
  simp only [Bool.and_eq_true] at hB
  obtain ⟨_, _, h1, h2, h3, h4⟩ := sideC_out hB.1
  refine S_callR Ψ hΨ hd ho he h4 h3 (fun x vs hvs => ?_) hr
  rw [args_exact hvs hB.2]
  have e : (xs.toList.map a.eval).toArray = xs.map a.eval := by apply Array.ext'; simp
  rw [e]; exact h x
/-- A call with operands that are known by a property; its result is known. -/
theorem B_callRX {f : FuncId} {xs : Array Operand} {ts : Array TypeId} {v : Value} (ho : o.op = .call { callee := .value (.func f), args := xs, argTypes := ts }) (he : entersB P f = true) (hB : sideC ops R a o = true)
    (h : ∀ (x : Gd) (vs : List Value), argsOk a R xs.toList vs (plus w0 x.g x.d) → Calls P f vs.toArray (plus w0 x.g x.d) (RetB v (plus w0 x.g x.d)))
    (hr : wpS P ops w0 Q rest (mix (a.put o.dst v) R)) : wpS P ops w0 Q (o :: rest) (mix a R) := by
  obtain ⟨d, hd, h1, h2, h3, h4⟩ := sideC_out hB
  exact S_callX (v := v) hd h1 h2 ho he h4 h3 h (by rw [hd] at hr; exact hr)
/-- .. and its result by a property. -/
theorem B_callRR (Ψ : Pred) (hΨ : Stays Ψ) {d : Tmp} {f : FuncId} {xs : Array Operand} {ts : Array TypeId} (hd : o.dst = some d) (ho : o.op = .call { callee := .value (.func f), args := xs, argTypes := ts }) (he : entersB P f = true) (hB : sideC ops R a o = true)
    (h : ∀ (x : Gd) (vs : List Value), argsOk a R xs.toList vs (plus w0 x.g x.d) → Calls P f vs.toArray (plus w0 x.g x.d) (RetR Ψ (plus w0 x.g x.d)))
    (hr : wpS P ops w0 Q rest (mix a ((d, Ψ) :: R))) : wpS P ops w0 Q (o :: rest) (mix a R) := by
  obtain ⟨_, _, h1, h2, h3, h4⟩ := sideC_out hB
  exact S_callR Ψ hΨ hd ho he h4 h3 h hr
/-- A move out of a slot that is known by a property. -/
theorem B_moveR (Ψ : Pred) (hΨ : Stays Ψ) {d s : Tmp} (hd : o.dst = some d) (ho : o.op = .move (.tmp s) ∨ o.op = .assign (.tmp s)) (hs : relAt R s = some Ψ) (hB : sideC ops R a o = true) (hr : wpS P ops w0 Q rest (mix a ((d, Ψ) :: R))) : wpS P ops w0 Q (o :: rest) (mix a R) := by
  obtain ⟨_, _, h1, h2, h3, h4⟩ := sideC_out hB
  exact S_moveR Ψ hΨ hd ho hs h4 h3 hr
/-- Another operation that reads one slot that is known by a property; what it yields is known. -/
theorem B_readX {s : Tmp} {Ψ : Pred} {v : Value} (hs : relAt R s = some Ψ) (hB : (sideC ops R a o && noSel o && (o.looksAt ops).all (fun t => t == s || (relAt R t).isNone) && (o.looksAt ops).contains s && decide (s < a.tmps.size)) = true)
    (h : ∀ (x : Gd) (u : Value), Ψ u (plus w0 x.g x.d) → (execOp (a.put (some s) u).eval o).run P (plus w0 x.g x.d) = .ok (.value v) (plus w0 x.g x.d))
    (hr : wpS P ops w0 Q rest (mix (a.put o.dst v) R)) : wpS P ops w0 Q (o :: rest) (mix a R) := by
  simp only [Bool.and_eq_true] at hB
  obtain ⟨⟨⟨⟨hB, hn⟩, hl⟩, hsl⟩, hz⟩ := hB
  have hz : s < a.tmps.size := of_decide_eq_true hz
  have hsl : s ∈ o.looksAt ops := by simpa using hsl
  obtain ⟨d, hd, h1, h2, h3, h4⟩ := sideC_out hB
  refine S_ex (v := v) (fun d' e => by rw [hd] at e; cases e; exact ⟨h1, h2⟩) ?_ hr
  rintro a' w ⟨x, rfl⟩ hlk
  have same : ∀ t ∈ o.looksAt ops, a'.tmps.getD t undef = (a.put (some s) (a'.tmps.getD s undef)).tmps.getD t undef := fun t ht => by
    have h5 := List.all_eq_true.1 hl t ht
    simp only [Bool.or_eq_true, beq_iff_eq, Option.isNone_iff_eq_none] at h5
    by_cases hts : s = t
    · subst hts; simp [Act.put, hz]
    · have h6 : relAt R t = none := h5.resolve_left fun e => hts e.symm
      have h7 := hlk t ht
      simp only [mix, h6] at h7
      rw [h7]
      simp [Act.put, Array.getElem?_setIfInBounds_ne hts]
  have hgs : ∀ t ∈ (match o.guard with | some (g, _) => ((ops[g]?).bind (·.dst)).toList | none => []), a'.tmps.getD t undef = a.tmps.getD t undef := fun t ht => by
    have hlt : t ∈ o.looksAt ops := List.mem_append_right _ ht
    have h7 := hlk t hlt
    have h8 : relAt R t = none := by
      cases hg : o.guard with
      | none => rw [hg] at ht; simp at ht
      | some gw =>
        rw [hg] at ht h4
        simp only at ht h4
        cases ho : (ops[gw.1]?).bind (·.dst) with
        | none => rw [ho] at ht; simp at ht
        | some t' => rw [ho] at ht h4; simp at ht; subst ht; exact h4
    simp only [mix, h8] at h7
    exact h7
  have hΨ := hlk s hsl
  simp only [mix, hs] at hΨ
  refine .inl ⟨?_, ?_⟩
  · rw [← h3]
    unfold Region.wanted
    cases hg : o.guard with
    | none => rfl
    | some gw =>
      obtain ⟨g, want⟩ := gw
      have hy : yielded ops a'.tmps g = yielded ops a.tmps g := by
        unfold yielded
        cases ht : (ops[g]?).bind (·.dst) with
        | none => rfl
        | some t =>
          have := hgs t (by simp [hg, ht])
          simp only [Array.getD_eq_getD_getElem?] at this
          simp only [Option.bind_some]
          cases h1 : a'.tmps[t]? <;> cases h2 : a.tmps[t]? <;> rw [h1, h2] at this <;> simp [undef] at this ⊢
          · rw [← this]
          · rw [this]
          · rw [this]
      simp only [hy]
  · rw [exec_same hn same, h x _ hΨ]
    exact ⟨Ext.refl _, rfl⟩

/-- An operation that makes memory, its operands known; its result by a property. -/
theorem B_make (Ψ : Pred) (hΨ : Stays Ψ) {d : Tmp} (hd : o.dst = some d) (hB : (sideB true ops R a o && noSel o) = true)
    (h : ∀ x : Gd, ∃ u w', (execOp a.eval o).run P (plus w0 x.g x.d) = .ok (.value u) w' ∧ Ext (plus w0 x.g x.d) w' ∧ Ψ u w')
    (hr : wpS P ops w0 Q rest (mix a ((d, Ψ) :: R))) : wpS P ops w0 Q (o :: rest) (mix a R) := by
  simp only [Bool.and_eq_true] at hB
  obtain ⟨d', hd', h1, h2, h3, h4⟩ := sideB_out hB.1
  refine ⟨Ψ, hΨ, ?_, by rw [hd, mix_put_rel]; exact hr⟩
  rintro a' w ⟨x, rfl⟩ hs
  refine .inl ⟨?_, ?_⟩
  · rw [wanted_same (same_of_sees h3 hs)]; exact h4
  · rw [exec_same hB.2 (same_of_sees h3 hs)]
    obtain ⟨u, w', e, hx, hu⟩ := h x
    rw [e]
    exact ⟨hx, hu⟩

def keysB (n : Nat) : List (Tmp × Pred) → Bool
  | [] => true
  | (d, _) :: R => (relAt R d).isNone && decide (d < n) && keysB n R
theorem keysB_out {n : Nat} : ∀ {R : List (Tmp × Pred)}, keysB n R = true → keysOk n R
  | [], _ => trivial
  | (d, _) :: R, h => by
    simp only [keysB, Bool.and_eq_true, decide_eq_true_eq, Option.isNone_iff_eq_none] at h
    exact ⟨h.1.1, h.1.2, keysB_out h.2⟩
theorem B_nil {G : Act → World → Prop} {n : Nat} {ds : List Deferred} (hn : a.tmps.size = n) (hds : a.defers = ds) (hk : keysB n R = true) (h : ∀ w', Ext w0 w' → fin R a (fun a' => G a' w') w') : wpS P ops w0 (fun X => ∀ a' w', Meets w0 X n ds a' w' → G a' w') [] (mix a R) :=
  fun a' w' hM => Meets.fin R a hM hn hds (keysB_out hk) (h w' hM.base)

end

/-- The region, walked once. -/
theorem wp_region_rq {P : Program} {id : Nat} {Q : Exit → Act → World → Prop} {a : Act} {w : World} {l : List Oper} (hm : P.follows .mixedOrders = true) (hB : Region.lexB .any l.toArray = true) (hd : dstsB l.toArray a.tmps.size = true)
    (h : wpS P l.toArray w (fun X => ∀ a' w', Meets w X a.tmps.size a.defers a' w' → Q .normal a' w') l (mix a [])) : (Code.region id l.toArray true).wp P Q a w := by
  simp only [Region.lexB, Bool.and_eq_true] at hB
  have hd' : ∀ (i : Nat) (o : Oper) (d : Tmp), l.toArray[i]? = some o → o.dst = some d → d < a.tmps.size := fun i o d ho hod => by
    have := (Array.all_eq_true'.1 hd) o (Array.mem_of_getElem? ho)
    rw [hod] at this
    simpa using this
  have hM : Meets w (mix a []) a.tmps.size a.defers a { w with drawn := w.drawn + 1 } := ⟨⟨⟨#[], w.drawn + 1⟩, by simp [plus]⟩, rfl, rfl, fun s => by simp [mix, relAt]⟩
  have hS : ∀ s, Stays (mix a [] s) := fun s => by simp only [mix, relAt]; exact stays_eq _
  have hA := wpAnyR_lex (md := .any) (ops := l.toArray) l 0 (Array.replicate l.toArray.size false) (mix a []) (by simp) (by simpa using hB.2) h
  have hW := wpAny_of_R (P := P) (md := .any) (Q' := Q) hd' (fun X a' w' hM h => h a' w' hM) _ _ _ _ _ hM hS hA
  exact wp_region_any hm (by simpa using hW)

/-! ### A region whose last operations wait for all others: they are carried out behind the walk -/
section
variable {P : Program} {ops : Array Oper} {md : Region.Mode} {w0 : World}

def unl : Nat → Array Bool → Nat
  | 0, _ => 0
  | m + 1, l => unl m l + (if l.getD m true = true then 0 else 1)
theorem getD_self (l : Array Bool) (j : Nat) : (l.setIfInBounds j true).getD j true = true := by
  by_cases h : j < l.size
  · simp [h]
  · simp [Array.getElem?_eq_none (Nat.le_of_not_lt h)]
theorem unl_ge (l : Array Bool) (j : Nat) : ∀ m, m ≤ j → unl m (l.setIfInBounds j true) = unl m l
  | 0, _ => rfl
  | m + 1, h => by
    unfold unl
    rw [unl_ge l j m (by omega), getD_set_ne true (show j ≠ m by omega)]
theorem unl_set (l : Array Bool) (j : Nat) : ∀ m, j < m → l.getD j true = false → unl m (l.setIfInBounds j true) + 1 = unl m l
  | 0, h, _ => by omega
  | m + 1, h, hj => by
    unfold unl
    by_cases hjm : j = m
    · subst hjm
      rw [unl_ge l j j (Nat.le_refl _), getD_self, hj]; simp
    · rw [getD_set_ne true hjm]
      have := unl_set l j m (by omega) hj
      omega

def wpAnyT (P : Program) (md : Region.Mode) (ops : Array Oper) (w0 : World) (Q : Array Bool → Slots → Prop) : Nat → Array Bool → Slots → Prop
  | 0, listed, X => Q listed X
  | fuel + 1, listed, X => Region.ready md ops listed ≠ [] ∧ ∀ i ∈ Region.ready md ops listed, sOp P ops w0 i (wpAnyT P md ops w0 Q fuel (listed.setIfInBounds i true)) X

theorem wpAny_of_T {Q : Array Bool → Slots → Prop} {Q' : Exit → Act → World → Prop} {n : Nat} {ds : List Deferred} (r : Nat) (hd : ∀ (i : Nat) (o : Oper) (d : Tmp), ops[i]? = some o → o.dst = some d → d < n)
    (hQ : ∀ listed X a w, Meets w0 X n ds a w → Q listed X → wpAny P md ops Q' r listed a w) :
    ∀ (fuel : Nat) (listed : Array Bool) (X : Slots) (a : Act) (w : World), Meets w0 X n ds a w → (∀ s, Stays (X s)) → wpAnyT P md ops w0 Q fuel listed X → wpAny P md ops Q' (fuel + r) listed a w
  | 0, _, _, _, _, hM, _, h => by rw [Nat.zero_add]; exact hQ _ _ _ _ hM h
  | fuel + 1, _, _, _, _, hM, hS, h => by
    rw [show fuel + 1 + r = fuel + r + 1 by omega]
    exact ⟨fun h0 => absurd h0 h.1, fun i hi => wpOp_of_sOp hM hS hd (fun X a w hM hS => wpAny_of_T r hd hQ fuel _ X a w hM hS) (h.2 i hi)⟩

theorem wpAnyT_first {Q : Array Bool → Slots → Prop} {i : Nat} {oi : Oper} {Ψ : Pred} {m : Nat} (hi : ops[i]? = some oi) (hΨ : Stays Ψ) (him : i < m)
    (hpost : ∀ (j : Nat) (oj : Oper), ops[j]? = some oj → m ≤ j → ∃ e ∈ oj.after, Region.binds md e = true ∧ e.on = i) :
    ∀ (fuel : Nat) (listed : Array Bool) (X : Slots),
      (∀ j oj, ops[j]? = some oj → j ≠ i → listed.getD j true = false → (∀ e ∈ oj.after, Region.binds md e = true → e.on ≠ i) → oi.apart ops oj = true) →
      unl m listed = fuel + 1 → i ∈ Region.ready md ops listed → Does P ops w0 oi X Ψ →
      wpAnyT P md ops w0 Q fuel (listed.setIfInBounds i true) (X.put oi.dst Ψ) → wpAnyT P md ops w0 Q (fuel + 1) listed X := by
  intro fuel
  induction fuel with
  | zero =>
    intro listed X _ hu hr hy H
    refine ⟨fun h => (by rw [h] at hr; cases hr), fun j hj => ?_⟩
    by_cases hji : j = i
    · subst hji; exact hy.sOp hi hΨ H
    · exfalso
      obtain ⟨hjun, oj, hoj, hall⟩ := mem_ready.1 hj
      have hiun := (mem_ready.1 hr).1
      have hjm : j < m := by
        rcases Nat.lt_or_ge j m with h | h
        · exact h
        · exfalso
          obtain ⟨e, he, hb, heq⟩ := hpost j oj hoj h
          have h1 := hall e he hb
          rw [heq] at h1
          rcases Nat.lt_or_ge i listed.size with h' | h'
          · simp [h'] at hiun h1; rw [hiun] at h1; cases h1
          · simp [Array.getElem?_eq_none h'] at h1
      have e1 := unl_set listed i m him hiun
      have e2 := unl_set (listed.setIfInBounds i true) j m hjm (by rw [getD_set_ne true (Ne.symm hji)]; exact hjun)
      omega
  | succ fuel ih =>
    intro listed X hfree hu hr hy H
    refine ⟨fun h => (by rw [h] at hr; cases hr), fun j hj => ?_⟩
    by_cases hji : j = i
    · subst hji; exact hy.sOp hi hΨ H
    · have h1 := H.2 j (ready_mono hj hji)
      obtain ⟨hjun, oj, hoj, hall⟩ := mem_ready.1 hj
      have hnot : ∀ e ∈ oj.after, Region.binds md e = true → e.on ≠ i := fun e he hb heq => by
        have h1 := hall e he hb
        have h0 := (mem_ready.1 hr).1
        rw [heq] at h1
        rcases Nat.lt_or_ge i listed.size with h' | h'
        · simp [h'] at h0 h1; rw [h0] at h1; cases h1
        · simp [Array.getElem?_eq_none h'] at h1
      have hjm : j < m := by
        rcases Nat.lt_or_ge j m with h | h
        · exact h
        · exfalso
          obtain ⟨e, he, hb, heq⟩ := hpost j oj hoj h
          exact hnot e he hb heq
      have h2 := sOp_put hoj (hfree j oj hoj hji hjun hnot) hy h1
      have hfree' : ∀ k ok, ops[k]? = some ok → k ≠ i → (listed.setIfInBounds j true).getD k true = false →
          (∀ e ∈ ok.after, Region.binds md e = true → e.on ≠ i) → oi.apart ops ok = true := fun k ok hk hki hun hno => by
        refine hfree k ok hk hki ?_ hno
        by_cases hjk : j = k
        · subst hjk; exact hjun
        · rw [getD_set_ne true hjk] at hun; exact hun
      have hu' := unl_set listed j m hjm hjun
      refine sOp_mono (fun X' h3 => ih (listed.setIfInBounds j true) X' hfree' (by omega) (ready_mono hr (Ne.symm hji)) h3.1 ?_) h2
      rw [Array.setIfInBounds_comm _ _ hji]
      exact h3.2

def lexT (md : Region.Mode) (ops : Array Oper) : Nat → Nat → Array Bool → Bool
  | 0, _, _ => true
  | fuel + 1, k, listed => (Region.ready md ops listed).contains k && Region.free md ops listed k && lexT md ops fuel (k + 1) (listed.setIfInBounds k true)
def listT : Nat → Nat → Array Bool → Array Bool
  | 0, _, l => l
  | n + 1, k, l => listT n (k + 1) (l.setIfInBounds k true)
def postB (md : Region.Mode) (ops : Array Oper) (m : Nat) : Bool :=
  (List.range ops.size).all fun j => decide (j < m) || (match ops[j]? with | some oj => (List.range m).all fun i => oj.after.any fun e => Region.binds md e && e.on == i | none => true)
theorem postB_out {m : Nat} (h : postB md ops m = true) (i : Nat) (him : i < m) (j : Nat) (oj : Oper) (hoj : ops[j]? = some oj) (hj : m ≤ j) : ∃ e ∈ oj.after, Region.binds md e = true ∧ e.on = i := by
  have hjs : j < ops.size := (Array.getElem?_eq_some_iff.1 hoj).1
  have h1 := List.all_eq_true.1 h j (List.mem_range.2 hjs)
  simp only [hoj, Bool.or_eq_true, decide_eq_true_eq] at h1
  rcases h1 with h1 | h1
  · omega
  · have h2 := List.all_eq_true.1 h1 i (List.mem_range.2 him)
    obtain ⟨e, he, h3⟩ := Array.any_eq_true'.1 h2
    simp only [Bool.and_eq_true, beq_iff_eq] at h3
    exact ⟨e, he, h3.1, h3.2⟩

theorem wpAnyT_lex {Q : Slots → Prop} {m : Nat} (LF : Array Bool) (hpB : postB md ops m = true) : ∀ (l : List Oper) (k : Nat) (listed : Array Bool) (X : Slots), (∀ j, j < l.length → l[j]? = ops[k + j]?) → k + l.length = m → unl m listed = l.length → listT l.length k listed = LF →
    lexT md ops l.length k listed = true → wpS P ops w0 Q l X → wpAnyT P md ops w0 (fun listed X => listed = LF ∧ Q X) l.length listed X
  | [], _, _, _, _, _, _, hLF, _, h => ⟨hLF, h⟩
  | o :: l, k, listed, X, hl, hk, hu, hLF, hB, h => by
    have h0 : ops[k]? = some o := by simpa using (hl 0 (by simp)).symm
    simp only [List.length_cons, lexT, Bool.and_eq_true] at hB
    obtain ⟨⟨hr, hf⟩, hB'⟩ := hB
    obtain ⟨Ψ, hΨ, hD, hK⟩ := h
    have hkm : k < m := by simp at hk; omega
    have hr' : k ∈ Region.ready md ops listed := by simpa using hr
    refine wpAnyT_first (m := m) h0 hΨ hkm (fun j oj hoj hj => postB_out hpB k hkm j oj hoj hj) l.length listed X (Region.free_spec h0 hf) hu hr' hD
      (wpAnyT_lex LF hpB l (k + 1) _ _ (fun j hj => by have := hl (j + 1) (by simpa using hj); simpa [Nat.add_assoc, Nat.add_comm 1 j] using this) (by simp at hk; omega) ?_ hLF hB' hK)
    have := unl_set listed k m hkm (mem_ready.1 hr').1
    simp at hu
    omega

/-- The last operation of a region. -/
theorem last_one {Q : Exit → Act → World → Prop} {a : Act} {w : World} {LF : Array Bool} {k : Nat} {o : Oper} (h1 : Region.ready md ops LF = [k]) (h2 : Region.ready md ops (LF.setIfInBounds k true) = []) (ho : ops[k]? = some o) (hg : o.guard = none)
    (h : ∀ K : Act → World → Prop, (∀ a w, Q .normal a w → K a w) → o.wp P a w K Q) : wpAny P md ops Q 1 LF a w := by
  refine ⟨fun h0 => (by rw [h1] at h0; cases h0), fun i hi => ?_⟩
  rw [h1] at hi
  simp at hi
  subst hi
  unfold wpOp
  simp only [ho]
  rw [if_pos (by simp [Region.wanted, hg])]
  exact .inl (h _ fun a w hq => ⟨h2, hq⟩)
end

def tailB (ops : Array Oper) (m : Nat) : Bool := Region.noSelect ops && postB .any ops m && decide (m ≤ ops.size) && decide (unl m (Array.replicate ops.size false) = m) && lexT .any ops m 0 (Array.replicate ops.size false)

theorem wp_region_rt {P : Program} {id : Nat} {Q : Exit → Act → World → Prop} {a : Act} {w : World} {L : List Oper} (m r : Nat) (hr : L.length - m = r) (hm : P.follows .mixedOrders = true) (hB : tailB L.toArray m = true) (hd : dstsB L.toArray a.tmps.size = true)
    (h : wpS P L.toArray w (fun X => ∀ a' w', Meets w X a.tmps.size a.defers a' w' → wpAny P .any L.toArray Q r (listT m 0 (Array.replicate L.toArray.size false)) a' w') (L.take m) (mix a [])) : (Code.region id L.toArray true).wp P Q a w := by
  subst hr
  unfold tailB at hB
  simp only [Bool.and_eq_true, decide_eq_true_eq] at hB
  obtain ⟨⟨⟨⟨hns, hpB⟩, hms⟩, hun⟩, hlx⟩ := hB
  have hms' : m ≤ L.length := by simpa using hms
  have hlen : (L.take m).length = m := by simp [hms']
  have hd' : ∀ (i : Nat) (o : Oper) (d : Tmp), L.toArray[i]? = some o → o.dst = some d → d < a.tmps.size := fun i o d ho hod => by
    have := (Array.all_eq_true'.1 hd) o (Array.mem_of_getElem? ho)
    rw [hod] at this
    simpa using this
  have hM : Meets w (mix a []) a.tmps.size a.defers a { w with drawn := w.drawn + 1 } := ⟨⟨⟨#[], w.drawn + 1⟩, by simp [plus]⟩, rfl, rfl, fun s => by simp [mix, relAt]⟩
  have hS : ∀ s, Stays (mix a [] s) := fun s => by simp only [mix, relAt]; exact stays_eq _
  have hA := wpAnyT_lex (md := .any) (ops := L.toArray) (m := m) (listT m 0 (Array.replicate L.toArray.size false)) hpB (L.take m) 0 (Array.replicate L.toArray.size false) (mix a [])
    (fun j hj => by rw [hlen] at hj; simp [List.getElem?_take, hj]) (by rw [hlen]; omega) (by rw [hlen]; exact hun) (by rw [hlen]) (by rw [hlen]; exact hlx) h
  rw [hlen] at hA
  have hW := wpAny_of_T (P := P) (md := .any) (Q' := Q) (L.length - m) hd' (fun listed X a' w' hM hq => by rw [hq.1]; exact hq.2 a' w' hM) m _ _ _ _ hM hS hA
  have e : m + (L.length - m) = L.toArray.size := by simp; omega
  rw [e] at hW
  exact wp_region_any hm hW

end Go.Proofs.Ytghaiplhakeahaa
