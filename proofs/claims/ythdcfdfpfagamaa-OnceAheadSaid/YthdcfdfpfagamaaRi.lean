/- Two blocks that are made in one region that draws its order are two. Plain; over any program. -/
import Derived.Test.YthdcfdfpfagamaaRc
import Derived.Test.YthdcfdfpfagamaaMem
namespace Go.Proofs.Ythdcfdfpfagamaa
set_option linter.unusedSimpArgs false
set_option linter.unusedVariables false
open Go.RowKit

/-- Two slots that hold new blocks hold different ones. -/
structure Apart2 (s t : Tmp) (a : Act) (w : World) : Prop where
  ls : ∀ b, a.tmps.getD s undef = .pointer (some ⟨b, 0, none⟩) → b < w.heap.size
  lt : ∀ b, a.tmps.getD t undef = .pointer (some ⟨b, 0, none⟩) → b < w.heap.size
  ne : ∀ b c, a.tmps.getD s undef = .pointer (some ⟨b, 0, none⟩) → a.tmps.getD t undef = .pointer (some ⟨c, 0, none⟩) → b ≠ c

def allocB (o : Oper) : Bool := match o.op with | .alloc _ => true | _ => false
def apartB (ops : Array Oper) (s t : Tmp) : Bool := s != t && ops.all fun o => match o.dst with
  | some d => !(d == s || d == t) || allocB o
  | none => true

theorem getD_put (a : Act) (d e : Tmp) (v : Value) : (a.put (some d) v).tmps.getD e undef = if d = e ∧ d < a.tmps.size then v else a.tmps.getD e undef := by
  by_cases h : d = e
  · subst h
    by_cases h1 : d < a.tmps.size
    · simp [Act.put, h1]
    · simp [Act.put, h1]
  · simp [Act.put, h, Array.getElem?_setIfInBounds_ne h]

theorem Apart2.put {s t : Tmp} {a : Act} {w w' : World} (h : Apart2 s t a w) (hx : w.heap.size ≤ w'.heap.size) {o : Oper} {ops : Array Oper} {i : Nat} (ho : ops[i]? = some o) (hap : apartB ops s t = true) (v : Value)
    (hv : allocB o = true → v = undef ∨ (v = .pointer (some ⟨w.heap.size, 0, none⟩) ∧ w'.heap.size = w.heap.size + 1)) : Apart2 s t (a.put o.dst v) w' := by
  simp only [apartB, Bool.and_eq_true, bne_iff_ne, ne_eq] at hap
  obtain ⟨hst, hall⟩ := hap
  have hm := (Array.all_eq_true'.1 hall) o (Array.mem_of_getElem? ho)
  cases hd : o.dst with
  | none => exact ⟨fun b hb => Nat.lt_of_lt_of_le (h.ls b hb) hx, fun b hb => Nat.lt_of_lt_of_le (h.lt b hb) hx, h.ne⟩
  | some d =>
    rw [hd] at hm
    simp only [Bool.or_eq_true, Bool.not_eq_true', Bool.or_eq_false_iff, beq_eq_false_iff_ne, ne_eq] at hm
    rcases hm with ⟨h1, h2⟩ | hm
    · have e1 : (a.put (some d) v).tmps.getD s undef = a.tmps.getD s undef := by rw [getD_put, if_neg (fun x => h1 x.1)]
      have e2 : (a.put (some d) v).tmps.getD t undef = a.tmps.getD t undef := by rw [getD_put, if_neg (fun x => h2 x.1)]
      exact ⟨fun b hb => by rw [e1] at hb; exact Nat.lt_of_lt_of_le (h.ls b hb) hx, fun b hb => by rw [e2] at hb; exact Nat.lt_of_lt_of_le (h.lt b hb) hx, fun b c hb hc => by rw [e1] at hb; rw [e2] at hc; exact h.ne b c hb hc⟩
    · have hv := hv hm
      have one : ∀ e b, (a.put (some d) v).tmps.getD e undef = .pointer (some ⟨b, 0, none⟩) → (d = e ∧ b = w.heap.size ∧ w'.heap.size = w.heap.size + 1) ∨ (a.tmps.getD e undef = .pointer (some ⟨b, 0, none⟩)) := fun e b hb => by
        rw [getD_put] at hb
        split at hb
        · rename_i h1
          rcases hv with rfl | ⟨rfl, h2⟩
          · simp [undef] at hb
          · left
            simp only [Value.pointer.injEq, Option.some.injEq, Addr.mk.injEq] at hb
            exact ⟨h1.1, hb.1.symm, h2⟩
        · exact .inr hb
      refine ⟨fun b hb => ?_, fun b hb => ?_, fun b c hb hc => ?_⟩
      · rcases one s b hb with ⟨_, rfl, h2⟩ | h2
        · omega
        · exact Nat.lt_of_lt_of_le (h.ls b h2) hx
      · rcases one t b hb with ⟨_, rfl, h2⟩ | h2
        · omega
        · exact Nat.lt_of_lt_of_le (h.lt b h2) hx
      · rcases one s b hb with ⟨e1, rfl, _⟩ | h1 <;> rcases one t c hc with ⟨e2, rfl, _⟩ | h2
        · exact absurd (e1.symm.trans e2) hst
        · have := h.lt c h2; omega
        · have := h.ls b h1; omega
        · exact h.ne b c h1 h2

section
variable {P : Program} {ops : Array Oper} {md : Region.Mode} {w0 : World} {s t : Tmp}

theorem run_alloc_inv {o : Oper} {ρ : Operand → Value} (ho : allocB o = true) {W w' : World} {nx : Next} (h : (execOp ρ o).run P W = .ok nx w') : nx = .value (.pointer (some ⟨W.heap.size, 0, none⟩)) ∧ w'.heap.size = W.heap.size + 1 := by
  obtain ⟨ty, hty⟩ : ∃ ty, o.op = .alloc ty := by
    unfold allocB at ho
    split at ho
    · exact ⟨_, by assumption⟩
    · cases ho
  cases hz : (P.info? ty).bind (·.zero) with
  | some z =>
    rw [run_alloc_op hty hz] at h
    cases h
    exact ⟨rfl, by simp⟩
  | none =>
    exfalso
    cases hi : P.info? ty with
    | none => simp [execOp, hty, Instr.alloc, zeroValue, typeInfo, hi, Result.andThen] at h
    | some i =>
      rw [hi] at hz
      simp only [Option.bind_some] at hz
      simp [execOp, hty, Instr.alloc, zeroValue, typeInfo, hi, hz, Result.andThen] at h

structure MeetsI (s t : Tmp) (w0 : World) (X : Slots) (n : Nat) (ds : List Deferred) (a : Act) (w : World) : Prop where
  base : Meets w0 X n ds a w
  inv : Apart2 s t a w

theorem ext_size {w w' : World} (h : Ext w w') : w.heap.size ≤ w'.heap.size := by
  obtain ⟨x, rfl⟩ := h; simp

theorem wpOpI_of_sOp (hap : apartB ops s t = true) {Q' : Exit → Act → World → Prop} {i : Nat} {X : Slots} {n : Nat} {ds : List Deferred} {a : Act} {w : World} {K : Slots → Prop} {K' : Act → World → Prop} (hM : MeetsI s t w0 X n ds a w) (hS : ∀ s, Stays (X s))
    (hd : ∀ (i : Nat) (o : Oper) (d : Tmp), ops[i]? = some o → o.dst = some d → d < n) (h : ∀ X a w, MeetsI s t w0 X n ds a w → (∀ s, Stays (X s)) → K X → K' a w) (hh : sOp P ops w0 i K X) : wpOp P ops Q' i K' a w := by
  unfold sOp at hh
  unfold wpOp
  cases ho : ops[i]? with
  | none => simp only [ho] at hh ⊢; exact h _ _ _ hM hS hh
  | some o =>
    simp only [ho] at hh ⊢
    obtain ⟨Ψ, hΨ, hD, hK⟩ := hh
    have hdo : ∀ d, o.dst = some d → d < n := fun d => hd i o d ho
    have hS' : ∀ s, Stays (X.put o.dst Ψ s) := Slots.put_stays hS hΨ
    rcases hD a w hM.base.base (fun s _ => hM.base.has s) with ⟨hw, hu⟩ | ⟨hw, hu⟩
    · simp only [hw, if_true]
      refine .inl ?_
      unfold Oper.wp
      have hinv := fun hal nx w' => run_alloc_inv (P := P) (o := o) (ρ := a.eval) hal (W := w) (w' := w') (nx := nx)
      generalize (execOp a.eval o).run P w = r at *
      cases r with
      | ok m w' =>
        cases m <;> simp only [UponS] at hu <;> simp only [Oper.upon]
        case value u =>
          refine h _ _ _ ⟨hM.base.put hS hdo hu.1 hu.2, hM.inv.put (ext_size hu.1) ho hap u fun hal => ?_⟩ hS' hK
          obtain ⟨h1, h2⟩ := hinv hal _ _ rfl
          cases h1
          exact .inr ⟨rfl, h2⟩
        case skip =>
          obtain ⟨e1, e2⟩ := hu; rw [e1]
          exact h _ _ _ ⟨hM.base.put hS hdo (Ext.refl _) e2, hM.inv.put (Nat.le_refl _) ho hap undef fun _ => .inl rfl⟩ hS' hK
        case enter f args =>
          obtain ⟨e1, hc⟩ := hu
          rw [e1]
          refine hc.mono fun e w'' ⟨v, he, hx, hv⟩ => ?_
          subst he
          refine h _ _ _ ⟨hM.base.put hS hdo hx hv, hM.inv.put (ext_size hx) ho hap v fun hal => ?_⟩ hS' hK
          exact absurd (hinv hal _ _ rfl).1 (fun e => by cases e)
      | halt x w' => simp only [UponS] at hu
    · simp only [hw, Bool.false_eq_true, if_false]
      exact h _ _ _ ⟨hM.base.put hS hdo (Ext.refl _) hu, hM.inv.put (Nat.le_refl _) ho hap undef fun _ => .inl rfl⟩ hS' hK

theorem wpAnyI_of_T (hap : apartB ops s t = true) {Q : Array Bool → Slots → Prop} {Q' : Exit → Act → World → Prop} {n : Nat} {ds : List Deferred} (r : Nat) (hd : ∀ (i : Nat) (o : Oper) (d : Tmp), ops[i]? = some o → o.dst = some d → d < n)
    (hQ : ∀ listed X a w, MeetsI s t w0 X n ds a w → Q listed X → wpAny P md ops Q' r listed a w) :
    ∀ (fuel : Nat) (listed : Array Bool) (X : Slots) (a : Act) (w : World), MeetsI s t w0 X n ds a w → (∀ s, Stays (X s)) → wpAnyT P md ops w0 Q fuel listed X → wpAny P md ops Q' (fuel + r) listed a w
  | 0, _, _, _, _, hM, _, h => by rw [Nat.zero_add]; exact hQ _ _ _ _ hM h
  | fuel + 1, _, _, _, _, hM, hS, h => by
    rw [show fuel + 1 + r = fuel + r + 1 by omega]
    exact ⟨fun h0 => absurd h0 h.1, fun i hi => wpOpI_of_sOp hap hM hS hd (fun X a w hM hS => wpAnyI_of_T hap r hd hQ fuel _ X a w hM hS) (h.2 i hi)⟩
variable {Q : Slots → Prop} {a : Act} {R : List (Tmp × Pred)}
theorem B_nili {G : Act → World → Prop} {n : Nat} {ds : List Deferred} (hn : a.tmps.size = n) (hds : a.defers = ds) (hk : keysB n R = true) (h : ∀ w', Ext w0 w' → fin R a (fun a' => Apart2 s t a' w' → G a' w') w') : wpS P ops w0 (fun X => ∀ a' w', MeetsI s t w0 X n ds a' w' → G a' w') [] (mix a R) :=
  fun a' w' hM => Meets.fin (G := fun a' => Apart2 s t a' w' → G a' w') R a hM.base hn hds (keysB_out hk) (h w' hM.base.base) hM.inv
end

theorem wp_region_ri {P : Program} {id : Nat} {Q : Exit → Act → World → Prop} {a : Act} {w : World} {L : List Oper} (m r : Nat) (s t : Tmp) (h0 : Apart2 s t a w) (hap : apartB L.toArray s t = true) (hr : L.length - m = r) (hm : P.follows .mixedOrders = true) (hB : tailC L.toArray m = true) (hd : dstsB L.toArray a.tmps.size = true)
    (h : wpS P L.toArray w (fun X => ∀ a' w', MeetsI s t w X a.tmps.size a.defers a' w' → wpAny P .any L.toArray Q r (listT m 0 (Array.replicate L.toArray.size false)) a' w') (L.take m) (mix a [])) : (Code.region id L.toArray true).wp P Q a w := by
  subst hr
  unfold tailC at hB
  simp only [Bool.and_eq_true, decide_eq_true_eq] at hB
  obtain ⟨⟨⟨⟨hns, hpB⟩, hms⟩, hun⟩, hlx⟩ := hB
  have hms' : m ≤ L.length := by simpa using hms
  have hlen : (L.take m).length = m := by simp [hms']
  have hd' : ∀ (i : Nat) (o : Oper) (d : Tmp), L.toArray[i]? = some o → o.dst = some d → d < a.tmps.size := fun i o d ho hod => by
    have := (Array.all_eq_true'.1 hd) o (Array.mem_of_getElem? ho)
    rw [hod] at this
    simpa using this
  have hM : MeetsI s t w (mix a []) a.tmps.size a.defers a { w with drawn := w.drawn + 1 } := ⟨⟨⟨⟨#[], w.drawn + 1⟩, by simp [plus]⟩, rfl, rfl, fun s => by simp [mix, relAt]⟩, h0.ls, h0.lt, h0.ne⟩
  have hS : ∀ s, Stays (mix a [] s) := fun s => by simp only [mix, relAt]; exact stays_eq _
  have hA := wpAnyT_lexC (md := .any) (ops := L.toArray) (m := m) (listT m 0 (Array.replicate L.toArray.size false)) hpB (L.take m) 0 (Array.replicate L.toArray.size false) (mix a [])
    (fun j hj => by rw [hlen] at hj; simp [List.getElem?_take, hj]) (by rw [hlen]; omega) (Closed.start _ _ _) (by rw [hlen]; exact hun) (by rw [hlen]) (by rw [hlen]; exact hlx) h
  rw [hlen] at hA
  have hW := wpAnyI_of_T (P := P) (md := .any) hap (Q' := Q) (L.length - m) hd' (fun listed X a' w' hM hq => by rw [hq.1]; exact hq.2 a' w' hM) m _ _ _ _ hM hS hA
  have e : m + (L.length - m) = L.toArray.size := by simp; omega
  rw [e] at hW
  exact wp_region_any hm hW

end Go.Proofs.Ythdcfdfpfagamaa
