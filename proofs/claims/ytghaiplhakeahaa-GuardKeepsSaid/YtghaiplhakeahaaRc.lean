/- A region whose last operations wait, through others, for all that stand ahead of them. Plain; over any program. -/
import Derived.Test.YtghaiplhakeahaaBq
namespace Go.Proofs.Ytghaiplhakeahaa
set_option linter.unusedSimpArgs false
set_option linter.unusedVariables false
open Go.RowKit

section
variable {P : Program} {ops : Array Oper} {md : Region.Mode} {w0 : World}
/-- Does operation j wait for i, through others? -/
def anc (md : Region.Mode) (ops : Array Oper) : Nat → Nat → Nat → Bool
  | 0, _, _ => false
  | f + 1, j, i => match ops[j]? with
    | some o => o.after.any fun e => Region.binds md e && (e.on == i || anc md ops f e.on i)
    | none => false
def Closed (md : Region.Mode) (ops : Array Oper) (listed : Array Bool) : Prop := ∀ (k : Nat) (ok : Oper), ops[k]? = some ok → listed.getD k false = true → ∀ e ∈ ok.after, Region.binds md e = true → listed.getD e.on false = true
theorem Closed.start (md : Region.Mode) (ops : Array Oper) (n : Nat) : Closed md ops (Array.replicate n false) := fun k ok _ h => by
  rcases Nat.lt_or_ge k n with h' | h'
  · simp [h'] at h
  · simp [h'] at h
theorem getD_set_mono {l : Array Bool} {j k : Nat} (h : l.getD k false = true) : (l.setIfInBounds j true).getD k false = true := by
  by_cases hk : j = k
  · subst hk
    rcases Nat.lt_or_ge j l.size with h' | h'
    · simp [h']
    · simp [Array.getElem?_eq_none h'] at h
  · rw [getD_set_ne false hk]; exact h
theorem Closed.set {listed : Array Bool} (h : Closed md ops listed) {j : Nat} (hj : j ∈ Region.ready md ops listed) : Closed md ops (listed.setIfInBounds j true) := fun k ok hk hl e he hb => by
  obtain ⟨_, oj, hoj, hall⟩ := mem_ready.1 hj
  by_cases hkj : j = k
  · subst hkj
    rw [hoj] at hk; cases hk
    exact getD_set_mono (hall e he hb)
  · rw [getD_set_ne false hkj] at hl
    exact getD_set_mono (h k ok hk hl e he hb)
theorem Closed.anc {listed : Array Bool} (h : Closed md ops listed) : ∀ (f : Nat) (j : Nat) (oj : Oper), ops[j]? = some oj → (∀ e ∈ oj.after, Region.binds md e = true → listed.getD e.on false = true) → ∀ i, Go.Proofs.Ytghaiplhakeahaa.anc md ops f j i = true → listed.getD i false = true
  | 0, _, _, _, _, _, ha => by simp [Go.Proofs.Ytghaiplhakeahaa.anc] at ha
  | f + 1, j, oj, hoj, hall, i, ha => by
    unfold Go.Proofs.Ytghaiplhakeahaa.anc at ha
    simp only [hoj] at ha
    obtain ⟨e, he, h3⟩ := Array.any_eq_true'.1 ha
    simp only [Bool.and_eq_true, Bool.or_eq_true, beq_iff_eq] at h3
    obtain ⟨hb, h3 | h3⟩ := h3
    · rw [← h3]; exact hall e he hb
    · have h4 := hall e he hb
      cases ho : ops[e.on]? with
      | none =>
        exfalso
        cases f with
        | zero => simp [Go.Proofs.Ytghaiplhakeahaa.anc] at h3
        | succ f => unfold Go.Proofs.Ytghaiplhakeahaa.anc at h3; simp [ho] at h3
      | some oe => exact h.anc f e.on oe ho (fun e' he' hb' => h e.on oe ho h4 e' he' hb') i h3
def postC (md : Region.Mode) (ops : Array Oper) (m : Nat) : Bool :=
  (List.range ops.size).all fun j => decide (j < m) || (List.range m).all fun i => anc md ops ops.size j i
theorem postC_out {m : Nat} (h : postC md ops m = true) (i : Nat) (him : i < m) (j : Nat) (oj : Oper) (hoj : ops[j]? = some oj) (hj : m ≤ j) : anc md ops ops.size j i = true := by
  have hjs : j < ops.size := (Array.getElem?_eq_some_iff.1 hoj).1
  have h1 := List.all_eq_true.1 h j (List.mem_range.2 hjs)
  simp only [Bool.or_eq_true, decide_eq_true_eq] at h1
  rcases h1 with h1 | h1
  · omega
  · exact List.all_eq_true.1 h1 i (List.mem_range.2 him)
theorem wpAnyT_firstC {Q : Array Bool → Slots → Prop} {i : Nat} {oi : Oper} {Ψ : Pred} {m : Nat} (hi : ops[i]? = some oi) (hΨ : Stays Ψ) (him : i < m)
    (hpost : ∀ (j : Nat) (oj : Oper), ops[j]? = some oj → m ≤ j → anc md ops ops.size j i = true) :
    ∀ (fuel : Nat) (listed : Array Bool) (X : Slots),
      (∀ j oj, ops[j]? = some oj → j ≠ i → listed.getD j true = false → (∀ e ∈ oj.after, Region.binds md e = true → e.on ≠ i) → oi.apart ops oj = true) →
      Closed md ops listed → unl m listed = fuel + 1 → i ∈ Region.ready md ops listed → Does P ops w0 oi X Ψ →
      wpAnyT P md ops w0 Q fuel (listed.setIfInBounds i true) (X.put oi.dst Ψ) → wpAnyT P md ops w0 Q (fuel + 1) listed X := by
  intro fuel
  induction fuel with
  | zero =>
    intro listed X _ hcl hu hr hy H
    refine ⟨fun h => (by rw [h] at hr; cases hr), fun j hj => ?_⟩
    by_cases hji : j = i
    · subst hji; exact hy.sOp hi hΨ H
    · exfalso
      obtain ⟨hjun, oj, hoj, hall⟩ := mem_ready.1 hj
      have hiun := (mem_ready.1 hr).1
      have hjm : j < m := by
        rcases Nat.lt_or_ge j m with h | h
        · exact h
        · exfalso
          have h1 := hcl.anc _ j oj hoj hall i (hpost j oj hoj h)
          rcases Nat.lt_or_ge i listed.size with h' | h'
          · simp [h'] at hiun h1; rw [hiun] at h1; cases h1
          · simp [Array.getElem?_eq_none h'] at h1
      have e1 := unl_set listed i m him hiun
      have e2 := unl_set (listed.setIfInBounds i true) j m hjm (by rw [getD_set_ne true (Ne.symm hji)]; exact hjun)
      omega
  | succ fuel ih =>
    intro listed X hfree hcl hu hr hy H
    refine ⟨fun h => (by rw [h] at hr; cases hr), fun j hj => ?_⟩
    by_cases hji : j = i
    · subst hji; exact hy.sOp hi hΨ H
    · have h1 := H.2 j (ready_mono hj hji)
      obtain ⟨hjun, oj, hoj, hall⟩ := mem_ready.1 hj
      have hnot : ∀ e ∈ oj.after, Region.binds md e = true → e.on ≠ i := fun e he hb heq => by
        have h1 := hall e he hb
        have h0 := (mem_ready.1 hr).1
        rw [heq] at h1
        rcases Nat.lt_or_ge i listed.size with h' | h'
        · simp [h'] at h0 h1; rw [h0] at h1; cases h1
        · simp [Array.getElem?_eq_none h'] at h1
      have hjm : j < m := by
        rcases Nat.lt_or_ge j m with h | h
        · exact h
        · exfalso
          have h1 := hcl.anc _ j oj hoj hall i (hpost j oj hoj h)
          have hiun := (mem_ready.1 hr).1
          rcases Nat.lt_or_ge i listed.size with h' | h'
          · simp [h'] at hiun h1; rw [hiun] at h1; cases h1
          · simp [Array.getElem?_eq_none h'] at h1
      have h2 := sOp_put hoj (hfree j oj hoj hji hjun hnot) hy h1
      have hfree' : ∀ k ok, ops[k]? = some ok → k ≠ i → (listed.setIfInBounds j true).getD k true = false →
          (∀ e ∈ ok.after, Region.binds md e = true → e.on ≠ i) → oi.apart ops ok = true := fun k ok hk hki hun hno => by
        refine hfree k ok hk hki ?_ hno
        by_cases hjk : j = k
        · subst hjk; exact hjun
        · rw [getD_set_ne true hjk] at hun; exact hun
      have hu' := unl_set listed j m hjm hjun
      refine sOp_mono (fun X' h3 => ih (listed.setIfInBounds j true) X' hfree' (hcl.set hj) (by omega) (ready_mono hr (Ne.symm hji)) h3.1 ?_) h2
      rw [Array.setIfInBounds_comm _ _ hji]
      exact h3.2

theorem wpAnyT_lexC {Q : Slots → Prop} {m : Nat} (LF : Array Bool) (hpB : postC md ops m = true) : ∀ (l : List Oper) (k : Nat) (listed : Array Bool) (X : Slots), (∀ j, j < l.length → l[j]? = ops[k + j]?) → k + l.length = m → Closed md ops listed → unl m listed = l.length → listT l.length k listed = LF →
    lexT md ops l.length k listed = true → wpS P ops w0 Q l X → wpAnyT P md ops w0 (fun listed X => listed = LF ∧ Q X) l.length listed X
  | [], _, _, _, _, _, _, _, hLF, _, h => ⟨hLF, h⟩
  | o :: l, k, listed, X, hl, hk, hcl, hu, hLF, hB, h => by
    have h0 : ops[k]? = some o := by simpa using (hl 0 (by simp)).symm
    simp only [List.length_cons, lexT, Bool.and_eq_true] at hB
    obtain ⟨⟨hr, hf⟩, hB'⟩ := hB
    obtain ⟨Ψ, hΨ, hD, hK⟩ := h
    have hkm : k < m := by simp at hk; omega
    have hr' : k ∈ Region.ready md ops listed := by simpa using hr
    refine wpAnyT_firstC (m := m) h0 hΨ hkm (fun j oj hoj hj => postC_out hpB k hkm j oj hoj hj) l.length listed X (Region.free_spec h0 hf) hcl hu hr' hD
      (wpAnyT_lexC LF hpB l (k + 1) _ _ (fun j hj => by have := hl (j + 1) (by simpa using hj); simpa [Nat.add_assoc, Nat.add_comm 1 j] using this) (by simp at hk; omega) (hcl.set hr') ?_ hLF hB' hK)
    have := unl_set listed k m hkm (mem_ready.1 hr').1
    simp at hu
    omega

end
def tailC (ops : Array Oper) (m : Nat) : Bool := Region.noSelect ops && postC .any ops m && decide (m ≤ ops.size) && decide (unl m (Array.replicate ops.size false) = m) && lexT .any ops m 0 (Array.replicate ops.size false)

theorem wp_region_rc {P : Program} {id : Nat} {Q : Exit → Act → World → Prop} {a : Act} {w : World} {L : List Oper} (m r : Nat) (hr : L.length - m = r) (hm : P.follows .mixedOrders = true) (hB : tailC L.toArray m = true) (hd : dstsB L.toArray a.tmps.size = true)
    (h : wpS P L.toArray w (fun X => ∀ a' w', Meets w X a.tmps.size a.defers a' w' → wpAny P .any L.toArray Q r (listT m 0 (Array.replicate L.toArray.size false)) a' w') (L.take m) (mix a [])) : (Code.region id L.toArray true).wp P Q a w := by
  subst hr
  unfold tailC at hB
  simp only [Bool.and_eq_true, decide_eq_true_eq] at hB
  obtain ⟨⟨⟨⟨hns, hpB⟩, hms⟩, hun⟩, hlx⟩ := hB
  have hms' : m ≤ L.length := by simpa using hms
  have hlen : (L.take m).length = m := by simp [hms']
  have hd' : ∀ (i : Nat) (o : Oper) (d : Tmp), L.toArray[i]? = some o → o.dst = some d → d < a.tmps.size := fun i o d ho hod => by
    have := (Array.all_eq_true'.1 hd) o (Array.mem_of_getElem? ho)
    rw [hod] at this
    simpa using this
  have hM : Meets w (mix a []) a.tmps.size a.defers a { w with drawn := w.drawn + 1 } := ⟨⟨⟨#[], w.drawn + 1⟩, by simp [plus]⟩, rfl, rfl, fun s => by simp [mix, relAt]⟩
  have hS : ∀ s, Stays (mix a [] s) := fun s => by simp only [mix, relAt]; exact stays_eq _
  have hA := wpAnyT_lexC (md := .any) (ops := L.toArray) (m := m) (listT m 0 (Array.replicate L.toArray.size false)) hpB (L.take m) 0 (Array.replicate L.toArray.size false) (mix a [])
    (fun j hj => by rw [hlen] at hj; simp [List.getElem?_take, hj]) (by rw [hlen]; omega) (Closed.start _ _ _) (by rw [hlen]; exact hun) (by rw [hlen]) (by rw [hlen]; exact hlx) h
  rw [hlen] at hA
  have hW := wpAny_of_T (P := P) (md := .any) (Q' := Q) (L.length - m) hd' (fun listed X a' w' hM hq => by rw [hq.1]; exact hq.2 a' w' hM) m _ _ _ _ hM hS hA
  have e : m + (L.length - m) = L.toArray.size := by simp; omega
  rw [e] at hW
  exact wp_region_any hm hW

end Go.Proofs.Ytghaiplhakeahaa
