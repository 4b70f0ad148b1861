/- A region that draws its order, walked in the text's order (as file Rq), with a check that great regions bear. Plain; over any program. -/
import Derived.Test.YteopbfehfipcmaaRq
namespace Go.Proofs.Yteopbfehfipcmaa
set_option linter.unusedSimpArgs false
set_option linter.unusedVariables false
open Go.RowKit

/-- Operation o, at place k: whoever stands behind it waits for it, or hangs on nothing of it. -/
def lexR (md : Region.Mode) (ops : Array Oper) : List Oper → Nat → Bool
  | [], _ => true
  | o :: r, k => o.after.all (fun e => !Region.binds md e || decide (e.on < k)) && r.all (fun oj => oj.after.any (fun e => Region.binds md e && e.on == k) || o.apart ops oj) && lexR md ops r (k + 1)

section
variable {P : Program} {ops : Array Oper} {md : Region.Mode} {w0 : World}
theorem wpAnyR_lexS {Q : Slots → Prop} : ∀ (l : List Oper) (k : Nat) (listed : Array Bool) (X : Slots), (∀ j, l[j]? = ops[k + j]?) → k + l.length = ops.size → listed.size = ops.size → (∀ i, i < ops.size → listed.getD i true = decide (i < k)) →
    lexR md ops l k = true → wpS P ops w0 Q l X → wpAnyR P md ops w0 Q l.length listed X
  | [], k, listed, X, hl, hk, hs, hli, hB, h => by
    refine ⟨?_, h⟩
    rw [List.eq_nil_iff_forall_not_mem]
    intro j hj
    obtain ⟨h1, o, h2, _⟩ := mem_ready.1 hj
    have hj' : j < ops.size := (Array.getElem?_eq_some_iff.1 h2).1
    rw [hli j hj'] at h1
    simp at hk h1
    omega
  | o :: l, k, listed, X, hl, hk, hs, hli, hB, h => by
    have h0 : ops[k]? = some o := by simpa using (hl 0).symm
    have hks : k < ops.size := (Array.getElem?_eq_some_iff.1 h0).1
    simp only [lexR, Bool.and_eq_true] at hB
    obtain ⟨⟨hr, hf⟩, hB'⟩ := hB
    obtain ⟨Ψ, hΨ, hD, hK⟩ := h
    refine wpAnyR_first h0 hΨ l.length listed X (fun j oj hj hne hun hno => ?_) ?_ hD (wpAnyR_lexS l (k + 1) _ _ (fun j => by have := hl (j + 1); simpa [Nat.add_assoc, Nat.add_comm 1 j] using this) (by simp at hk; omega) (by simpa using hs) (fun i hi => ?_) hB' hK)
    · have hjs : j < ops.size := (Array.getElem?_eq_some_iff.1 hj).1
      rw [hli j hjs] at hun
      have hjk : k < j := by simp at hun; omega
      have hmem : oj ∈ l := by
        have := hl (j - k)
        rw [show k + (j - k) = j by omega, hj] at this
        rw [show j - k = (j - k - 1) + 1 by omega, List.getElem?_cons_succ] at this
        exact List.mem_of_getElem? this
      have h1 := List.all_eq_true.1 hf oj hmem
      rw [Bool.or_eq_true] at h1
      rcases h1 with h1 | h1
      · obtain ⟨e, he, hb⟩ := Array.any_eq_true'.1 h1
        simp only [Bool.and_eq_true, beq_iff_eq] at hb
        exact absurd hb.2 (hno e he hb.1)
      · exact h1
    · refine mem_ready.2 ⟨by rw [hli k hks]; simp, o, h0, fun e he hb => ?_⟩
      have h1 := Array.all_eq_true'.1 hr e he
      simp only [hb, Bool.not_true, Bool.false_or, decide_eq_true_eq] at h1
      have h2 := hli e.on (by omega)
      have h3 : e.on < listed.size := by omega
      simp [h3] at h2 ⊢
      rw [h2]; exact decide_eq_true h1
    · by_cases hik : k = i
      · subst hik
        simp [hs, hks]
      · rw [getD_set_ne true hik, hli i hi]
        simp; omega

theorem wp_region_rs {P : Program} {id : Nat} {Q : Exit → Act → World → Prop} {a : Act} {w : World} {l : List Oper} (hm : P.follows .mixedOrders = true) (hB : lexR .any l.toArray l 0 = true) (hd : dstsB l.toArray a.tmps.size = true)
    (h : wpS P l.toArray w (fun X => ∀ a' w', Meets w X a.tmps.size a.defers a' w' → Q .normal a' w') l (mix a [])) : (Code.region id l.toArray true).wp P Q a w := by
  have hd' : ∀ (i : Nat) (o : Oper) (d : Tmp), l.toArray[i]? = some o → o.dst = some d → d < a.tmps.size := fun i o d ho hod => by
    have := (Array.all_eq_true'.1 hd) o (Array.mem_of_getElem? ho)
    rw [hod] at this
    simpa using this
  have hM : Meets w (mix a []) a.tmps.size a.defers a { w with drawn := w.drawn + 1 } := ⟨⟨⟨#[], w.drawn + 1⟩, by simp [plus]⟩, rfl, rfl, fun s => by simp [mix, relAt]⟩
  have hS : ∀ s, Stays (mix a [] s) := fun s => by simp only [mix, relAt]; exact stays_eq _
  have hA := wpAnyR_lexS (md := .any) (ops := l.toArray) l 0 (Array.replicate l.toArray.size false) (mix a []) (by simp) (by simp) (by simp) (fun i hi => by simp at hi; simp [hi]) hB h
  have hW := wpAny_of_R (P := P) (md := .any) (Q' := Q) hd' (fun X a' w' hM h => h a' w' hM) _ _ _ _ _ hM hS hA
  exact wp_region_any hm (by simpa using hW)
end

end Go.Proofs.Yteopbfehfipcmaa
