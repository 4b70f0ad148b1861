/- A region that draws its order, whose first operation is a move for which a later append doesn't wait. Plain; over any program. -/
import Derived.Test.YtghaiplhakeahaaRc
namespace Go.Proofs.Ytghaiplhakeahaa
set_option linter.unusedSimpArgs false
set_option linter.unusedVariables false
open Go.RowKit

/-- The exits of Q, but for panics. -/
def noP (Q : Exit → Act → World → Prop) : Exit → Act → World → Prop := fun e a w => e = .normal ∧ Q e a w
theorem noP_outs {Q : Exit → Act → World → Prop} (h : LetsOut (noP Q)) : False := by
  obtain ⟨a, w, h1, _⟩ := h; cases h1

section
variable {P : Program} {ops : Array Oper} {md : Region.Mode} {Q : Exit → Act → World → Prop}
theorem upon_noP {o : Oper} {a : Act} {K : Act → World → Prop} {r : Result Next} (h : o.upon P a K (noP Q) r) : o.upon P a K Q r := by
  cases r with
  | ok n w' =>
    cases n <;> simp only [Oper.upon] at h ⊢ <;> first | exact h | (exact Calls.mono h (fun e w'' he => by
      cases e <;> first | exact he | exact absurd he.1 (by simp) | exact (noP_outs he).elim))
  | halt x w' => cases x <;> simp only [Oper.upon] at h ⊢ <;> exact absurd h.1 (by simp)
theorem wpOp_noP {i : Nat} {K : Act → World → Prop} {a : Act} {w : World} (h : wpOp P ops (noP Q) i K a w) : wpOp P ops Q i K a w := by
  unfold wpOp at h ⊢
  cases ho : ops[i]? with
  | none => rw [ho] at h; exact h
  | some o =>
    rw [ho] at h
    simp only at h ⊢
    split
    · rename_i hc
      rw [if_pos hc] at h
      rcases h with h | h
      · exact .inl (upon_noP h)
      · exact (noP_outs h.2).elim
    · rename_i hc
      rw [if_neg hc] at h
      exact h
theorem wpAny_noP : ∀ (n : Nat) (LF : Array Bool) (a : Act) (w : World), wpAny P md ops (noP Q) n LF a w → wpAny P md ops Q n LF a w
  | 0, _, _, _, h => ⟨h.1, h.2.2⟩
  | n + 1, LF, a, w, h => ⟨fun h0 => (h.1 h0).2, fun i hi => wpOp_noP (wpOp_mono (fun a w hk => wpAny_noP n _ a w hk) (h.2 i hi))⟩

/-- The move of operation 0 may be done ahead. -/
def pullB (ops : Array Oper) (d : Tmp) (x : Operand) : Bool :=
  (match ops[0]? with | some o => o.after.isEmpty && (match o.guard with | none => true | _ => false) && (o.dst == some d) | none => false) &&
  (List.range ops.size).all fun j => j == 0 || (match ops[j]? with | some oj => noSel oj && (!(oj.looksAt ops).contains d || oj.after.any fun e => Region.binds .any e && e.on == 0) && !(oj.dst == some d) && (match x with | .tmp s => !(oj.dst == some s) && !(s == d) | .const _ => true | _ => false) | none => true)
theorem put_put_comm {a : Act} {d : Tmp} {x : Operand} {u : Value} {dj : Option Tmp} (h1 : dj ≠ some d) (h2 : (match x with | .tmp s => !(dj == some s) && !(s == d) | .const _ => true | _ => false) = true) :
    (a.put (some d) (a.eval x)).put dj u = (a.put dj u).put (some d) ((a.put dj u).eval x) := by
  cases dj with
  | none => rfl
  | some e =>
    have hne : e ≠ d := fun q => h1 (by rw [q])
    have he : (a.put (some e) u).eval x = a.eval x := by
      cases x with
      | tmp s =>
        simp only [Bool.and_eq_true, Bool.not_eq_true', beq_eq_false_iff_ne] at h2
        have : e ≠ s := fun q => h2.1 (by rw [q])
        simp [Act.eval, Act.put, Array.getElem?_setIfInBounds_ne this]
      | const c => rfl
      | _ => simp at h2
    rw [he]
    simp only [Act.put]
    rw [Array.setIfInBounds_comm _ _ (Ne.symm hne)]
theorem wpAny_pull {d : Tmp} {x : Operand} {o0 : Oper} (h0 : ops[0]? = some o0) (ho0 : o0.op = .move x) (hB : pullB ops d x = true) :
    ∀ (n : Nat) (LF : Array Bool) (a : Act) (w : World), LF.getD 0 true = false → wpAny P .any ops (noP Q) n (LF.setIfInBounds 0 true) (a.put (some d) (a.eval x)) w → wpAny P .any ops (noP Q) (n + 1) LF a w := by
  unfold pullB at hB
  simp only [h0, Bool.and_eq_true, beq_iff_eq] at hB
  obtain ⟨⟨⟨haf, hg⟩, hd0⟩, hall⟩ := hB
  have haf : o0.after = #[] := by simpa using haf
  have hg : o0.guard = none := by
    cases h : o0.guard with
    | none => rfl
    | some g => rw [h] at hg; simp at hg
  have h0r : ∀ LF : Array Bool, LF.getD 0 true = false → 0 ∈ Region.ready .any ops LF := fun LF hl => mem_ready.2 ⟨hl, o0, h0, by rw [haf]; simp⟩
  have hop0 : ∀ (K : Act → World → Prop) (a : Act) (w : World), K (a.put (some d) (a.eval x)) w → wpOp P ops (noP Q) 0 K a w := fun K a w hk => by
    unfold wpOp
    simp only [h0]
    rw [if_pos (by simp [Region.wanted, hg])]
    left
    unfold Oper.wp
    rw [show (execOp a.eval o0).run P w = .ok (.value (a.eval x)) w by simp [execOp, ho0]]
    simp only [Oper.upon, hd0]
    exact hk
  have hopj : ∀ (j : Nat) (LF : Array Bool), j ≠ 0 → LF.getD 0 true = false → j ∈ Region.ready .any ops LF → ∀ (K K' : Act → World → Prop), (∀ a w, K (a.put (some d) (a.eval x)) w → K' a w) → ∀ a w, wpOp P ops (noP Q) j K (a.put (some d) (a.eval x)) w → wpOp P ops (noP Q) j K' a w := by
    intro j LF hj hl hjr K K' hK a w h
    obtain ⟨_, oj, hoj, hwait⟩ := mem_ready.1 hjr
    have hjs : j < ops.size := (Array.getElem?_eq_some_iff.1 hoj).1
    have hc := List.all_eq_true.1 hall j (List.mem_range.2 hjs)
    simp only [hoj, Bool.or_eq_true, beq_iff_eq, hj, false_or, Bool.and_eq_true] at hc
    obtain ⟨⟨⟨hns, hlook⟩, hdst⟩, hx⟩ := hc
    have hdst' : oj.dst ≠ some d := by simpa using hdst
    have hnl : d ∉ oj.looksAt ops := by
      intro hd
      rcases hlook with hlook | hlook
      · simp [hd] at hlook
      · obtain ⟨e, he, h3⟩ := Array.any_eq_true'.1 hlook
        simp only [Bool.and_eq_true, beq_iff_eq] at h3
        have := hwait e he h3.1
        rw [h3.2] at this
        rcases Nat.lt_or_ge 0 LF.size with h' | h'
        · simp [h'] at hl this; rw [hl] at this; cases this
        · simp [Array.getElem?_eq_none h'] at hl
    have same : ∀ s ∈ oj.looksAt ops, (a.put (some d) (a.eval x)).tmps.getD s undef = a.tmps.getD s undef := fun s hs => by
      have hsd : d ≠ s := fun q => hnl (by rw [q]; exact hs)
      simp [Act.put, Array.getElem?_setIfInBounds_ne hsd]
    have hput : ∀ u, (a.put (some d) (a.eval x)).put oj.dst u = (a.put oj.dst u).put (some d) ((a.put oj.dst u).eval x) := fun u => put_put_comm hdst' (by
      cases x <;> simp_all)
    unfold wpOp at h ⊢
    simp only [hoj] at h ⊢
    rw [wanted_same same] at h
    split at h
    · rename_i hw
      rw [if_pos hw]
      rcases h with h | h
      · left
        unfold Oper.wp at h ⊢
        rw [exec_same hns same] at h
        generalize (execOp a.eval oj).run P w = r at h ⊢
        cases r with
        | ok m w' =>
          cases m <;> simp only [Oper.upon] at h ⊢
          case value v => exact hK _ _ (by rw [← hput]; exact h)
          case skip => exact hK _ _ (by rw [← hput]; exact h)
          case defer D =>
            refine hK _ _ ?_
            have := hput undef
            cases hdj : oj.dst with
            | none =>
              rw [hdj] at h
              exact h
            | some e =>
              rw [hdj] at h this
              simp only [Act.put, Act.eval] at h this ⊢
              injection this with this
              rw [this] at h
              exact h
          case enter f args =>
            refine Calls.mono h fun e w'' he => ?_
            cases e with
            | returned v => exact hK _ _ (by rw [← hput]; exact he)
            | panicked c => exact absurd he.1 (by simp)
            | outgrown => exact he
          case row r args => exact Rows.mono h fun v w'' he => hK _ _ (by rw [← hput]; exact he)
        | halt y w' => cases y <;> simp only [Oper.upon] at h ⊢ <;> exact absurd h.1 (by simp)
      · exact (noP_outs h.2).elim
    · rename_i hw
      rw [if_neg hw]
      exact hK _ _ (by rw [← hput]; exact h)
  intro n
  induction n with
  | zero =>
    intro LF a w hl h
    refine ⟨fun he => (by have := h0r LF hl; rw [he] at this; cases this), fun j hj => ?_⟩
    by_cases hj0 : j = 0
    · subst hj0; exact hop0 _ _ _ h
    · exfalso
      have := ready_mono hj hj0
      rw [h.1] at this; cases this
  | succ n ih =>
    intro LF a w hl h
    refine ⟨fun he => (by have := h0r LF hl; rw [he] at this; cases this), fun j hj => ?_⟩
    by_cases hj0 : j = 0
    · subst hj0; exact hop0 _ _ _ h
    · refine hopj j LF hj0 hl hj _ _ (fun a w hk => ih (LF.setIfInBounds j true) a w ?_ ?_) a w (h.2 j (ready_mono hj hj0))
      · rw [getD_set_ne true hj0]; exact hl
      · rw [Array.setIfInBounds_comm _ _ hj0]; exact hk
end

def postD (md : Region.Mode) (ops : Array Oper) (m : Nat) : Bool :=
  (List.range ops.size).all fun j => decide (j < m) || (List.range m).all fun i => i == 0 || anc md ops ops.size j i
theorem postD_out {md : Region.Mode} {ops : Array Oper} {m : Nat} (h : postD md ops m = true) (i : Nat) (hi0 : i ≠ 0) (him : i < m) (j : Nat) (oj : Oper) (hoj : ops[j]? = some oj) (hj : m ≤ j) : anc md ops ops.size j i = true := by
  have hjs : j < ops.size := (Array.getElem?_eq_some_iff.1 hoj).1
  have h1 := List.all_eq_true.1 h j (List.mem_range.2 hjs)
  simp only [Bool.or_eq_true, decide_eq_true_eq] at h1
  rcases h1 with h1 | h1
  · omega
  · have := List.all_eq_true.1 h1 i (List.mem_range.2 him)
    simpa [hi0] using this
section
variable {P : Program} {ops : Array Oper} {md : Region.Mode} {w0 : World}
theorem wpAnyT_lexD {Q : Slots → Prop} {m : Nat} (LF : Array Bool) (hpB : postD md ops m = true) : ∀ (l : List Oper) (k : Nat) (listed : Array Bool) (X : Slots), k ≠ 0 → (∀ j, j < l.length → l[j]? = ops[k + j]?) → k + l.length = m → Closed md ops listed → unl m listed = l.length → listT l.length k listed = LF →
    lexT md ops l.length k listed = true → wpS P ops w0 Q l X → wpAnyT P md ops w0 (fun listed X => listed = LF ∧ Q X) l.length listed X
  | [], _, _, _, _, _, _, _, _, hLF, _, h => ⟨hLF, h⟩
  | o :: l, k, listed, X, hk0, hl, hk, hcl, hu, hLF, hB, h => by
    have h0 : ops[k]? = some o := by simpa using (hl 0 (by simp)).symm
    simp only [List.length_cons, lexT, Bool.and_eq_true] at hB
    obtain ⟨⟨hr, hf⟩, hB'⟩ := hB
    obtain ⟨Ψ, hΨ, hD, hK⟩ := h
    have hkm : k < m := by simp at hk; omega
    have hr' : k ∈ Region.ready md ops listed := by simpa using hr
    refine wpAnyT_firstC (m := m) h0 hΨ hkm (fun j oj hoj hj => postD_out hpB k hk0 hkm j oj hoj hj) l.length listed X (Region.free_spec h0 hf) hcl hu hr' hD
      (wpAnyT_lexD LF hpB l (k + 1) _ _ (by omega) (fun j hj => by have := hl (j + 1) (by simpa using hj); simpa [Nat.add_assoc, Nat.add_comm 1 j] using this) (by simp at hk; omega) (hcl.set hr') ?_ hLF hB' hK)
    have := unl_set listed k m hkm (mem_ready.1 hr').1
    simp at hu
    omega
end
def list0 (n : Nat) : Array Bool := (Array.replicate n false).setIfInBounds 0 true
def tailD (ops : Array Oper) (m : Nat) : Bool := Region.noSelect ops && postD .any ops m && (decide (m ≤ ops.size) && decide (1 ≤ m)) && decide (unl m (list0 ops.size) = m - 1) && lexT .any ops (m - 1) 1 (list0 ops.size)

theorem wp_region_rd {P : Program} {id : Nat} {Q : Exit → Act → World → Prop} {a : Act} {w : World} {o0 : Oper} {L : List Oper} (m r : Nat) {x : Operand} {d : Tmp} (hop : o0.op = .move x) (hr : (o0 :: L).length - m = r) (hm : P.follows .mixedOrders = true) (hB : tailD (o0 :: L).toArray m = true) (hd : dstsB (o0 :: L).toArray a.tmps.size = true)
    (hP : pullB (o0 :: L).toArray d x = true)
    (h : wpS P (o0 :: L).toArray w (fun X => ∀ a' w', Meets w X a.tmps.size a.defers a' w' → wpAny P .any (o0 :: L).toArray (noP Q) r (listT (m - 1) 1 (list0 (o0 :: L).toArray.size)) a' w') (L.take (m - 1)) (mix (a.put (some d) (a.eval x)) [])) : (Code.region id (o0 :: L).toArray true).wp P Q a w := by
  subst hr
  generalize hLL : o0 :: L = LL at *
  unfold tailD at hB
  simp only [Bool.and_eq_true, decide_eq_true_eq] at hB
  obtain ⟨⟨⟨⟨hns, hpB⟩, hms, hm1⟩, hun⟩, hlx⟩ := hB
  have hms' : m ≤ LL.length := by simpa using hms
  have hlen : (L.take (m - 1)).length = m - 1 := by rw [← hLL] at hms'; simp at hms' ⊢; omega
  have hd' : ∀ (i : Nat) (o : Oper) (d : Tmp), LL.toArray[i]? = some o → o.dst = some d → d < a.tmps.size := fun i o d ho hod => by
    have := (Array.all_eq_true'.1 hd) o (Array.mem_of_getElem? ho)
    rw [hod] at this
    simpa using this
  have h00 : LL.toArray[0]? = some o0 := by rw [← hLL]; simp
  have hsz : (a.put (some d) (a.eval x)).tmps.size = a.tmps.size := by simp [Act.put]
  have hdf : (a.put (some d) (a.eval x)).defers = a.defers := rfl
  have hM : Meets w (mix (a.put (some d) (a.eval x)) []) a.tmps.size a.defers (a.put (some d) (a.eval x)) { w with drawn := w.drawn + 1 } := ⟨⟨⟨#[], w.drawn + 1⟩, by simp [plus]⟩, hsz, hdf, fun s => by simp [mix, relAt]⟩
  have hS : ∀ s, Stays (mix (a.put (some d) (a.eval x)) [] s) := fun s => by simp only [mix, relAt]; exact stays_eq _
  have hafter : o0.after = #[] := by
    unfold pullB at hP
    simp only [h00, Bool.and_eq_true] at hP
    simpa using hP.1.1.1
  have hcl : Closed .any LL.toArray (list0 LL.toArray.size) := fun k ok hk hl e he hb => by
    by_cases hk0 : k = 0
    · subst hk0; rw [h00] at hk; cases hk; rw [hafter] at he; simp at he
    · unfold list0 at hl
      rw [getD_set_ne false (Ne.symm hk0)] at hl
      rcases Nat.lt_or_ge k LL.toArray.size with h' | h'
      · simp at h'; simp [h'] at hl
      · simp at h'; simp [h'] at hl
  have hA := wpAnyT_lexD (md := .any) (ops := LL.toArray) (m := m) (listT (m - 1) 1 (list0 LL.toArray.size)) hpB (L.take (m - 1)) 1 (list0 LL.toArray.size) (mix (a.put (some d) (a.eval x)) []) (by omega)
    (fun j hj => by rw [hlen] at hj; rw [← hLL]; simp [List.getElem?_take, hj, Nat.add_comm 1 j]) (by rw [hlen]; omega) hcl (by rw [hlen]; exact hun) (by rw [hlen]) (by rw [hlen]; exact hlx) h
  rw [hlen] at hA
  have hW := wpAny_of_T (P := P) (md := .any) (Q' := noP Q) (LL.length - m) hd' (fun listed X a' w' hM hq => by rw [hq.1]; exact hq.2 a' w' hM) (m - 1) _ _ _ _ hM hS hA
  have hsz0 : 0 < LL.toArray.size := (Array.getElem?_eq_some_iff.1 h00).1
  have hpl := wpAny_pull (P := P) (Q := Q) h00 hop hP (m - 1 + (LL.length - m)) (Array.replicate LL.toArray.size false) a { w with drawn := w.drawn + 1 } (by simp at hsz0; simp [hsz0]) hW
  have e : m - 1 + (LL.length - m) + 1 = LL.toArray.size := by simp; omega
  rw [e] at hpl
  exact wp_region_any hm (wpAny_noP _ _ _ _ hpl)

theorem wp_region_rdk {P : Program} {id : Nat} {Q : Exit → Act → World → Prop} {a : Act} {w : World} {o0 : Oper} {L : List Oper} (k r : Nat) {x : Operand} {d : Tmp} {v : Value} (hop : o0.op = .move x) (hdst : o0.dst = some d) (hr : (o0 :: L).length - (k + 1) = r) (hm : P.follows .mixedOrders = true) (hB : tailD (o0 :: L).toArray (k + 1) = true) (hd : dstsB (o0 :: L).toArray a.tmps.size = true)
    (hP : pullB (o0 :: L).toArray d x = true) (hv : a.eval x = v)
    (h : wpS P (o0 :: L).toArray w (fun X => ∀ a' w', Meets w X a.tmps.size a.defers a' w' → wpAny P .any (o0 :: L).toArray (noP Q) r (listT k 1 (list0 (o0 :: L).toArray.size)) a' w') (L.take k) (mix (a.put (some d) v) [])) : (Code.region id (o0 :: L).toArray true).wp P Q a w := by
  subst hv
  exact wp_region_rd (k + 1) r hop hr hm hB hd hP h

end Go.Proofs.Ytghaiplhakeahaa
