/- Rows that a region makes: append onto an empty row, known by a property; an operation that reads one such slot. Plain; over any program. -/
import Derived.Test.YtgjodjkmefdilaaMk
namespace Go.Proofs.Ytgjodjkmefdilaa
set_option linter.unusedSimpArgs false
set_option linter.unusedVariables false
open Go.RowKit

/-- A row of the elements us, in a block of the call's own. -/
def RowOf (e : TypeId) (base : Nat) (us : List Value) : Pred := fun v W => ∃ ao cap B, v = .slice ao us.length cap ∧ Row e 1 (.slice ao us.length cap) us.length us B ∧ ∀ x ∈ B, base ≤ x.no ∧ HasBlk W x.no x.ty x.cs
theorem stays_rowOf (e : TypeId) (base : Nat) (us : List Value) : Stays (RowOf e base us) := fun v w w' ⟨x, hx⟩ ⟨ao, cap, B, h1, h2, h3⟩ =>
  ⟨ao, cap, B, h1, h2, fun y hy => ⟨(h3 y hy).1, by rw [hx]; exact (h3 y hy).2.plus _ _⟩⟩
section
variable {P : Program} {ops : Array Oper} {w0 : World} {Q : Slots → Prop} {a : Act} {R : List (Tmp × Pred)} {o : Oper} {rest : List Oper}
theorem run_append_zeroL {w : World} {s x : Operand} {t : TypeId} {ρ : Operand → Value} (ho : o.op = .call { callee := .builtin .append, args := #[s, x], argTypes := #[t, t] })
    {e : TypeId} {bytes : Nat} (E : Elt P t e 1 bytes) (hby0 : bytes ≤ 1000) (r : Nat) (hs : ρ s = .slice (some ⟨r, 0, none⟩) 0 0) (base : Nat) (hbr : base ≤ r) (hr : HasBlk w r e #[]) (hbase : base ≤ w.heap.size)
    (ao : Option Addr) (n cap : Nat) (us : List Value) (hx : ρ x = .slice ao n cap) (hl : us.length = n) (hnil : ao = none → n = 0) (hc : ∀ ad, ao = some ad → ∀ j u, us[j]? = some u → w.cell? (ad.add j) = some u) (hone : ∀ u ∈ us, u.oneCell' = true) (hsz : n ≤ 10000000) :
    ∃ v w', (execOp ρ o).run P w = .ok (.value v) w' ∧ Ext w w' ∧ RowOf e base us v w' := by
  obtain ⟨i, z, ht, hi, hz, hs1, hby, hzs, hpos⟩ := E
  have hsrc : Src P i.size t (.slice ao n cap) n us w := by
    cases ao with
    | none =>
      have h0 := hnil rfl
      subst h0
      have : us = [] := List.eq_nil_of_length_eq_zero hl
      subst this
      exact Src.ofNil w ht cap
    | some ad => exact Src.ofSlice w ht ad n cap us (by rw [hs1, hl]; simp) (hc ad rfl) hone
  by_cases h0 : n = 0
  · subst h0
    have : us = [] := List.eq_nil_of_length_eq_zero hl
    subst this
    have hrun := run_append_nothing (P := P) w t t o.type e i ht hi (some ⟨r, 0, none⟩) 0 0 (Nat.le_refl _) (.slice ao 0 cap) hsrc
    refine ⟨.slice (some ⟨r, 0, none⟩) 0 0, w, by simp [execOp, ho, resolve, invoke, builtin, hs, hx, hrun, Result.andThen], Ext.refl _, some ⟨r, 0, none⟩, 0, [⟨r, e, #[]⟩], rfl, Row.empty e 1 r, fun y hy => ?_⟩
    obtain rfl := List.mem_singleton.1 hy
    exact ⟨hbr, hr⟩
  · have hold : (Builtin.firstCells i.size 0 (.slice (some ⟨r, 0, none⟩) 0 0)).run P w.drew = .ok ([] : List Value).toArray w.drew := run_firstCells_some w.drew i.size 0 ⟨r, 0, none⟩ 0 0 [] (by simp) (by simp)
    have hfit : (0 + n) * i.bytes ≤ 10000000 * 1000 := Nat.mul_le_mul (by omega) (by rw [hby]; exact hby0)
    have hrun := run_append_grow_src (P := P) w t t o.type e i z ht hi hz (some ⟨r, 0, none⟩) 0 0 [] hold (.slice ao n cap) n us hsrc (by omega) (by omega) (growslice_fits (by omega) (by omega))
    have hge := grownCap_ge w (0 + n) 0 e
    have hle := grownCap_le_maxLen w (0 + n) 0 e (by unfold maxLen; omega)
    have hsize : (([] ++ us).toArray ++ Builtin.zeroCells z.cells (grownCap w (0 + n) 0 e - (0 + n))).size = grownCap w (0 + n) 0 e * 1 := by
      rw [Array.size_append, List.size_toArray, size_zeroCells, hzs, List.nil_append, hl]
      omega
    have htake : (([] ++ us).toArray ++ Builtin.zeroCells z.cells (grownCap w (0 + n) 0 e - (0 + n))).toList.take (n * 1) = us := by
      rw [Array.toList_append, List.nil_append, Nat.mul_one]
      have : (us.toArray).toList = us := rfl
      rw [this, List.take_append_of_le_length (by omega), List.take_of_length_le (by omega)]
    rw [Nat.zero_add] at hrun hge hle hsize htake
    generalize (([] ++ us).toArray ++ Builtin.zeroCells z.cells (grownCap w n 0 e - n)) = cur at hrun hsize htake
    generalize grownCap w n 0 e = gc at hrun hge hle hsize
    refine ⟨.slice (some ⟨w.heap.size, 0, none⟩) n gc, w.drew.alloc (.cells cur e), by simp [execOp, ho, resolve, invoke, builtin, hs, hx, hrun, Result.andThen], Ext.of_below (balloc ((Below.refl _ _).drew) _), some ⟨w.heap.size, 0, none⟩, gc, [⟨w.heap.size, e, cur⟩], by rw [hl], ?_, fun y hy => ?_⟩
    · have := Row.one (e := e) (sz := 1) w.heap.size n gc cur hge hle hsize
      rw [htake] at this
      rw [hl]
      exact this
    · obtain rfl := List.mem_singleton.1 hy
      exact ⟨hbase, HasBlk.new _ _ _ _ rfl⟩

/-- append of what is there onto a row that was just made empty. -/
theorem B_appendL {d s : Tmp} {x : Operand} {t : TypeId} (ho : o.op = .call { callee := .builtin .append, args := #[.tmp s, x], argTypes := #[t, t] }) (hd : o.dst = some d)
    {e : TypeId} {bytes : Nat} (E : Elt P t e 1 bytes) (hby0 : bytes ≤ 1000) (hs : relAt R s = some (NewSl0 w0.heap.size e))
    (ao : Option Addr) (n cap : Nat) (us : List Value) (hx : ∀ u, (a.put (some s) u).eval x = .slice ao n cap) (hl : us.length = n) (hnil : ao = none → n = 0) (hc : ∀ ad, ao = some ad → ∀ j u, us[j]? = some u → w0.cell? (ad.add j) = some u) (hold : ∀ ad, ao = some ad → us ≠ [] → ad.block < w0.heap.size) (hone : ∀ u ∈ us, u.oneCell' = true) (hsz : n ≤ 10000000)
    (hB : (sideC ops R a o && noSel o && (o.looksAt ops).all (fun t => t == s || (relAt R t).isNone) && (o.looksAt ops).contains s && decide (s < a.tmps.size)) = true)
    (hr : wpS P ops w0 Q rest (mix a ((d, RowOf e w0.heap.size us) :: R))) : wpS P ops w0 Q (o :: rest) (mix a R) := by
  have hsz0 : s < a.tmps.size := by
    simp only [Bool.and_eq_true, decide_eq_true_eq] at hB; exact hB.2
  refine B_makeR _ (stays_rowOf e w0.heap.size us) hd hs hB (fun x2 u hu => ?_) hr
  obtain ⟨b, rfl, hb1, hb2⟩ := hu
  refine run_append_zeroL ho E hby0 b (by simp [Act.eval, Act.put, hsz0]) w0.heap.size hb1 hb2 (by simp) ao n cap us (hx _) hl hnil (fun ad had j u hj => ?_) hone hsz
  have hne : us ≠ [] := by intro h0; rw [h0] at hj; simp at hj
  rw [← hc ad had j u hj]
  have hlt := hold ad had hne
  have hb : (ad.add j).block = ad.block := by unfold Addr.add; split <;> rfl
  exact World.cell?_of_block (a := ad.add j) (heap_plus _ _ _ _ (by rw [hb]; exact hlt))
/-- An operation that reads one slot that is known by a property, and makes nothing. -/
theorem B_readR {d s : Tmp} {Ψs : Pred} (hd : o.dst = some d) (hs : relAt R s = some Ψs) (F : Value → Value) (Ψ : Pred) (hΨ : Stays Ψ) (hF : ∀ u W, Ψs u W → Ψ (F u) W)
    (hB : (sideC ops R a o && noSel o && (o.looksAt ops).all (fun t => t == s || (relAt R t).isNone) && (o.looksAt ops).contains s && decide (s < a.tmps.size)) = true)
    (h : ∀ (u : Value) (W : World), Ψs u W → (execOp (a.put (some s) u).eval o).run P W = .ok (.value (F u)) W)
    (hr : wpS P ops w0 Q rest (mix a ((d, Ψ) :: R))) : wpS P ops w0 Q (o :: rest) (mix a R) :=
  B_makeR _ hΨ hd hs hB (fun x u hu => ⟨F u, _, h u _ hu, Ext.refl _, hF u _ hu⟩) hr
end

end Go.Proofs.Ytgjodjkmefdilaa
