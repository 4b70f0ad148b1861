/- The last operations of a region that draws its order, one behind the other. Plain; over any program. -/
import Derived.Test.YtghaiplhakeahaaMem
import Derived.Test.YtghaiplhakeahaaRc
import Derived.Deep.Upon
namespace Go.Proofs.Ytghaiplhakeahaa
set_option linter.unusedSimpArgs false
set_option linter.unusedVariables false
open Go.RowKit

section
variable {P : Program} {ops : Array Oper} {md : Region.Mode}
theorem step_one {Q : Exit → Act → World → Prop} {a : Act} {w : World} {LF : Array Bool} {k n : Nat} {o : Oper} (h1 : Region.ready md ops LF = [k]) (ho : ops[k]? = some o) (hg : o.guard = none)
    (h : ∀ K : Act → World → Prop, (∀ a w, wpAny P md ops Q n (LF.setIfInBounds k true) a w → K a w) → o.wp P a w K Q) : wpAny P md ops Q (n + 1) LF a w := by
  refine ⟨fun h0 => (by rw [h1] at h0; cases h0), fun i hi => ?_⟩
  rw [h1] at hi
  simp at hi
  subst hi
  unfold wpOp
  simp only [ho]
  rw [if_pos (by simp [Region.wanted, hg])]
  exact .inl (h _ fun a w hq => hq)
end

/-- A whole array is stored into a block of the call's own. -/
theorem wp_store_blk {P : Program} {w w0 : World} {o : Oper} {a : Act} {Q : Exit → Act → World → Prop} {K : Act → World → Prop} (ty : TypeId) (x y : Operand) (ho : o.op = .store ty x y) {B L : List Blk} {b : Nat} {t : TypeId} {cs : Array Value} (M : Mem w w0 (B ++ ⟨b, t, cs⟩ :: L))
    (hx : a.eval x = .pointer (some ⟨b, 0, none⟩)) (vs : Array Value) (hy : a.eval y = .agg vs) (hi : (P.info? ty).map (·.size) = some cs.size) (hs : vs.size = cs.size) (h1 : ∀ v ∈ vs.toList, v.oneCell' = true)
    (h : ∀ w', Mem w' w0 (B ++ ⟨b, t, vs⟩ :: L) → K (a.put o.dst undef) w') : o.wp P a w K Q :=
  wp_store_mid ty x y ho b 0 vs hx hy (by rw [hs]; exact M.there (t := t) (by simp)) (by rw [hs]; exact hi) (by have := all_oneCell_toArray h1; simpa using this) (h _ (M.fill vs hs))

/-- append of elements that stand in the text, as an operation. -/
theorem wp_append_new {P : Program} {w w0 : World} {o : Oper} {a : Act} {Q : Exit → Act → World → Prop} {K : Act → World → Prop} (s x : Operand) (t : TypeId) (ho : o.op = .call { callee := .builtin .append, args := #[s, x], argTypes := #[t, t] })
    {e : TypeId} {sz bytes : Nat} (E : Elt P t e sz bytes) {B L : List Blk} (M : Mem w w0 (B ++ L)) (hB : New w0 B)
    (v : Value) (n : Nat) (xs : List Value) (hs : a.eval s = v) (hR : Row e sz v n xs B) (cs : Array Value) (e' : TypeId)
    (k m c : Nat) (hx : a.eval x = .slice (some ⟨k, 0, none⟩) m c) (hk : k = w.heap.size) (hl : cs.size = m * sz) (h1 : ∀ u ∈ cs.toList, u.oneCell' = true)
    (h63 : n + m ≤ maxLen) (hbytes : (n + m) * bytes ≤ 140737488355328)
    (N : Nat) (hN : n + m = N) (ys : List Value) (hys : xs ++ cs.toList = ys)
    (h : ∀ ao' cap' B' w', Row e sz (.slice ao' N cap') N ys B' → Mem w' w0 (B' ++ L) → New w0 B' → K (a.put o.dst (.slice ao' N cap')) w') :
    o.wp P a (w.alloc (.cells cs e')) K Q := by
  refine wp_append_row s x t ho E (M.alloc _) hB v n xs hs hR (some ⟨k, 0, none⟩) m c cs.toList hx (by simpa using hl) (by simp) ?_ h1 h63 hbytes N hN ys hys h
  intro ad had j u hj
  cases had
  have hadd : (⟨k, 0, none⟩ : Addr).add j = ⟨k, j, none⟩ := by unfold Addr.add; split <;> simp_all
  rw [hadd, hk, World.cell?_alloc_at _ _ _ _ rfl]
  simpa using hj

theorem B_nilck {P : Program} {ops : Array Oper} {w0 : World} {Q : Slots → Prop} {a : Act} {R : List (Tmp × Pred)} {o : Oper} {rest : List Oper} {x : Operand} {ad : Addr} (ho : o.op = .nilCheck x) (hx : a.eval x = .pointer (some ad)) (hB : (sideB true ops R a o && noSel o) = true)
    (hr : wpS P ops w0 Q rest (mix (a.put o.dst (.pointer (some ad))) R)) : wpS P ops w0 Q (o :: rest) (mix a R) := by
  simp only [Bool.and_eq_true] at hB
  obtain ⟨d, hd, h1, h2, h3, h4⟩ := sideB_out hB.1
  refine S_ex (v := .pointer (some ad)) (fun d' e => by rw [hd] at e; cases e; exact ⟨h1, h2⟩) (fun a' w hx' hs => .inl ⟨?_, ?_⟩) hr
  · rw [wanted_same (same_of_sees h3 hs)]; exact h4
  · rw [exec_same hB.2 (same_of_sees h3 hs)]
    simp only [execOp, ho, hx]
    exact ⟨Ext.refl _, rfl⟩

/-- A slice of n elements in a block that was just made, behind the first B blocks. -/
def NewSl (B : Nat) (e : TypeId) (n : Nat) (cs : Array Value) : Pred := fun v w => ∃ b, v = .slice (some ⟨b, 0, none⟩) n n ∧ B ≤ b ∧ w.heap[b]? = some (.cells cs e (0, 0))
theorem stays_newSl (B : Nat) (e : TypeId) (n : Nat) (cs : Array Value) : Stays (NewSl B e n cs) := fun v w w' ⟨x, hx⟩ ⟨b, h1, h2, h3⟩ => by
  refine ⟨b, h1, h2, ?_⟩
  rw [hx, heap_plus _ _ _ _ (Array.getElem?_eq_some_iff.1 h3).1]
  exact h3

theorem foldl_writeAt (o : Nat) : ∀ (l : List Value) (k : Nat) (cs : Array Value), (l.zipIdx k).foldl (fun (cs : Array Value) (p : Value × Nat) => cs.setIfInBounds (o + p.2) p.1) cs = writeAt cs (o + k) l
  | [], _, _ => rfl
  | v :: r, k, cs => by
    rw [List.zipIdx_cons, List.foldl_cons, foldl_writeAt o r (k + 1), writeAt, Nat.add_assoc]
theorem fill_one (sz : Nat) (zero : Array Value) (v : Value) (hv : v.cells.size = sz) : Instr.fill (fun i => some (i * sz, sz)) ((Array.range (1 * sz)).map (fun i => zero[i % zero.size]!)) [(0, v)] = some v.cells := by
  have h := foldl_writeAt (0 * sz) v.cells.toList 0 ((Array.range (1 * sz)).map (fun i => zero[i % zero.size]!))
  rw [show 0 * sz + 0 = 0 by omega, writeAt_all _ _ (by simp [hv])] at h
  simp only [Instr.fill]
  rw [if_neg (by simp [hv])]
  congr 1
  rw [← Array.foldl_toList, Array.toList_zipIdx]
  simpa using h

theorem run_buildSlice_one {P : Program} {o : Oper} {ρ : Operand → Value} {t e : TypeId} {sz bytes : Nat} {x : Operand} (E : Elt P t e sz bytes) (ho : o.op = .buildSlice t 1 #[(0, x)]) (v : Value) (hx : ρ x = v) (hv : v.cells.size = sz) (hsz : sz ≤ 1000) (W : World) :
    (execOp ρ o).run P W = .ok (.value (.slice (some ⟨W.heap.size, 0, none⟩) 1 1)) (W.alloc (.cells v.cells e)) := by
  obtain ⟨i, z, ht, hi, hz, hs, hby, hzs, hpos⟩ := E
  have hu := run_underlying ht W
  have h1 : (sizeOf e).run P W = .ok sz W := by simp [sizeOf, typeInfo, hi, hs]
  have h2 : (zeroValue e).run P W = .ok z W := by simp [zeroValue, typeInfo, hi, hz]
  have hlt : ¬ 1 * sz > 2 ^ 24 := by omega
  have h0 : ¬ 1 * sz = 0 := by omega
  simp only [execOp, ho, Instr.buildSlice, Sem.run_bind, hu, Result.andThen, h1, h2, hlt, h0, if_false, Sem.run_pure]
  have hf := fill_one sz z.cells v hv
  simp only [List.map_toArray, List.map_cons, List.map_nil, hx, hf]
  rfl

theorem B_newsl {P : Program} {ops : Array Oper} {w0 : World} {Q : Slots → Prop} {a : Act} {R : List (Tmp × Pred)} {o : Oper} {rest : List Oper} {d : Tmp} {t e : TypeId} {sz bytes : Nat} {x : Operand} (E : Elt P t e sz bytes) (hd : o.dst = some d) (ho : o.op = .buildSlice t 1 #[(0, x)])
    (v : Value) (hx : a.eval x = v) (cs : Array Value) (hc : v.cells = cs) (hv : cs.size = sz) (hsz : sz ≤ 1000) (hB : (sideB true ops R a o && noSel o) = true)
    (hr : wpS P ops w0 Q rest (mix a ((d, NewSl w0.heap.size e 1 cs) :: R))) : wpS P ops w0 Q (o :: rest) (mix a R) := by
  subst hc
  exact B_make _ (stays_newSl _ _ _ _) hd hB (fun x => ⟨_, _, run_buildSlice_one E ho v hx hv hsz _, Ext.of_below (balloc (Below.refl _ _) _), _, rfl, by simp, heap_alloc_new _ _⟩) hr
theorem blk_news {w : World} {b : Nat} {cs : Array Value} {t : TypeId} (hb : w.heap[b]? = some (.cells cs t (0, 0))) : ∀ ad, some (⟨b, 0, none⟩ : Addr) = some ad → ∀ j u, cs.toList[j]? = some u → w.cell? (ad.add j) = some u := by
  intro ad had j u hj
  cases had
  have hadd : (⟨b, 0, none⟩ : Addr).add j = ⟨b, j, none⟩ := by unfold Addr.add; split <;> simp_all
  rw [hadd]
  simp only [World.cell?, hb]
  simpa using hj

section
variable {P : Program} {ops : Array Oper} {w0 : World} {Q : Slots → Prop} {a : Act} {R : List (Tmp × Pred)} {o : Oper} {rest : List Oper}
/-- An operation that makes memory and reads one slot that is known by a property; its result by a property. -/
theorem B_makeR (Ψ : Pred) (hΨ' : Stays Ψ) {d : Tmp} (hd : o.dst = some d) {s : Tmp} {Ψs : Pred} (hs : relAt R s = some Ψs) (hB : (sideC ops R a o && noSel o && (o.looksAt ops).all (fun t => t == s || (relAt R t).isNone) && (o.looksAt ops).contains s && decide (s < a.tmps.size)) = true)
    (h : ∀ (x : Gd) (u : Value), Ψs u (plus w0 x.g x.d) → ∃ v w', (execOp (a.put (some s) u).eval o).run P (plus w0 x.g x.d) = .ok (.value v) w' ∧ Ext (plus w0 x.g x.d) w' ∧ Ψ v w')
    (hr : wpS P ops w0 Q rest (mix a ((d, Ψ) :: R))) : wpS P ops w0 Q (o :: rest) (mix a R) := by
  simp only [Bool.and_eq_true] at hB
  obtain ⟨⟨⟨⟨hB, hn⟩, hl⟩, hsl⟩, hz⟩ := hB
  have hz : s < a.tmps.size := of_decide_eq_true hz
  have hsl : s ∈ o.looksAt ops := by simpa using hsl
  obtain ⟨_, _, h1, h2, h3, h4⟩ := sideC_out hB
  refine ⟨Ψ, hΨ', ?_, by rw [hd, mix_put_rel]; exact hr⟩
  rintro a' w ⟨x, rfl⟩ hlk
  have same : ∀ t ∈ o.looksAt ops, a'.tmps.getD t undef = (a.put (some s) (a'.tmps.getD s undef)).tmps.getD t undef := fun t ht => by
    have h5 := List.all_eq_true.1 hl t ht
    simp only [Bool.or_eq_true, beq_iff_eq, Option.isNone_iff_eq_none] at h5
    by_cases hts : s = t
    · subst hts; simp [Act.put, hz]
    · have h6 : relAt R t = none := h5.resolve_left fun e => hts e.symm
      have h7 := hlk t ht
      simp only [mix, h6] at h7
      rw [h7]
      simp [Act.put, Array.getElem?_setIfInBounds_ne hts]
  have hgs : ∀ t ∈ (match o.guard with | some (g, _) => ((ops[g]?).bind (·.dst)).toList | none => []), a'.tmps.getD t undef = a.tmps.getD t undef := fun t ht => by
    have hlt : t ∈ o.looksAt ops := List.mem_append_right _ ht
    have h7 := hlk t hlt
    have h8 : relAt R t = none := by
      cases hg : o.guard with
      | none => rw [hg] at ht; simp at ht
      | some gw =>
        rw [hg] at ht h4
        simp only at ht h4
        cases ho : (ops[gw.1]?).bind (·.dst) with
        | none => rw [ho] at ht; simp at ht
        | some t' => rw [ho] at ht h4; simp at ht; subst ht; exact h4
    simp only [mix, h8] at h7
    exact h7
  have hΨ := hlk s hsl
  simp only [mix, hs] at hΨ
  refine .inl ⟨?_, ?_⟩
  · rw [← h3]
    unfold Region.wanted
    cases hg : o.guard with
    | none => rfl
    | some gw =>
      obtain ⟨g, want⟩ := gw
      have hy : yielded ops a'.tmps g = yielded ops a.tmps g := by
        unfold yielded
        cases ht : (ops[g]?).bind (·.dst) with
        | none => rfl
        | some t =>
          have := hgs t (by simp [hg, ht])
          simp only [Array.getD_eq_getD_getElem?] at this
          simp only [Option.bind_some]
          cases h1 : a'.tmps[t]? <;> cases h2 : a.tmps[t]? <;> rw [h1, h2] at this <;> simp [undef] at this ⊢
          · rw [← this]
          · rw [this]
          · rw [this]
      simp only [hy]
  · rw [exec_same hn same]
    obtain ⟨v, w', e, hx, hu⟩ := h x _ hΨ
    rw [e]
    exact ⟨hx, hu⟩

theorem run_buildSlice_zero {ρ : Operand → Value} {t e : TypeId} {sz bytes : Nat} (E : Elt P t e sz bytes) (ho : o.op = .buildSlice t 0 #[]) (W : World) :
    (execOp ρ o).run P W = .ok (.value (.slice (some ⟨W.heap.size, 0, none⟩) 0 0)) (W.alloc (.cells #[] e)) := by
  obtain ⟨i, z, ht, hi, hz, hs, hby, hzs, hpos⟩ := E
  have hu := run_underlying ht W
  have h1 : (sizeOf e).run P W = .ok sz W := by simp [sizeOf, typeInfo, hi, hs]
  have h2 : (zeroValue e).run P W = .ok z W := by simp [zeroValue, typeInfo, hi, hz]
  simp [execOp, ho, Instr.buildSlice, Sem.run_bind, hu, Result.andThen, h1, h2, Instr.fill]
  rw [show Array.range 0 = #[] from rfl, show ∀ f : Nat → Value, Array.map f #[] = #[] from fun f => by simp]
  rfl
def NewSl0 (B : Nat) (e : TypeId) : Pred := fun v w => ∃ b, v = .slice (some ⟨b, 0, none⟩) 0 0 ∧ B ≤ b ∧ HasBlk w b e #[]
theorem stays_newSl0 (B : Nat) (e : TypeId) : Stays (NewSl0 B e) := fun v w w' ⟨x, hx⟩ ⟨b, h1, h2, h3⟩ => ⟨b, h1, h2, by rw [hx]; exact h3.plus _ _⟩
theorem B_newsl0 {d : Tmp} {t e : TypeId} {sz bytes : Nat} (E : Elt P t e sz bytes) (hd : o.dst = some d) (ho : o.op = .buildSlice t 0 #[]) (hB : (sideB true ops R a o && noSel o) = true)
    (hr : wpS P ops w0 Q rest (mix a ((d, NewSl0 w0.heap.size e) :: R))) : wpS P ops w0 Q (o :: rest) (mix a R) :=
  B_make _ (stays_newSl0 _ _) hd hB (fun x => ⟨_, _, run_buildSlice_zero E ho _, Ext.of_below (balloc (Below.refl _ _) _), _, rfl, by simp, HasBlk.new _ _ _ _ rfl⟩) hr

/-- A row of bytes, in a block of the call's own. -/
def Clo (e : TypeId) (base : Nat) (l : List UInt8) : Pred := fun u W => ∃ ao cap B, u = .slice ao l.length cap ∧ Row e 1 (.slice ao l.length cap) l.length (bcs l) B ∧ ∀ x ∈ B, base ≤ x.no ∧ HasBlk W x.no x.ty x.cs
theorem stays_clo (e : TypeId) (base : Nat) (l : List UInt8) : Stays (Clo e base l) := fun v w w' ⟨x, hx⟩ ⟨ao, cap, B, h1, h2, h3⟩ =>
  ⟨ao, cap, B, h1, h2, fun y hy => ⟨(h3 y hy).1, by rw [hx]; exact (h3 y hy).2.plus _ _⟩⟩

theorem run_append_zero {w : World} {s x : Operand} {t : TypeId} {ρ : Operand → Value} (ho : o.op = .call { callee := .builtin .append, args := #[s, x], argTypes := #[t, t] })
    {e : TypeId} (E : Elt P t e 1 1) (r : Nat) (hs : ρ s = .slice (some ⟨r, 0, none⟩) 0 0) (base : Nat) (hbase : base ≤ w.heap.size)
    (u : Value) (l : List UInt8) (hx : ρ x = u) (hu : BSl w u l) (h0 : 0 < l.length) (hsz : l.length ≤ 1000000000) :
    ∃ v w', (execOp ρ o).run P w = .ok (.value v) w' ∧ Ext w w' ∧ Clo e base l v w' := by
  obtain ⟨i, z, ht, hi, hz, hs1, hby, hzs, hpos⟩ := E
  obtain ⟨ao, cap, rfl, h1, h2, h3⟩ := hu.open_
  have hc := hu.cells.2.2
  obtain ⟨ad, rfl⟩ : ∃ ad, ao = some ad := by
    cases ao with
    | none => have := (h2 rfl).1; omega
    | some ad => exact ⟨ad, rfl⟩
  have hold : (Builtin.firstCells i.size 0 (.slice (some ⟨r, 0, none⟩) 0 0)).run P w.drew = .ok ([] : List Value).toArray w.drew := run_firstCells_some w.drew i.size 0 ⟨r, 0, none⟩ 0 0 [] (by simp) (by simp)
  have hsrc : Src P i.size t (.slice (some ad) l.length cap) l.length (bcs l) w := Src.ofSlice w ht ad l.length cap (bcs l) (by rw [hs1, bcs_len]; simp) (hc ad rfl) (bcs_one l)
  have hrun := run_append_grow_src (P := P) w t t o.type e i z ht hi hz (some ⟨r, 0, none⟩) 0 0 [] hold (.slice (some ad) l.length cap) l.length (bcs l) hsrc (by omega) (by omega) (growslice_fits (by omega) (by rw [hby]; omega))
  have hge := grownCap_ge w (0 + l.length) 0 e
  have hle := grownCap_le_maxLen w (0 + l.length) 0 e (by unfold maxLen; omega)
  have hsize : (([] ++ bcs l).toArray ++ Builtin.zeroCells z.cells (grownCap w (0 + l.length) 0 e - (0 + l.length))).size = grownCap w (0 + l.length) 0 e * 1 := by
    rw [Array.size_append, List.size_toArray, size_zeroCells, hzs, List.nil_append, bcs_len]
    omega
  have htake : (([] ++ bcs l).toArray ++ Builtin.zeroCells z.cells (grownCap w (0 + l.length) 0 e - (0 + l.length))).toList.take (l.length * 1) = bcs l := by
    rw [Array.toList_append, List.nil_append, Nat.mul_one]
    have : ((bcs l).toArray).toList = bcs l := rfl
    rw [this, List.take_append_of_le_length (by rw [bcs_len]; exact Nat.le_refl _), List.take_of_length_le (by rw [bcs_len]; exact Nat.le_refl _)]
  rw [Nat.zero_add] at hrun hge hle hsize htake
  generalize (([] ++ bcs l).toArray ++ Builtin.zeroCells z.cells (grownCap w l.length 0 e - l.length)) = cur at hrun hsize htake
  generalize grownCap w l.length 0 e = gc at hrun hge hle hsize
  refine ⟨.slice (some ⟨w.heap.size, 0, none⟩) l.length gc, w.drew.alloc (.cells cur e), by simp [execOp, ho, resolve, invoke, builtin, hs, hx, hrun, Result.andThen], Ext.of_below (balloc ((Below.refl _ _).drew) _), some ⟨w.heap.size, 0, none⟩, gc, [⟨w.heap.size, e, cur⟩], rfl, ?_, fun y hy => ?_⟩
  · have := Row.one (e := e) (sz := 1) w.heap.size l.length gc cur (by omega) hle hsize
    rwa [htake] at this
  · obtain rfl := List.mem_singleton.1 hy
    exact ⟨hbase, HasBlk.new _ _ _ _ rfl⟩

/-- A slice of one element, that is known by a property, in a block that was just made. -/
def NewSlP (B : Nat) (e : TypeId) (Φ : Pred) : Pred := fun v w => ∃ b u, v = .slice (some ⟨b, 0, none⟩) 1 1 ∧ B ≤ b ∧ HasBlk w b e #[u] ∧ Φ u w
theorem stays_newSlP (B : Nat) (e : TypeId) {Φ : Pred} (h : Stays Φ) : Stays (NewSlP B e Φ) := fun v w w' ⟨x, hx⟩ ⟨b, u, h1, h2, h3, h4⟩ => ⟨b, u, h1, h2, by rw [hx]; exact h3.plus _ _, h u w w' ⟨x, hx⟩ h4⟩
theorem B_newslP {d s : Tmp} {t e : TypeId} {bytes : Nat} {Φ : Pred} (E : Elt P t e 1 bytes) (hd : o.dst = some d) (ho : o.op = .buildSlice t 1 #[(0, .tmp s)]) (hs : relAt R s = some Φ) (hΦ : Stays Φ) (h1 : ∀ u W, Φ u W → ∃ ao n c, u = .slice ao n c)
    (hB : (sideC ops R a o && noSel o && (o.looksAt ops).all (fun t => t == s || (relAt R t).isNone) && (o.looksAt ops).contains s && decide (s < a.tmps.size)) = true)
    (hr : wpS P ops w0 Q rest (mix a ((d, NewSlP w0.heap.size e Φ) :: R))) : wpS P ops w0 Q (o :: rest) (mix a R) := by
  have hsz : s < a.tmps.size := by
    simp only [Bool.and_eq_true, decide_eq_true_eq] at hB; exact hB.2
  refine B_makeR _ (stays_newSlP _ _ hΦ) hd hs hB (fun x u hu => ?_) hr
  obtain ⟨ao, n, c, rfl⟩ := h1 _ _ hu
  refine ⟨_, _, run_buildSlice_one E ho (.slice ao n c) (by simp [Act.eval, Act.put, hsz]) rfl (by omega) _, Ext.of_below (balloc (Below.refl _ _) _), _, _, rfl, by simp, HasBlk.new _ _ _ _ rfl, hΦ _ _ _ (Ext.of_below (balloc (Below.refl _ _) _)) hu⟩
theorem clo_slice (e : TypeId) (base : Nat) (l : List UInt8) : ∀ u W, Clo e base l u W → ∃ ao n c, u = .slice ao n c := fun u W ⟨ao, cap, _, h, _⟩ => ⟨ao, _, cap, h⟩
theorem Clo.base {e : TypeId} {base base' : Nat} {l : List UInt8} {u : Value} {W : World} (h : Clo e base l u W) (hb : base' ≤ base) : Clo e base' l u W := by
  obtain ⟨ao, cap, B, h1, h2, h3⟩ := h
  exact ⟨ao, cap, B, h1, h2, fun x hx => ⟨Nat.le_trans hb (h3 x hx).1, (h3 x hx).2⟩⟩
end

end Go.Proofs.Ytghaiplhakeahaa
