/- append onto a row beside blocks of the call's own; lists of numbers in memory of the call's own. Over any program. -/
import Derived.Test.YtghaiplhakeahaaMsg
import Derived.Test.YtghaiplhakeahaaTl
namespace Go.Proofs.Ytghaiplhakeahaa
set_option linter.unusedSimpArgs false
set_option linter.unusedVariables false
open Go.RowKit

section
variable {P : Program} {w w0 : World} {ops : Array Oper} {rest : List Oper} {o : Oper} {a : Act} {Q : Exit → Act → World → Prop} {B C : List Blk}
theorem Ow.appendNew {e : TypeId} {sz bytes n : Nat} {v : Value} {xs : List Value} (O : Ow w w0 (B ++ C)) (hgd : o.guard = none) (s x : Operand) (t : TypeId) (ho : o.op = .call { callee := .builtin .append, args := #[s, x], argTypes := #[t, t] })
    (E : Elt P t e sz bytes) (hs : a.eval s = v) (hR : Row e sz v n xs B) (cs : Array Value) (e' : TypeId)
    (k m c : Nat) (hx : a.eval x = .slice (some ⟨k, 0, none⟩) m c) (hk : k = w.heap.size) (hl : cs.size = m * sz) (h1 : ∀ u ∈ cs.toList, u.oneCell' = true)
    (h63 : n + m ≤ maxLen) (hbytes : (n + m) * bytes ≤ 140737488355328)
    (N : Nat) (hN : n + m = N) (ys : List Value) (hys : xs ++ cs.toList = ys)
    (h' : ∀ ao' cap' B' w', Row e sz (.slice ao' N cap') N ys B' → Ow w' w0 (B' ++ C) → wpList P ops Q rest (a.put o.dst (.slice ao' N cap')) w') :
    wpList P ops Q (o :: rest) a (w.alloc (.cells cs e')) :=
  wpList_append_new hgd s x t ho E O.mem (fun y hy => O.new y (by simp [hy])) v n xs hs hR cs e' k m c hx hk hl h1 h63 hbytes N hN ys hys fun ao' cap' B' w' R' M' hB' => h' ao' cap' B' w' R' (Ow.mk M' (New.app hB' fun y hy => O.new y (List.mem_append_right _ hy)))
theorem Ow.appendRow {e : TypeId} {sz bytes n : Nat} {v : Value} {xs : List Value} (O : Ow w w0 (B ++ C)) (hgd : o.guard = none) (s x : Operand) (t : TypeId) (ho : o.op = .call { callee := .builtin .append, args := #[s, x], argTypes := #[t, t] })
    (E : Elt P t e sz bytes) (hs : a.eval s = v) (hR : Row e sz v n xs B)
    (ao : Option Addr) (m c : Nat) (news : List Value) (hx : a.eval x = .slice ao m c) (hl : news.length = m * sz) (hnone : ao = none → m = 0 ∧ c = 0)
    (hc : ∀ ad, ao = some ad → ∀ j u, news[j]? = some u → w.cell? (ad.add j) = some u) (h1 : ∀ u ∈ news, u.oneCell' = true)
    (h63 : n + m ≤ maxLen) (hbytes : (n + m) * bytes ≤ 140737488355328)
    (N : Nat) (hN : n + m = N) (ys : List Value) (hys : xs ++ news = ys)
    (h' : ∀ ao' cap' B' w', Row e sz (.slice ao' N cap') N ys B' → Ow w' w0 (B' ++ C) → wpList P ops Q rest (a.put o.dst (.slice ao' N cap')) w') :
    wpList P ops Q (o :: rest) a w :=
  wpList_append_row hgd s x t ho E O.mem (fun y hy => O.new y (by simp [hy])) v n xs hs hR ao m c news hx hl hnone hc h1 h63 hbytes N hN ys hys fun ao' cap' B' w' R' M' hB' => h' ao' cap' B' w' R' (Ow.mk M' (New.app hB' fun y hy => O.new y (List.mem_append_right _ hy)))

theorem Ow.drew {X : List Blk} (h : Ow w w0 X) : Ow w.drew w0 X := h.of_below (Below.refl _ _).drew
theorem Mem.thereAt {L : List Blk} {b : Nat} {t : TypeId} {cs : Array Value} (M : Mem w w0 L) (hx : ⟨b, t, cs⟩ ∈ L) (off n : Nat) (hn : off + n ≤ cs.size) : w.there b off n := fun j hj => by
  rw [M.cell hx, M.frozen hx]
  simp; omega
/-- A store of a whole value into a block of the call's own, from a cell on. -/
theorem Ow.storeAt {K : Act → World → Prop} {L : List Blk} {b : Nat} {t : TypeId} {cs : Array Value} (O : Ow w w0 (⟨b, t, cs⟩ :: L)) (ty : TypeId) (x y : Operand) (ho : o.op = .store ty x y) (off : Nat)
    (hx : a.eval x = .pointer (some ⟨b, off, none⟩)) (vs : Array Value) (hy : a.eval y = .agg vs) (hi : (P.info? ty).map (·.size) = some vs.size) (hs : off + vs.size ≤ cs.size) (h1 : ∀ v ∈ vs.toList, v.oneCell' = true)
    (h : ∀ w', Ow w' w0 (⟨b, t, writeAt cs off vs.toList⟩ :: L) → K (a.put o.dst undef) w') : o.wp P a w K Q :=
  wp_store_mid ty x y ho b off vs hx hy (O.mem.thereAt (List.mem_cons_self ..) off _ hs) hi (by have := all_oneCell_toArray h1; simpa using this) (h _ ⟨Mem.cells (B := []) vs.toList off O.mem, New.cons (O.new ⟨b, t, cs⟩ (List.mem_cons_self ..)) fun x hx => O.new x (List.mem_cons_of_mem _ hx)⟩)
theorem Ow.storeAtL {L : List Blk} {b : Nat} {t : TypeId} {cs : Array Value} (O : Ow w w0 (⟨b, t, cs⟩ :: L)) (hgd : o.guard = none) (ty : TypeId) (x y : Operand) (ho : o.op = .store ty x y) (off : Nat)
    (hx : a.eval x = .pointer (some ⟨b, off, none⟩)) (vs : Array Value) (hy : a.eval y = .agg vs) (hi : (P.info? ty).map (·.size) = some vs.size) (hs : off + vs.size ≤ cs.size) (h1 : ∀ v ∈ vs.toList, v.oneCell' = true)
    (h : ∀ w', Ow w' w0 (⟨b, t, writeAt cs off vs.toList⟩ :: L) → wpList P ops Q rest (a.put o.dst undef) w') : wpList P ops Q (o :: rest) a w :=
  wpList_plain hgd fun _ hK => O.storeAt ty x y ho off hx vs hy hi hs h1 fun w' O' => hK _ _ (h w' O')
/-- .. of a whole block. -/
theorem Ow.storeL {L : List Blk} {b : Nat} {t : TypeId} {cs : Array Value} (O : Ow w w0 (⟨b, t, cs⟩ :: L)) (hgd : o.guard = none) (ty : TypeId) (x y : Operand) (ho : o.op = .store ty x y)
    (hx : a.eval x = .pointer (some ⟨b, 0, none⟩)) (vs : Array Value) (hy : a.eval y = .agg vs) (hi : (P.info? ty).map (·.size) = some vs.size) (hs : vs.size = cs.size) (h1 : ∀ v ∈ vs.toList, v.oneCell' = true)
    (h : ∀ w', Ow w' w0 (⟨b, t, vs⟩ :: L) → wpList P ops Q rest (a.put o.dst undef) w') : wpList P ops Q (o :: rest) a w :=
  O.storeAtL hgd ty x y ho 0 hx vs hy hi (by omega) h1 fun w' O' => h w' (by rw [writeAt_all _ _ (by simpa using hs)] at O'; simpa using O')
end

/-- A row with something in it. -/
theorem Row.openP {e : TypeId} {sz n : Nat} {v : Value} {xs : List Value} {B L : List Blk} {w w0 : World} (h : Row e sz v n xs B) (M : Mem w w0 (B ++ L)) (hn : 0 < n) : ∃ r cap, v = .slice (some ⟨r, 0, none⟩) n cap ∧ n ≤ cap ∧ r < w.heap.size ∧ ∀ j u, xs[j]? = some u → w.cell? ⟨r, j, none⟩ = some u := by
  have hc := h.cells M
  cases h with
  | void => omega
  | one r n cap cur h1 h2 h3 =>
    refine ⟨r, cap, rfl, h1, M.lt (x := ⟨r, e, cur⟩) (by simp), fun j u hj => ?_⟩
    have := hc _ _ rfl _ rfl j u hj
    rw [Addr.add_mid] at this
    simpa using this
/-- A walk stands still. -/
def Stop (p : Prop) : Prop := p
theorem Stop.go {p : Prop} (h : Stop p) : p := h
/-- A row in memory of the call's own. -/
def Own (e : TypeId) (sz : Nat) (base n : Nat) (xs : List Value) : Pred := fun u W => ∃ ao cap B, u = .slice ao n cap ∧ Row e sz (.slice ao n cap) n xs B ∧ ∀ x ∈ B, base ≤ x.no ∧ HasBlk W x.no x.ty x.cs
theorem stays_own (e : TypeId) (sz base n : Nat) (xs : List Value) : Stays (Own e sz base n xs) := fun v w w' ⟨x, hx⟩ ⟨ao, cap, B, h1, h2, h3⟩ =>
  ⟨ao, cap, B, h1, h2, fun y hy => ⟨(h3 y hy).1, by rw [hx]; exact (h3 y hy).2.plus _ _⟩⟩
theorem Own.mk {e : TypeId} {sz n : Nat} {xs : List Value} {u : Value} {B : List Blk} {w w0 : World} (R : Row e sz u n xs B) (O : Ow w w0 B) : Own e sz w0.heap.size n xs u w := by
  obtain ⟨ao, cap, rfl⟩ := R.slice
  exact ⟨ao, cap, B, rfl, R, fun x hx => ⟨O.new x hx, O.mem.has x hx⟩⟩
theorem Own.base {e : TypeId} {sz base base' n : Nat} {xs : List Value} {u : Value} {W : World} (h : Own e sz base n xs u W) (hb : base' ≤ base) : Own e sz base' n xs u W := by
  obtain ⟨ao, cap, B, rfl, R, hB⟩ := h
  exact ⟨ao, cap, B, rfl, R, fun y hy => ⟨Nat.le_trans hb (hB y hy).1, (hB y hy).2⟩⟩
theorem Own.slice {e : TypeId} {sz base n : Nat} {xs : List Value} {u : Value} {W : World} (h : Own e sz base n xs u W) : ∃ ao cap, u = .slice ao n cap := by
  obtain ⟨ao, cap, B, rfl, -, -⟩ := h
  exact ⟨ao, cap, rfl⟩
theorem Own.found {w w0 W : World} {L : List Blk} {e : TypeId} {sz n : Nat} {xs : List Value} {u : Value} (h : Own e sz W.heap.size n xs u w) (M : Ow W w0 L) (hx : Ext W w) : ∃ B, Ow w w0 (B ++ L) ∧ Row e sz u n xs B := by
  obtain ⟨ao, cap, B, rfl, h1, h2⟩ := h
  exact ⟨B, M.found hx h1.apart h2, h1⟩
/-- Its cells, one for each element. -/
theorem Own.vsl {e : TypeId} {base n : Nat} {xs : List Value} {u : Value} {W : World} (h : Own e 1 base n xs u W) : ∃ ao cap, u = .slice ao n cap ∧ n ≤ cap ∧ (ao = none → n = 0) ∧ (0 < n → ∃ r, ao = some ⟨r, 0, none⟩ ∧ r < W.heap.size ∧ ∀ j v, xs[j]? = some v → W.cell? ⟨r, j, none⟩ = some v) := by
  obtain ⟨ao, cap, B, rfl, R, hB⟩ := h
  cases R with
  | void => exact ⟨none, 0, rfl, Nat.le_refl _, fun _ => rfl, fun h => by omega⟩
  | one r n cap cur h1 h2 h3 =>
    have hb := (hB _ (List.mem_singleton.2 rfl)).2
    refine ⟨_, cap, rfl, h1, fun h => (by cases h), fun _ => ⟨r, rfl, hb.lt, fun j v hj => ?_⟩⟩
    rw [hb.cell]
    rw [List.getElem?_take] at hj
    split at hj
    · simpa using hj
    · cases hj
def ics (l : List Int) : List Value := l.map (.int .i64)
theorem ics_len (l : List Int) : (ics l).length = l.length := by simp [ics]
theorem ics_app (l r : List Int) : ics (l ++ r) = ics l ++ ics r := by simp [ics]

section
variable {P : Program} {ops : Array Oper} {w0 : World} {Q : Slots → Prop} {a : Act} {R : List (Tmp × Pred)} {o : Oper} {rest : List Oper}
theorem B_exactR (c : Value) {d : Tmp} (hd : o.dst = some d) {s : Tmp} {Ψs : Pred} (hs : relAt R s = some Ψs) (hB : (sideC ops R a o && noSel o && (o.looksAt ops).all (fun t => t == s || (relAt R t).isNone) && (o.looksAt ops).contains s && decide (s < a.tmps.size)) = true)
    (hdn : ((relAt R d).isNone && decide (d < a.tmps.size)) = true)
    (h : ∀ (u : Value) (W : World), Ψs u W → (execOp (a.put (some s) u).eval o).run P W = .ok (.value c) W)
    (hr : wpS P ops w0 Q rest (mix (a.put o.dst c) R)) : wpS P ops w0 Q (o :: rest) (mix a R) := by
  simp only [Bool.and_eq_true, Option.isNone_iff_eq_none, decide_eq_true_eq] at hdn
  refine B_makeR (fun v _ => v = c) (fun v w w' _ hv => hv) hd hs hB (fun x u hu => ⟨c, _, h u _ hu, Ext.refl _, rfl⟩) ?_
  rw [← mix_put_rel, mix_put_ex a R d c hdn.1 hdn.2, ← hd]
  exact hr
theorem B_lenR (n : Nat) {d s : Tmp} {t e ty : TypeId} {Ψs : Pred} (ho : o.op = .call { callee := .builtin .len, args := #[.tmp s], argTypes := #[t] }) (ht : P.underlying t = some (.slice e)) (hd : o.dst = some d) (hs : relAt R s = some Ψs)
    (hΨ : ∀ u W, Ψs u W → ∃ ao cap, u = .slice ao n cap)
    (hB : (sideC ops R a o && noSel o && (o.looksAt ops).all (fun t => t == s || (relAt R t).isNone) && (o.looksAt ops).contains s && decide (s < a.tmps.size)) = true)
    (hdn : ((relAt R d).isNone && decide (d < a.tmps.size)) = true)
    (hr : wpS P ops w0 Q rest (mix (a.put o.dst (.int .i64 n)) R)) : wpS P ops w0 Q (o :: rest) (mix a R) := by
  have hsz : s < a.tmps.size := by
    simp only [Bool.and_eq_true, decide_eq_true_eq] at hB; exact hB.2
  refine B_exactR _ hd hs hB hdn (fun u W hu => ?_) hr
  obtain ⟨ao, cap, rfl⟩ := hΨ u W hu
  have he : (a.put (some s) (.slice ao n cap)).eval (.tmp s) = .slice ao n cap := by simp [Act.eval, Act.put, hsz]
  simp [execOp, ho, resolve, invoke, builtin, he, Builtin.len_, run_underlying ht, goInt]
end

end Go.Proofs.Ytghaiplhakeahaa
