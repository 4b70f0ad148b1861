/- GuardKeeps: what its walk needs: towers that are made, rows beside a guard and towers. -/
import Derived.Test.YtghaiplhakeahaaWi
import Derived.Test.YtghaiplhakeahaaInv
namespace Go.Proofs.Ytghaiplhakeahaa
set_option linter.unusedSimpArgs false
set_option linter.unusedVariables false
open Go.RowKit Go.WideMaps Go.ChangeMaps Go.Maps

theorem updS (L : Nat → Bool) (i : Nat) : upd L i i = true := by simp [upd]
theorem updN (L : Nat → Bool) {i j : Nat} (h : j ≠ i) : upd L i j = L j := by simp [upd, h]
theorem elt_tptr : Elt Try.prog 111 40 1 8 := by
  have h : (Try.prog.info? 40).map (fun i => (i.zero, i.size, i.bytes)) = some (some (.pointer none), 1, 8) := by kernel_rfl
  exact elt_mk _ Try.underlying111 h rfl (by decide)
/-- The towers' pointers. -/
def pts (ts : List (Nat × TWS)) : List Value := ts.map fun t => tptr t.1
theorem pts_set (ts : List (Nat × TWS)) {i q : Nat} {T T' : TWS} (h : ts[i]? = some (q, T)) : pts (ts.set i (q, T')) = pts ts := by
  unfold pts
  rw [List.map_set]
  apply List.ext_getElem?
  intro j
  rw [List.getElem?_set]
  by_cases e : i = j
  · subst e
    have hl := (List.getElem?_eq_some_iff.1 h).1
    rw [if_pos rfl, if_pos (by simpa using hl), List.getElem?_map, h]
    rfl
  · rw [if_neg e]
theorem pts_get (ts : List (Nat × TWS)) {i : Nat} (hi : i < ts.length) : (pts ts)[i]? = some (tptr (ts.getD i dT).1) := by
  unfold pts
  rw [List.getElem?_map, List.getD_eq_getElem?_getD, List.getElem?_eq_getElem hi]
  rfl
theorem pts_len (ts : List (Nat × TWS)) : (pts ts).length = ts.length := by simp [pts]
section
variable {w w0 w' : World} {C C' X : List Blk} {p : Nat} {G : GS} {ts : List (Nat × TWS)}
theorem knew_to (h : KS w w0 C X p G ts) : Calls Try.prog 20 #[.int .i64 3] w fun e w' => ∃ q, e = .returned (.tuple #[tptr q, .int .i64 0]) ∧ KS w' w0 C X p G (ts ++ [(q, ⟨3, []⟩)]) := by
  obtain ⟨bv, B, K, O, h1, h2⟩ := h
  refine (tnew_to 3 (by omega) (by omega) w w0 _ K O).mono ?_
  rintro e w' ⟨q, b, k, rfl, O', hP⟩
  exact ⟨q, rfl, bv, B ++ b, K ++ [k], (O'.perm (perm_cnt fun x => by simp only [cnt_append, cnt_cons, cnt_nil] <;> omega)).permK (by simpa using (List.perm_append_comm (l₁ := [k]) (l₂ := K))), h1.snoc (hP X), h2⟩
theorem KS.appendNew {P : Program} {ops : Array Oper} {rest : List Oper} {o : Oper} {a : Act} {Q : Exit → Act → World → Prop} {B : List Blk} {e : TypeId} {sz bytes n : Nat} {v : Value} {xs : List Value} (h : KS w w0 (B ++ C) X p G ts) (hgd : o.guard = none) (s x : Operand) (t : TypeId) (ho : o.op = .call { callee := .builtin .append, args := #[s, x], argTypes := #[t, t] })
    (E : Elt P t e sz bytes) (hs : a.eval s = v) (hR : Row e sz v n xs B) (cs : Array Value) (e' : TypeId)
    (k m c : Nat) (hx : a.eval x = .slice (some ⟨k, 0, none⟩) m c) (hk : k = w.heap.size) (hl : cs.size = m * sz) (h1 : ∀ u ∈ cs.toList, u.oneCell' = true)
    (h63 : n + m ≤ maxLen) (hbytes : (n + m) * bytes ≤ 140737488355328)
    (N : Nat) (hN : n + m = N) (ys : List Value) (hys : xs ++ cs.toList = ys)
    (h' : ∀ ao' cap' B' w', Row e sz (.slice ao' N cap') N ys B' → KS w' w0 (B' ++ C) X p G ts → wpList P ops Q rest (a.put o.dst (.slice ao' N cap')) w') :
    wpList P ops Q (o :: rest) a (w.alloc (.cells cs e')) := by
  obtain ⟨bv, D, K, O, q1, q2⟩ := h
  have O1 : Omw w w0 (B ++ (⟨p, 132, gcs G bv⟩ :: (D ++ (C ++ X)))) K := O.perm (perm_cnt fun x => by simp only [cnt_append, cnt_cons, cnt_nil] <;> omega)
  exact O1.appendNew hgd s x t ho E hs hR cs e' k m c hx hk hl h1 h63 hbytes N hN ys hys fun ao' cap' B' w' R' O' => h' ao' cap' B' w' R' ⟨bv, D, K, O'.perm (perm_cnt fun x => by simp only [cnt_append, cnt_cons, cnt_nil] <;> omega), q1, q2⟩
theorem KS.appendRow {P : Program} {ops : Array Oper} {rest : List Oper} {o : Oper} {a : Act} {Q : Exit → Act → World → Prop} {B : List Blk} {e : TypeId} {sz bytes n : Nat} {v : Value} {xs : List Value} (h : KS w w0 (B ++ C) X p G ts) (hgd : o.guard = none) (s x : Operand) (t : TypeId) (ho : o.op = .call { callee := .builtin .append, args := #[s, x], argTypes := #[t, t] })
    (E : Elt P t e sz bytes) (hs : a.eval s = v) (hR : Row e sz v n xs B)
    (ao : Option Addr) (m c : Nat) (news : List Value) (hx : a.eval x = .slice ao m c) (hl : news.length = m * sz) (hnone : ao = none → m = 0 ∧ c = 0)
    (hc : ∀ ad, ao = some ad → ∀ j u, news[j]? = some u → w.cell? (ad.add j) = some u) (h1 : ∀ u ∈ news, u.oneCell' = true)
    (h63 : n + m ≤ maxLen) (hbytes : (n + m) * bytes ≤ 140737488355328)
    (N : Nat) (hN : n + m = N) (ys : List Value) (hys : xs ++ news = ys)
    (h' : ∀ ao' cap' B' w', Row e sz (.slice ao' N cap') N ys B' → KS w' w0 (B' ++ C) X p G ts → wpList P ops Q rest (a.put o.dst (.slice ao' N cap')) w') :
    wpList P ops Q (o :: rest) a w := by
  obtain ⟨bv, D, K, O, q1, q2⟩ := h
  have O1 : Omw w w0 (B ++ (⟨p, 132, gcs G bv⟩ :: (D ++ (C ++ X)))) K := O.perm (perm_cnt fun x => by simp only [cnt_append, cnt_cons, cnt_nil] <;> omega)
  exact O1.appendRow hgd s x t ho E hs hR ao m c news hx hl hnone hc h1 h63 hbytes N hN ys hys fun ao' cap' B' w' R' O' => h' ao' cap' B' w' R' ⟨bv, D, K, O'.perm (perm_cnt fun x => by simp only [cnt_append, cnt_cons, cnt_nil] <;> omega), q1, q2⟩
theorem KS.mem (h : KS w w0 C X p G ts) {B D : List Blk} (hC : C.Perm (B ++ D)) : ∃ L, Mem w w0 (B ++ L) := by
  obtain ⟨bv, E, K, O, h1, h2⟩ := h
  exact ⟨_, ((O.ow.perm (L' := B ++ (⟨p, 132, gcs G bv⟩ :: (E ++ (D ++ X)))) (((((hC.append_right X).append_left E)).cons _).trans (perm_cnt fun x => by simp only [cnt_append, cnt_cons, cnt_nil] <;> omega)))).mem⟩
/-- A pointer out of the row. -/
theorem KS.ptr (h : KS w w0 C X p G ts) {B D : List Blk} (hC : C.Perm (B ++ D)) {v : Value} {n : Nat} (R : Row 40 1 v n (pts ts) B) {i : Nat} (hi : i < ts.length) : ∃ r cap, v = .slice (some ⟨r, 0, none⟩) n cap ∧ r < w.heap.size ∧ w.cell? ⟨r, i, none⟩ = some (tptr (ts.getD i dT).1) := by
  obtain ⟨L, M⟩ := h.mem hC
  have hl := R.len
  rw [pts_len] at hl
  obtain ⟨r, cap, h1, h2, h3, h4⟩ := R.openP M (by omega)
  exact ⟨r, cap, h1, h3, h4 i _ (pts_get ts hi)⟩
theorem KS.rws (h : KS w w0 C X p G ts) {B D : List Blk} (hC : C.Perm (B ++ D)) {v : Value} (R : Row 40 1 v ts.length (pts ts) B) : Rws w v ts.length 1 (fun i => [tptr (ts.getD i dT).1]) := by
  obtain ⟨ao, cap, hv⟩ := R.slice
  by_cases h0 : ts.length = 0
  · rw [h0] at R ⊢
    have hts : ts = [] := List.eq_nil_of_length_eq_zero h0
    subst hts
    obtain ⟨N, hN⟩ : ∃ N, N = 0 := ⟨0, rfl⟩
    rw [← hN] at R ⊢
    generalize pts [] = ys at R
    cases R with
    | void => exact ⟨none, 0, rfl, ⟨Nat.le_refl _, fun _ => ⟨rfl, rfl⟩⟩, .inl rfl⟩
    | one r n cap cur h1 h2 h3 => exact ⟨_, cap, rfl, ⟨h1, fun h => by cases h⟩, .inl hN⟩
  · obtain ⟨r, cap', h1, h2, -⟩ := h.ptr hC R (i := 0) (by omega)
    obtain ⟨L, M⟩ := h.mem hC
    obtain ⟨r3, cap3, e3, hcap3, -, -⟩ := R.openP M (by omega)
    refine ⟨some ⟨r, 0, none⟩, cap', h1, ⟨?_, fun h => by cases h⟩, .inr ⟨r, 0, rfl, h2, fun i hi j u hj => ?_⟩⟩
    · rw [h1] at e3; cases e3; exact hcap3
    · obtain ⟨r', cap2, e1, -, hc⟩ := h.ptr hC R hi
      rw [h1] at e1
      cases e1
      match j, hj with
      | 0, hj =>
        simp at hj
        subst hj
        simpa using hc
end
/-- A row of one, in a block that was just made. -/
theorem row_one (e : TypeId) (r : Nat) (u : Value) : Row e 1 (.slice (some ⟨r, 0, none⟩) 1 1) 1 [u] [⟨r, e, #[u]⟩] := by
  have := Row.one (e := e) (sz := 1) r 1 1 #[u] (by omega) (by unfold maxLen; omega) (by simp)
  simpa using this

end Go.Proofs.Ytghaiplhakeahaa
