/- The law GuardKeeps holds: if towers say just what they have, and it is safe: whichever need less one of them forget all, the newest claim is filed, whatever lesser number is shown; for every input. No condition. -/
import Derived.Test.YtghaiplhakeahaaGuardKeeps
namespace Go.Proofs.Ytghaiplhakeahaa
set_option linter.unusedSimpArgs false
set_option linter.unusedVariables false
open Go.ChangeShapes Go.WideShapes Go.ChangeAt Go.RowKit

section
variable {H : Type} {enc : TypeId × Value → H} {w : World} {base : Nat} {held : Bool}
set_option maxRecDepth 100000 in
/-- A cell that reads as a slice of truths. -/
theorem trod_bos {fuel : Nat} {v : Value} {x : DataW H × List MemPlace} (h : DataW.trod enc Try.prog w base (fun _ => true) held fuel 58 [v] = some x) : ∃ (m : Nat) (b : Nat → Bool), m ≤ maxLen ∧ Rws w v m 1 (fun i => [.bool (b i)]) := by
  rcases Deep.open_slice1 Try.underlying58 (by kernel_rfl) h with ⟨h0, _⟩ | ⟨a, len, cap, m2, n, V, D, Pl, h0, hb, hl, hm, hmm, _, hx⟩
  · simp at h0
    subst h0
    exact ⟨0, fun _ => false, by unfold maxLen; omega, none, 0, rfl, ⟨Nat.le_refl _, fun _ => ⟨rfl, rfl⟩⟩, .inl rfl⟩
  · simp only [if_true] at hmm
    subst hmm
    simp at h0
    subst h0
    obtain ⟨Z, hZ⟩ := Deep.choose_lt (α := Bool) (n := len) (p := fun i b => V i = .bool b) (fun i hi => by
      obtain ⟨b, hb1, _⟩ := DataW.trod_bool Try.underlying4 (hx i (by omega)).2
      simp at hb1
      exact ⟨b, hb1⟩)
    refine ⟨len, Z, by omega, some a, m2, rfl, ⟨hl, fun h => by cases h⟩, ?_⟩
    by_cases h0 : len = 0
    · exact .inl h0
    · right
      have h00 := (hx 0 (by omega)).1
      have ha : a.add 0 = a := by simp [Addr.add]
      rw [ha] at h00
      obtain ⟨e1, e2⟩ := cell_plain h00
      refine ⟨a.block, a.off, by rw [← e1], e2, fun i hi j u hj => ?_⟩
      match j, hj with
      | 0, hj =>
        simp at hj
        subst hj
        have h1 := (hx i (by omega)).1
        rw [e1, add_plain] at h1
        rw [Nat.mul_one, Nat.add_zero, h1, hZ i hi]
set_option maxRecDepth 100000 in
theorem open_fates {r : Reach} {b0 : Nat} {v : Value} {d : DataW H} {p : List MemPlace} (hval : Value.okWide Try.prog w r b0 110 v) (hd : DataW.Trod enc Try.prog w base (fun _ => true) held 110 v d p) :
    ∃ (f0 f1 : Value) (m0 m1 : Nat) (g0 g1 : Nat → Bool), v = .agg #[f0, f1] ∧ (m0 ≤ maxLen ∧ m1 ≤ maxLen) ∧ Rws w f0 m0 1 (fun i => [.bool (g0 i)]) ∧ Rws w f1 m1 1 (fun i => [.bool (g1 i)]) := by
  obtain ⟨fuel, hf⟩ := hd
  simp only [Value.okWide, Try.underlying110] at hval
  obtain ⟨cs, rfl, _⟩ := hval
  obtain ⟨xs, m, _, _, hlen, hxl, hel⟩ := DataW.trod_array Try.underlying110 hf
  rw [show Try.prog.cellsOf 110 = 2 by kernel_rfl] at hlen
  have hc : Try.prog.cellsOf 58 = 1 := by kernel_rfl
  have one : ∀ i, i < 2 → ∃ u, cs[i]? = some u ∧ ∃ (m : Nat) (b : Nat → Bool), m ≤ maxLen ∧ Rws w u m 1 (fun i => [.bool (b i)]) := by
    intro i hi
    have h1 := hel i hi
    rw [hc, Nat.mul_one, List.getElem?_eq_getElem (by omega)] at h1
    have hcl : i < cs.size := by
      simp [Value.cells] at hlen
      omega
    have h2 : ((Value.agg cs).cells.toList.drop i).take 1 = [cs[i]] := by
      simp only [Value.cells]
      rw [List.drop_eq_getElem_cons (by simpa using hcl)]
      simp
    rw [h2] at h1
    obtain ⟨m, b, h3, h4⟩ := trod_bos h1
    exact ⟨cs[i], Array.getElem?_eq_getElem hcl, m, b, h3, h4⟩
  obtain ⟨f0, e0, m0, g0, q0, r0⟩ := one 0 (by omega)
  obtain ⟨f1, e1, m1, g1, q1, r1⟩ := one 1 (by omega)
  refine ⟨f0, f1, m0, m1, g0, g1, ?_, ⟨q0, q1⟩, r0, r1⟩
  congr 1
  have hsz : cs.size = 2 := by simpa [Value.cells] using hlen
  apply Array.ext
  · simpa using hsz
  · intro i h1 h2
    rw [Array.getElem?_eq_getElem (by omega)] at e0 e1
    match i, h1 with
    | 0, _ => exact Option.some.inj e0
    | 1, _ => exact Option.some.inj e1
    | i + 2, h => omega
end
theorem csl_of {w : World} {v : Value} {n : Nat} {F : Nat → Value × List UInt8} (hv : VSl w v n (fun i => (F i).1)) (hF : ∀ i, i < n → BSl w (F i).1 (F i).2) : CSl w v ((List.range n).map fun i => (F i).2) := by
  have hl : ((List.range n).map fun i => (F i).2).length = n := by simp
  obtain ⟨ao, cap, rfl, h1, h2⟩ := hv
  refine ⟨(List.range n).map fun i => (F i).1, ao, cap, by rw [hl], by rw [hl]; exact h1.1, ?_⟩
  rw [hl]
  rcases h2 with h2 | ⟨r, o, rfl, hlt, hc⟩
  · exact .inl h2
  · refine .inr ⟨r, o, rfl, hlt, fun i hi => ?_⟩
    have e1 : ((List.range n).map fun i => (F i).1).getD i undef = (F i).1 := by simp [List.getD_eq_getElem?_getD, hi]
    have e2 : ((List.range n).map fun i => (F i).2).getD i [] = (F i).2 := by simp [List.getD_eq_getElem?_getD, hi]
    rw [e1, e2]
    exact ⟨hc i hi, hF i hi⟩
set_option maxRecDepth 100000 in
theorem guardKeeps_lifted (os : Os) (started : os.Started) (H : Type) (enc : TypeId × Value → H) :
    ReturnsInHanded {} Try.checked os 14 .any (Rows.guardKeepsSpec.pre6 enc Try.prog Try.f14 Rows.guardKeepsRow.domain false) (Rows.guardKeepsSpec.post enc Try.prog Try.f14 false true false false) := by
  refine returnsInHanded_of_change_sized (C := Try.checked) Try.own started (by kernel_rfl) Try.func14
    (ChangeSpec.witness6 (enc := enc) (C := Try.checked) false ⟨#[], #[.agg #[.int .i64 0, .int .i64 0], .slice none 0 0, .agg #[.slice none 0 0, .slice none 0 0]], []⟩ 8 (by kernel_rfl) (by kernel_rfl) (by kernel_rfl) (by kernel_rfl)) ?_
  intro W base args ds gs before hval0 hW hcnd hsz _
  have hval : ∀ (j : Nat) t v, Try.f14.params[j]? = some t → args[j]? = some v → Value.okWide Try.prog W .any base t v := hval0
  have hW' := hW
  obtain ⟨p, q, hA0, hV, rfl, hfz, hnd⟩ := hW
  have hA : DataW.TrodAll enc Try.prog W 0 (fun _ => true) true Try.f14.params.toList args.toList ds p := hA0
  rw [Try.params14] at hA hval
  obtain ⟨v0, v1, v2, d0, d1, d2, p0, p1, p2, rfl, rfl, rfl, h0, h1, h2⟩ := trodAll_three hA
  obtain ⟨rfl, rfl⟩ := trodVars_none hV
  have fin : ∀ e W', e = Ending.returned (.bool true) ∧ Below W.heap.size W W' → ∃ r, e = Ending.returned r ∧ Rows.guardKeepsSpec.post enc Try.prog Try.f14 false true false false W #[v0, v1, v2] r W' := by
    rintro e W' ⟨rfl, hB⟩
    exact ⟨_, rfl, law_post Try.laidOut (fun t ht => by rw [Try.params14] at ht; simp at ht; rcases ht with rfl | rfl | rfl <;> exact ⟨by kernel_rfl, of_decide_eq_true (by kernel_rfl)⟩) rfl Try.underlying4 rfl rfl hW' hB⟩
  clear hA0 hval0 hA
  obtain ⟨x, y, rfl⟩ := open_int2 Try.underlying57 Try.underlying3 (by kernel_rfl) (by kernel_rfl) (hval 0 57 v0 rfl rfl) h0
  obtain ⟨n, F, hn, hv, hF⟩ := open_bss Try.underlying109 Try.underlying26 Try.underlying5 (by kernel_rfl) (by kernel_rfl) (by kernel_rfl) (hval 1 109 v1 rfl rfl) h1
    (fun m hm => by
      have := List.all_eq_true.1 hsz m (DataW.weights_mem_each (j := 1) (t := 109) (d := d1) (by rw [Try.params14]; rfl) rfl m hm)
      simpa using this)
  obtain ⟨f0, f1, m0, m1, g0, g1, rfl, ⟨q0, q1⟩, r0, r1⟩ := open_fates (hval 2 110 v2 rfl rfl) h2
  have hl : ((List.range n).map fun i => (F i).2).length = n := by simp
  exact (guardKeeps_any x y v1 ((List.range n).map fun i => (F i).2) (by rw [hl]; exact hn) f0 f1 m0 m1 g0 g1 q0 q1 W (csl_of hv fun i hi => (hF i hi).1) r0 r1 (fun i hi => by
    rw [hl] at hi
    have e2 : ((List.range n).map fun i => (F i).2).getD i [] = (F i).2 := by simp [List.getD_eq_getElem?_getD, hi]
    rw [e2]
    exact Nat.le_trans (hF i hi).2 (by decide))).mono fin

theorem guardKeeps_holds : Rows.GuardKeepsSaid :=
  OpenClaim.holds_of_wide 14 Try.f14 rfl rfl rfl rfl rfl rfl rfl ⟨rfl, rfl, rfl, rfl, rfl⟩ rfl rfl rfl rfl rfl (by kernel_rfl) Try.func14 (by kernel_rfl)
    (of_decide_eq_true (by kernel_rfl)) (by unfold Func.isWrapper; first | (rw [if_pos (by decide +kernel)]; kernel_rfl) | (rw [if_neg (by decide +kernel)]; exact ⟨rfl, rfl⟩))
    (fun os started H enc _ => guardKeeps_lifted os started H enc)
#print axioms guardKeeps_holds

end Go.Proofs.Ytghaiplhakeahaa
