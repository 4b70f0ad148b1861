/- append(b, make([]byte, n)...): the row grows by zeros, in its place or anew. -/
import Derived.Test.YtghaiplhakeahaaYr
namespace Go.Proofs.Ytghaiplhakeahaa
set_option linter.unusedSimpArgs false
set_option linter.unusedVariables false
open Go.RowKit Go.WideMaps Go.ChangeMaps Go.Maps

theorem strB_info : ∃ i, Try.prog.info? 5 = some i ∧ i.size = 1 ∧ i.bytes = 1 ∧ i.zero = some (.int .u8 0) := by
  have h : (Try.prog.info? 5).map (fun i => (i.size, i.bytes, i.zero)) = some (1, 1, some (.int .u8 0)) := by kernel_rfl
  obtain ⟨i, hi, he⟩ := Option.map_eq_some_iff.1 h
  simp only [Prod.mk.injEq] at he
  exact ⟨i, hi, he.1, he.2.1, he.2.2⟩
theorem bsetC {n b : Nat} {w : World} : ∀ {vs : List Value} {W : World}, Below n w W → n ≤ b → ∀ (o : Nat) (_ : Unit), Below n w (W.setCells b o vs)
  | [], _, h, _, _, _ => h
  | v :: vs, W, h, hb, o, _ => bsetC (vs := vs) (h.setCell hb v) hb (o + 1) ()
theorem zeroCells_byte (m : Nat) : Builtin.zeroCells (Value.int .u8 0).cells m = (List.replicate m (Value.int .u8 0)).toArray := by
  apply Array.ext'
  simp [Builtin.zeroCells, Value.cells, Nat.mod_one, List.map_const']
theorem sizeSC (b : Nat) : ∀ (vs : List Value) (w : World) (o : Nat), (w.setCells b o vs).heap.size = w.heap.size
  | [], _, _ => rfl
  | v :: r, w, o => (sizeSC b r (w.setCell ⟨b, o, none⟩ v) (o + 1)).trans (by simp)
theorem replicate_get (m i : Nat) (hi : i < m) : (List.replicate m (0 : UInt8)).getD i 0 = 0 := by
  simp [List.getD_eq_getElem?_getD, List.getElem?_replicate, hi]
theorem getDL (l r : List UInt8) (j : Nat) (h : j < l.length) : (l ++ r).getD j 0 = l.getD j 0 := by
  rw [List.getD_eq_getElem?_getD, List.getD_eq_getElem?_getD, List.getElem?_append_left h]
theorem getDR (l r : List UInt8) (k : Nat) : (l ++ r).getD (l.length + k) 0 = r.getD k 0 := by
  rw [List.getD_eq_getElem?_getD, List.getD_eq_getElem?_getD, List.getElem?_append_right (by omega), Nat.add_sub_cancel_left]
set_option maxRecDepth 100000 in
theorem zeros_run (w0 W1 : World) (b n cap m : Nat) (l : List UInt8) (hn : l.length = n) (hcap : n ≤ cap) (h1 : n + m ≤ 1000000) (hm : 0 < m)
    (hc : ∀ i, i < n → W1.cell? ⟨b, i, none⟩ = some (.int .u8 ((l.getD i 0).toNat : Int))) (hs : ∀ j, j < cap → (W1.cell? ⟨b, j, none⟩).isSome = true) (hf : ∀ j, j < cap → W1.frozen? ⟨b, j, none⟩ = false)
    (hb : b < W1.heap.size) (hnb : w0.heap.size ≤ b) (hB : Below w0.heap.size w0 W1) :
    ∃ v' W', (Builtin.append_ #[26, 3] 26 #[.slice (some ⟨b, 0, none⟩) n cap, .int .i64 m]).run Try.prog W1 = .ok v' W' ∧ Below w0.heap.size w0 W' ∧ BSl W' v' (l ++ List.replicate m 0) := by
  obtain ⟨i, hi, hsz, hby, hz⟩ := strB_info
  have hw : IntKind.i64.wrap (m : Int) = (m : Int) := IntWalk.i64_in _ (by omega)
  have hneg : ¬ ((m : Int) < 0) := by omega
  have h48 : ¬ (281474976710656 < (m : Int)) := by omega
  by_cases hroom : n + m ≤ cap
  · have hst := run_storeCells_cells (P := Try.prog) b n (List.replicate m (.int .u8 0)) 0 W1 (fun j hj => hs _ (by simp at hj; omega)) (fun j hj => hf _ (by simp at hj; omega)) (fun v hv => by rw [(List.mem_replicate.1 hv).2]; rfl)
    have hadd : (⟨b, 0, none⟩ : Addr).add n = ⟨b, n, none⟩ := by unfold Addr.add; split <;> simp_all
    refine ⟨.slice (some ⟨b, 0, none⟩) (n + m) cap, W1.setCells b n (List.replicate m (.int .u8 0)), ?_, bsetC hB hnb _ (), ?_⟩
    · simp only [Nat.add_zero] at hst
      have hm0 : m ≠ 0 := by omega
      simp [Builtin.append_, run_underlying Try.underlying26, run_underlying Try.underlying3, sizeOf, typeInfo, hi, hsz, hby, hz, hw, hneg, h48, hroom, zeroValue, zeroCells_byte, hst, hadd, hm0, asInt, asIntOf]
    · refine ⟨some ⟨b, 0, none⟩, cap, by simp [hn], ⟨by simp [hn]; omega, fun h => by cases h⟩, .inr ⟨b, 0, rfl, by rw [sizeSC]; exact hb, fun j hj => ?_⟩⟩
      rw [Nat.zero_add]
      simp only [List.length_append, List.length_replicate, hn] at hj
      show _ = some (Value.int .u8 (((l ++ List.replicate m 0).getD j 0).toNat : Int))
      by_cases hj1 : j < n
      · rw [World.cell?_setCells_out _ _ _ _ _ (fun _ _ => .inl (by show j < n; omega)), hc j hj1, getDL _ _ _ (by omega)]
      · obtain ⟨k, rfl⟩ : ∃ k, j = n + k := ⟨j - n, by omega⟩
        rw [World.cell?_setCells_in b _ n W1 (fun j hj => hs _ (by simp at hj; omega)) k (by simp; omega)]
        have hg := getDR l (List.replicate m 0) k
        rw [hn] at hg
        rw [hg, replicate_get _ _ (by omega)]
        simp
  · have hlt : cap < n + m := by omega
    have hfit := growslice_fits (bytes := 1) hlt (by omega)
    have hfit' : ¬ (281474976710656 < Builtin.nextslicecap (n + m) cap) := by omega
    have h63 : ¬ (9223372036854775807 < ((n : Int) + (m : Int))) := by omega
    have holds : ∀ j u, (bcs l)[j]? = some u → W1.drew.cell? ((⟨b, 0, none⟩ : Addr).add j) = some u := fun j u hj => by
      have hjl := (List.getElem?_eq_some_iff.1 hj).1
      rw [bcs_len] at hjl
      rw [bcs_get l j hjl] at hj
      have hadd : (⟨b, 0, none⟩ : Addr).add j = ⟨b, j, none⟩ := by unfold Addr.add; split <;> simp_all
      rw [hadd, ← hj]
      exact hc j (by omega)
    have hfo := run_firstCells_some (P := Try.prog) W1.drew 1 n ⟨b, 0, none⟩ n cap (bcs l) (by rw [bcs_len, hn]; omega) holds
    have hm0 : m ≠ 0 := by omega
    have hge := grownCap_ge W1 (n + m) cap 5
    refine ⟨.slice (some ⟨W1.heap.size, 0, none⟩) (n + m) (grownCap W1 (n + m) cap 5), W1.drew.alloc (.cells ((bcs l).toArray ++ (List.replicate m (Value.int .u8 0)).toArray ++ (List.replicate (grownCap W1 (n + m) cap 5 - (n + m)) (Value.int .u8 0)).toArray) 5), ?_, balloc hB.drew _, ?_⟩
    · simp [Builtin.append_, run_underlying Try.underlying26, run_underlying Try.underlying3, sizeOf, typeInfo, hi, hsz, hby, hz, hw, hneg, h48, hroom, zeroValue, zeroCells_byte, hm0, asInt, asIntOf, hfo, hfit', h63, Question.forced, newRow, grownCap]
    · refine ⟨some ⟨W1.heap.size, 0, none⟩, grownCap W1 (n + m) cap 5, by simp [hn], ⟨by simp only [List.length_append, List.length_replicate, hn]; exact hge, fun h => by cases h⟩, .inr ⟨W1.heap.size, 0, rfl, by simp, fun j hj => ?_⟩⟩
      have hcl := World.cell?_alloc_mark W1.drew ((bcs l).toArray ++ (List.replicate m (Value.int .u8 0)).toArray ++ (List.replicate (grownCap W1 (n + m) cap 5 - (n + m)) (Value.int .u8 0)).toArray) 5 (0, 0) j
      rw [show W1.drew.heap.size = W1.heap.size from rfl] at hcl
      rw [Nat.zero_add, hcl]
      show _ = some (Value.int .u8 (((l ++ List.replicate m 0).getD j 0).toNat : Int))
      simp only [List.length_append, List.length_replicate] at hj
      have hb1 : (bcs l).length = l.length := bcs_len l
      by_cases hj1 : j < l.length
      · rw [getDL _ _ _ hj1, ← bcs_get l j hj1]
        simp [Array.getElem?_append, hb1, hj1, show j < l.length + m by omega]
      · obtain ⟨k, rfl⟩ : ∃ k, j = l.length + k := ⟨j - l.length, by omega⟩
        rw [getDR, replicate_get _ _ (by omega)]
        simp [Array.getElem?_append, hb1, show k < m by omega]
        rw [Array.getElem?_replicate, if_pos (by omega)]

/-- '[]byte(s)', and what 'append' of zeros makes of it. -/
theorem run_bytes0 (w : World) (s : ByteArray) (m : Nat) (hm : 0 < m) (h1 : s.size + m ≤ 1000000) :
    ∃ v g d, (convert 9 26 (.string s)).run Try.prog w = .ok v (plus w g d) ∧ BSl (plus w g d) v (strL s) ∧ (∃ cap, v = .slice (some ⟨w.heap.size, 0, none⟩) s.size cap) ∧
      ∃ v' W', (Builtin.append_ #[26, 3] 26 #[v, .int .i64 m]).run Try.prog (plus w g d) = .ok v' W' ∧ Below w.heap.size w W' ∧ BSl W' v' (strL s ++ List.replicate m 0) := by
  have h := run_bytes_of_string (P := Try.prog) w 9 26 5 s Try.underlying9 Try.underlying26 Try.underlying5
  have eo : ∀ o : Obj, plus w #[o] (w.drawn + 1) = w.drew.alloc o := fun o => by rw [alloc_self]; rfl
  have hge : s.size ≤ grownCap w s.size 0 5 := grownCap_ge _ _ _ _
  have hsz : (bytesRow s (grownCap w s.size 0 5)).size = grownCap w s.size 0 5 := by
    unfold bytesRow
    simp only [Array.size_append, Array.size_map, Array.size_replicate]
    have : s.data.size = s.size := rfl
    omega
  generalize grownCap w s.size 0 5 = cap at h hge hsz
  have hcl : ∀ j, (w.drew.alloc (.cells (bytesRow s cap) 5 ((bytesRow s cap).size, (bytesRow s cap).size + 1))).cell? ⟨w.heap.size, j, none⟩ = (bytesRow s cap)[j]? := fun j => by
    have := World.cell?_alloc_mark w.drew (bytesRow s cap) 5 ((bytesRow s cap).size, (bytesRow s cap).size + 1) j
    rwa [show w.drew.heap.size = w.heap.size from rfl] at this
  have hfr : ∀ j, j < cap → (w.drew.alloc (.cells (bytesRow s cap) 5 ((bytesRow s cap).size, (bytesRow s cap).size + 1))).frozen? ⟨w.heap.size, j, none⟩ = false := fun j hj => by
    have := World.frozen?_alloc_mark w.drew (bytesRow s cap) 5 (bytesRow s cap).size ((bytesRow s cap).size + 1) j
    rw [show w.drew.heap.size = w.heap.size from rfl] at this
    rw [this, decide_eq_false (by omega)]
    rfl
  have hc : ∀ i, i < s.size → (w.drew.alloc (.cells (bytesRow s cap) 5 ((bytesRow s cap).size, (bytesRow s cap).size + 1))).cell? ⟨w.heap.size, i, none⟩ = some (.int .u8 (((strL s).getD i 0).toNat : Int)) := fun i hi => by
    have hi' : i < s.data.size := hi
    rw [hcl, bytesRow_at s _ i hi']
    simp [strL, List.getD_eq_getElem?_getD]
    rw [Array.getElem?_eq_getElem hi']; rfl
  refine ⟨_, #[_], w.drawn + 1, by rw [h, eo], ?_, ⟨_, rfl⟩, ?_⟩
  · rw [eo]
    exact ⟨some ⟨w.heap.size, 0, none⟩, cap, by rw [strL_len], ⟨by rw [strL_len]; exact hge, fun h => by cases h⟩, .inr ⟨w.heap.size, 0, rfl, by simp, fun i hi => by rw [strL_len] at hi; rw [Nat.zero_add]; exact hc i hi⟩⟩
  · rw [eo]
    exact zeros_run w _ w.heap.size s.size cap m (strL s) (strL_len s) hge h1 hm hc (fun j hj => by rw [hcl, Array.getElem?_eq_getElem (by omega)]; rfl) hfr (by simp) (Nat.le_refl _) (balloc (Below.refl _ _).drew _)
theorem conv_zeros (tx : ByteArray) (m : Nat) (hm : 0 < m) (h1 : tx.size + m ≤ 1000000) : ∃ (bv : World → Value) (bg : World → Array Obj) (bd : World → Nat), (∀ W, (convert 9 26 (.string tx)).run Try.prog W = .ok (bv W) (plus W (bg W) (bd W))) ∧ ∀ W, BSl (plus W (bg W) (bd W)) (bv W) (strL tx) ∧ (∃ cap, bv W = .slice (some ⟨W.heap.size, 0, none⟩) tx.size cap) ∧
      ∃ v' W', (Builtin.append_ #[26, 3] 26 #[bv W, .int .i64 m]).run Try.prog (plus W (bg W) (bd W)) = .ok v' W' ∧ Below W.heap.size W W' ∧ BSl W' v' (strL tx ++ List.replicate m 0) := by
  have hex := fun W : World => run_bytes0 W tx m hm h1
  exact ⟨fun W => Classical.choose (hex W), fun W => Classical.choose (Classical.choose_spec (hex W)), fun W => Classical.choose (Classical.choose_spec (Classical.choose_spec (hex W))),
      fun W => (Classical.choose_spec (Classical.choose_spec (Classical.choose_spec (hex W)))).1, fun W => (Classical.choose_spec (Classical.choose_spec (Classical.choose_spec (hex W)))).2⟩
/-- An append of which is known what it answers. -/
theorem append_ran {P : Program} {ops : Array Oper} {rest : List Oper} {o : Oper} {a : Act} {Q : Exit → Act → World → Prop} {w W' : World} {v u v' : Value} (hgd : o.guard = none) (s x : Operand) (t tx : TypeId) (ho : o.op = .call { callee := .builtin .append, args := #[s, x], argTypes := #[t, tx] })
    (hs : a.eval s = v) (hx : a.eval x = u) (hrun : (Builtin.append_ #[t, tx] o.type #[v, u]).run P w = .ok v' W') (h : wpList P ops Q rest (a.put o.dst v') W') : wpList P ops Q (o :: rest) a w := by
  refine wpList_plain hgd fun K' hK' => ?_
  unfold Oper.wp
  simp [execOp, ho, resolve, invoke, builtin, hs, hx, hrun, Result.andThen]
  exact hK' _ _ h

end Go.Proofs.Ytghaiplhakeahaa
