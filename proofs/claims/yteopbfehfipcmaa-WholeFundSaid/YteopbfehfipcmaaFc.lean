/- account: contract of Clone. -/
import Derived.Test.YteopbfehfipcmaaFb
namespace Go.Proofs.Yteopbfehfipcmaa
set_option linter.unusedSimpArgs false
set_option linter.unusedVariables false
open Go.RowKit Go.WideMaps Go.ChangeMaps Go.Maps

theorem len_mapP {w : World} {m : Nat} {es : Array MapEntry} {ck : Nat} (hb : w.heap[m]? = some (.map es ck)) (ty : TypeId) : (Builtin.len_ #[58] ty #[.map (some m)]).run Try.prog w = .ok (.int .i64 es.size) w := by
  simp [Builtin.len_, run_underlying Try.underlying58, MapKept.run_getObj_map hb, goInt]
theorem make_mapP (w : World) (n : Int) : (Instr.makeMap 58 (some (.int .i64 n))).run Try.prog w = .ok (.map (some w.heap.size)) (w.alloc (.map #[] 0)) := by
  simp [Instr.makeMap, run_underlying Try.underlying58, asInt, asIntOf, Result.andThen]
open Classical in
/-- What the copy holds while the entries come. -/
noncomputable def partV (es : Array MapEntry) (seen : Array Nat) (M : BitVec 64 → Int) : BitVec 64 → Option Value := fun x => if ∃ e ∈ (leftOf es seen).toList, e.key = .agg #[.int .u8 (by8 x 0), .int .u8 (by8 x 1), .int .u8 (by8 x 2), .int .u8 (by8 x 3), .int .u8 (by8 x 4), .int .u8 (by8 x 5), .int .u8 (by8 x 6), .int .u8 (by8 x 7)] then none else bkV M x
theorem partV_start {es : Array MapEntry} {ck : Nat} {M : BitVec 64 → Int} (D : MapD es ck (bkV M)) : partV es #[] M = fun _ => none := by
  funext x
  unfold partV
  rw [left_all]
  cases hg : bkV M x with
  | none => simp
  | some v =>
    obtain ⟨e, he, hk, -⟩ := (D.get x v).1 hg
    rw [if_pos ⟨e, he, hk⟩]
theorem partV_end {es : Array MapEntry} {seen : Array Nat} (M : BitVec 64 → Int) (h : leftOf es seen = #[]) : partV es seen M = bkV M := by
  funext x
  unfold partV
  rw [h]
  simp
theorem partV_step {es : Array MapEntry} {ck : Nat} {M : BitVec 64 → Int} (D : MapD es ck (bkV M)) {seen : Array Nat} {e : MapEntry} (he : e ∈ (leftOf es seen).toList) {x : BitVec 64} (hk : e.key = .agg #[.int .u8 (by8 x 0), .int .u8 (by8 x 1), .int .u8 (by8 x 2), .int .u8 (by8 x 3), .int .u8 (by8 x 4), .int .u8 (by8 x 5), .int .u8 (by8 x 6), .int .u8 (by8 x 7)]) (hv : e.val = .agg #[.int .i64 (M x), .int .i64 0]) :
    putF (partV es seen M) x (.agg #[.int .i64 (M x), .int .i64 0]) = partV es (seen.push e.born) M := by
  have hp := left_push D.stamps seen he
  have hm : ∀ z, z ∈ (leftOf es seen).toList ↔ z = e ∨ z ∈ (leftOf es (seen.push e.born)).toList := fun z => by rw [hp.mem_iff, List.mem_cons]
  have hnd : (leftOf es seen).toList.Pairwise fun a b => a.key ≠ b.key := by
    have : (leftOf es seen).toList = es.toList.filter fun x => !seen.contains x.born := by unfold leftOf; rw [Array.toList_filter]
    rw [this]
    exact D.apart.sublist List.filter_sublist
  have hne : ∀ z ∈ (leftOf es (seen.push e.born)).toList, z.key ≠ e.key := by
    have h2 := (hp.pairwise_iff (fun h => h.symm)).1 hnd
    intro z hz h
    exact (List.pairwise_cons.1 h2).1 z hz h.symm
  funext y
  unfold putF partV
  by_cases hy : y = x
  · subst hy
    rw [if_pos rfl, if_neg (by
      rintro ⟨z, hz, hzk⟩
      exact hne z hz (by rw [hzk, hk]))]
    exact ((D.get y _).2 ⟨e, left_mem he, hk, hv⟩).symm
  · rw [if_neg hy]
    have hiff : (∃ z ∈ (leftOf es seen).toList, z.key = .agg #[.int .u8 (by8 y 0), .int .u8 (by8 y 1), .int .u8 (by8 y 2), .int .u8 (by8 y 3), .int .u8 (by8 y 4), .int .u8 (by8 y 5), .int .u8 (by8 y 6), .int .u8 (by8 y 7)]) ↔ ∃ z ∈ (leftOf es (seen.push e.born)).toList, z.key = .agg #[.int .u8 (by8 y 0), .int .u8 (by8 y 1), .int .u8 (by8 y 2), .int .u8 (by8 y 3), .int .u8 (by8 y 4), .int .u8 (by8 y 5), .int .u8 (by8 y 6), .int .u8 (by8 y 7)] := by
      constructor
      · rintro ⟨z, hz, hzk⟩
        rcases (hm z).1 hz with rfl | hz
        · rw [hk] at hzk
          exact absurd (dgv_inj hzk).symm hy
        · exact ⟨z, hz, hzk⟩
      · rintro ⟨z, hz, hzk⟩
        exact ⟨z, (hm z).2 (.inr hz), hzk⟩
    by_cases h : ∃ z ∈ (leftOf es (seen.push e.born)).toList, z.key = .agg #[.int .u8 (by8 y 0), .int .u8 (by8 y 1), .int .u8 (by8 y 2), .int .u8 (by8 y 3), .int .u8 (by8 y 4), .int .u8 (by8 y 5), .int .u8 (by8 y 6), .int .u8 (by8 y 7)]
    · rw [if_pos h, if_pos (hiff.2 h)]
    · rw [if_neg h, if_neg (fun q => h (hiff.1 q))]
theorem rotK (a b c : Nat × Obj) (l : List (Nat × Obj)) : (a :: b :: c :: l).Perm (c :: a :: b :: l) := (List.Perm.cons a (List.Perm.swap c b l)).trans (List.Perm.swap c a (b :: l))
theorem rotK' (a b c : Nat × Obj) (l : List (Nat × Obj)) : (a :: b :: c :: l).Perm (b :: c :: a :: l) := (List.Perm.swap b a (c :: l)).trans (List.Perm.cons b (List.Perm.swap c a l))
/-- The other book stays. -/
theorem Bk.back {w w0 : World} {C : List Blk} {KK : List (Nat × Obj)} {p q m : Nat} {es : Array MapEntry} {ck : Nat} {M M' : BitVec 64 → Int} (h : Bk w w0 (⟨p, 60, #[.map (some m)]⟩ :: C) ((m, .map es ck) :: KK) q M') (D : MapD es ck (bkV M)) : Bk w w0 C KK p M := by
  obtain ⟨m', es', ck', O, -⟩ := h
  exact ⟨m, es, ck, O.drop1.dropK, D⟩
set_option maxRecDepth 100000 in
set_option maxHeartbeats 4000000 in
theorem bclone_to (p : Nat) (w w0 : World) (C : List Blk) (KK : List (Nat × Obj)) (M : BitVec 64 → Int) (h : Bk w w0 C KK p M) :
    Calls Try.prog 17 #[ptr p] w fun e w' => ∃ q m es ck, e = .returned (ptr q) ∧ MapD es ck (bkV M) ∧ Bk w' w0 (⟨p, 60, #[.map (some m)]⟩ :: C) ((m, .map es ck) :: KK) q M := by
  obtain ⟨m, es, ck, O, D⟩ := h
  have hD := Lib.hid D
  have hlen := len_mapP (O.has (m, .map es ck) (List.mem_cons_self ..))
  have HO := Lib.hid ((O.keyMap w.heap.size rfl).key #[.map (some w.heap.size)] 60 (w.heap.size + 1) (by simp))
  have hp := O.blk (b := p) (t := 60) (cs := #[.map (some m)]) (by simp)
  have kp := hp.cell 0
  have lp := hp.lt
  have hmk := make_mapP w es.size
  have HP2 := Lib.hid ((hp.alloc (.map #[] 0)).alloc (.cells #[.map (some w.heap.size)] 60))
  simp only [List.getElem?_toArray, List.getElem?_cons_succ, List.getElem?_cons_zero] at kp
  clear O D hp
  go_enter Try.func17, Try.ntmps17
  go_wp2_with (at_range; refine (HO.out.permK (K' := (m, .map es ck) :: (w.heap.size, .map #[] 0) :: KK) (by exact List.Perm.swap _ _ _)).rangeL mapP rfl (.tmp 19) (by rfl) (by rfl) ?_; intro w2 r O2; have HO2 := Lib.hid O2; clear O2 kp lp)
  try go_frame
  obtain ⟨q, hq⟩ : ∃ q, q = w.heap.size + 1 := ⟨_, rfl⟩
  obtain ⟨mq, hmq⟩ : ∃ mq, mq = w.heap.size := ⟨_, rfl⟩
  simp only [← hq] at HO2 ⊢
  simp only [← hmq] at HO2 ⊢
  clear hq hmq HO HP2 hmk hlen
  go_loopw [] (fun wr => ∃ (seen : Array Nat) (es' : Array MapEntry) (ck' : Nat), Omw wr w0 (⟨q, 60, #[.map (some mq)]⟩ :: (⟨p, 60, #[.map (some m)]⟩ :: C)) ((mq, .map es' ck') :: (r, .mapIter (some m) ck seen ck) :: (m, .map es ck) :: KK) ∧ MapD es' ck' (partV es seen M)) (fun wr => leftN wr m r)
  case atStart => exact ⟨#[], #[], 0, HO2.out.permK (rotK _ _ _ _), by rw [partV_start hD.out]; exact MapD.empty⟩
  case round =>
    obtain ⟨seen, es1, ck1, O5, D5⟩ := hrel
    have HO5 := Lib.hid O5
    have HD5 := Lib.hid D5
    have HL : Hid (leftN wr m r = (leftOf es seen).size) := leftN_eq (O5.permK (rotK' _ _ _ _))
    clear O5 D5
    go_wp2_with (at_next; refine (HO5.out.permK (rotK' _ _ _ _)).nextL hD.out rfl (.tmp 20) (by rfl) (by rfl) ?_ ?_)
    · intro hdone
      have hD6 := HD5.out
      rw [partV_end M hdone] at hD6
      have HD6 := Lib.hid hD6
      clear hD6
      go_wp2
      go_ret
      exact ⟨q, m, es, ck, rfl, hD.out, mq, es1, ck1, (HO5.out.permK (List.Perm.swap _ _ _)).dropK, HD6.out⟩
    · intro e w6 he0 O6 hen
      have he : e ∈ (leftOf es seen).toList := by simpa using he0
      obtain ⟨dx, hk, hv, -⟩ := hD.out.val (left_mem he)
      have HST := Lib.hid (partV_step hD.out he hk hv)
      have hlt : (leftOf es (seen.push e.born)).size < (leftOf es seen).size := by
        have := (left_push hD.out.stamps seen he).length_eq
        simp at this
        omega
      rw [hk, hv] at hen ⊢
      have HO6 := Lib.hid (((O6.permK (rotK _ _ _ _)).key #[.int .u8 (by8 dx 0), .int .u8 (by8 dx 1), .int .u8 (by8 dx 2), .int .u8 (by8 dx 3), .int .u8 (by8 dx 4), .int .u8 (by8 dx 5), .int .u8 (by8 dx 6), .int .u8 (by8 dx 7)] 27 w6.heap.size rfl).key #[.int .i64 (M dx), .int .i64 0] 64 (w6.heap.size + 1) (by simp))
      clear O6 he0 HO5
      go_wp2_with fail
      refine wp_opq (fun W => Omw W w0 (⟨w6.heap.size + 1, 64, #[.int .i64 (M dx), .int .i64 0]⟩ :: (⟨w6.heap.size, 27, #[.int .u8 (by8 dx 0), .int .u8 (by8 dx 1), .int .u8 (by8 dx 2), .int .u8 (by8 dx 3), .int .u8 (by8 dx 4), .int .u8 (by8 dx 5), .int .u8 (by8 dx 6), .int .u8 (by8 dx 7)]⟩ :: (⟨q, 60, #[.map (some mq)]⟩ :: (⟨p, 60, #[.map (some m)]⟩ :: C)))) ((mq, .map es1 ck1) :: (r, .mapIter (some m) ck (seen.push e.born) ck) :: (m, .map es ck) :: KK)) HO6.out ?_
      intro W7 h7
      have H7 := Lib.hid h7
      clear h7 HO6
      obtain ⟨b4, hb4⟩ : ∃ b4, b4 = w6.heap.size := ⟨_, rfl⟩
      simp only [← hb4] at H7 ⊢
      clear hb4 hen
      refine wp_region_ov (fun L (_ : Unit) => [(L 0, 26, ptr q), (L 1, 27, ptr q), (L 2, 28, ptr q), (L 3, 29, .map (some mq)), (L 4, 30, .agg #[.int .u8 (by8 dx 0), .int .u8 (by8 dx 1), .int .u8 (by8 dx 2), .int .u8 (by8 dx 3), .int .u8 (by8 dx 4), .int .u8 (by8 dx 5), .int .u8 (by8 dx 6), .int .u8 (by8 dx 7)]), (L 5, 31, .agg #[.int .i64 (M dx), .int .i64 0])])
        (fun L _ W => ∃ es' ck', Omw W w0 (⟨b4 + 1, 64, #[.int .i64 (M dx), .int .i64 0]⟩ :: (⟨b4, 27, #[.int .u8 (by8 dx 0), .int .u8 (by8 dx 1), .int .u8 (by8 dx 2), .int .u8 (by8 dx 3), .int .u8 (by8 dx 4), .int .u8 (by8 dx 5), .int .u8 (by8 dx 6), .int .u8 (by8 dx 7)]⟩ :: (⟨q, 60, #[.map (some mq)]⟩ :: (⟨p, 60, #[.map (some m)]⟩ :: C)))) ((mq, .map es' ck') :: (r, .mapIter (some m) ck (seen.push e.born) ck) :: (m, .map es ck) :: KK) ∧ MapD es' ck' (bif L 6 then partV es (seen.push e.born) M else partV es seen M)) () (by kernel_rfl) (by kernel_rfl) (by rfl) ⟨es1, ck1, H7.out.drew, HD5.out⟩ ?_ ⟨?_, ?_, ?_, ?_, ?_, ?_, ?_, trivial⟩
      rotate_left
      iterate 6 (· (intro L x W hW hC hL hd K hK; (try simp [depsB, Region.binds] at hd); (try simp only [Nat.reduceAdd] at hK hL); simp only [ovl, Array.getD_eq_getD_getElem?, List.getElem?_toArray, List.getElem?_cons_succ, List.getElem?_cons_zero, Option.getD_some, List.setIfInBounds_toArray, List.set_cons_zero, List.set_cons_succ]; (try simp only [hd, cond_true, cond_false]); (have hW0 := hW); (obtain ⟨es', ck', O', -⟩ := hW); (have hx := O'.blk (b := b4) (t := 27) (cs := #[.int .u8 (by8 dx 0), .int .u8 (by8 dx 1), .int .u8 (by8 dx 2), .int .u8 (by8 dx 3), .int .u8 (by8 dx 4), .int .u8 (by8 dx 5), .int .u8 (by8 dx 6), .int .u8 (by8 dx 7)]) (by simp)); (have x0 := hx.cell 0); (have x1 := hx.cell 1); (have x2 := hx.cell 2); (have x3 := hx.cell 3); (have x4 := hx.cell 4); (have x5 := hx.cell 5); (have x6 := hx.cell 6); (have x7 := hx.cell 7); (have lx := hx.lt); clear hx; (have hy := O'.blk (b := b4 + 1) (t := 64) (cs := #[.int .i64 (M dx), .int .i64 0]) (by simp)); (have y0 := hy.cell 0); (have y1 := hy.cell 1); (have ly := hy.lt); clear hy; (have hq := O'.blk (b := q) (t := 60) (cs := #[.map (some mq)]) (by simp)); (have q0 := hq.cell 0); (have lq := hq.lt); clear hq; clear O'; go_simp; (have h := hK () W hW0); simp only [ovl, Array.getD_eq_getD_getElem?, List.getElem?_toArray, List.getElem?_cons_succ, List.getElem?_cons_zero, Option.getD_some, List.setIfInBounds_toArray, List.set_cons_zero, List.set_cons_succ] at h; (try simp (decide := true) only [upd, hd, cond_true, cond_false, Bool.true_or, Bool.false_or, decide_true, decide_false] at h); exact h))
      · intro L x W hW hC hL hd K hK; (try simp [depsB, Region.binds] at hd); (try simp only [Nat.reduceAdd] at hK hL)
        simp only [ovl, Array.getD_eq_getD_getElem?, List.getElem?_toArray, List.getElem?_cons_succ, List.getElem?_cons_zero, Option.getD_some, List.setIfInBounds_toArray, List.set_cons_zero, List.set_cons_succ]; (try simp only [hd, cond_true, cond_false])
        obtain ⟨es1, ck1, O1, D1⟩ := hW
        simp only [hL, cond_false] at D1
        refine O1.putK D1 mapP (.tmp 29) (.tmp 30) (.tmp 31) (by rfl) (by rfl) dx (by rfl) (.agg #[.int .i64 (M dx), .int .i64 0]) (by rfl) (fun es3 ck3 w3 O3 D3 => ?_)
        rw [HST.out] at D3
        (have h := hK () w3 ⟨es3, ck3, O3, by simpa [upd] using D3⟩); simp only [ovl, Array.getD_eq_getD_getElem?, List.getElem?_toArray, List.getElem?_cons_succ, List.getElem?_cons_zero, Option.getD_some, List.setIfInBounds_toArray, List.set_cons_zero, List.set_cons_succ] at h; (try simp (decide := true) only [upd, hd, cond_true, cond_false, Bool.true_or, Bool.false_or, decide_true, decide_false] at h); exact h
      intro _ W2 hW2
      simp only [ovl, cond_true, Array.getD_eq_getD_getElem?, List.getElem?_toArray, List.getElem?_cons_succ, List.getElem?_cons_zero, Option.getD_some, List.setIfInBounds_toArray, List.set_cons_zero, List.set_cons_succ]
      simp only [cond_true] at hW2
      obtain ⟨es2, ck2, O2, D2⟩ := hW2
      have HO8 := Lib.hid (Omw.drop (B := [_, _]) O2)
      have HD8 := Lib.hid D2
      clear O2 D2 H7
      go_wp2
      exact ⟨⟨seen.push e.born, es2, ck2, HO8.out, HD8.out⟩, by
        rw [leftN_eq (HO8.out.permK (rotK' _ _ _ _)), HL.out]; exact hlt⟩

end Go.Proofs.Yteopbfehfipcmaa
