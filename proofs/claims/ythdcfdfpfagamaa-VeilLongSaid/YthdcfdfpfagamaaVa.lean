/- The laws VeilCommits, VeilSeals, VeilOpens, VeilKeys: their walks. -/
import Derived.Test.YthdcfdfpfagamaaVt
namespace Go.Proofs.Ythdcfdfpfagamaa
set_option linter.unusedSimpArgs false
set_option linter.unusedVariables false
open Go.RowKit

theorem beq_str (l : List UInt8) : (({ data := l.toArray } : ByteArray) == { data := l.toArray }) = true := by
  show (l.toArray == l.toArray) = true
  simp
theorem run_str' (W : World) (v : Value) (l : List UInt8) (h : BSl W v l) : (convert 28 9 v).run Try.prog W = .ok (.string { data := l.toArray }) W :=
  run_str W _ _ _ v l Try.underlying28 Try.underlying5 Try.underlying9 h

section
variable {ops : Array Oper} {w0 : World} {Q : Slots → Prop} {a : Act} {R : List (Tmp × Pred)} {o : Oper} {rest : List Oper}
/-- A slice of bytes that is known by a property is made a string. -/
theorem B_str {s : Tmp} {l : List UInt8} (ho : o.op = .convert 28 9 (.tmp s)) (hs : relAt R s = some (fun v w => BSl w v l)) (hB : (sideC ops R a o && noSel o && (o.looksAt ops).all (fun t => t == s || (relAt R t).isNone) && (o.looksAt ops).contains s && decide (s < a.tmps.size)) = true)
    (hr : wpS Try.prog ops w0 Q rest (mix (a.put o.dst (.string { data := l.toArray })) R)) : wpS Try.prog ops w0 Q (o :: rest) (mix a R) := by
  have hz : s < a.tmps.size := by
    have hB' := hB
    simp only [Bool.and_eq_true] at hB'
    exact of_decide_eq_true hB'.2
  refine B_readX hs hB (fun x u hu => ?_) hr
  have hx : (a.put (some s) u).eval (.tmp s) = u := by simp [Act.eval, Act.put, hz]
  simp only [execOp, ho, hx, Sem.run_bind, run_str' _ u l hu, Result.andThen, Sem.run_pure]
end

/-! ### VeilCommits -/
set_option maxRecDepth 100000 in
set_option maxHeartbeats 4000000 in
theorem veilCommits_any (s c : BitVec 64) (v : Value) (l : List UInt8) (hm : l.length ≤ 9223372036854775807) (w : World) (hv : BSl w v l) :
    Calls Try.prog 10 #[.agg #[.int .u8 (by8 s 0), .int .u8 (by8 s 1), .int .u8 (by8 s 2), .int .u8 (by8 s 3), .int .u8 (by8 s 4), .int .u8 (by8 s 5), .int .u8 (by8 s 6), .int .u8 (by8 s 7)], v, .agg #[.int .u8 (by8 c 0), .int .u8 (by8 c 1), .int .u8 (by8 c 2), .int .u8 (by8 c 3), .int .u8 (by8 c 4), .int .u8 (by8 c 5), .int .u8 (by8 c 6), .int .u8 (by8 c 7)]] w fun e w' => e = .returned (.bool true) ∧ Below w.heap.size w w' := by
  obtain ⟨x, HX⟩ : ∃ x, Hid (l.take 300 = x) := ⟨_, rfl⟩
  have hxl : x.length ≤ 65536 := by rw [← HX.out]; simp; omega
  obtain ⟨z, HZ⟩ : ∃ z, Hid (commitF s x = z) := ⟨_, rfl⟩
  obtain ⟨q, HQ⟩ : ∃ q, Hid ((z == c) = q) := ⟨_, rfl⟩
  have hq2 : (c == z) = q := by rw [← HQ.out]; exact Bool.beq_comm
  have HZZ : Hid ((z == z) = true) := by show _ = _; simp
  have HV := Lib.hid ((hv.alloc (.cells #[.int .u8 (by8 s 0), .int .u8 (by8 s 1), .int .u8 (by8 s 2), .int .u8 (by8 s 3), .int .u8 (by8 s 4), .int .u8 (by8 s 5), .int .u8 (by8 s 6), .int .u8 (by8 s 7)] 24)).alloc (.cells #[.int .u8 (by8 c 0), .int .u8 (by8 c 1), .int .u8 (by8 c 2), .int .u8 (by8 c 3), .int .u8 (by8 c 4), .int .u8 (by8 c 5), .int .u8 (by8 c 6), .int .u8 (by8 c 7)] 24))
  obtain ⟨ao, cap, rfl, -⟩ := hv.open_
  clear hv
  go_enter Try.func10, Try.ntmps10
  go_wp2_with fail
  refine (few_to _ l hm x HX.out _ HV.out).mono ?_
  rintro e w1 ⟨u, rfl, rfl, hu⟩
  have HU := Lib.hid hu
  clear hu
  go_wp2_with fail
  refine (refCommit_to s u x hxl z HZ.out _ HU.out).mono ?_
  rintro e w2 ⟨rfl, hb2⟩; obtain ⟨g2, d2, rfl⟩ := plus_of_below hb2; clear hb2
  go_wp2_with fail
  refine wp_mem (fun W => Mem W w [(⟨w.heap.size + 1 + 1 + g2.size, 22, #[.int .u8 (by8 z 0), .int .u8 (by8 z 1), .int .u8 (by8 z 2), .int .u8 (by8 z 3), .int .u8 (by8 z 4), .int .u8 (by8 z 5), .int .u8 (by8 z 6), .int .u8 (by8 z 7)]⟩ : Blk), (⟨w.heap.size + 1, 24, #[.int .u8 (by8 c 0), .int .u8 (by8 c 1), .int .u8 (by8 c 2), .int .u8 (by8 c 3), .int .u8 (by8 c 4), .int .u8 (by8 c 5), .int .u8 (by8 c 6), .int .u8 (by8 c 7)]⟩ : Blk), (⟨w.heap.size, 24, #[.int .u8 (by8 s 0), .int .u8 (by8 s 1), .int .u8 (by8 s 2), .int .u8 (by8 s 3), .int .u8 (by8 s 4), .int .u8 (by8 s 5), .int .u8 (by8 s 6), .int .u8 (by8 s 7)]⟩ : Blk)] ∧ BSl W u x) ⟨((((Mem.start w).key #[.int .u8 (by8 s 0), .int .u8 (by8 s 1), .int .u8 (by8 s 2), .int .u8 (by8 s 3), .int .u8 (by8 s 4), .int .u8 (by8 s 5), .int .u8 (by8 s 6), .int .u8 (by8 s 7)] 24 w.heap.size rfl).key #[.int .u8 (by8 c 0), .int .u8 (by8 c 1), .int .u8 (by8 c 2), .int .u8 (by8 c 3), .int .u8 (by8 c 4), .int .u8 (by8 c 5), .int .u8 (by8 c 6), .int .u8 (by8 c 7)] 24 (w.heap.size + 1) (by simp)).plus _ _).key _ _ (w.heap.size + 1 + 1 + g2.size) (by simp), (HU.out.plus _ _).alloc _⟩ ?_
  rintro W ⟨M, hU⟩
  have HN : Hid (New w [(⟨w.heap.size + 1 + 1 + g2.size, 22, #[.int .u8 (by8 z 0), .int .u8 (by8 z 1), .int .u8 (by8 z 2), .int .u8 (by8 z 3), .int .u8 (by8 z 4), .int .u8 (by8 z 5), .int .u8 (by8 z 6), .int .u8 (by8 z 7)]⟩ : Blk), (⟨w.heap.size + 1, 24, #[.int .u8 (by8 c 0), .int .u8 (by8 c 1), .int .u8 (by8 c 2), .int .u8 (by8 c 3), .int .u8 (by8 c 4), .int .u8 (by8 c 5), .int .u8 (by8 c 6), .int .u8 (by8 c 7)]⟩ : Blk), (⟨w.heap.size, 24, #[.int .u8 (by8 s 0), .int .u8 (by8 s 1), .int .u8 (by8 s 2), .int .u8 (by8 s 3), .int .u8 (by8 s 4), .int .u8 (by8 s 5), .int .u8 (by8 s 6), .int .u8 (by8 s 7)]⟩ : Blk)]) := New.cons (by show w.heap.size ≤ w.heap.size + 1 + 1 + g2.size; omega) (New.cons (Nat.le_succ _) (New.cons (Nat.le_refl _) (New.nil _)))
  have cS := M.cell (b := w.heap.size) (t := 24) (cs := #[.int .u8 (by8 s 0), .int .u8 (by8 s 1), .int .u8 (by8 s 2), .int .u8 (by8 s 3), .int .u8 (by8 s 4), .int .u8 (by8 s 5), .int .u8 (by8 s 6), .int .u8 (by8 s 7)]) (by simp)
  have cC := M.cell (b := w.heap.size + 1) (t := 24) (cs := #[.int .u8 (by8 c 0), .int .u8 (by8 c 1), .int .u8 (by8 c 2), .int .u8 (by8 c 3), .int .u8 (by8 c 4), .int .u8 (by8 c 5), .int .u8 (by8 c 6), .int .u8 (by8 c 7)]) (by simp)
  have cZ := M.cell (b := w.heap.size + 1 + 1 + g2.size) (t := 22) (cs := #[.int .u8 (by8 z 0), .int .u8 (by8 z 1), .int .u8 (by8 z 2), .int .u8 (by8 z 3), .int .u8 (by8 z 4), .int .u8 (by8 z 5), .int .u8 (by8 z 6), .int .u8 (by8 z 7)]) (by simp)
  have lS : w.heap.size < W.heap.size := M.lt (x := (⟨w.heap.size, 24, #[.int .u8 (by8 s 0), .int .u8 (by8 s 1), .int .u8 (by8 s 2), .int .u8 (by8 s 3), .int .u8 (by8 s 4), .int .u8 (by8 s 5), .int .u8 (by8 s 6), .int .u8 (by8 s 7)]⟩ : Blk)) (by simp)
  have lC : w.heap.size + 1 < W.heap.size := M.lt (x := (⟨w.heap.size + 1, 24, #[.int .u8 (by8 c 0), .int .u8 (by8 c 1), .int .u8 (by8 c 2), .int .u8 (by8 c 3), .int .u8 (by8 c 4), .int .u8 (by8 c 5), .int .u8 (by8 c 6), .int .u8 (by8 c 7)]⟩ : Blk)) (by simp)
  have lZ : w.heap.size + 1 + 1 + g2.size < W.heap.size := M.lt (x := (⟨w.heap.size + 1 + 1 + g2.size, 22, #[.int .u8 (by8 z 0), .int .u8 (by8 z 1), .int .u8 (by8 z 2), .int .u8 (by8 z 3), .int .u8 (by8 z 4), .int .u8 (by8 z 5), .int .u8 (by8 z 6), .int .u8 (by8 z 7)]⟩ : Blk)) (by simp)
  have T1 := Lib.hid (fun g d => commit_to s u x hxl z HZ.out _ (hU.plus g d))
  have T2 := Lib.hid (fun g d => opens_to z s u x hxl z HZ.out true HZZ.out _ (hU.plus g d))
  have T3 := Lib.hid (fun g d => opens_to c s u x hxl z HZ.out q HQ.out _ (hU.plus g d))
  have HBW := Lib.hid (M.below HN.out)
  clear M hU
  refine wp_region_rq (by kernel_rfl) (by kernel_rfl) (by kernel_rfl) ?_
  repeat (first
    | (refine B_skip ?_ ?_; (· rfl); (try simp only [Act.put, List.setIfInBounds_toArray, List.set_cons_zero, List.set_cons_succ]))
    | (refine B_move rfl ?_ ?_; (· rfl); (try simp only [Act.eval, Act.put, Array.getD_eq_getD_getElem?, List.getElem?_toArray, List.getElem?_cons_succ, List.getElem?_cons_zero, Option.getD_some, List.setIfInBounds_toArray, List.set_cons_zero, List.set_cons_succ]))
    | (refine B_plain ?_ ?_; (· rfl); intro K hK; go_big_quiet_op; with_reducible refine hK _ ?_; clear hK K)
    | (refine B_callX (v := ?_) (f := 36) rfl (by kernel_rfl) ?_ (fun xq => ?_) ?_; rotate_left; (· rfl); (· ((simp only [List.map_toArray, List.map_cons, List.map_nil, Act.eval, Array.getD_eq_getD_getElem?, List.getElem?_toArray, List.getElem?_cons_succ, List.getElem?_cons_zero, Option.getD_some]); with_reducible apply retB; with_reducible exact (told_any _))); (try simp only [Act.put, List.setIfInBounds_toArray, List.set_cons_zero, List.set_cons_succ]))
    | (refine B_callX (v := ?_) (f := 37) rfl (by kernel_rfl) ?_ (fun xq => ?_) ?_; rotate_left; (· rfl); (· ((simp only [List.map_toArray, List.map_cons, List.map_nil, Act.eval, Array.getD_eq_getD_getElem?, List.getElem?_toArray, List.getElem?_cons_succ, List.getElem?_cons_zero, Option.getD_some]); with_reducible apply retB; with_reducible exact (T1.out _ _))); (try simp only [Act.put, List.setIfInBounds_toArray, List.set_cons_zero, List.set_cons_succ]))
    | (refine B_callX (v := ?_) (f := 38) rfl (by kernel_rfl) ?_ (fun xq => ?_) ?_; rotate_left; (· rfl); (· ((simp only [List.map_toArray, List.map_cons, List.map_nil, Act.eval, Array.getD_eq_getD_getElem?, List.getElem?_toArray, List.getElem?_cons_succ, List.getElem?_cons_zero, Option.getD_some]); with_reducible apply retB; with_reducible exact (T2.out _ _))); (try simp only [Act.put, List.setIfInBounds_toArray, List.set_cons_zero, List.set_cons_succ]))
    | (refine B_callX (v := ?_) (f := 38) rfl (by kernel_rfl) ?_ (fun xq => ?_) ?_; rotate_left; (· rfl); (· ((simp only [List.map_toArray, List.map_cons, List.map_nil, Act.eval, Array.getD_eq_getD_getElem?, List.getElem?_toArray, List.getElem?_cons_succ, List.getElem?_cons_zero, Option.getD_some]); with_reducible apply retB; with_reducible exact (T3.out _ _))); (try simp only [Act.put, List.setIfInBounds_toArray, List.set_cons_zero, List.set_cons_succ])))
  refine B_nil ?_ rfl ?_ ?_
  · kernel_rfl
  · rfl
  rintro _ ⟨⟨g3, d3⟩, rfl⟩
  simp only [fin, Act.put, List.setIfInBounds_toArray, List.set_cons_zero, List.set_cons_succ]
  go_wp2
  go_ret
  exact ⟨rfl, bplus HBW.out _ _⟩

end Go.Proofs.Ythdcfdfpfagamaa
