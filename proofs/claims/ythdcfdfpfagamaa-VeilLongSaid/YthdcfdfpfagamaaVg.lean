/- The law VeilLong: its walk. -/
import Derived.Test.YthdcfdfpfagamaaVc
import Derived.Laws.MakeOwn
import Derived.Laws.OwnMore
namespace Go.Proofs.Ythdcfdfpfagamaa
set_option linter.unusedSimpArgs false
set_option linter.unusedVariables false
open Go.RowKit

def zerosL (n : Nat) : List UInt8 := List.replicate n 0
theorem zerosL_len (n : Nat) : (zerosL n).length = n := by simp [zerosL]
theorem make_zeros (n : Nat) (hn : n ≤ 1000000) : ∃ M : Array Value, (∀ W : World, (Instr.makeSlice 28 (.int .i64 n) (.int .i64 n)).run Try.prog W = .ok (.slice (some ⟨W.heap.size, 0, none⟩) n n) (W.alloc (.cells M 5))) ∧ ∀ W : World, BSl (W.alloc (.cells M 5)) (.slice (some ⟨W.heap.size, 0, none⟩) n n) (zerosL n) := by
  have hz0 : (Try.prog.info? 5).map (fun i => i.zero) = some (some (.int .u8 0)) := by kernel_rfl
  obtain ⟨i, z, ht, hi, hz, hsz, hby, hzs, -⟩ := elt_u8
  rw [hi] at hz0
  simp only [Option.map_some, Option.some.injEq] at hz0
  have hzz : z = .int .u8 0 := by rw [hz] at hz0; exact Option.some.inj hz0
  refine ⟨madeCells z.cells (n * i.size), fun W => ?_, fun W => ?_⟩
  · have hr := run_make (P := Try.prog) (w := W) 28 5 i z ht hi hz .i64 .i64 n n (by omega) (by omega) (by rw [hby]; omega) (by omega)
    rw [show ((n : Int)).toNat = n by omega] at hr
    exact hr
  · have hl := zerosL_len n
    have hM : (madeCells z.cells (n * i.size)).toList = List.replicate n (.int .u8 0) := by
      rw [hsz, Nat.mul_one, hzz]
      exact toList_madeCells_one _ _
    have := bsl_block (W := W.alloc (.cells (madeCells z.cells (n * i.size)) 5)) (r := W.heap.size) (cap := n) (l := zerosL n) (HasBlk.new _ _ _ _ rfl) (by omega) (fun j hj => by
      rw [← Array.getElem?_toList, hM]
      simp [zerosL, List.getElem?_replicate, List.getD_eq_getElem?_getD] at hj ⊢
      simp [hj])
    rwa [hl] at this

section
variable {ops : Array Oper} {w0 : World} {Q : Slots → Prop} {a : Act} {R : List (Tmp × Pred)} {o : Oper} {rest : List Oper}
theorem B_zeros {d : Tmp} {x : Operand} (n : Nat) (hn : n ≤ 1000000) (hd : o.dst = some d) (ho : o.op = .makeSlice 28 x x) (hx : a.eval x = .int .i64 n) (hB : (sideB true ops R a o && noSel o) = true)
    (hr : wpS Try.prog ops w0 Q rest (mix a ((d, fun v w => BSl w v (zerosL n)) :: R))) : wpS Try.prog ops w0 Q (o :: rest) (mix a R) := by
  obtain ⟨M, h1, h2⟩ := make_zeros n hn
  refine B_make _ (stays_bsl _) hd hB (fun x => ⟨_, _, ?_, Ext.of_below (balloc (Below.refl _ _) _), h2 _⟩) hr
  simp only [execOp, ho, hx, Sem.run_bind, h1, Result.andThen, Sem.run_pure]
/-- What Open answers: bytes, and an error's number. -/
def Opn (z : List UInt8) (er : Nat) : Pred := fun v w => ∃ u, v = .tuple #[u, .int .i64 er] ∧ BSl w u z
theorem stays_opn (z : List UInt8) (er : Nat) : Stays (Opn z er) := fun v w w' h ⟨u, h1, h2⟩ => ⟨u, h1, stays_bsl z u w w' h h2⟩
theorem B_ext0 {d s : Tmp} {z : List UInt8} {er : Nat} (hd : o.dst = some d) (ho : o.op = .extract (.tmp s) 0) (hs : relAt R s = some (Opn z er)) (hB : (sideC ops R a o && noSel o && (o.looksAt ops).all (fun t => t == s || (relAt R t).isNone) && (o.looksAt ops).contains s && decide (s < a.tmps.size)) = true)
    (hr : wpS Try.prog ops w0 Q rest (mix a ((d, fun v w => BSl w v z) :: R))) : wpS Try.prog ops w0 Q (o :: rest) (mix a R) := by
  have hz : s < a.tmps.size := by
    have hB' := hB
    simp only [Bool.and_eq_true] at hB'
    exact of_decide_eq_true hB'.2
  refine B_makeR _ (stays_bsl z) hd hs hB (fun x v hv => ?_) hr
  obtain ⟨u, rfl, hu⟩ := hv
  have hx : (a.put (some s) (.tuple #[u, .int .i64 er])).eval (.tmp s) = .tuple #[u, .int .i64 er] := by simp [Act.eval, Act.put, hz]
  exact ⟨u, _, by simp [execOp, ho, hx, Instr.extract, Result.andThen], Ext.refl _, hu⟩
theorem B_ext1 {s : Tmp} {z : List UInt8} {er : Nat} (ho : o.op = .extract (.tmp s) 1) (hs : relAt R s = some (Opn z er)) (hB : (sideC ops R a o && noSel o && (o.looksAt ops).all (fun t => t == s || (relAt R t).isNone) && (o.looksAt ops).contains s && decide (s < a.tmps.size)) = true)
    (hr : wpS Try.prog ops w0 Q rest (mix (a.put o.dst (.int .i64 er)) R)) : wpS Try.prog ops w0 Q (o :: rest) (mix a R) := by
  have hz : s < a.tmps.size := by
    have hB' := hB
    simp only [Bool.and_eq_true] at hB'
    exact of_decide_eq_true hB'.2
  refine B_readX hs hB (fun x v hv => ?_) hr
  obtain ⟨u, rfl, hu⟩ := hv
  have hx : (a.put (some s) (.tuple #[u, .int .i64 er])).eval (.tmp s) = .tuple #[u, .int .i64 er] := by simp [Act.eval, Act.put, hz]
  simp [execOp, ho, hx, Instr.extract, Result.andThen]
end

theorem wrap64_sm (n : Nat) (h : n ≤ 1000000000) : wrap64 (n : Int) = n := by simp only [wrap64]; omega
theorem and7 (a : Int) : ∃ m : Nat, m ≤ 7 ∧ bits .and .i64 a 7 = (m : Int) := by
  refine ⟨(BitVec.ofInt 64 a &&& 7#64).toNat, ?_, ?_⟩
  · rw [BitVec.toNat_and]; exact Nat.and_le_right
  · have h : (BitVec.ofInt 64 a &&& 7#64).toNat ≤ 7 := by rw [BitVec.toNat_and]; exact Nat.and_le_right
    show IntKind.i64.wrap ((BitVec.ofInt 64 a &&& BitVec.ofInt 64 7).toNat : Int) = _
    rw [show BitVec.ofInt 64 7 = 7#64 from rfl]
    exact IntWalk.i64_in _ (by omega)

set_option maxRecDepth 100000 in
set_option maxHeartbeats 4000000 in
theorem veilLong_big (k : BitVec 64) (more : Int) (A N m7 : Nat) (hA : more % 18446744073709551616 = (A : Int)) (hN : 65530 + A % 12 = N) (h7 : m7 ≤ 7) (hm7 : bits .and .i64 more 7 = (m7 : Int)) (hbig : 65536 < N) (w : World) :
    Calls Try.prog 16 #[.agg #[.int .u8 (by8 k 0), .int .u8 (by8 k 1), .int .u8 (by8 k 2), .int .u8 (by8 k 3), .int .u8 (by8 k 4), .int .u8 (by8 k 5), .int .u8 (by8 k 6), .int .u8 (by8 k 7)], .int .i64 more] w fun e w' => e = .returned (.bool true) ∧ Below w.heap.size w w' := by
  have hA1 : A < 18446744073709551616 := by omega
  have hAw : IntKind.u64.wrap more = (A : Int) := by rw [IntKind.wrap_u64]; exact hA
  have hN1 : N ≤ 65541 := by omega
  have hrem : (A : Int).tmod 12 = ((A % 12 : Nat) : Int) := by rw [Int.tmod_eq_emod_of_nonneg (by omega)]; omega
  obtain ⟨r12, hr12⟩ : ∃ r, r = A % 12 := ⟨_, rfl⟩
  rw [← hr12] at hN hrem
  have hr13 : r12 < 12 := by rw [hr12]; exact Nat.mod_lt _ (by decide)
  clear hr12
  have hadd : (65530 : Int) + (r12 : Int) = (N : Int) := by omega
  obtain ⟨NN, hNN0⟩ : ∃ NN : Nat, N + 8 = NN := ⟨_, rfl⟩
  have hNN : (N : Int) + 8 = (NN : Int) := by rw [← hNN0]; rfl
  have hNN1 : NN ≤ 1000000 := by omega
  have hm71 : m7 ≤ 1000000 := by omega
  obtain ⟨M, hmk, hMb⟩ := make_zeros N (by omega)
  have HMB := Lib.hid hMb
  have T6 : Hid (∀ W v, BSl W v (zerosL m7) → Calls Try.prog 40 #[.agg #[.int .u8 (by8 k 0), .int .u8 (by8 k 1), .int .u8 (by8 k 2), .int .u8 (by8 k 3), .int .u8 (by8 k 4), .int .u8 (by8 k 5), .int .u8 (by8 k 6), .int .u8 (by8 k 7)], v] W fun e w' => ∃ u, e = .returned u ∧ Below W.heap.size W w' ∧ Opn [] 4 u w') := fun W v hv => by
    have hl := zerosL_len m7
    refine (open_any k v (zerosL m7) (by omega) [] 4 (by unfold openF; rw [if_pos (by omega)]) W hv).mono ?_
    rintro e w' ⟨u, h1, h2, h3⟩
    exact ⟨_, h1, h2, u, rfl, h3.bsl⟩
  have T5 : Hid (∀ W v, BSl W v (zerosL NN) → Calls Try.prog 40 #[.agg #[.int .u8 (by8 k 0), .int .u8 (by8 k 1), .int .u8 (by8 k 2), .int .u8 (by8 k 3), .int .u8 (by8 k 4), .int .u8 (by8 k 5), .int .u8 (by8 k 6), .int .u8 (by8 k 7)], v] W fun e w' => ∃ u, e = .returned u ∧ Below W.heap.size W w' ∧ Opn [] 2 u w') := fun W v hv => by
    have hl := zerosL_len NN
    refine (open_any k v (zerosL NN) (by omega) [] 2 (by unfold openF; rw [if_neg (by omega), if_pos (by omega)]) W hv).mono ?_
    rintro e w' ⟨u, h1, h2, h3⟩
    exact ⟨_, h1, h2, u, rfl, h3.bsl⟩
  have heqz : ∀ W, (Op.equalIn 10000 24 (.agg #[.int .u8 0, .int .u8 0, .int .u8 0, .int .u8 0, .int .u8 0, .int .u8 0, .int .u8 0, .int .u8 0]) (.agg #[.int .u8 0, .int .u8 0, .int .u8 0, .int .u8 0, .int .u8 0, .int .u8 0, .int .u8 0, .int .u8 0])).run Try.prog W = .ok true W := fun W => by
    have h := eqd_dig 0#64 0#64 W
    have hz0 : (#[.int .u8 (by8 (0#64) 0), .int .u8 (by8 (0#64) 1), .int .u8 (by8 (0#64) 2), .int .u8 (by8 (0#64) 3), .int .u8 (by8 (0#64) 4), .int .u8 (by8 (0#64) 5), .int .u8 (by8 (0#64) 6), .int .u8 (by8 (0#64) 7)] : Array Value) = #[.int .u8 0, .int .u8 0, .int .u8 0, .int .u8 0, .int .u8 0, .int .u8 0, .int .u8 0, .int .u8 0] := by
      simp only [by8_eq]; rfl
    rw [hz0, beq_self_eq_true] at h
    exact h
  clear hMb
  go_enter Try.func16, Try.ntmps16
  go_wp2_with fail
  refine calls_mem (fun W => Mem W w [(⟨w.heap.size, 24, #[.int .u8 (by8 k 0), .int .u8 (by8 k 1), .int .u8 (by8 k 2), .int .u8 (by8 k 3), .int .u8 (by8 k 4), .int .u8 (by8 k 5), .int .u8 (by8 k 6), .int .u8 (by8 k 7)]⟩ : Blk)]) (((Mem.start w).key #[.int .u8 (by8 k 0), .int .u8 (by8 k 1), .int .u8 (by8 k 2), .int .u8 (by8 k 3), .int .u8 (by8 k 4), .int .u8 (by8 k 5), .int .u8 (by8 k 6), .int .u8 (by8 k 7)] 24 w.heap.size rfl).alloc _) ?_
  intro W1 M1
  have cK1 := M1.cell (b := w.heap.size) (t := 24) (cs := #[.int .u8 (by8 k 0), .int .u8 (by8 k 1), .int .u8 (by8 k 2), .int .u8 (by8 k 3), .int .u8 (by8 k 4), .int .u8 (by8 k 5), .int .u8 (by8 k 6), .int .u8 (by8 k 7)]) (by simp)
  have lK1 : w.heap.size < W1.heap.size := M1.lt (x := (⟨w.heap.size, 24, #[.int .u8 (by8 k 0), .int .u8 (by8 k 1), .int .u8 (by8 k 2), .int .u8 (by8 k 3), .int .u8 (by8 k 4), .int .u8 (by8 k 5), .int .u8 (by8 k 6), .int .u8 (by8 k 7)]⟩ : Blk)) (by simp)
  have HM1 := Lib.hid M1
  clear M1 hmk
  refine (seal_long k _ N N hbig W1).mono ?_
  rintro e w2 ⟨rfl, hb2⟩; obtain ⟨g2, d2, rfl⟩ := plus_of_below hb2; clear hb2
  go_wp2_with fail
  refine (commit_long k _ N N hbig _).mono ?_
  rintro e w3 ⟨rfl, hb3⟩; obtain ⟨g3, d3, rfl⟩ := plus_of_below hb3; clear hb3
  go_wp2_with fail
  refine wp_mem (fun W => Mem W w [(⟨W1.heap.size + (g2.size + g3.size), 24, #[.int .u8 0, .int .u8 0, .int .u8 0, .int .u8 0, .int .u8 0, .int .u8 0, .int .u8 0, .int .u8 0]⟩ : Blk), (⟨w.heap.size, 24, #[.int .u8 (by8 k 0), .int .u8 (by8 k 1), .int .u8 (by8 k 2), .int .u8 (by8 k 3), .int .u8 (by8 k 4), .int .u8 (by8 k 5), .int .u8 (by8 k 6), .int .u8 (by8 k 7)]⟩ : Blk)]) ((HM1.out.plus _ _).key _ _ (W1.heap.size + (g2.size + g3.size)) (by simp)) ?_
  intro W3 M3
  have HN3 : Hid (New w [(⟨W1.heap.size + (g2.size + g3.size), 24, #[.int .u8 0, .int .u8 0, .int .u8 0, .int .u8 0, .int .u8 0, .int .u8 0, .int .u8 0, .int .u8 0]⟩ : Blk), (⟨w.heap.size, 24, #[.int .u8 (by8 k 0), .int .u8 (by8 k 1), .int .u8 (by8 k 2), .int .u8 (by8 k 3), .int .u8 (by8 k 4), .int .u8 (by8 k 5), .int .u8 (by8 k 6), .int .u8 (by8 k 7)]⟩ : Blk)]) := New.cons (by have := HM1.out.size; show w.heap.size ≤ W1.heap.size + (g2.size + g3.size); omega) (New.cons (Nat.le_refl _) (New.nil _))
  have cK3 := M3.cell (b := w.heap.size) (t := 24) (cs := #[.int .u8 (by8 k 0), .int .u8 (by8 k 1), .int .u8 (by8 k 2), .int .u8 (by8 k 3), .int .u8 (by8 k 4), .int .u8 (by8 k 5), .int .u8 (by8 k 6), .int .u8 (by8 k 7)]) (by simp)
  have lK3 : w.heap.size < W3.heap.size := M3.lt (x := (⟨w.heap.size, 24, #[.int .u8 (by8 k 0), .int .u8 (by8 k 1), .int .u8 (by8 k 2), .int .u8 (by8 k 3), .int .u8 (by8 k 4), .int .u8 (by8 k 5), .int .u8 (by8 k 6), .int .u8 (by8 k 7)]⟩ : Blk)) (by simp)
  have cZ3 := M3.cell (b := W1.heap.size + (g2.size + g3.size)) (t := 24) (cs := #[.int .u8 0, .int .u8 0, .int .u8 0, .int .u8 0, .int .u8 0, .int .u8 0, .int .u8 0, .int .u8 0]) (by simp)
  have lZ3 : W1.heap.size + (g2.size + g3.size) < W3.heap.size := M3.lt (x := (⟨W1.heap.size + (g2.size + g3.size), 24, #[.int .u8 0, .int .u8 0, .int .u8 0, .int .u8 0, .int .u8 0, .int .u8 0, .int .u8 0, .int .u8 0]⟩ : Blk)) (by simp)
  have HBW := Lib.hid (M3.below HN3.out)
  clear M3 HM1 cK1 lK1 HN3
  refine wp_region_rq (by kernel_rfl) (by kernel_rfl) (by kernel_rfl) ?_
  repeat (first
    | (refine B_skip ?_ ?_; (· rfl); (try simp only [Act.put, List.setIfInBounds_toArray, List.set_cons_zero, List.set_cons_succ]))
    | (refine B_move rfl ?_ ?_; (· rfl); (try simp only [Act.eval, Act.put, Array.getD_eq_getD_getElem?, List.getElem?_toArray, List.getElem?_cons_succ, List.getElem?_cons_zero, Option.getD_some, List.setIfInBounds_toArray, List.set_cons_zero, List.set_cons_succ]))
    | (refine B_plain ?_ ?_; (· rfl); intro K hK; go_big_quiet_op; with_reducible refine hK _ ?_; clear hK K)
    | (refine B_zeros NN hNN1 rfl rfl ?_ ?_ ?_; (· rfl); (· rfl))
    | (refine B_callRR (Opn [] 2) (stays_opn _ _) rfl (f := 40) rfl (by kernel_rfl) ?_ (fun xq vs hvs => ?_) ?_; (· rfl); (· (obtain ⟨a1, _, rfl, e1, a2, _, rfl, e2, e4⟩ := hvs; cases e4; obtain rfl : a1 = .agg #[.int .u8 (by8 k 0), .int .u8 (by8 k 1), .int .u8 (by8 k 2), .int .u8 (by8 k 3), .int .u8 (by8 k 4), .int .u8 (by8 k 5), .int .u8 (by8 k 6), .int .u8 (by8 k 7)] := e1; exact retR (T5.out _ a2 e2))))
    | (refine B_moveR _ ?_ rfl (Or.inl rfl) rfl ?_ ?_; (· exact stays_opn _ _); (· rfl))
    | (refine B_ext0 rfl rfl rfl ?_ ?_; (· rfl))
    | (refine B_ext1 rfl rfl ?_ ?_; (· rfl); (try simp only [Act.put, List.setIfInBounds_toArray, List.set_cons_zero, List.set_cons_succ]))
    | (refine B_moveR _ ?_ rfl (Or.inr rfl) rfl ?_ ?_; (· exact stays_bsl _); (· rfl)))
  refine B_nil ?_ rfl ?_ ?_
  · kernel_rfl
  · rfl
  rintro _ ⟨⟨g5, d5⟩, rfl⟩
  simp only [fin, Act.put, List.setIfInBounds_toArray, List.set_cons_zero, List.set_cons_succ]
  intros
  go_wp2_with fail
  refine wp_region_rq (by kernel_rfl) (by kernel_rfl) (by kernel_rfl) ?_
  repeat (first
    | (refine B_skip ?_ ?_; (· rfl); (try simp only [Act.put, List.setIfInBounds_toArray, List.set_cons_zero, List.set_cons_succ]))
    | (refine B_move rfl ?_ ?_; (· rfl); (try simp only [Act.eval, Act.put, Array.getD_eq_getD_getElem?, List.getElem?_toArray, List.getElem?_cons_succ, List.getElem?_cons_zero, Option.getD_some, List.setIfInBounds_toArray, List.set_cons_zero, List.set_cons_succ]))
    | (refine B_plain ?_ ?_; (· rfl); intro K hK; go_big_quiet_op; with_reducible refine hK _ ?_; clear hK K)
    | (refine B_zeros m7 hm71 rfl rfl ?_ ?_ ?_; (· rfl); (· rfl))
    | (refine B_callRR (Opn [] 4) (stays_opn _ _) rfl (f := 40) rfl (by kernel_rfl) ?_ (fun xq vs hvs => ?_) ?_; (· rfl); (· (obtain ⟨a1, _, rfl, e1, a2, _, rfl, e2, e4⟩ := hvs; cases e4; obtain rfl : a1 = .agg #[.int .u8 (by8 k 0), .int .u8 (by8 k 1), .int .u8 (by8 k 2), .int .u8 (by8 k 3), .int .u8 (by8 k 4), .int .u8 (by8 k 5), .int .u8 (by8 k 6), .int .u8 (by8 k 7)] := e1; exact retR (T6.out _ a2 e2))))
    | (refine B_moveR _ ?_ rfl (Or.inl rfl) rfl ?_ ?_; (· exact stays_opn _ _); (· rfl))
    | (refine B_ext0 rfl rfl rfl ?_ ?_; (· rfl))
    | (refine B_ext1 rfl rfl ?_ ?_; (· rfl); (try simp only [Act.put, List.setIfInBounds_toArray, List.set_cons_zero, List.set_cons_succ]))
    | (refine B_moveR _ ?_ rfl (Or.inr rfl) rfl ?_ ?_; (· exact stays_bsl _); (· rfl)))
  refine B_nil ?_ rfl ?_ ?_
  · kernel_rfl
  · rfl
  rintro _ ⟨⟨g6, d6⟩, rfl⟩
  simp only [fin, Act.put, List.setIfInBounds_toArray, List.set_cons_zero, List.set_cons_succ]
  intros
  go_wp2_with fail
  refine (told_any _).mono ?_
  rintro e w7 ⟨rfl, hb7⟩; obtain ⟨g7, d7, rfl⟩ := plus_of_below hb7; clear hb7
  have hbi : (65536 : Int) < (N : Int) := by omega
  go_wp2_with fail
  refine (opens_long k _ _ N N hbig _).mono ?_
  rintro e w8 ⟨rfl, hb8⟩; obtain ⟨g8, d8, rfl⟩ := plus_of_below hb8; clear hb8
  go_wp2
  go_ret
  exact ⟨rfl, bplus HBW.out _ _⟩

set_option maxRecDepth 100000 in
set_option maxHeartbeats 4000000 in
theorem veilLong_small (k : BitVec 64) (more : Int) (A N m7 : Nat) (hA : more % 18446744073709551616 = (A : Int)) (hN : 65530 + A % 12 = N) (h7 : m7 ≤ 7) (hm7 : bits .and .i64 more 7 = (m7 : Int)) (hsm : N ≤ 65536) (w : World) :
    Calls Try.prog 16 #[.agg #[.int .u8 (by8 k 0), .int .u8 (by8 k 1), .int .u8 (by8 k 2), .int .u8 (by8 k 3), .int .u8 (by8 k 4), .int .u8 (by8 k 5), .int .u8 (by8 k 6), .int .u8 (by8 k 7)], .int .i64 more] w fun e w' => e = .returned (.bool true) ∧ Below w.heap.size w w' := by
  have hA1 : A < 18446744073709551616 := by omega
  have hAw : IntKind.u64.wrap more = (A : Int) := by rw [IntKind.wrap_u64]; exact hA
  have hN1 : N ≤ 65541 := by omega
  have hrem : (A : Int).tmod 12 = ((A % 12 : Nat) : Int) := by rw [Int.tmod_eq_emod_of_nonneg (by omega)]; omega
  obtain ⟨r12, hr12⟩ : ∃ r, r = A % 12 := ⟨_, rfl⟩
  rw [← hr12] at hN hrem
  have hr13 : r12 < 12 := by rw [hr12]; exact Nat.mod_lt _ (by decide)
  clear hr12
  have hadd : (65530 : Int) + (r12 : Int) = (N : Int) := by omega
  obtain ⟨NN, hNN0⟩ : ∃ NN : Nat, N + 8 = NN := ⟨_, rfl⟩
  have hNN : (N : Int) + 8 = (NN : Int) := by rw [← hNN0]; rfl
  have hNN1 : NN ≤ 1000000 := by omega
  have hm71 : m7 ≤ 1000000 := by omega
  obtain ⟨M, hmk, hMb⟩ := make_zeros N (by omega)
  have HMB := Lib.hid hMb
  have T6 : Hid (∀ W v, BSl W v (zerosL m7) → Calls Try.prog 40 #[.agg #[.int .u8 (by8 k 0), .int .u8 (by8 k 1), .int .u8 (by8 k 2), .int .u8 (by8 k 3), .int .u8 (by8 k 4), .int .u8 (by8 k 5), .int .u8 (by8 k 6), .int .u8 (by8 k 7)], v] W fun e w' => ∃ u, e = .returned u ∧ Below W.heap.size W w' ∧ Opn [] 4 u w') := fun W v hv => by
    have hl := zerosL_len m7
    refine (open_any k v (zerosL m7) (by omega) [] 4 (by unfold openF; rw [if_pos (by omega)]) W hv).mono ?_
    rintro e w' ⟨u, h1, h2, h3⟩
    exact ⟨_, h1, h2, u, rfl, h3.bsl⟩
  have hzl := zerosL_len N
  have hz6 : (zerosL N).length ≤ 65536 := by omega
  obtain ⟨zz, HZEROS⟩ : ∃ zz, Hid (zerosL N = zz) := ⟨_, rfl⟩
  rw [HZEROS.out] at HMB hzl hz6
  obtain ⟨y, HY⟩ : ∃ y, Hid (sealF k zz = y) := ⟨_, rfl⟩
  have hyl : y.length = NN := by rw [← HY.out, sealF_len]; omega
  obtain ⟨c, HC⟩ : ∃ c, Hid (commitF k zz = c) := ⟨_, rfl⟩
  obtain ⟨oz, oe, HO⟩ : ∃ oz oe, Hid (openF k (zerosL NN) = (oz, oe)) := ⟨_, _, rfl⟩
  have hoe : oe = 0 ∨ oe = 29 := by
    have h := HO.out
    have hl := zerosL_len NN
    unfold openF at h
    rw [if_neg (by omega), if_neg (by omega)] at h
    split at h <;> cases h <;> simp
  have hoe2 : ((oe : Int) == 2) = false := by rcases hoe with rfl | rfl <;> rfl
  have T5 : Hid (∀ W v, BSl W v (zerosL NN) → Calls Try.prog 40 #[.agg #[.int .u8 (by8 k 0), .int .u8 (by8 k 1), .int .u8 (by8 k 2), .int .u8 (by8 k 3), .int .u8 (by8 k 4), .int .u8 (by8 k 5), .int .u8 (by8 k 6), .int .u8 (by8 k 7)], v] W fun e w' => ∃ u, e = .returned u ∧ Below W.heap.size W w' ∧ Opn oz oe u w') := fun W v hv => by
    have hl := zerosL_len NN
    refine (open_any k v (zerosL NN) (by omega) oz oe HO.out W hv).mono ?_
    rintro e w' ⟨u, h1, h2, h3⟩
    exact ⟨_, h1, h2, u, rfl, h3.bsl⟩
  clear hMb
  go_enter Try.func16, Try.ntmps16
  go_wp2_with fail
  have hM2 := HMB.out (w.alloc (.cells #[.int .u8 (by8 k 0), .int .u8 (by8 k 1), .int .u8 (by8 k 2), .int .u8 (by8 k 3), .int .u8 (by8 k 4), .int .u8 (by8 k 5), .int .u8 (by8 k 6), .int .u8 (by8 k 7)] 24))
  rw [show (w.alloc (.cells #[.int .u8 (by8 k 0), .int .u8 (by8 k 1), .int .u8 (by8 k 2), .int .u8 (by8 k 3), .int .u8 (by8 k 4), .int .u8 (by8 k 5), .int .u8 (by8 k 6), .int .u8 (by8 k 7)] 24)).heap.size = w.heap.size + 1 by simp] at hM2
  refine calls_mem (fun W => Mem W w [(⟨w.heap.size, 24, #[.int .u8 (by8 k 0), .int .u8 (by8 k 1), .int .u8 (by8 k 2), .int .u8 (by8 k 3), .int .u8 (by8 k 4), .int .u8 (by8 k 5), .int .u8 (by8 k 6), .int .u8 (by8 k 7)]⟩ : Blk)] ∧ BSl W (.slice (some ⟨w.heap.size + 1, 0, none⟩) N N) zz) ⟨((Mem.start w).key #[.int .u8 (by8 k 0), .int .u8 (by8 k 1), .int .u8 (by8 k 2), .int .u8 (by8 k 3), .int .u8 (by8 k 4), .int .u8 (by8 k 5), .int .u8 (by8 k 6), .int .u8 (by8 k 7)] 24 w.heap.size rfl).alloc _, hM2⟩ ?_
  rintro W1 ⟨M1, hz1⟩
  clear hM2 hmk
  refine (seal_to k _ zz hz6 y HY.out W1 hz1).mono ?_
  rintro e W2 ⟨u, rfl, hB2, A2⟩
  have M2 := M1.of_below hB2
  have cK2 := M2.cell (b := w.heap.size) (t := 24) (cs := #[.int .u8 (by8 k 0), .int .u8 (by8 k 1), .int .u8 (by8 k 2), .int .u8 (by8 k 3), .int .u8 (by8 k 4), .int .u8 (by8 k 5), .int .u8 (by8 k 6), .int .u8 (by8 k 7)]) (by simp)
  have lK2 : w.heap.size < W2.heap.size := M2.lt (x := (⟨w.heap.size, 24, #[.int .u8 (by8 k 0), .int .u8 (by8 k 1), .int .u8 (by8 k 2), .int .u8 (by8 k 3), .int .u8 (by8 k 4), .int .u8 (by8 k 5), .int .u8 (by8 k 6), .int .u8 (by8 k 7)]⟩ : Blk)) (by simp)
  have hub := A2.bsl
  obtain ⟨uo, ucap, rfl, -⟩ := hub.open_
  rw [hyl]
  have HM2 := Lib.hid M2
  have HZ2 := Lib.hid (hz1.below hB2)
  clear M1 M2 hz1 hB2 A2 hub
  go_wp2_with fail
  refine (commit_to k _ zz hz6 c HC.out W2 HZ2.out).mono ?_
  rintro e w3 ⟨rfl, hb3⟩; obtain ⟨g3, d3, rfl⟩ := plus_of_below hb3; clear hb3
  go_wp2_with fail
  refine wp_mem (fun W => Mem W w [(⟨W2.heap.size + g3.size, 24, #[.int .u8 (by8 c 0), .int .u8 (by8 c 1), .int .u8 (by8 c 2), .int .u8 (by8 c 3), .int .u8 (by8 c 4), .int .u8 (by8 c 5), .int .u8 (by8 c 6), .int .u8 (by8 c 7)]⟩ : Blk), (⟨w.heap.size, 24, #[.int .u8 (by8 k 0), .int .u8 (by8 k 1), .int .u8 (by8 k 2), .int .u8 (by8 k 3), .int .u8 (by8 k 4), .int .u8 (by8 k 5), .int .u8 (by8 k 6), .int .u8 (by8 k 7)]⟩ : Blk)] ∧ BSl W (.slice (some ⟨w.heap.size + 1, 0, none⟩) N N) zz) ⟨(HM2.out.plus _ _).key _ _ (W2.heap.size + g3.size) (by simp), (HZ2.out.plus _ _).alloc _⟩ ?_
  rintro W3 ⟨M3, hz3⟩
  have HN3 : Hid (New w [(⟨W2.heap.size + g3.size, 24, #[.int .u8 (by8 c 0), .int .u8 (by8 c 1), .int .u8 (by8 c 2), .int .u8 (by8 c 3), .int .u8 (by8 c 4), .int .u8 (by8 c 5), .int .u8 (by8 c 6), .int .u8 (by8 c 7)]⟩ : Blk), (⟨w.heap.size, 24, #[.int .u8 (by8 k 0), .int .u8 (by8 k 1), .int .u8 (by8 k 2), .int .u8 (by8 k 3), .int .u8 (by8 k 4), .int .u8 (by8 k 5), .int .u8 (by8 k 6), .int .u8 (by8 k 7)]⟩ : Blk)]) := New.cons (by have := HM2.out.size; show w.heap.size ≤ W2.heap.size + g3.size; omega) (New.cons (Nat.le_refl _) (New.nil _))
  have cK3 := M3.cell (b := w.heap.size) (t := 24) (cs := #[.int .u8 (by8 k 0), .int .u8 (by8 k 1), .int .u8 (by8 k 2), .int .u8 (by8 k 3), .int .u8 (by8 k 4), .int .u8 (by8 k 5), .int .u8 (by8 k 6), .int .u8 (by8 k 7)]) (by simp)
  have lK3 : w.heap.size < W3.heap.size := M3.lt (x := (⟨w.heap.size, 24, #[.int .u8 (by8 k 0), .int .u8 (by8 k 1), .int .u8 (by8 k 2), .int .u8 (by8 k 3), .int .u8 (by8 k 4), .int .u8 (by8 k 5), .int .u8 (by8 k 6), .int .u8 (by8 k 7)]⟩ : Blk)) (by simp)
  have cZ3 := M3.cell (b := W2.heap.size + g3.size) (t := 24) (cs := #[.int .u8 (by8 c 0), .int .u8 (by8 c 1), .int .u8 (by8 c 2), .int .u8 (by8 c 3), .int .u8 (by8 c 4), .int .u8 (by8 c 5), .int .u8 (by8 c 6), .int .u8 (by8 c 7)]) (by simp)
  have lZ3 : W2.heap.size + g3.size < W3.heap.size := M3.lt (x := (⟨W2.heap.size + g3.size, 24, #[.int .u8 (by8 c 0), .int .u8 (by8 c 1), .int .u8 (by8 c 2), .int .u8 (by8 c 3), .int .u8 (by8 c 4), .int .u8 (by8 c 5), .int .u8 (by8 c 6), .int .u8 (by8 c 7)]⟩ : Blk)) (by simp)
  have HBW := Lib.hid (M3.below HN3.out)
  have HZ3 := Lib.hid hz3
  clear M3 HM2 HZ2 cK2 lK2 HN3 hz3
  refine wp_region_rq (by kernel_rfl) (by kernel_rfl) (by kernel_rfl) ?_
  repeat (first
    | (refine B_skip ?_ ?_; (· rfl); (try simp only [Act.put, List.setIfInBounds_toArray, List.set_cons_zero, List.set_cons_succ]))
    | (refine B_move rfl ?_ ?_; (· rfl); (try simp only [Act.eval, Act.put, Array.getD_eq_getD_getElem?, List.getElem?_toArray, List.getElem?_cons_succ, List.getElem?_cons_zero, Option.getD_some, List.setIfInBounds_toArray, List.set_cons_zero, List.set_cons_succ]))
    | (refine B_plain ?_ ?_; (· rfl); intro K hK; go_big_quiet_op; with_reducible refine hK _ ?_; clear hK K)
    | (refine B_zeros NN hNN1 rfl rfl ?_ ?_ ?_; (· rfl); (· rfl))
    | (refine B_callRR (Opn oz oe) (stays_opn _ _) rfl (f := 40) rfl (by kernel_rfl) ?_ (fun xq vs hvs => ?_) ?_; (· rfl); (· (obtain ⟨a1, _, rfl, e1, a2, _, rfl, e2, e4⟩ := hvs; cases e4; obtain rfl : a1 = .agg #[.int .u8 (by8 k 0), .int .u8 (by8 k 1), .int .u8 (by8 k 2), .int .u8 (by8 k 3), .int .u8 (by8 k 4), .int .u8 (by8 k 5), .int .u8 (by8 k 6), .int .u8 (by8 k 7)] := e1; exact retR (T5.out _ a2 e2))))
    | (refine B_moveR _ ?_ rfl (Or.inl rfl) rfl ?_ ?_; (· exact stays_opn _ _); (· rfl))
    | (refine B_ext0 rfl rfl rfl ?_ ?_; (· rfl))
    | (refine B_ext1 rfl rfl ?_ ?_; (· rfl); (try simp only [Act.put, List.setIfInBounds_toArray, List.set_cons_zero, List.set_cons_succ]))
    | (refine B_moveR _ ?_ rfl (Or.inr rfl) rfl ?_ ?_; (· exact stays_bsl _); (· rfl)))
  refine B_nil ?_ rfl ?_ ?_
  · kernel_rfl
  · rfl
  rintro _ ⟨⟨g5, d5⟩, rfl⟩
  simp only [fin, Act.put, List.setIfInBounds_toArray, List.set_cons_zero, List.set_cons_succ]
  intros
  go_wp2_with fail
  refine wp_region_rq (by kernel_rfl) (by kernel_rfl) (by kernel_rfl) ?_
  repeat (first
    | (refine B_skip ?_ ?_; (· rfl); (try simp only [Act.put, List.setIfInBounds_toArray, List.set_cons_zero, List.set_cons_succ]))
    | (refine B_move rfl ?_ ?_; (· rfl); (try simp only [Act.eval, Act.put, Array.getD_eq_getD_getElem?, List.getElem?_toArray, List.getElem?_cons_succ, List.getElem?_cons_zero, Option.getD_some, List.setIfInBounds_toArray, List.set_cons_zero, List.set_cons_succ]))
    | (refine B_plain ?_ ?_; (· rfl); intro K hK; go_big_quiet_op; with_reducible refine hK _ ?_; clear hK K)
    | (refine B_zeros m7 hm71 rfl rfl ?_ ?_ ?_; (· rfl); (· rfl))
    | (refine B_callRR (Opn [] 4) (stays_opn _ _) rfl (f := 40) rfl (by kernel_rfl) ?_ (fun xq vs hvs => ?_) ?_; (· rfl); (· (obtain ⟨a1, _, rfl, e1, a2, _, rfl, e2, e4⟩ := hvs; cases e4; obtain rfl : a1 = .agg #[.int .u8 (by8 k 0), .int .u8 (by8 k 1), .int .u8 (by8 k 2), .int .u8 (by8 k 3), .int .u8 (by8 k 4), .int .u8 (by8 k 5), .int .u8 (by8 k 6), .int .u8 (by8 k 7)] := e1; exact retR (T6.out _ a2 e2))))
    | (refine B_moveR _ ?_ rfl (Or.inl rfl) rfl ?_ ?_; (· exact stays_opn _ _); (· rfl))
    | (refine B_ext0 rfl rfl rfl ?_ ?_; (· rfl))
    | (refine B_ext1 rfl rfl ?_ ?_; (· rfl); (try simp only [Act.put, List.setIfInBounds_toArray, List.set_cons_zero, List.set_cons_succ]))
    | (refine B_moveR _ ?_ rfl (Or.inr rfl) rfl ?_ ?_; (· exact stays_bsl _); (· rfl)))
  refine B_nil ?_ rfl ?_ ?_
  · kernel_rfl
  · rfl
  rintro _ ⟨⟨g6, d6⟩, rfl⟩
  simp only [fin, Act.put, List.setIfInBounds_toArray, List.set_cons_zero, List.set_cons_succ]
  intros
  go_wp2_with fail
  refine (told_any _).mono ?_
  rintro e w7 ⟨rfl, hb7⟩; obtain ⟨g7, d7, rfl⟩ := plus_of_below hb7; clear hb7
  have hbi : ¬ ((65536 : Int) < (N : Int)) := by omega
  have hbj : ((N : Int) ≤ 65536) := by omega
  go_wp2_with fail
  refine (opens_to c k _ zz hz6 c HC.out true (by simp) _ (HZ3.out.plus _ _)).mono ?_
  rintro e w8 ⟨rfl, hb8⟩; obtain ⟨g8, d8, rfl⟩ := plus_of_below hb8; clear hb8
  go_wp2
  go_ret
  exact ⟨rfl, bplus HBW.out _ _⟩

theorem veilLong_any (k : BitVec 64) (more : Int) (w : World) :
    Calls Try.prog 16 #[.agg #[.int .u8 (by8 k 0), .int .u8 (by8 k 1), .int .u8 (by8 k 2), .int .u8 (by8 k 3), .int .u8 (by8 k 4), .int .u8 (by8 k 5), .int .u8 (by8 k 6), .int .u8 (by8 k 7)], .int .i64 more] w fun e w' => e = .returned (.bool true) ∧ Below w.heap.size w w' := by
  obtain ⟨m7, h7, hm7⟩ := and7 more
  by_cases h : 65530 + (more % 18446744073709551616).toNat % 12 ≤ 65536
  · exact veilLong_small k more (more % 18446744073709551616).toNat _ m7 (by omega) rfl h7 hm7 h w
  · exact veilLong_big k more (more % 18446744073709551616).toNat _ m7 (by omega) rfl h7 hm7 (by omega) w

end Go.Proofs.Ythdcfdfpfagamaa
