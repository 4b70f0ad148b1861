/- talk: the contract of the reference's Alike. -/
import Derived.Test.YtgjodjkmefdilaaTdt
import Derived.Test.YtgjodjkmefdilaaRs
namespace Go.Proofs.Ytgjodjkmefdilaa
set_option linter.unusedSimpArgs false
set_option linter.unusedVariables false
open Go.RowKit

theorem natq (a b : Nat) (c : Bool) (h : decide (a = b) = c) : ((a : Int) == (b : Int)) = c := by
  rw [← h, Bool.eq_iff_iff, beq_iff_eq, decide_eq_true_iff]; omega
section
variable (R S : RS) (a1 a2 a3 a4 : Option Addr) (c1 c2 c3 c4 : Nat) (w : World) (hR : RW 1000000 R) (hS : RW 1000000 S) (h1 : MsgL w [] (.slice a1 R.said.length c1) R.said) (h2 : MsgL w [] (.slice a2 R.took.length c2) R.took) (h3 : MsgL w [] (.slice a3 S.said.length c3) S.said) (h4 : MsgL w [] (.slice a4 S.took.length c4) S.took)
include hR hS h1 h2 h3 h4
set_option maxRecDepth 100000 in
set_option maxHeartbeats 4000000 in
theorem ra_f0  (k0 : ¬ (R.most = S.most)) :
    Calls Try.prog 27 #[.agg #[.int .i64 R.most, .int .i64 R.again, .slice a1 R.said.length c1, .int .i64 R.heard, .int .i64 R.out, .slice a2 R.took.length c2, .int .i64 R.gave, .int .i64 R.last, .bool R.went, .bool R.owes], .agg #[.int .i64 S.most, .int .i64 S.again, .slice a3 S.said.length c3, .int .i64 S.heard, .int .i64 S.out, .slice a4 S.took.length c4, .int .i64 S.gave, .int .i64 S.last, .bool S.went, .bool S.owes]] w fun e w' => e = .returned (.bool false) ∧ Below w.heap.size w w' := by
  have g0 := natq R.most S.most false (decide_eq_false k0)
  have K0 := Lib.hid k0
  clear k0
  have q1 := hR.le
  have q2 := hR.gave
  have q3 := hS.le
  have q4 := hS.gave
  have z1 := hR.said
  have z2 := hR.took
  have z3 := hS.said
  have z4 := hS.took
  have y1 := h1.cap.1
  have y2 := h2.cap.1
  have y3 := h3.cap.1
  have y4 := h4.cap.1
  obtain ⟨A1, hA1⟩ : ∃ A, (if c1 = R.heard then a1 else Option.map (fun x => x.add R.heard) a1) = A := ⟨_, rfl⟩
  obtain ⟨A2, hA2⟩ : ∃ A, (if c2 = R.gave then a2 else Option.map (fun x => x.add R.gave) a2) = A := ⟨_, rfl⟩
  obtain ⟨A3, hA3⟩ : ∃ A, (if c3 = S.heard then a3 else Option.map (fun x => x.add S.heard) a3) = A := ⟨_, rfl⟩
  obtain ⟨A4, hA4⟩ : ∃ A, (if c4 = S.gave then a4 else Option.map (fun x => x.add S.gave) a4) = A := ⟨_, rfl⟩
  have HO := Lib.hid (((Ow.start w).key #[.int .i64 R.most, .int .i64 R.again, .slice a1 R.said.length c1, .int .i64 R.heard, .int .i64 R.out, .slice a2 R.took.length c2, .int .i64 R.gave, .int .i64 R.last, .bool R.went, .bool R.owes] 27 w.heap.size rfl).key #[.int .i64 S.most, .int .i64 S.again, .slice a3 S.said.length c3, .int .i64 S.heard, .int .i64 S.out, .slice a4 S.took.length c4, .int .i64 S.gave, .int .i64 S.last, .bool S.went, .bool S.owes] 27 (w.heap.size + 1) (by simp))
  have H1 := Lib.hid (h1.rest R.heard q1 A1 hA1.symm)
  have H2 := Lib.hid (h2.rest R.gave q2 A2 hA2.symm)
  have H3 := Lib.hid (h3.rest S.heard q3 A3 hA3.symm)
  have H4 := Lib.hid (h4.rest S.gave q4 A4 hA4.symm)
  clear h1 h2 h3 h4 hR hS
  go_enter Try.func27, Try.ntmps27
  go_wp2
  refine wp_opq (fun W => Ow W w (⟨w.heap.size + 1, 27, #[.int .i64 S.most, .int .i64 S.again, .slice a3 S.said.length c3, .int .i64 S.heard, .int .i64 S.out, .slice a4 S.took.length c4, .int .i64 S.gave, .int .i64 S.last, .bool S.went, .bool S.owes]⟩ :: (⟨w.heap.size, 27, #[.int .i64 R.most, .int .i64 R.again, .slice a1 R.said.length c1, .int .i64 R.heard, .int .i64 R.out, .slice a2 R.took.length c2, .int .i64 R.gave, .int .i64 R.last, .bool R.went, .bool R.owes]⟩ :: []))) HO.out ?_
  intro W1 O1
  have hb1 := O1.has (b := w.heap.size) (t := 27) (cs := #[.int .i64 R.most, .int .i64 R.again, .slice a1 R.said.length c1, .int .i64 R.heard, .int .i64 R.out, .slice a2 R.took.length c2, .int .i64 R.gave, .int .i64 R.last, .bool R.went, .bool R.owes]) (by simp)
  have hb2 := O1.has (b := w.heap.size + 1) (t := 27) (cs := #[.int .i64 S.most, .int .i64 S.again, .slice a3 S.said.length c3, .int .i64 S.heard, .int .i64 S.out, .slice a4 S.took.length c4, .int .i64 S.gave, .int .i64 S.last, .bool S.went, .bool S.owes]) (by simp)
  have d0 := hb1.cell 0
  have d1 := hb1.cell 1
  have d2 := hb1.cell 2
  have d3 := hb1.cell 3
  have d4 := hb1.cell 4
  have d5 := hb1.cell 5
  have d6 := hb1.cell 6
  have d7 := hb1.cell 7
  have d8 := hb1.cell 8
  have d9 := hb1.cell 9
  have e0 := hb2.cell 0
  have e1 := hb2.cell 1
  have e2 := hb2.cell 2
  have e3 := hb2.cell 3
  have e4 := hb2.cell 4
  have e5 := hb2.cell 5
  have e6 := hb2.cell 6
  have e7 := hb2.cell 7
  have e8 := hb2.cell 8
  have e9 := hb2.cell 9
  have l1 := hb1.lt
  have l2 := hb2.lt
  have HO1 := Lib.hid O1
  clear hb1 hb2 O1
  refine wp_region_rs (by kernel_rfl) (by kernel_rfl) (by kernel_rfl) ?_
  repeat (first
    | (refine B_skip ?_ ?_; (· rfl); (try simp only [Act.put, List.setIfInBounds_toArray, List.set_cons_zero, List.set_cons_succ]))
    | (refine B_move rfl ?_ ?_; (· rfl); (try simp only [Act.eval, Act.put, Array.getD_eq_getD_getElem?, List.getElem?_toArray, List.getElem?_cons_succ, List.getElem?_cons_zero, Option.getD_some, List.setIfInBounds_toArray, List.set_cons_zero, List.set_cons_succ]))
    | (refine B_plain ?_ ?_; (· rfl); intro K hK; go_big_quiet_op; with_reducible refine hK _ ?_; clear hK K)
    | (refine B_nilck rfl rfl ?_ ?_; (· rfl); (try simp only [Act.put, List.setIfInBounds_toArray, List.set_cons_zero, List.set_cons_succ])))
  refine B_nil ?_ rfl ?_ ?_
  · kernel_rfl
  · rfl
  rintro _ ⟨⟨g1, d1⟩, rfl⟩
  simp only [fin, Act.put, List.setIfInBounds_toArray, List.set_cons_zero, List.set_cons_succ]
  go_wp2
  go_ret
  exact ⟨rfl, (HO1.out.plus _ _).below⟩
set_option maxRecDepth 100000 in
set_option maxHeartbeats 4000000 in
theorem ra_f1 (k0 : R.most = S.most) (k1 : ¬ (R.again = S.again)) :
    Calls Try.prog 27 #[.agg #[.int .i64 R.most, .int .i64 R.again, .slice a1 R.said.length c1, .int .i64 R.heard, .int .i64 R.out, .slice a2 R.took.length c2, .int .i64 R.gave, .int .i64 R.last, .bool R.went, .bool R.owes], .agg #[.int .i64 S.most, .int .i64 S.again, .slice a3 S.said.length c3, .int .i64 S.heard, .int .i64 S.out, .slice a4 S.took.length c4, .int .i64 S.gave, .int .i64 S.last, .bool S.went, .bool S.owes]] w fun e w' => e = .returned (.bool false) ∧ Below w.heap.size w w' := by
  have g0 := natq R.most S.most true (decide_eq_true k0)
  have K0 := Lib.hid k0
  clear k0
  have g1 := natq R.again S.again false (decide_eq_false k1)
  have K1 := Lib.hid k1
  clear k1
  have q1 := hR.le
  have q2 := hR.gave
  have q3 := hS.le
  have q4 := hS.gave
  have z1 := hR.said
  have z2 := hR.took
  have z3 := hS.said
  have z4 := hS.took
  have y1 := h1.cap.1
  have y2 := h2.cap.1
  have y3 := h3.cap.1
  have y4 := h4.cap.1
  obtain ⟨A1, hA1⟩ : ∃ A, (if c1 = R.heard then a1 else Option.map (fun x => x.add R.heard) a1) = A := ⟨_, rfl⟩
  obtain ⟨A2, hA2⟩ : ∃ A, (if c2 = R.gave then a2 else Option.map (fun x => x.add R.gave) a2) = A := ⟨_, rfl⟩
  obtain ⟨A3, hA3⟩ : ∃ A, (if c3 = S.heard then a3 else Option.map (fun x => x.add S.heard) a3) = A := ⟨_, rfl⟩
  obtain ⟨A4, hA4⟩ : ∃ A, (if c4 = S.gave then a4 else Option.map (fun x => x.add S.gave) a4) = A := ⟨_, rfl⟩
  have HO := Lib.hid (((Ow.start w).key #[.int .i64 R.most, .int .i64 R.again, .slice a1 R.said.length c1, .int .i64 R.heard, .int .i64 R.out, .slice a2 R.took.length c2, .int .i64 R.gave, .int .i64 R.last, .bool R.went, .bool R.owes] 27 w.heap.size rfl).key #[.int .i64 S.most, .int .i64 S.again, .slice a3 S.said.length c3, .int .i64 S.heard, .int .i64 S.out, .slice a4 S.took.length c4, .int .i64 S.gave, .int .i64 S.last, .bool S.went, .bool S.owes] 27 (w.heap.size + 1) (by simp))
  have H1 := Lib.hid (h1.rest R.heard q1 A1 hA1.symm)
  have H2 := Lib.hid (h2.rest R.gave q2 A2 hA2.symm)
  have H3 := Lib.hid (h3.rest S.heard q3 A3 hA3.symm)
  have H4 := Lib.hid (h4.rest S.gave q4 A4 hA4.symm)
  clear h1 h2 h3 h4 hR hS
  go_enter Try.func27, Try.ntmps27
  go_wp2
  refine wp_opq (fun W => Ow W w (⟨w.heap.size + 1, 27, #[.int .i64 S.most, .int .i64 S.again, .slice a3 S.said.length c3, .int .i64 S.heard, .int .i64 S.out, .slice a4 S.took.length c4, .int .i64 S.gave, .int .i64 S.last, .bool S.went, .bool S.owes]⟩ :: (⟨w.heap.size, 27, #[.int .i64 R.most, .int .i64 R.again, .slice a1 R.said.length c1, .int .i64 R.heard, .int .i64 R.out, .slice a2 R.took.length c2, .int .i64 R.gave, .int .i64 R.last, .bool R.went, .bool R.owes]⟩ :: []))) HO.out ?_
  intro W1 O1
  have hb1 := O1.has (b := w.heap.size) (t := 27) (cs := #[.int .i64 R.most, .int .i64 R.again, .slice a1 R.said.length c1, .int .i64 R.heard, .int .i64 R.out, .slice a2 R.took.length c2, .int .i64 R.gave, .int .i64 R.last, .bool R.went, .bool R.owes]) (by simp)
  have hb2 := O1.has (b := w.heap.size + 1) (t := 27) (cs := #[.int .i64 S.most, .int .i64 S.again, .slice a3 S.said.length c3, .int .i64 S.heard, .int .i64 S.out, .slice a4 S.took.length c4, .int .i64 S.gave, .int .i64 S.last, .bool S.went, .bool S.owes]) (by simp)
  have d0 := hb1.cell 0
  have d1 := hb1.cell 1
  have d2 := hb1.cell 2
  have d3 := hb1.cell 3
  have d4 := hb1.cell 4
  have d5 := hb1.cell 5
  have d6 := hb1.cell 6
  have d7 := hb1.cell 7
  have d8 := hb1.cell 8
  have d9 := hb1.cell 9
  have e0 := hb2.cell 0
  have e1 := hb2.cell 1
  have e2 := hb2.cell 2
  have e3 := hb2.cell 3
  have e4 := hb2.cell 4
  have e5 := hb2.cell 5
  have e6 := hb2.cell 6
  have e7 := hb2.cell 7
  have e8 := hb2.cell 8
  have e9 := hb2.cell 9
  have l1 := hb1.lt
  have l2 := hb2.lt
  have HO1 := Lib.hid O1
  clear hb1 hb2 O1
  refine wp_region_rs (by kernel_rfl) (by kernel_rfl) (by kernel_rfl) ?_
  repeat (first
    | (refine B_skip ?_ ?_; (· rfl); (try simp only [Act.put, List.setIfInBounds_toArray, List.set_cons_zero, List.set_cons_succ]))
    | (refine B_move rfl ?_ ?_; (· rfl); (try simp only [Act.eval, Act.put, Array.getD_eq_getD_getElem?, List.getElem?_toArray, List.getElem?_cons_succ, List.getElem?_cons_zero, Option.getD_some, List.setIfInBounds_toArray, List.set_cons_zero, List.set_cons_succ]))
    | (refine B_plain ?_ ?_; (· rfl); intro K hK; go_big_quiet_op; with_reducible refine hK _ ?_; clear hK K)
    | (refine B_nilck rfl rfl ?_ ?_; (· rfl); (try simp only [Act.put, List.setIfInBounds_toArray, List.set_cons_zero, List.set_cons_succ])))
  refine B_nil ?_ rfl ?_ ?_
  · kernel_rfl
  · rfl
  rintro _ ⟨⟨g1, d1⟩, rfl⟩
  simp only [fin, Act.put, List.setIfInBounds_toArray, List.set_cons_zero, List.set_cons_succ]
  go_wp2
  go_ret
  exact ⟨rfl, (HO1.out.plus _ _).below⟩
set_option maxRecDepth 100000 in
set_option maxHeartbeats 4000000 in
theorem ra_f2 (k0 : R.most = S.most) (k1 : R.again = S.again) (k2 : ¬ (R.said.length = S.said.length)) :
    Calls Try.prog 27 #[.agg #[.int .i64 R.most, .int .i64 R.again, .slice a1 R.said.length c1, .int .i64 R.heard, .int .i64 R.out, .slice a2 R.took.length c2, .int .i64 R.gave, .int .i64 R.last, .bool R.went, .bool R.owes], .agg #[.int .i64 S.most, .int .i64 S.again, .slice a3 S.said.length c3, .int .i64 S.heard, .int .i64 S.out, .slice a4 S.took.length c4, .int .i64 S.gave, .int .i64 S.last, .bool S.went, .bool S.owes]] w fun e w' => e = .returned (.bool false) ∧ Below w.heap.size w w' := by
  have g0 := natq R.most S.most true (decide_eq_true k0)
  have K0 := Lib.hid k0
  clear k0
  have g1 := natq R.again S.again true (decide_eq_true k1)
  have K1 := Lib.hid k1
  clear k1
  have g2 := natq R.said.length S.said.length false (decide_eq_false k2)
  have K2 := Lib.hid k2
  clear k2
  have q1 := hR.le
  have q2 := hR.gave
  have q3 := hS.le
  have q4 := hS.gave
  have z1 := hR.said
  have z2 := hR.took
  have z3 := hS.said
  have z4 := hS.took
  have y1 := h1.cap.1
  have y2 := h2.cap.1
  have y3 := h3.cap.1
  have y4 := h4.cap.1
  obtain ⟨A1, hA1⟩ : ∃ A, (if c1 = R.heard then a1 else Option.map (fun x => x.add R.heard) a1) = A := ⟨_, rfl⟩
  obtain ⟨A2, hA2⟩ : ∃ A, (if c2 = R.gave then a2 else Option.map (fun x => x.add R.gave) a2) = A := ⟨_, rfl⟩
  obtain ⟨A3, hA3⟩ : ∃ A, (if c3 = S.heard then a3 else Option.map (fun x => x.add S.heard) a3) = A := ⟨_, rfl⟩
  obtain ⟨A4, hA4⟩ : ∃ A, (if c4 = S.gave then a4 else Option.map (fun x => x.add S.gave) a4) = A := ⟨_, rfl⟩
  have HO := Lib.hid (((Ow.start w).key #[.int .i64 R.most, .int .i64 R.again, .slice a1 R.said.length c1, .int .i64 R.heard, .int .i64 R.out, .slice a2 R.took.length c2, .int .i64 R.gave, .int .i64 R.last, .bool R.went, .bool R.owes] 27 w.heap.size rfl).key #[.int .i64 S.most, .int .i64 S.again, .slice a3 S.said.length c3, .int .i64 S.heard, .int .i64 S.out, .slice a4 S.took.length c4, .int .i64 S.gave, .int .i64 S.last, .bool S.went, .bool S.owes] 27 (w.heap.size + 1) (by simp))
  have H1 := Lib.hid (h1.rest R.heard q1 A1 hA1.symm)
  have H2 := Lib.hid (h2.rest R.gave q2 A2 hA2.symm)
  have H3 := Lib.hid (h3.rest S.heard q3 A3 hA3.symm)
  have H4 := Lib.hid (h4.rest S.gave q4 A4 hA4.symm)
  clear h1 h2 h3 h4 hR hS
  go_enter Try.func27, Try.ntmps27
  go_wp2
  refine wp_opq (fun W => Ow W w (⟨w.heap.size + 1, 27, #[.int .i64 S.most, .int .i64 S.again, .slice a3 S.said.length c3, .int .i64 S.heard, .int .i64 S.out, .slice a4 S.took.length c4, .int .i64 S.gave, .int .i64 S.last, .bool S.went, .bool S.owes]⟩ :: (⟨w.heap.size, 27, #[.int .i64 R.most, .int .i64 R.again, .slice a1 R.said.length c1, .int .i64 R.heard, .int .i64 R.out, .slice a2 R.took.length c2, .int .i64 R.gave, .int .i64 R.last, .bool R.went, .bool R.owes]⟩ :: []))) HO.out ?_
  intro W1 O1
  have hb1 := O1.has (b := w.heap.size) (t := 27) (cs := #[.int .i64 R.most, .int .i64 R.again, .slice a1 R.said.length c1, .int .i64 R.heard, .int .i64 R.out, .slice a2 R.took.length c2, .int .i64 R.gave, .int .i64 R.last, .bool R.went, .bool R.owes]) (by simp)
  have hb2 := O1.has (b := w.heap.size + 1) (t := 27) (cs := #[.int .i64 S.most, .int .i64 S.again, .slice a3 S.said.length c3, .int .i64 S.heard, .int .i64 S.out, .slice a4 S.took.length c4, .int .i64 S.gave, .int .i64 S.last, .bool S.went, .bool S.owes]) (by simp)
  have d0 := hb1.cell 0
  have d1 := hb1.cell 1
  have d2 := hb1.cell 2
  have d3 := hb1.cell 3
  have d4 := hb1.cell 4
  have d5 := hb1.cell 5
  have d6 := hb1.cell 6
  have d7 := hb1.cell 7
  have d8 := hb1.cell 8
  have d9 := hb1.cell 9
  have e0 := hb2.cell 0
  have e1 := hb2.cell 1
  have e2 := hb2.cell 2
  have e3 := hb2.cell 3
  have e4 := hb2.cell 4
  have e5 := hb2.cell 5
  have e6 := hb2.cell 6
  have e7 := hb2.cell 7
  have e8 := hb2.cell 8
  have e9 := hb2.cell 9
  have l1 := hb1.lt
  have l2 := hb2.lt
  have HO1 := Lib.hid O1
  clear hb1 hb2 O1
  refine wp_region_rs (by kernel_rfl) (by kernel_rfl) (by kernel_rfl) ?_
  repeat (first
    | (refine B_skip ?_ ?_; (· rfl); (try simp only [Act.put, List.setIfInBounds_toArray, List.set_cons_zero, List.set_cons_succ]))
    | (refine B_move rfl ?_ ?_; (· rfl); (try simp only [Act.eval, Act.put, Array.getD_eq_getD_getElem?, List.getElem?_toArray, List.getElem?_cons_succ, List.getElem?_cons_zero, Option.getD_some, List.setIfInBounds_toArray, List.set_cons_zero, List.set_cons_succ]))
    | (refine B_plain ?_ ?_; (· rfl); intro K hK; go_big_quiet_op; with_reducible refine hK _ ?_; clear hK K)
    | (refine B_nilck rfl rfl ?_ ?_; (· rfl); (try simp only [Act.put, List.setIfInBounds_toArray, List.set_cons_zero, List.set_cons_succ])))
  refine B_nil ?_ rfl ?_ ?_
  · kernel_rfl
  · rfl
  rintro _ ⟨⟨g1, d1⟩, rfl⟩
  simp only [fin, Act.put, List.setIfInBounds_toArray, List.set_cons_zero, List.set_cons_succ]
  go_wp2
  go_ret
  exact ⟨rfl, (HO1.out.plus _ _).below⟩
set_option maxRecDepth 100000 in
set_option maxHeartbeats 4000000 in
theorem ra_f3 (k0 : R.most = S.most) (k1 : R.again = S.again) (k2 : R.said.length = S.said.length) (k3 : ¬ (R.said.drop R.heard = S.said.drop S.heard)) :
    Calls Try.prog 27 #[.agg #[.int .i64 R.most, .int .i64 R.again, .slice a1 R.said.length c1, .int .i64 R.heard, .int .i64 R.out, .slice a2 R.took.length c2, .int .i64 R.gave, .int .i64 R.last, .bool R.went, .bool R.owes], .agg #[.int .i64 S.most, .int .i64 S.again, .slice a3 S.said.length c3, .int .i64 S.heard, .int .i64 S.out, .slice a4 S.took.length c4, .int .i64 S.gave, .int .i64 S.last, .bool S.went, .bool S.owes]] w fun e w' => e = .returned (.bool false) ∧ Below w.heap.size w w' := by
  have g0 := natq R.most S.most true (decide_eq_true k0)
  have K0 := Lib.hid k0
  clear k0
  have g1 := natq R.again S.again true (decide_eq_true k1)
  have K1 := Lib.hid k1
  clear k1
  have g2 := natq R.said.length S.said.length true (decide_eq_true k2)
  have K2 := Lib.hid k2
  clear k2
  have K3 := Lib.hid k3
  clear k3
  have q1 := hR.le
  have q2 := hR.gave
  have q3 := hS.le
  have q4 := hS.gave
  have z1 := hR.said
  have z2 := hR.took
  have z3 := hS.said
  have z4 := hS.took
  have y1 := h1.cap.1
  have y2 := h2.cap.1
  have y3 := h3.cap.1
  have y4 := h4.cap.1
  obtain ⟨A1, hA1⟩ : ∃ A, (if c1 = R.heard then a1 else Option.map (fun x => x.add R.heard) a1) = A := ⟨_, rfl⟩
  obtain ⟨A2, hA2⟩ : ∃ A, (if c2 = R.gave then a2 else Option.map (fun x => x.add R.gave) a2) = A := ⟨_, rfl⟩
  obtain ⟨A3, hA3⟩ : ∃ A, (if c3 = S.heard then a3 else Option.map (fun x => x.add S.heard) a3) = A := ⟨_, rfl⟩
  obtain ⟨A4, hA4⟩ : ∃ A, (if c4 = S.gave then a4 else Option.map (fun x => x.add S.gave) a4) = A := ⟨_, rfl⟩
  have HO := Lib.hid (((Ow.start w).key #[.int .i64 R.most, .int .i64 R.again, .slice a1 R.said.length c1, .int .i64 R.heard, .int .i64 R.out, .slice a2 R.took.length c2, .int .i64 R.gave, .int .i64 R.last, .bool R.went, .bool R.owes] 27 w.heap.size rfl).key #[.int .i64 S.most, .int .i64 S.again, .slice a3 S.said.length c3, .int .i64 S.heard, .int .i64 S.out, .slice a4 S.took.length c4, .int .i64 S.gave, .int .i64 S.last, .bool S.went, .bool S.owes] 27 (w.heap.size + 1) (by simp))
  have H1 := Lib.hid (h1.rest R.heard q1 A1 hA1.symm)
  have H2 := Lib.hid (h2.rest R.gave q2 A2 hA2.symm)
  have H3 := Lib.hid (h3.rest S.heard q3 A3 hA3.symm)
  have H4 := Lib.hid (h4.rest S.gave q4 A4 hA4.symm)
  clear h1 h2 h3 h4 hR hS
  go_enter Try.func27, Try.ntmps27
  go_wp2
  refine wp_opq (fun W => Ow W w (⟨w.heap.size + 1, 27, #[.int .i64 S.most, .int .i64 S.again, .slice a3 S.said.length c3, .int .i64 S.heard, .int .i64 S.out, .slice a4 S.took.length c4, .int .i64 S.gave, .int .i64 S.last, .bool S.went, .bool S.owes]⟩ :: (⟨w.heap.size, 27, #[.int .i64 R.most, .int .i64 R.again, .slice a1 R.said.length c1, .int .i64 R.heard, .int .i64 R.out, .slice a2 R.took.length c2, .int .i64 R.gave, .int .i64 R.last, .bool R.went, .bool R.owes]⟩ :: []))) HO.out ?_
  intro W1 O1
  have hb1 := O1.has (b := w.heap.size) (t := 27) (cs := #[.int .i64 R.most, .int .i64 R.again, .slice a1 R.said.length c1, .int .i64 R.heard, .int .i64 R.out, .slice a2 R.took.length c2, .int .i64 R.gave, .int .i64 R.last, .bool R.went, .bool R.owes]) (by simp)
  have hb2 := O1.has (b := w.heap.size + 1) (t := 27) (cs := #[.int .i64 S.most, .int .i64 S.again, .slice a3 S.said.length c3, .int .i64 S.heard, .int .i64 S.out, .slice a4 S.took.length c4, .int .i64 S.gave, .int .i64 S.last, .bool S.went, .bool S.owes]) (by simp)
  have d0 := hb1.cell 0
  have d1 := hb1.cell 1
  have d2 := hb1.cell 2
  have d3 := hb1.cell 3
  have d4 := hb1.cell 4
  have d5 := hb1.cell 5
  have d6 := hb1.cell 6
  have d7 := hb1.cell 7
  have d8 := hb1.cell 8
  have d9 := hb1.cell 9
  have e0 := hb2.cell 0
  have e1 := hb2.cell 1
  have e2 := hb2.cell 2
  have e3 := hb2.cell 3
  have e4 := hb2.cell 4
  have e5 := hb2.cell 5
  have e6 := hb2.cell 6
  have e7 := hb2.cell 7
  have e8 := hb2.cell 8
  have e9 := hb2.cell 9
  have l1 := hb1.lt
  have l2 := hb2.lt
  have HO1 := Lib.hid O1
  clear hb1 hb2 O1
  have E1 : Hid (∀ g d, Calls Try.prog 17 #[.slice A1 (R.said.length - R.heard) (c1 - R.heard), .slice A3 (S.said.length - S.heard) (c3 - S.heard)] (plus W1 g d) fun e w' => e = .returned (.bool false) ∧ Below (plus W1 g d).heap.size (plus W1 g d) w') := fun g d => (same_to _ _ (R.said.drop R.heard) (S.said.drop S.heard) _ (by simp; omega) (by simp; omega) (H1.out.here (HO1.out.plus g d) sub_nil) (H3.out.here (HO1.out.plus g d) sub_nil) false (decide_eq_false K3.out)).mono fun e w' hh => ⟨hh.1, hh.2.below⟩
  refine wp_region_rs (by kernel_rfl) (by kernel_rfl) (by kernel_rfl) ?_
  repeat (first
    | (refine B_skip ?_ ?_; (· rfl); (try simp only [Act.put, List.setIfInBounds_toArray, List.set_cons_zero, List.set_cons_succ]))
    | (refine B_move rfl ?_ ?_; (· rfl); (try simp only [Act.eval, Act.put, Array.getD_eq_getD_getElem?, List.getElem?_toArray, List.getElem?_cons_succ, List.getElem?_cons_zero, Option.getD_some, List.setIfInBounds_toArray, List.set_cons_zero, List.set_cons_succ]))
    | (refine B_plain ?_ ?_; (· rfl); intro K hK; go_big_quiet_op; with_reducible refine hK _ ?_; clear hK K)
    | (refine B_callX (v := ?_) (f := 17) rfl (by kernel_rfl) ?_ (fun xq => ?_) ?_; rotate_left; (· rfl); (· ((simp only [List.map_toArray, List.map_cons, List.map_nil, Act.eval, Array.getD_eq_getD_getElem?, List.getElem?_toArray, List.getElem?_cons_succ, List.getElem?_cons_zero, Option.getD_some]); with_reducible apply retB; with_reducible exact (E1.out _ _))); (try simp only [Act.put, List.setIfInBounds_toArray, List.set_cons_zero, List.set_cons_succ]))
    | (refine B_nilck rfl rfl ?_ ?_; (· rfl); (try simp only [Act.put, List.setIfInBounds_toArray, List.set_cons_zero, List.set_cons_succ])))
  refine B_nil ?_ rfl ?_ ?_
  · kernel_rfl
  · rfl
  rintro _ ⟨⟨g1, d1⟩, rfl⟩
  simp only [fin, Act.put, List.setIfInBounds_toArray, List.set_cons_zero, List.set_cons_succ]
  go_wp2
  go_ret
  exact ⟨rfl, (HO1.out.plus _ _).below⟩
set_option maxRecDepth 100000 in
set_option maxHeartbeats 4000000 in
theorem ra_f4 (k0 : R.most = S.most) (k1 : R.again = S.again) (k2 : R.said.length = S.said.length) (k3 : R.said.drop R.heard = S.said.drop S.heard) (k4 : ¬ (R.heard = S.heard)) :
    Calls Try.prog 27 #[.agg #[.int .i64 R.most, .int .i64 R.again, .slice a1 R.said.length c1, .int .i64 R.heard, .int .i64 R.out, .slice a2 R.took.length c2, .int .i64 R.gave, .int .i64 R.last, .bool R.went, .bool R.owes], .agg #[.int .i64 S.most, .int .i64 S.again, .slice a3 S.said.length c3, .int .i64 S.heard, .int .i64 S.out, .slice a4 S.took.length c4, .int .i64 S.gave, .int .i64 S.last, .bool S.went, .bool S.owes]] w fun e w' => e = .returned (.bool false) ∧ Below w.heap.size w w' := by
  have g0 := natq R.most S.most true (decide_eq_true k0)
  have K0 := Lib.hid k0
  clear k0
  have g1 := natq R.again S.again true (decide_eq_true k1)
  have K1 := Lib.hid k1
  clear k1
  have g2 := natq R.said.length S.said.length true (decide_eq_true k2)
  have K2 := Lib.hid k2
  clear k2
  have K3 := Lib.hid k3
  clear k3
  have g4 := natq R.heard S.heard false (decide_eq_false k4)
  have K4 := Lib.hid k4
  clear k4
  have q1 := hR.le
  have q2 := hR.gave
  have q3 := hS.le
  have q4 := hS.gave
  have z1 := hR.said
  have z2 := hR.took
  have z3 := hS.said
  have z4 := hS.took
  have y1 := h1.cap.1
  have y2 := h2.cap.1
  have y3 := h3.cap.1
  have y4 := h4.cap.1
  obtain ⟨A1, hA1⟩ : ∃ A, (if c1 = R.heard then a1 else Option.map (fun x => x.add R.heard) a1) = A := ⟨_, rfl⟩
  obtain ⟨A2, hA2⟩ : ∃ A, (if c2 = R.gave then a2 else Option.map (fun x => x.add R.gave) a2) = A := ⟨_, rfl⟩
  obtain ⟨A3, hA3⟩ : ∃ A, (if c3 = S.heard then a3 else Option.map (fun x => x.add S.heard) a3) = A := ⟨_, rfl⟩
  obtain ⟨A4, hA4⟩ : ∃ A, (if c4 = S.gave then a4 else Option.map (fun x => x.add S.gave) a4) = A := ⟨_, rfl⟩
  have HO := Lib.hid (((Ow.start w).key #[.int .i64 R.most, .int .i64 R.again, .slice a1 R.said.length c1, .int .i64 R.heard, .int .i64 R.out, .slice a2 R.took.length c2, .int .i64 R.gave, .int .i64 R.last, .bool R.went, .bool R.owes] 27 w.heap.size rfl).key #[.int .i64 S.most, .int .i64 S.again, .slice a3 S.said.length c3, .int .i64 S.heard, .int .i64 S.out, .slice a4 S.took.length c4, .int .i64 S.gave, .int .i64 S.last, .bool S.went, .bool S.owes] 27 (w.heap.size + 1) (by simp))
  have H1 := Lib.hid (h1.rest R.heard q1 A1 hA1.symm)
  have H2 := Lib.hid (h2.rest R.gave q2 A2 hA2.symm)
  have H3 := Lib.hid (h3.rest S.heard q3 A3 hA3.symm)
  have H4 := Lib.hid (h4.rest S.gave q4 A4 hA4.symm)
  clear h1 h2 h3 h4 hR hS
  go_enter Try.func27, Try.ntmps27
  go_wp2
  refine wp_opq (fun W => Ow W w (⟨w.heap.size + 1, 27, #[.int .i64 S.most, .int .i64 S.again, .slice a3 S.said.length c3, .int .i64 S.heard, .int .i64 S.out, .slice a4 S.took.length c4, .int .i64 S.gave, .int .i64 S.last, .bool S.went, .bool S.owes]⟩ :: (⟨w.heap.size, 27, #[.int .i64 R.most, .int .i64 R.again, .slice a1 R.said.length c1, .int .i64 R.heard, .int .i64 R.out, .slice a2 R.took.length c2, .int .i64 R.gave, .int .i64 R.last, .bool R.went, .bool R.owes]⟩ :: []))) HO.out ?_
  intro W1 O1
  have hb1 := O1.has (b := w.heap.size) (t := 27) (cs := #[.int .i64 R.most, .int .i64 R.again, .slice a1 R.said.length c1, .int .i64 R.heard, .int .i64 R.out, .slice a2 R.took.length c2, .int .i64 R.gave, .int .i64 R.last, .bool R.went, .bool R.owes]) (by simp)
  have hb2 := O1.has (b := w.heap.size + 1) (t := 27) (cs := #[.int .i64 S.most, .int .i64 S.again, .slice a3 S.said.length c3, .int .i64 S.heard, .int .i64 S.out, .slice a4 S.took.length c4, .int .i64 S.gave, .int .i64 S.last, .bool S.went, .bool S.owes]) (by simp)
  have d0 := hb1.cell 0
  have d1 := hb1.cell 1
  have d2 := hb1.cell 2
  have d3 := hb1.cell 3
  have d4 := hb1.cell 4
  have d5 := hb1.cell 5
  have d6 := hb1.cell 6
  have d7 := hb1.cell 7
  have d8 := hb1.cell 8
  have d9 := hb1.cell 9
  have e0 := hb2.cell 0
  have e1 := hb2.cell 1
  have e2 := hb2.cell 2
  have e3 := hb2.cell 3
  have e4 := hb2.cell 4
  have e5 := hb2.cell 5
  have e6 := hb2.cell 6
  have e7 := hb2.cell 7
  have e8 := hb2.cell 8
  have e9 := hb2.cell 9
  have l1 := hb1.lt
  have l2 := hb2.lt
  have HO1 := Lib.hid O1
  clear hb1 hb2 O1
  have E1 : Hid (∀ g d, Calls Try.prog 17 #[.slice A1 (R.said.length - R.heard) (c1 - R.heard), .slice A3 (S.said.length - S.heard) (c3 - S.heard)] (plus W1 g d) fun e w' => e = .returned (.bool true) ∧ Below (plus W1 g d).heap.size (plus W1 g d) w') := fun g d => (same_to _ _ (R.said.drop R.heard) (S.said.drop S.heard) _ (by simp; omega) (by simp; omega) (H1.out.here (HO1.out.plus g d) sub_nil) (H3.out.here (HO1.out.plus g d) sub_nil) true (decide_eq_true K3.out)).mono fun e w' hh => ⟨hh.1, hh.2.below⟩
  refine wp_region_rs (by kernel_rfl) (by kernel_rfl) (by kernel_rfl) ?_
  repeat (first
    | (refine B_skip ?_ ?_; (· rfl); (try simp only [Act.put, List.setIfInBounds_toArray, List.set_cons_zero, List.set_cons_succ]))
    | (refine B_move rfl ?_ ?_; (· rfl); (try simp only [Act.eval, Act.put, Array.getD_eq_getD_getElem?, List.getElem?_toArray, List.getElem?_cons_succ, List.getElem?_cons_zero, Option.getD_some, List.setIfInBounds_toArray, List.set_cons_zero, List.set_cons_succ]))
    | (refine B_plain ?_ ?_; (· rfl); intro K hK; go_big_quiet_op; with_reducible refine hK _ ?_; clear hK K)
    | (refine B_callX (v := ?_) (f := 17) rfl (by kernel_rfl) ?_ (fun xq => ?_) ?_; rotate_left; (· rfl); (· ((simp only [List.map_toArray, List.map_cons, List.map_nil, Act.eval, Array.getD_eq_getD_getElem?, List.getElem?_toArray, List.getElem?_cons_succ, List.getElem?_cons_zero, Option.getD_some]); with_reducible apply retB; with_reducible exact (E1.out _ _))); (try simp only [Act.put, List.setIfInBounds_toArray, List.set_cons_zero, List.set_cons_succ]))
    | (refine B_nilck rfl rfl ?_ ?_; (· rfl); (try simp only [Act.put, List.setIfInBounds_toArray, List.set_cons_zero, List.set_cons_succ])))
  refine B_nil ?_ rfl ?_ ?_
  · kernel_rfl
  · rfl
  rintro _ ⟨⟨g1, d1⟩, rfl⟩
  simp only [fin, Act.put, List.setIfInBounds_toArray, List.set_cons_zero, List.set_cons_succ]
  go_wp2
  go_ret
  exact ⟨rfl, (HO1.out.plus _ _).below⟩
set_option maxRecDepth 100000 in
set_option maxHeartbeats 4000000 in
theorem ra_f5 (k0 : R.most = S.most) (k1 : R.again = S.again) (k2 : R.said.length = S.said.length) (k3 : R.said.drop R.heard = S.said.drop S.heard) (k4 : R.heard = S.heard) (k5 : ¬ (R.out = S.out)) :
    Calls Try.prog 27 #[.agg #[.int .i64 R.most, .int .i64 R.again, .slice a1 R.said.length c1, .int .i64 R.heard, .int .i64 R.out, .slice a2 R.took.length c2, .int .i64 R.gave, .int .i64 R.last, .bool R.went, .bool R.owes], .agg #[.int .i64 S.most, .int .i64 S.again, .slice a3 S.said.length c3, .int .i64 S.heard, .int .i64 S.out, .slice a4 S.took.length c4, .int .i64 S.gave, .int .i64 S.last, .bool S.went, .bool S.owes]] w fun e w' => e = .returned (.bool false) ∧ Below w.heap.size w w' := by
  have g0 := natq R.most S.most true (decide_eq_true k0)
  have K0 := Lib.hid k0
  clear k0
  have g1 := natq R.again S.again true (decide_eq_true k1)
  have K1 := Lib.hid k1
  clear k1
  have g2 := natq R.said.length S.said.length true (decide_eq_true k2)
  have K2 := Lib.hid k2
  clear k2
  have K3 := Lib.hid k3
  clear k3
  have g4 := natq R.heard S.heard true (decide_eq_true k4)
  have K4 := Lib.hid k4
  clear k4
  have g5 := natq R.out S.out false (decide_eq_false k5)
  have K5 := Lib.hid k5
  clear k5
  have q1 := hR.le
  have q2 := hR.gave
  have q3 := hS.le
  have q4 := hS.gave
  have z1 := hR.said
  have z2 := hR.took
  have z3 := hS.said
  have z4 := hS.took
  have y1 := h1.cap.1
  have y2 := h2.cap.1
  have y3 := h3.cap.1
  have y4 := h4.cap.1
  obtain ⟨A1, hA1⟩ : ∃ A, (if c1 = R.heard then a1 else Option.map (fun x => x.add R.heard) a1) = A := ⟨_, rfl⟩
  obtain ⟨A2, hA2⟩ : ∃ A, (if c2 = R.gave then a2 else Option.map (fun x => x.add R.gave) a2) = A := ⟨_, rfl⟩
  obtain ⟨A3, hA3⟩ : ∃ A, (if c3 = S.heard then a3 else Option.map (fun x => x.add S.heard) a3) = A := ⟨_, rfl⟩
  obtain ⟨A4, hA4⟩ : ∃ A, (if c4 = S.gave then a4 else Option.map (fun x => x.add S.gave) a4) = A := ⟨_, rfl⟩
  have HO := Lib.hid (((Ow.start w).key #[.int .i64 R.most, .int .i64 R.again, .slice a1 R.said.length c1, .int .i64 R.heard, .int .i64 R.out, .slice a2 R.took.length c2, .int .i64 R.gave, .int .i64 R.last, .bool R.went, .bool R.owes] 27 w.heap.size rfl).key #[.int .i64 S.most, .int .i64 S.again, .slice a3 S.said.length c3, .int .i64 S.heard, .int .i64 S.out, .slice a4 S.took.length c4, .int .i64 S.gave, .int .i64 S.last, .bool S.went, .bool S.owes] 27 (w.heap.size + 1) (by simp))
  have H1 := Lib.hid (h1.rest R.heard q1 A1 hA1.symm)
  have H2 := Lib.hid (h2.rest R.gave q2 A2 hA2.symm)
  have H3 := Lib.hid (h3.rest S.heard q3 A3 hA3.symm)
  have H4 := Lib.hid (h4.rest S.gave q4 A4 hA4.symm)
  clear h1 h2 h3 h4 hR hS
  go_enter Try.func27, Try.ntmps27
  go_wp2
  refine wp_opq (fun W => Ow W w (⟨w.heap.size + 1, 27, #[.int .i64 S.most, .int .i64 S.again, .slice a3 S.said.length c3, .int .i64 S.heard, .int .i64 S.out, .slice a4 S.took.length c4, .int .i64 S.gave, .int .i64 S.last, .bool S.went, .bool S.owes]⟩ :: (⟨w.heap.size, 27, #[.int .i64 R.most, .int .i64 R.again, .slice a1 R.said.length c1, .int .i64 R.heard, .int .i64 R.out, .slice a2 R.took.length c2, .int .i64 R.gave, .int .i64 R.last, .bool R.went, .bool R.owes]⟩ :: []))) HO.out ?_
  intro W1 O1
  have hb1 := O1.has (b := w.heap.size) (t := 27) (cs := #[.int .i64 R.most, .int .i64 R.again, .slice a1 R.said.length c1, .int .i64 R.heard, .int .i64 R.out, .slice a2 R.took.length c2, .int .i64 R.gave, .int .i64 R.last, .bool R.went, .bool R.owes]) (by simp)
  have hb2 := O1.has (b := w.heap.size + 1) (t := 27) (cs := #[.int .i64 S.most, .int .i64 S.again, .slice a3 S.said.length c3, .int .i64 S.heard, .int .i64 S.out, .slice a4 S.took.length c4, .int .i64 S.gave, .int .i64 S.last, .bool S.went, .bool S.owes]) (by simp)
  have d0 := hb1.cell 0
  have d1 := hb1.cell 1
  have d2 := hb1.cell 2
  have d3 := hb1.cell 3
  have d4 := hb1.cell 4
  have d5 := hb1.cell 5
  have d6 := hb1.cell 6
  have d7 := hb1.cell 7
  have d8 := hb1.cell 8
  have d9 := hb1.cell 9
  have e0 := hb2.cell 0
  have e1 := hb2.cell 1
  have e2 := hb2.cell 2
  have e3 := hb2.cell 3
  have e4 := hb2.cell 4
  have e5 := hb2.cell 5
  have e6 := hb2.cell 6
  have e7 := hb2.cell 7
  have e8 := hb2.cell 8
  have e9 := hb2.cell 9
  have l1 := hb1.lt
  have l2 := hb2.lt
  have HO1 := Lib.hid O1
  clear hb1 hb2 O1
  have E1 : Hid (∀ g d, Calls Try.prog 17 #[.slice A1 (R.said.length - R.heard) (c1 - R.heard), .slice A3 (S.said.length - S.heard) (c3 - S.heard)] (plus W1 g d) fun e w' => e = .returned (.bool true) ∧ Below (plus W1 g d).heap.size (plus W1 g d) w') := fun g d => (same_to _ _ (R.said.drop R.heard) (S.said.drop S.heard) _ (by simp; omega) (by simp; omega) (H1.out.here (HO1.out.plus g d) sub_nil) (H3.out.here (HO1.out.plus g d) sub_nil) true (decide_eq_true K3.out)).mono fun e w' hh => ⟨hh.1, hh.2.below⟩
  refine wp_region_rs (by kernel_rfl) (by kernel_rfl) (by kernel_rfl) ?_
  repeat (first
    | (refine B_skip ?_ ?_; (· rfl); (try simp only [Act.put, List.setIfInBounds_toArray, List.set_cons_zero, List.set_cons_succ]))
    | (refine B_move rfl ?_ ?_; (· rfl); (try simp only [Act.eval, Act.put, Array.getD_eq_getD_getElem?, List.getElem?_toArray, List.getElem?_cons_succ, List.getElem?_cons_zero, Option.getD_some, List.setIfInBounds_toArray, List.set_cons_zero, List.set_cons_succ]))
    | (refine B_plain ?_ ?_; (· rfl); intro K hK; go_big_quiet_op; with_reducible refine hK _ ?_; clear hK K)
    | (refine B_callX (v := ?_) (f := 17) rfl (by kernel_rfl) ?_ (fun xq => ?_) ?_; rotate_left; (· rfl); (· ((simp only [List.map_toArray, List.map_cons, List.map_nil, Act.eval, Array.getD_eq_getD_getElem?, List.getElem?_toArray, List.getElem?_cons_succ, List.getElem?_cons_zero, Option.getD_some]); with_reducible apply retB; with_reducible exact (E1.out _ _))); (try simp only [Act.put, List.setIfInBounds_toArray, List.set_cons_zero, List.set_cons_succ]))
    | (refine B_nilck rfl rfl ?_ ?_; (· rfl); (try simp only [Act.put, List.setIfInBounds_toArray, List.set_cons_zero, List.set_cons_succ])))
  refine B_nil ?_ rfl ?_ ?_
  · kernel_rfl
  · rfl
  rintro _ ⟨⟨g1, d1⟩, rfl⟩
  simp only [fin, Act.put, List.setIfInBounds_toArray, List.set_cons_zero, List.set_cons_succ]
  go_wp2
  go_ret
  exact ⟨rfl, (HO1.out.plus _ _).below⟩
set_option maxRecDepth 100000 in
set_option maxHeartbeats 4000000 in
theorem ra_f6 (k0 : R.most = S.most) (k1 : R.again = S.again) (k2 : R.said.length = S.said.length) (k3 : R.said.drop R.heard = S.said.drop S.heard) (k4 : R.heard = S.heard) (k5 : R.out = S.out) (k6 : ¬ (R.took.length = S.took.length)) :
    Calls Try.prog 27 #[.agg #[.int .i64 R.most, .int .i64 R.again, .slice a1 R.said.length c1, .int .i64 R.heard, .int .i64 R.out, .slice a2 R.took.length c2, .int .i64 R.gave, .int .i64 R.last, .bool R.went, .bool R.owes], .agg #[.int .i64 S.most, .int .i64 S.again, .slice a3 S.said.length c3, .int .i64 S.heard, .int .i64 S.out, .slice a4 S.took.length c4, .int .i64 S.gave, .int .i64 S.last, .bool S.went, .bool S.owes]] w fun e w' => e = .returned (.bool false) ∧ Below w.heap.size w w' := by
  have g0 := natq R.most S.most true (decide_eq_true k0)
  have K0 := Lib.hid k0
  clear k0
  have g1 := natq R.again S.again true (decide_eq_true k1)
  have K1 := Lib.hid k1
  clear k1
  have g2 := natq R.said.length S.said.length true (decide_eq_true k2)
  have K2 := Lib.hid k2
  clear k2
  have K3 := Lib.hid k3
  clear k3
  have g4 := natq R.heard S.heard true (decide_eq_true k4)
  have K4 := Lib.hid k4
  clear k4
  have g5 := natq R.out S.out true (decide_eq_true k5)
  have K5 := Lib.hid k5
  clear k5
  have g6 := natq R.took.length S.took.length false (decide_eq_false k6)
  have K6 := Lib.hid k6
  clear k6
  have q1 := hR.le
  have q2 := hR.gave
  have q3 := hS.le
  have q4 := hS.gave
  have z1 := hR.said
  have z2 := hR.took
  have z3 := hS.said
  have z4 := hS.took
  have y1 := h1.cap.1
  have y2 := h2.cap.1
  have y3 := h3.cap.1
  have y4 := h4.cap.1
  obtain ⟨A1, hA1⟩ : ∃ A, (if c1 = R.heard then a1 else Option.map (fun x => x.add R.heard) a1) = A := ⟨_, rfl⟩
  obtain ⟨A2, hA2⟩ : ∃ A, (if c2 = R.gave then a2 else Option.map (fun x => x.add R.gave) a2) = A := ⟨_, rfl⟩
  obtain ⟨A3, hA3⟩ : ∃ A, (if c3 = S.heard then a3 else Option.map (fun x => x.add S.heard) a3) = A := ⟨_, rfl⟩
  obtain ⟨A4, hA4⟩ : ∃ A, (if c4 = S.gave then a4 else Option.map (fun x => x.add S.gave) a4) = A := ⟨_, rfl⟩
  have HO := Lib.hid (((Ow.start w).key #[.int .i64 R.most, .int .i64 R.again, .slice a1 R.said.length c1, .int .i64 R.heard, .int .i64 R.out, .slice a2 R.took.length c2, .int .i64 R.gave, .int .i64 R.last, .bool R.went, .bool R.owes] 27 w.heap.size rfl).key #[.int .i64 S.most, .int .i64 S.again, .slice a3 S.said.length c3, .int .i64 S.heard, .int .i64 S.out, .slice a4 S.took.length c4, .int .i64 S.gave, .int .i64 S.last, .bool S.went, .bool S.owes] 27 (w.heap.size + 1) (by simp))
  have H1 := Lib.hid (h1.rest R.heard q1 A1 hA1.symm)
  have H2 := Lib.hid (h2.rest R.gave q2 A2 hA2.symm)
  have H3 := Lib.hid (h3.rest S.heard q3 A3 hA3.symm)
  have H4 := Lib.hid (h4.rest S.gave q4 A4 hA4.symm)
  clear h1 h2 h3 h4 hR hS
  go_enter Try.func27, Try.ntmps27
  go_wp2
  refine wp_opq (fun W => Ow W w (⟨w.heap.size + 1, 27, #[.int .i64 S.most, .int .i64 S.again, .slice a3 S.said.length c3, .int .i64 S.heard, .int .i64 S.out, .slice a4 S.took.length c4, .int .i64 S.gave, .int .i64 S.last, .bool S.went, .bool S.owes]⟩ :: (⟨w.heap.size, 27, #[.int .i64 R.most, .int .i64 R.again, .slice a1 R.said.length c1, .int .i64 R.heard, .int .i64 R.out, .slice a2 R.took.length c2, .int .i64 R.gave, .int .i64 R.last, .bool R.went, .bool R.owes]⟩ :: []))) HO.out ?_
  intro W1 O1
  have hb1 := O1.has (b := w.heap.size) (t := 27) (cs := #[.int .i64 R.most, .int .i64 R.again, .slice a1 R.said.length c1, .int .i64 R.heard, .int .i64 R.out, .slice a2 R.took.length c2, .int .i64 R.gave, .int .i64 R.last, .bool R.went, .bool R.owes]) (by simp)
  have hb2 := O1.has (b := w.heap.size + 1) (t := 27) (cs := #[.int .i64 S.most, .int .i64 S.again, .slice a3 S.said.length c3, .int .i64 S.heard, .int .i64 S.out, .slice a4 S.took.length c4, .int .i64 S.gave, .int .i64 S.last, .bool S.went, .bool S.owes]) (by simp)
  have d0 := hb1.cell 0
  have d1 := hb1.cell 1
  have d2 := hb1.cell 2
  have d3 := hb1.cell 3
  have d4 := hb1.cell 4
  have d5 := hb1.cell 5
  have d6 := hb1.cell 6
  have d7 := hb1.cell 7
  have d8 := hb1.cell 8
  have d9 := hb1.cell 9
  have e0 := hb2.cell 0
  have e1 := hb2.cell 1
  have e2 := hb2.cell 2
  have e3 := hb2.cell 3
  have e4 := hb2.cell 4
  have e5 := hb2.cell 5
  have e6 := hb2.cell 6
  have e7 := hb2.cell 7
  have e8 := hb2.cell 8
  have e9 := hb2.cell 9
  have l1 := hb1.lt
  have l2 := hb2.lt
  have HO1 := Lib.hid O1
  clear hb1 hb2 O1
  have E1 : Hid (∀ g d, Calls Try.prog 17 #[.slice A1 (R.said.length - R.heard) (c1 - R.heard), .slice A3 (S.said.length - S.heard) (c3 - S.heard)] (plus W1 g d) fun e w' => e = .returned (.bool true) ∧ Below (plus W1 g d).heap.size (plus W1 g d) w') := fun g d => (same_to _ _ (R.said.drop R.heard) (S.said.drop S.heard) _ (by simp; omega) (by simp; omega) (H1.out.here (HO1.out.plus g d) sub_nil) (H3.out.here (HO1.out.plus g d) sub_nil) true (decide_eq_true K3.out)).mono fun e w' hh => ⟨hh.1, hh.2.below⟩
  refine wp_region_rs (by kernel_rfl) (by kernel_rfl) (by kernel_rfl) ?_
  repeat (first
    | (refine B_skip ?_ ?_; (· rfl); (try simp only [Act.put, List.setIfInBounds_toArray, List.set_cons_zero, List.set_cons_succ]))
    | (refine B_move rfl ?_ ?_; (· rfl); (try simp only [Act.eval, Act.put, Array.getD_eq_getD_getElem?, List.getElem?_toArray, List.getElem?_cons_succ, List.getElem?_cons_zero, Option.getD_some, List.setIfInBounds_toArray, List.set_cons_zero, List.set_cons_succ]))
    | (refine B_plain ?_ ?_; (· rfl); intro K hK; go_big_quiet_op; with_reducible refine hK _ ?_; clear hK K)
    | (refine B_callX (v := ?_) (f := 17) rfl (by kernel_rfl) ?_ (fun xq => ?_) ?_; rotate_left; (· rfl); (· ((simp only [List.map_toArray, List.map_cons, List.map_nil, Act.eval, Array.getD_eq_getD_getElem?, List.getElem?_toArray, List.getElem?_cons_succ, List.getElem?_cons_zero, Option.getD_some]); with_reducible apply retB; with_reducible exact (E1.out _ _))); (try simp only [Act.put, List.setIfInBounds_toArray, List.set_cons_zero, List.set_cons_succ]))
    | (refine B_nilck rfl rfl ?_ ?_; (· rfl); (try simp only [Act.put, List.setIfInBounds_toArray, List.set_cons_zero, List.set_cons_succ])))
  refine B_nil ?_ rfl ?_ ?_
  · kernel_rfl
  · rfl
  rintro _ ⟨⟨g1, d1⟩, rfl⟩
  simp only [fin, Act.put, List.setIfInBounds_toArray, List.set_cons_zero, List.set_cons_succ]
  go_wp2
  go_ret
  exact ⟨rfl, (HO1.out.plus _ _).below⟩
set_option maxRecDepth 100000 in
set_option maxHeartbeats 4000000 in
theorem ra_f7 (k0 : R.most = S.most) (k1 : R.again = S.again) (k2 : R.said.length = S.said.length) (k3 : R.said.drop R.heard = S.said.drop S.heard) (k4 : R.heard = S.heard) (k5 : R.out = S.out) (k6 : R.took.length = S.took.length) (k7 : ¬ (R.took.drop R.gave = S.took.drop S.gave)) :
    Calls Try.prog 27 #[.agg #[.int .i64 R.most, .int .i64 R.again, .slice a1 R.said.length c1, .int .i64 R.heard, .int .i64 R.out, .slice a2 R.took.length c2, .int .i64 R.gave, .int .i64 R.last, .bool R.went, .bool R.owes], .agg #[.int .i64 S.most, .int .i64 S.again, .slice a3 S.said.length c3, .int .i64 S.heard, .int .i64 S.out, .slice a4 S.took.length c4, .int .i64 S.gave, .int .i64 S.last, .bool S.went, .bool S.owes]] w fun e w' => e = .returned (.bool false) ∧ Below w.heap.size w w' := by
  have g0 := natq R.most S.most true (decide_eq_true k0)
  have K0 := Lib.hid k0
  clear k0
  have g1 := natq R.again S.again true (decide_eq_true k1)
  have K1 := Lib.hid k1
  clear k1
  have g2 := natq R.said.length S.said.length true (decide_eq_true k2)
  have K2 := Lib.hid k2
  clear k2
  have K3 := Lib.hid k3
  clear k3
  have g4 := natq R.heard S.heard true (decide_eq_true k4)
  have K4 := Lib.hid k4
  clear k4
  have g5 := natq R.out S.out true (decide_eq_true k5)
  have K5 := Lib.hid k5
  clear k5
  have g6 := natq R.took.length S.took.length true (decide_eq_true k6)
  have K6 := Lib.hid k6
  clear k6
  have K7 := Lib.hid k7
  clear k7
  have q1 := hR.le
  have q2 := hR.gave
  have q3 := hS.le
  have q4 := hS.gave
  have z1 := hR.said
  have z2 := hR.took
  have z3 := hS.said
  have z4 := hS.took
  have y1 := h1.cap.1
  have y2 := h2.cap.1
  have y3 := h3.cap.1
  have y4 := h4.cap.1
  obtain ⟨A1, hA1⟩ : ∃ A, (if c1 = R.heard then a1 else Option.map (fun x => x.add R.heard) a1) = A := ⟨_, rfl⟩
  obtain ⟨A2, hA2⟩ : ∃ A, (if c2 = R.gave then a2 else Option.map (fun x => x.add R.gave) a2) = A := ⟨_, rfl⟩
  obtain ⟨A3, hA3⟩ : ∃ A, (if c3 = S.heard then a3 else Option.map (fun x => x.add S.heard) a3) = A := ⟨_, rfl⟩
  obtain ⟨A4, hA4⟩ : ∃ A, (if c4 = S.gave then a4 else Option.map (fun x => x.add S.gave) a4) = A := ⟨_, rfl⟩
  have HO := Lib.hid (((Ow.start w).key #[.int .i64 R.most, .int .i64 R.again, .slice a1 R.said.length c1, .int .i64 R.heard, .int .i64 R.out, .slice a2 R.took.length c2, .int .i64 R.gave, .int .i64 R.last, .bool R.went, .bool R.owes] 27 w.heap.size rfl).key #[.int .i64 S.most, .int .i64 S.again, .slice a3 S.said.length c3, .int .i64 S.heard, .int .i64 S.out, .slice a4 S.took.length c4, .int .i64 S.gave, .int .i64 S.last, .bool S.went, .bool S.owes] 27 (w.heap.size + 1) (by simp))
  have H1 := Lib.hid (h1.rest R.heard q1 A1 hA1.symm)
  have H2 := Lib.hid (h2.rest R.gave q2 A2 hA2.symm)
  have H3 := Lib.hid (h3.rest S.heard q3 A3 hA3.symm)
  have H4 := Lib.hid (h4.rest S.gave q4 A4 hA4.symm)
  clear h1 h2 h3 h4 hR hS
  go_enter Try.func27, Try.ntmps27
  go_wp2
  refine wp_opq (fun W => Ow W w (⟨w.heap.size + 1, 27, #[.int .i64 S.most, .int .i64 S.again, .slice a3 S.said.length c3, .int .i64 S.heard, .int .i64 S.out, .slice a4 S.took.length c4, .int .i64 S.gave, .int .i64 S.last, .bool S.went, .bool S.owes]⟩ :: (⟨w.heap.size, 27, #[.int .i64 R.most, .int .i64 R.again, .slice a1 R.said.length c1, .int .i64 R.heard, .int .i64 R.out, .slice a2 R.took.length c2, .int .i64 R.gave, .int .i64 R.last, .bool R.went, .bool R.owes]⟩ :: []))) HO.out ?_
  intro W1 O1
  have hb1 := O1.has (b := w.heap.size) (t := 27) (cs := #[.int .i64 R.most, .int .i64 R.again, .slice a1 R.said.length c1, .int .i64 R.heard, .int .i64 R.out, .slice a2 R.took.length c2, .int .i64 R.gave, .int .i64 R.last, .bool R.went, .bool R.owes]) (by simp)
  have hb2 := O1.has (b := w.heap.size + 1) (t := 27) (cs := #[.int .i64 S.most, .int .i64 S.again, .slice a3 S.said.length c3, .int .i64 S.heard, .int .i64 S.out, .slice a4 S.took.length c4, .int .i64 S.gave, .int .i64 S.last, .bool S.went, .bool S.owes]) (by simp)
  have d0 := hb1.cell 0
  have d1 := hb1.cell 1
  have d2 := hb1.cell 2
  have d3 := hb1.cell 3
  have d4 := hb1.cell 4
  have d5 := hb1.cell 5
  have d6 := hb1.cell 6
  have d7 := hb1.cell 7
  have d8 := hb1.cell 8
  have d9 := hb1.cell 9
  have e0 := hb2.cell 0
  have e1 := hb2.cell 1
  have e2 := hb2.cell 2
  have e3 := hb2.cell 3
  have e4 := hb2.cell 4
  have e5 := hb2.cell 5
  have e6 := hb2.cell 6
  have e7 := hb2.cell 7
  have e8 := hb2.cell 8
  have e9 := hb2.cell 9
  have l1 := hb1.lt
  have l2 := hb2.lt
  have HO1 := Lib.hid O1
  clear hb1 hb2 O1
  have E1 : Hid (∀ g d, Calls Try.prog 17 #[.slice A1 (R.said.length - R.heard) (c1 - R.heard), .slice A3 (S.said.length - S.heard) (c3 - S.heard)] (plus W1 g d) fun e w' => e = .returned (.bool true) ∧ Below (plus W1 g d).heap.size (plus W1 g d) w') := fun g d => (same_to _ _ (R.said.drop R.heard) (S.said.drop S.heard) _ (by simp; omega) (by simp; omega) (H1.out.here (HO1.out.plus g d) sub_nil) (H3.out.here (HO1.out.plus g d) sub_nil) true (decide_eq_true K3.out)).mono fun e w' hh => ⟨hh.1, hh.2.below⟩
  have E2 : Hid (∀ g d, Calls Try.prog 17 #[.slice A2 (R.took.length - R.gave) (c2 - R.gave), .slice A4 (S.took.length - S.gave) (c4 - S.gave)] (plus W1 g d) fun e w' => e = .returned (.bool false) ∧ Below (plus W1 g d).heap.size (plus W1 g d) w') := fun g d => (same_to _ _ (R.took.drop R.gave) (S.took.drop S.gave) _ (by simp; omega) (by simp; omega) (H2.out.here (HO1.out.plus g d) sub_nil) (H4.out.here (HO1.out.plus g d) sub_nil) false (decide_eq_false K7.out)).mono fun e w' hh => ⟨hh.1, hh.2.below⟩
  refine wp_region_rs (by kernel_rfl) (by kernel_rfl) (by kernel_rfl) ?_
  repeat (first
    | (refine B_skip ?_ ?_; (· rfl); (try simp only [Act.put, List.setIfInBounds_toArray, List.set_cons_zero, List.set_cons_succ]))
    | (refine B_move rfl ?_ ?_; (· rfl); (try simp only [Act.eval, Act.put, Array.getD_eq_getD_getElem?, List.getElem?_toArray, List.getElem?_cons_succ, List.getElem?_cons_zero, Option.getD_some, List.setIfInBounds_toArray, List.set_cons_zero, List.set_cons_succ]))
    | (refine B_plain ?_ ?_; (· rfl); intro K hK; go_big_quiet_op; with_reducible refine hK _ ?_; clear hK K)
    | (refine B_callX (v := ?_) (f := 17) rfl (by kernel_rfl) ?_ (fun xq => ?_) ?_; rotate_left; (· rfl); (· ((simp only [List.map_toArray, List.map_cons, List.map_nil, Act.eval, Array.getD_eq_getD_getElem?, List.getElem?_toArray, List.getElem?_cons_succ, List.getElem?_cons_zero, Option.getD_some]); with_reducible apply retB; with_reducible exact (E1.out _ _))); (try simp only [Act.put, List.setIfInBounds_toArray, List.set_cons_zero, List.set_cons_succ]))
    | (refine B_callX (v := ?_) (f := 17) rfl (by kernel_rfl) ?_ (fun xq => ?_) ?_; rotate_left; (· rfl); (· ((simp only [List.map_toArray, List.map_cons, List.map_nil, Act.eval, Array.getD_eq_getD_getElem?, List.getElem?_toArray, List.getElem?_cons_succ, List.getElem?_cons_zero, Option.getD_some]); with_reducible apply retB; with_reducible exact (E2.out _ _))); (try simp only [Act.put, List.setIfInBounds_toArray, List.set_cons_zero, List.set_cons_succ]))
    | (refine B_nilck rfl rfl ?_ ?_; (· rfl); (try simp only [Act.put, List.setIfInBounds_toArray, List.set_cons_zero, List.set_cons_succ])))
  refine B_nil ?_ rfl ?_ ?_
  · kernel_rfl
  · rfl
  rintro _ ⟨⟨g1, d1⟩, rfl⟩
  simp only [fin, Act.put, List.setIfInBounds_toArray, List.set_cons_zero, List.set_cons_succ]
  go_wp2
  go_ret
  exact ⟨rfl, (HO1.out.plus _ _).below⟩
set_option maxRecDepth 100000 in
set_option maxHeartbeats 4000000 in
theorem ra_f8 (k0 : R.most = S.most) (k1 : R.again = S.again) (k2 : R.said.length = S.said.length) (k3 : R.said.drop R.heard = S.said.drop S.heard) (k4 : R.heard = S.heard) (k5 : R.out = S.out) (k6 : R.took.length = S.took.length) (k7 : R.took.drop R.gave = S.took.drop S.gave) (k8 : ¬ (R.last = S.last)) :
    Calls Try.prog 27 #[.agg #[.int .i64 R.most, .int .i64 R.again, .slice a1 R.said.length c1, .int .i64 R.heard, .int .i64 R.out, .slice a2 R.took.length c2, .int .i64 R.gave, .int .i64 R.last, .bool R.went, .bool R.owes], .agg #[.int .i64 S.most, .int .i64 S.again, .slice a3 S.said.length c3, .int .i64 S.heard, .int .i64 S.out, .slice a4 S.took.length c4, .int .i64 S.gave, .int .i64 S.last, .bool S.went, .bool S.owes]] w fun e w' => e = .returned (.bool false) ∧ Below w.heap.size w w' := by
  have g0 := natq R.most S.most true (decide_eq_true k0)
  have K0 := Lib.hid k0
  clear k0
  have g1 := natq R.again S.again true (decide_eq_true k1)
  have K1 := Lib.hid k1
  clear k1
  have g2 := natq R.said.length S.said.length true (decide_eq_true k2)
  have K2 := Lib.hid k2
  clear k2
  have K3 := Lib.hid k3
  clear k3
  have g4 := natq R.heard S.heard true (decide_eq_true k4)
  have K4 := Lib.hid k4
  clear k4
  have g5 := natq R.out S.out true (decide_eq_true k5)
  have K5 := Lib.hid k5
  clear k5
  have g6 := natq R.took.length S.took.length true (decide_eq_true k6)
  have K6 := Lib.hid k6
  clear k6
  have K7 := Lib.hid k7
  clear k7
  have g8 := natq R.last S.last false (decide_eq_false k8)
  have K8 := Lib.hid k8
  clear k8
  have q1 := hR.le
  have q2 := hR.gave
  have q3 := hS.le
  have q4 := hS.gave
  have z1 := hR.said
  have z2 := hR.took
  have z3 := hS.said
  have z4 := hS.took
  have y1 := h1.cap.1
  have y2 := h2.cap.1
  have y3 := h3.cap.1
  have y4 := h4.cap.1
  obtain ⟨A1, hA1⟩ : ∃ A, (if c1 = R.heard then a1 else Option.map (fun x => x.add R.heard) a1) = A := ⟨_, rfl⟩
  obtain ⟨A2, hA2⟩ : ∃ A, (if c2 = R.gave then a2 else Option.map (fun x => x.add R.gave) a2) = A := ⟨_, rfl⟩
  obtain ⟨A3, hA3⟩ : ∃ A, (if c3 = S.heard then a3 else Option.map (fun x => x.add S.heard) a3) = A := ⟨_, rfl⟩
  obtain ⟨A4, hA4⟩ : ∃ A, (if c4 = S.gave then a4 else Option.map (fun x => x.add S.gave) a4) = A := ⟨_, rfl⟩
  have HO := Lib.hid (((Ow.start w).key #[.int .i64 R.most, .int .i64 R.again, .slice a1 R.said.length c1, .int .i64 R.heard, .int .i64 R.out, .slice a2 R.took.length c2, .int .i64 R.gave, .int .i64 R.last, .bool R.went, .bool R.owes] 27 w.heap.size rfl).key #[.int .i64 S.most, .int .i64 S.again, .slice a3 S.said.length c3, .int .i64 S.heard, .int .i64 S.out, .slice a4 S.took.length c4, .int .i64 S.gave, .int .i64 S.last, .bool S.went, .bool S.owes] 27 (w.heap.size + 1) (by simp))
  have H1 := Lib.hid (h1.rest R.heard q1 A1 hA1.symm)
  have H2 := Lib.hid (h2.rest R.gave q2 A2 hA2.symm)
  have H3 := Lib.hid (h3.rest S.heard q3 A3 hA3.symm)
  have H4 := Lib.hid (h4.rest S.gave q4 A4 hA4.symm)
  clear h1 h2 h3 h4 hR hS
  go_enter Try.func27, Try.ntmps27
  go_wp2
  refine wp_opq (fun W => Ow W w (⟨w.heap.size + 1, 27, #[.int .i64 S.most, .int .i64 S.again, .slice a3 S.said.length c3, .int .i64 S.heard, .int .i64 S.out, .slice a4 S.took.length c4, .int .i64 S.gave, .int .i64 S.last, .bool S.went, .bool S.owes]⟩ :: (⟨w.heap.size, 27, #[.int .i64 R.most, .int .i64 R.again, .slice a1 R.said.length c1, .int .i64 R.heard, .int .i64 R.out, .slice a2 R.took.length c2, .int .i64 R.gave, .int .i64 R.last, .bool R.went, .bool R.owes]⟩ :: []))) HO.out ?_
  intro W1 O1
  have hb1 := O1.has (b := w.heap.size) (t := 27) (cs := #[.int .i64 R.most, .int .i64 R.again, .slice a1 R.said.length c1, .int .i64 R.heard, .int .i64 R.out, .slice a2 R.took.length c2, .int .i64 R.gave, .int .i64 R.last, .bool R.went, .bool R.owes]) (by simp)
  have hb2 := O1.has (b := w.heap.size + 1) (t := 27) (cs := #[.int .i64 S.most, .int .i64 S.again, .slice a3 S.said.length c3, .int .i64 S.heard, .int .i64 S.out, .slice a4 S.took.length c4, .int .i64 S.gave, .int .i64 S.last, .bool S.went, .bool S.owes]) (by simp)
  have d0 := hb1.cell 0
  have d1 := hb1.cell 1
  have d2 := hb1.cell 2
  have d3 := hb1.cell 3
  have d4 := hb1.cell 4
  have d5 := hb1.cell 5
  have d6 := hb1.cell 6
  have d7 := hb1.cell 7
  have d8 := hb1.cell 8
  have d9 := hb1.cell 9
  have e0 := hb2.cell 0
  have e1 := hb2.cell 1
  have e2 := hb2.cell 2
  have e3 := hb2.cell 3
  have e4 := hb2.cell 4
  have e5 := hb2.cell 5
  have e6 := hb2.cell 6
  have e7 := hb2.cell 7
  have e8 := hb2.cell 8
  have e9 := hb2.cell 9
  have l1 := hb1.lt
  have l2 := hb2.lt
  have HO1 := Lib.hid O1
  clear hb1 hb2 O1
  have E1 : Hid (∀ g d, Calls Try.prog 17 #[.slice A1 (R.said.length - R.heard) (c1 - R.heard), .slice A3 (S.said.length - S.heard) (c3 - S.heard)] (plus W1 g d) fun e w' => e = .returned (.bool true) ∧ Below (plus W1 g d).heap.size (plus W1 g d) w') := fun g d => (same_to _ _ (R.said.drop R.heard) (S.said.drop S.heard) _ (by simp; omega) (by simp; omega) (H1.out.here (HO1.out.plus g d) sub_nil) (H3.out.here (HO1.out.plus g d) sub_nil) true (decide_eq_true K3.out)).mono fun e w' hh => ⟨hh.1, hh.2.below⟩
  have E2 : Hid (∀ g d, Calls Try.prog 17 #[.slice A2 (R.took.length - R.gave) (c2 - R.gave), .slice A4 (S.took.length - S.gave) (c4 - S.gave)] (plus W1 g d) fun e w' => e = .returned (.bool true) ∧ Below (plus W1 g d).heap.size (plus W1 g d) w') := fun g d => (same_to _ _ (R.took.drop R.gave) (S.took.drop S.gave) _ (by simp; omega) (by simp; omega) (H2.out.here (HO1.out.plus g d) sub_nil) (H4.out.here (HO1.out.plus g d) sub_nil) true (decide_eq_true K7.out)).mono fun e w' hh => ⟨hh.1, hh.2.below⟩
  refine wp_region_rs (by kernel_rfl) (by kernel_rfl) (by kernel_rfl) ?_
  repeat (first
    | (refine B_skip ?_ ?_; (· rfl); (try simp only [Act.put, List.setIfInBounds_toArray, List.set_cons_zero, List.set_cons_succ]))
    | (refine B_move rfl ?_ ?_; (· rfl); (try simp only [Act.eval, Act.put, Array.getD_eq_getD_getElem?, List.getElem?_toArray, List.getElem?_cons_succ, List.getElem?_cons_zero, Option.getD_some, List.setIfInBounds_toArray, List.set_cons_zero, List.set_cons_succ]))
    | (refine B_plain ?_ ?_; (· rfl); intro K hK; go_big_quiet_op; with_reducible refine hK _ ?_; clear hK K)
    | (refine B_callX (v := ?_) (f := 17) rfl (by kernel_rfl) ?_ (fun xq => ?_) ?_; rotate_left; (· rfl); (· ((simp only [List.map_toArray, List.map_cons, List.map_nil, Act.eval, Array.getD_eq_getD_getElem?, List.getElem?_toArray, List.getElem?_cons_succ, List.getElem?_cons_zero, Option.getD_some]); with_reducible apply retB; with_reducible exact (E1.out _ _))); (try simp only [Act.put, List.setIfInBounds_toArray, List.set_cons_zero, List.set_cons_succ]))
    | (refine B_callX (v := ?_) (f := 17) rfl (by kernel_rfl) ?_ (fun xq => ?_) ?_; rotate_left; (· rfl); (· ((simp only [List.map_toArray, List.map_cons, List.map_nil, Act.eval, Array.getD_eq_getD_getElem?, List.getElem?_toArray, List.getElem?_cons_succ, List.getElem?_cons_zero, Option.getD_some]); with_reducible apply retB; with_reducible exact (E2.out _ _))); (try simp only [Act.put, List.setIfInBounds_toArray, List.set_cons_zero, List.set_cons_succ]))
    | (refine B_nilck rfl rfl ?_ ?_; (· rfl); (try simp only [Act.put, List.setIfInBounds_toArray, List.set_cons_zero, List.set_cons_succ])))
  refine B_nil ?_ rfl ?_ ?_
  · kernel_rfl
  · rfl
  rintro _ ⟨⟨g1, d1⟩, rfl⟩
  simp only [fin, Act.put, List.setIfInBounds_toArray, List.set_cons_zero, List.set_cons_succ]
  go_wp2
  go_ret
  exact ⟨rfl, (HO1.out.plus _ _).below⟩
set_option maxRecDepth 100000 in
set_option maxHeartbeats 4000000 in
theorem ra_f9 (k0 : R.most = S.most) (k1 : R.again = S.again) (k2 : R.said.length = S.said.length) (k3 : R.said.drop R.heard = S.said.drop S.heard) (k4 : R.heard = S.heard) (k5 : R.out = S.out) (k6 : R.took.length = S.took.length) (k7 : R.took.drop R.gave = S.took.drop S.gave) (k8 : R.last = S.last) (k9 : ¬ (R.went = S.went)) :
    Calls Try.prog 27 #[.agg #[.int .i64 R.most, .int .i64 R.again, .slice a1 R.said.length c1, .int .i64 R.heard, .int .i64 R.out, .slice a2 R.took.length c2, .int .i64 R.gave, .int .i64 R.last, .bool R.went, .bool R.owes], .agg #[.int .i64 S.most, .int .i64 S.again, .slice a3 S.said.length c3, .int .i64 S.heard, .int .i64 S.out, .slice a4 S.took.length c4, .int .i64 S.gave, .int .i64 S.last, .bool S.went, .bool S.owes]] w fun e w' => e = .returned (.bool false) ∧ Below w.heap.size w w' := by
  have g0 := natq R.most S.most true (decide_eq_true k0)
  have K0 := Lib.hid k0
  clear k0
  have g1 := natq R.again S.again true (decide_eq_true k1)
  have K1 := Lib.hid k1
  clear k1
  have g2 := natq R.said.length S.said.length true (decide_eq_true k2)
  have K2 := Lib.hid k2
  clear k2
  have K3 := Lib.hid k3
  clear k3
  have g4 := natq R.heard S.heard true (decide_eq_true k4)
  have K4 := Lib.hid k4
  clear k4
  have g5 := natq R.out S.out true (decide_eq_true k5)
  have K5 := Lib.hid k5
  clear k5
  have g6 := natq R.took.length S.took.length true (decide_eq_true k6)
  have K6 := Lib.hid k6
  clear k6
  have K7 := Lib.hid k7
  clear k7
  have g8 := natq R.last S.last true (decide_eq_true k8)
  have K8 := Lib.hid k8
  clear k8
  have g9 : (R.went == S.went) = false := by simp [k9]
  have K9 := Lib.hid k9
  clear k9
  have q1 := hR.le
  have q2 := hR.gave
  have q3 := hS.le
  have q4 := hS.gave
  have z1 := hR.said
  have z2 := hR.took
  have z3 := hS.said
  have z4 := hS.took
  have y1 := h1.cap.1
  have y2 := h2.cap.1
  have y3 := h3.cap.1
  have y4 := h4.cap.1
  obtain ⟨A1, hA1⟩ : ∃ A, (if c1 = R.heard then a1 else Option.map (fun x => x.add R.heard) a1) = A := ⟨_, rfl⟩
  obtain ⟨A2, hA2⟩ : ∃ A, (if c2 = R.gave then a2 else Option.map (fun x => x.add R.gave) a2) = A := ⟨_, rfl⟩
  obtain ⟨A3, hA3⟩ : ∃ A, (if c3 = S.heard then a3 else Option.map (fun x => x.add S.heard) a3) = A := ⟨_, rfl⟩
  obtain ⟨A4, hA4⟩ : ∃ A, (if c4 = S.gave then a4 else Option.map (fun x => x.add S.gave) a4) = A := ⟨_, rfl⟩
  have HO := Lib.hid (((Ow.start w).key #[.int .i64 R.most, .int .i64 R.again, .slice a1 R.said.length c1, .int .i64 R.heard, .int .i64 R.out, .slice a2 R.took.length c2, .int .i64 R.gave, .int .i64 R.last, .bool R.went, .bool R.owes] 27 w.heap.size rfl).key #[.int .i64 S.most, .int .i64 S.again, .slice a3 S.said.length c3, .int .i64 S.heard, .int .i64 S.out, .slice a4 S.took.length c4, .int .i64 S.gave, .int .i64 S.last, .bool S.went, .bool S.owes] 27 (w.heap.size + 1) (by simp))
  have H1 := Lib.hid (h1.rest R.heard q1 A1 hA1.symm)
  have H2 := Lib.hid (h2.rest R.gave q2 A2 hA2.symm)
  have H3 := Lib.hid (h3.rest S.heard q3 A3 hA3.symm)
  have H4 := Lib.hid (h4.rest S.gave q4 A4 hA4.symm)
  clear h1 h2 h3 h4 hR hS
  go_enter Try.func27, Try.ntmps27
  go_wp2
  refine wp_opq (fun W => Ow W w (⟨w.heap.size + 1, 27, #[.int .i64 S.most, .int .i64 S.again, .slice a3 S.said.length c3, .int .i64 S.heard, .int .i64 S.out, .slice a4 S.took.length c4, .int .i64 S.gave, .int .i64 S.last, .bool S.went, .bool S.owes]⟩ :: (⟨w.heap.size, 27, #[.int .i64 R.most, .int .i64 R.again, .slice a1 R.said.length c1, .int .i64 R.heard, .int .i64 R.out, .slice a2 R.took.length c2, .int .i64 R.gave, .int .i64 R.last, .bool R.went, .bool R.owes]⟩ :: []))) HO.out ?_
  intro W1 O1
  have hb1 := O1.has (b := w.heap.size) (t := 27) (cs := #[.int .i64 R.most, .int .i64 R.again, .slice a1 R.said.length c1, .int .i64 R.heard, .int .i64 R.out, .slice a2 R.took.length c2, .int .i64 R.gave, .int .i64 R.last, .bool R.went, .bool R.owes]) (by simp)
  have hb2 := O1.has (b := w.heap.size + 1) (t := 27) (cs := #[.int .i64 S.most, .int .i64 S.again, .slice a3 S.said.length c3, .int .i64 S.heard, .int .i64 S.out, .slice a4 S.took.length c4, .int .i64 S.gave, .int .i64 S.last, .bool S.went, .bool S.owes]) (by simp)
  have d0 := hb1.cell 0
  have d1 := hb1.cell 1
  have d2 := hb1.cell 2
  have d3 := hb1.cell 3
  have d4 := hb1.cell 4
  have d5 := hb1.cell 5
  have d6 := hb1.cell 6
  have d7 := hb1.cell 7
  have d8 := hb1.cell 8
  have d9 := hb1.cell 9
  have e0 := hb2.cell 0
  have e1 := hb2.cell 1
  have e2 := hb2.cell 2
  have e3 := hb2.cell 3
  have e4 := hb2.cell 4
  have e5 := hb2.cell 5
  have e6 := hb2.cell 6
  have e7 := hb2.cell 7
  have e8 := hb2.cell 8
  have e9 := hb2.cell 9
  have l1 := hb1.lt
  have l2 := hb2.lt
  have HO1 := Lib.hid O1
  clear hb1 hb2 O1
  have E1 : Hid (∀ g d, Calls Try.prog 17 #[.slice A1 (R.said.length - R.heard) (c1 - R.heard), .slice A3 (S.said.length - S.heard) (c3 - S.heard)] (plus W1 g d) fun e w' => e = .returned (.bool true) ∧ Below (plus W1 g d).heap.size (plus W1 g d) w') := fun g d => (same_to _ _ (R.said.drop R.heard) (S.said.drop S.heard) _ (by simp; omega) (by simp; omega) (H1.out.here (HO1.out.plus g d) sub_nil) (H3.out.here (HO1.out.plus g d) sub_nil) true (decide_eq_true K3.out)).mono fun e w' hh => ⟨hh.1, hh.2.below⟩
  have E2 : Hid (∀ g d, Calls Try.prog 17 #[.slice A2 (R.took.length - R.gave) (c2 - R.gave), .slice A4 (S.took.length - S.gave) (c4 - S.gave)] (plus W1 g d) fun e w' => e = .returned (.bool true) ∧ Below (plus W1 g d).heap.size (plus W1 g d) w') := fun g d => (same_to _ _ (R.took.drop R.gave) (S.took.drop S.gave) _ (by simp; omega) (by simp; omega) (H2.out.here (HO1.out.plus g d) sub_nil) (H4.out.here (HO1.out.plus g d) sub_nil) true (decide_eq_true K7.out)).mono fun e w' hh => ⟨hh.1, hh.2.below⟩
  refine wp_region_rs (by kernel_rfl) (by kernel_rfl) (by kernel_rfl) ?_
  repeat (first
    | (refine B_skip ?_ ?_; (· rfl); (try simp only [Act.put, List.setIfInBounds_toArray, List.set_cons_zero, List.set_cons_succ]))
    | (refine B_move rfl ?_ ?_; (· rfl); (try simp only [Act.eval, Act.put, Array.getD_eq_getD_getElem?, List.getElem?_toArray, List.getElem?_cons_succ, List.getElem?_cons_zero, Option.getD_some, List.setIfInBounds_toArray, List.set_cons_zero, List.set_cons_succ]))
    | (refine B_plain ?_ ?_; (· rfl); intro K hK; go_big_quiet_op; with_reducible refine hK _ ?_; clear hK K)
    | (refine B_callX (v := ?_) (f := 17) rfl (by kernel_rfl) ?_ (fun xq => ?_) ?_; rotate_left; (· rfl); (· ((simp only [List.map_toArray, List.map_cons, List.map_nil, Act.eval, Array.getD_eq_getD_getElem?, List.getElem?_toArray, List.getElem?_cons_succ, List.getElem?_cons_zero, Option.getD_some]); with_reducible apply retB; with_reducible exact (E1.out _ _))); (try simp only [Act.put, List.setIfInBounds_toArray, List.set_cons_zero, List.set_cons_succ]))
    | (refine B_callX (v := ?_) (f := 17) rfl (by kernel_rfl) ?_ (fun xq => ?_) ?_; rotate_left; (· rfl); (· ((simp only [List.map_toArray, List.map_cons, List.map_nil, Act.eval, Array.getD_eq_getD_getElem?, List.getElem?_toArray, List.getElem?_cons_succ, List.getElem?_cons_zero, Option.getD_some]); with_reducible apply retB; with_reducible exact (E2.out _ _))); (try simp only [Act.put, List.setIfInBounds_toArray, List.set_cons_zero, List.set_cons_succ]))
    | (refine B_nilck rfl rfl ?_ ?_; (· rfl); (try simp only [Act.put, List.setIfInBounds_toArray, List.set_cons_zero, List.set_cons_succ])))
  refine B_nil ?_ rfl ?_ ?_
  · kernel_rfl
  · rfl
  rintro _ ⟨⟨g1, d1⟩, rfl⟩
  simp only [fin, Act.put, List.setIfInBounds_toArray, List.set_cons_zero, List.set_cons_succ]
  go_wp2
  go_ret
  exact ⟨rfl, (HO1.out.plus _ _).below⟩
set_option maxRecDepth 100000 in
set_option maxHeartbeats 4000000 in
theorem ra_f10 (k0 : R.most = S.most) (k1 : R.again = S.again) (k2 : R.said.length = S.said.length) (k3 : R.said.drop R.heard = S.said.drop S.heard) (k4 : R.heard = S.heard) (k5 : R.out = S.out) (k6 : R.took.length = S.took.length) (k7 : R.took.drop R.gave = S.took.drop S.gave) (k8 : R.last = S.last) (k9 : R.went = S.went) (b : Bool) (hb : (R.owes == S.owes) = b) :
    Calls Try.prog 27 #[.agg #[.int .i64 R.most, .int .i64 R.again, .slice a1 R.said.length c1, .int .i64 R.heard, .int .i64 R.out, .slice a2 R.took.length c2, .int .i64 R.gave, .int .i64 R.last, .bool R.went, .bool R.owes], .agg #[.int .i64 S.most, .int .i64 S.again, .slice a3 S.said.length c3, .int .i64 S.heard, .int .i64 S.out, .slice a4 S.took.length c4, .int .i64 S.gave, .int .i64 S.last, .bool S.went, .bool S.owes]] w fun e w' => e = .returned (.bool b) ∧ Below w.heap.size w w' := by
  have g0 := natq R.most S.most true (decide_eq_true k0)
  have K0 := Lib.hid k0
  clear k0
  have g1 := natq R.again S.again true (decide_eq_true k1)
  have K1 := Lib.hid k1
  clear k1
  have g2 := natq R.said.length S.said.length true (decide_eq_true k2)
  have K2 := Lib.hid k2
  clear k2
  have K3 := Lib.hid k3
  clear k3
  have g4 := natq R.heard S.heard true (decide_eq_true k4)
  have K4 := Lib.hid k4
  clear k4
  have g5 := natq R.out S.out true (decide_eq_true k5)
  have K5 := Lib.hid k5
  clear k5
  have g6 := natq R.took.length S.took.length true (decide_eq_true k6)
  have K6 := Lib.hid k6
  clear k6
  have K7 := Lib.hid k7
  clear k7
  have g8 := natq R.last S.last true (decide_eq_true k8)
  have K8 := Lib.hid k8
  clear k8
  have g9 : (R.went == S.went) = true := by simp [k9]
  have K9 := Lib.hid k9
  clear k9
  have q1 := hR.le
  have q2 := hR.gave
  have q3 := hS.le
  have q4 := hS.gave
  have z1 := hR.said
  have z2 := hR.took
  have z3 := hS.said
  have z4 := hS.took
  have y1 := h1.cap.1
  have y2 := h2.cap.1
  have y3 := h3.cap.1
  have y4 := h4.cap.1
  obtain ⟨A1, hA1⟩ : ∃ A, (if c1 = R.heard then a1 else Option.map (fun x => x.add R.heard) a1) = A := ⟨_, rfl⟩
  obtain ⟨A2, hA2⟩ : ∃ A, (if c2 = R.gave then a2 else Option.map (fun x => x.add R.gave) a2) = A := ⟨_, rfl⟩
  obtain ⟨A3, hA3⟩ : ∃ A, (if c3 = S.heard then a3 else Option.map (fun x => x.add S.heard) a3) = A := ⟨_, rfl⟩
  obtain ⟨A4, hA4⟩ : ∃ A, (if c4 = S.gave then a4 else Option.map (fun x => x.add S.gave) a4) = A := ⟨_, rfl⟩
  have HO := Lib.hid (((Ow.start w).key #[.int .i64 R.most, .int .i64 R.again, .slice a1 R.said.length c1, .int .i64 R.heard, .int .i64 R.out, .slice a2 R.took.length c2, .int .i64 R.gave, .int .i64 R.last, .bool R.went, .bool R.owes] 27 w.heap.size rfl).key #[.int .i64 S.most, .int .i64 S.again, .slice a3 S.said.length c3, .int .i64 S.heard, .int .i64 S.out, .slice a4 S.took.length c4, .int .i64 S.gave, .int .i64 S.last, .bool S.went, .bool S.owes] 27 (w.heap.size + 1) (by simp))
  have H1 := Lib.hid (h1.rest R.heard q1 A1 hA1.symm)
  have H2 := Lib.hid (h2.rest R.gave q2 A2 hA2.symm)
  have H3 := Lib.hid (h3.rest S.heard q3 A3 hA3.symm)
  have H4 := Lib.hid (h4.rest S.gave q4 A4 hA4.symm)
  clear h1 h2 h3 h4 hR hS
  go_enter Try.func27, Try.ntmps27
  go_wp2
  refine wp_opq (fun W => Ow W w (⟨w.heap.size + 1, 27, #[.int .i64 S.most, .int .i64 S.again, .slice a3 S.said.length c3, .int .i64 S.heard, .int .i64 S.out, .slice a4 S.took.length c4, .int .i64 S.gave, .int .i64 S.last, .bool S.went, .bool S.owes]⟩ :: (⟨w.heap.size, 27, #[.int .i64 R.most, .int .i64 R.again, .slice a1 R.said.length c1, .int .i64 R.heard, .int .i64 R.out, .slice a2 R.took.length c2, .int .i64 R.gave, .int .i64 R.last, .bool R.went, .bool R.owes]⟩ :: []))) HO.out ?_
  intro W1 O1
  have hb1 := O1.has (b := w.heap.size) (t := 27) (cs := #[.int .i64 R.most, .int .i64 R.again, .slice a1 R.said.length c1, .int .i64 R.heard, .int .i64 R.out, .slice a2 R.took.length c2, .int .i64 R.gave, .int .i64 R.last, .bool R.went, .bool R.owes]) (by simp)
  have hb2 := O1.has (b := w.heap.size + 1) (t := 27) (cs := #[.int .i64 S.most, .int .i64 S.again, .slice a3 S.said.length c3, .int .i64 S.heard, .int .i64 S.out, .slice a4 S.took.length c4, .int .i64 S.gave, .int .i64 S.last, .bool S.went, .bool S.owes]) (by simp)
  have d0 := hb1.cell 0
  have d1 := hb1.cell 1
  have d2 := hb1.cell 2
  have d3 := hb1.cell 3
  have d4 := hb1.cell 4
  have d5 := hb1.cell 5
  have d6 := hb1.cell 6
  have d7 := hb1.cell 7
  have d8 := hb1.cell 8
  have d9 := hb1.cell 9
  have e0 := hb2.cell 0
  have e1 := hb2.cell 1
  have e2 := hb2.cell 2
  have e3 := hb2.cell 3
  have e4 := hb2.cell 4
  have e5 := hb2.cell 5
  have e6 := hb2.cell 6
  have e7 := hb2.cell 7
  have e8 := hb2.cell 8
  have e9 := hb2.cell 9
  have l1 := hb1.lt
  have l2 := hb2.lt
  have HO1 := Lib.hid O1
  clear hb1 hb2 O1
  have E1 : Hid (∀ g d, Calls Try.prog 17 #[.slice A1 (R.said.length - R.heard) (c1 - R.heard), .slice A3 (S.said.length - S.heard) (c3 - S.heard)] (plus W1 g d) fun e w' => e = .returned (.bool true) ∧ Below (plus W1 g d).heap.size (plus W1 g d) w') := fun g d => (same_to _ _ (R.said.drop R.heard) (S.said.drop S.heard) _ (by simp; omega) (by simp; omega) (H1.out.here (HO1.out.plus g d) sub_nil) (H3.out.here (HO1.out.plus g d) sub_nil) true (decide_eq_true K3.out)).mono fun e w' hh => ⟨hh.1, hh.2.below⟩
  have E2 : Hid (∀ g d, Calls Try.prog 17 #[.slice A2 (R.took.length - R.gave) (c2 - R.gave), .slice A4 (S.took.length - S.gave) (c4 - S.gave)] (plus W1 g d) fun e w' => e = .returned (.bool true) ∧ Below (plus W1 g d).heap.size (plus W1 g d) w') := fun g d => (same_to _ _ (R.took.drop R.gave) (S.took.drop S.gave) _ (by simp; omega) (by simp; omega) (H2.out.here (HO1.out.plus g d) sub_nil) (H4.out.here (HO1.out.plus g d) sub_nil) true (decide_eq_true K7.out)).mono fun e w' hh => ⟨hh.1, hh.2.below⟩
  refine wp_region_rs (by kernel_rfl) (by kernel_rfl) (by kernel_rfl) ?_
  repeat (first
    | (refine B_skip ?_ ?_; (· rfl); (try simp only [Act.put, List.setIfInBounds_toArray, List.set_cons_zero, List.set_cons_succ]))
    | (refine B_move rfl ?_ ?_; (· rfl); (try simp only [Act.eval, Act.put, Array.getD_eq_getD_getElem?, List.getElem?_toArray, List.getElem?_cons_succ, List.getElem?_cons_zero, Option.getD_some, List.setIfInBounds_toArray, List.set_cons_zero, List.set_cons_succ]))
    | (refine B_plain ?_ ?_; (· rfl); intro K hK; go_big_quiet_op; with_reducible refine hK _ ?_; clear hK K)
    | (refine B_callX (v := ?_) (f := 17) rfl (by kernel_rfl) ?_ (fun xq => ?_) ?_; rotate_left; (· rfl); (· ((simp only [List.map_toArray, List.map_cons, List.map_nil, Act.eval, Array.getD_eq_getD_getElem?, List.getElem?_toArray, List.getElem?_cons_succ, List.getElem?_cons_zero, Option.getD_some]); with_reducible apply retB; with_reducible exact (E1.out _ _))); (try simp only [Act.put, List.setIfInBounds_toArray, List.set_cons_zero, List.set_cons_succ]))
    | (refine B_callX (v := ?_) (f := 17) rfl (by kernel_rfl) ?_ (fun xq => ?_) ?_; rotate_left; (· rfl); (· ((simp only [List.map_toArray, List.map_cons, List.map_nil, Act.eval, Array.getD_eq_getD_getElem?, List.getElem?_toArray, List.getElem?_cons_succ, List.getElem?_cons_zero, Option.getD_some]); with_reducible apply retB; with_reducible exact (E2.out _ _))); (try simp only [Act.put, List.setIfInBounds_toArray, List.set_cons_zero, List.set_cons_succ]))
    | (refine B_nilck rfl rfl ?_ ?_; (· rfl); (try simp only [Act.put, List.setIfInBounds_toArray, List.set_cons_zero, List.set_cons_succ])))
  refine B_nil ?_ rfl ?_ ?_
  · kernel_rfl
  · rfl
  rintro _ ⟨⟨g1, d1⟩, rfl⟩
  simp only [fin, Act.put, List.setIfInBounds_toArray, List.set_cons_zero, List.set_cons_succ]
  go_wp2
  go_ret
  exact ⟨rfl, (HO1.out.plus _ _).below⟩
end
theorem ralike_to (R S : RS) (vs vt us ut : Value) (w w0 : World) (X Y : List Blk) (O : Ow w w0 Y) (hX : Sub X Y) (hR : RW 1000000 R) (hS : RW 1000000 S) (hM : RM w0 X R vs vt) (hN : RM w0 X S us ut) (b : Bool) (hb : rAlike R S = b) :
    Calls Try.prog 27 #[.agg (rcs R vs vt), .agg (rcs S us ut)] w fun e w' => e = .returned (.bool b) ∧ Below w.heap.size w w' := by
  obtain ⟨a1, c1, rfl⟩ := hM.1.slice
  obtain ⟨a2, c2, rfl⟩ := hM.2.slice
  obtain ⟨a3, c3, rfl⟩ := hN.1.slice
  obtain ⟨a4, c4, rfl⟩ := hN.2.slice
  have h1 := hM.1.here O hX
  have h2 := hM.2.here O hX
  have h3 := hN.1.here O hX
  have h4 := hN.2.here O hX
  unfold rAlike at hb
  have F : ∀ {P : Prop} [Decidable P], decide P = b → ¬ P → b = false := fun h1 h2 => by rw [← h1, decide_eq_false h2]
  by_cases k0 : R.most = S.most
  case neg =>
    rw [F hb (fun h => k0 h.1)]
    exact ra_f0 R S a1 a2 a3 a4 c1 c2 c3 c4 w hR hS h1 h2 h3 h4 k0
  by_cases k1 : R.again = S.again
  case neg =>
    rw [F hb (fun h => k1 h.2.1)]
    exact ra_f1 R S a1 a2 a3 a4 c1 c2 c3 c4 w hR hS h1 h2 h3 h4 k0 k1
  by_cases k2 : R.said.length = S.said.length
  case neg =>
    rw [F hb (fun h => k2 h.2.2.1)]
    exact ra_f2 R S a1 a2 a3 a4 c1 c2 c3 c4 w hR hS h1 h2 h3 h4 k0 k1 k2
  by_cases k3 : R.said.drop R.heard = S.said.drop S.heard
  case neg =>
    rw [F hb (fun h => k3 h.2.2.2.1)]
    exact ra_f3 R S a1 a2 a3 a4 c1 c2 c3 c4 w hR hS h1 h2 h3 h4 k0 k1 k2 k3
  by_cases k4 : R.heard = S.heard
  case neg =>
    rw [F hb (fun h => k4 h.2.2.2.2.1)]
    exact ra_f4 R S a1 a2 a3 a4 c1 c2 c3 c4 w hR hS h1 h2 h3 h4 k0 k1 k2 k3 k4
  by_cases k5 : R.out = S.out
  case neg =>
    rw [F hb (fun h => k5 h.2.2.2.2.2.1)]
    exact ra_f5 R S a1 a2 a3 a4 c1 c2 c3 c4 w hR hS h1 h2 h3 h4 k0 k1 k2 k3 k4 k5
  by_cases k6 : R.took.length = S.took.length
  case neg =>
    rw [F hb (fun h => k6 h.2.2.2.2.2.2.1)]
    exact ra_f6 R S a1 a2 a3 a4 c1 c2 c3 c4 w hR hS h1 h2 h3 h4 k0 k1 k2 k3 k4 k5 k6
  by_cases k7 : R.took.drop R.gave = S.took.drop S.gave
  case neg =>
    rw [F hb (fun h => k7 h.2.2.2.2.2.2.2.1)]
    exact ra_f7 R S a1 a2 a3 a4 c1 c2 c3 c4 w hR hS h1 h2 h3 h4 k0 k1 k2 k3 k4 k5 k6 k7
  by_cases k8 : R.last = S.last
  case neg =>
    rw [F hb (fun h => k8 h.2.2.2.2.2.2.2.2.1)]
    exact ra_f8 R S a1 a2 a3 a4 c1 c2 c3 c4 w hR hS h1 h2 h3 h4 k0 k1 k2 k3 k4 k5 k6 k7 k8
  by_cases k9 : R.went = S.went
  case neg =>
    rw [F hb (fun h => k9 h.2.2.2.2.2.2.2.2.2.1)]
    exact ra_f9 R S a1 a2 a3 a4 c1 c2 c3 c4 w hR hS h1 h2 h3 h4 k0 k1 k2 k3 k4 k5 k6 k7 k8 k9
  refine ra_f10 R S a1 a2 a3 a4 c1 c2 c3 c4 w hR hS h1 h2 h3 h4 k0 k1 k2 k3 k4 k5 k6 k7 k8 k9 b ?_
  rw [← hb, Bool.eq_iff_iff, beq_iff_eq, decide_eq_true_iff]
  exact ⟨fun h => ⟨k0, k1, k2, k3, k4, k5, k6, k7, k8, k9, h⟩, fun h => h.2.2.2.2.2.2.2.2.2.2⟩

end Go.Proofs.Ytgjodjkmefdilaa
