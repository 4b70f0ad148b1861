/- talk: contract of Same. -/
import Derived.Test.YtgjodjkmefdilaaTalkAgain
import Derived.Test.YtgjodjkmefdilaaRs
namespace Go.Proofs.Ytgjodjkmefdilaa
set_option linter.unusedSimpArgs false
set_option linter.unusedVariables false
open Go.RowKit

/-- Are both the same? -/
def sameT (T U : TS) : Bool := decide (T.most = U.most ∧ T.again = U.again ∧ T.gone = U.gone ∧ T.said = U.said ∧ T.heard = U.heard ∧ T.last = U.last ∧ T.went = U.went ∧ T.owes = U.owes ∧ T.waits = U.waits ∧ T.got = U.got)
theorem natEq_t {a b : Nat} (h : a = b) : ((a : Int) == (b : Int)) = true := by subst h; simp
theorem natEq_f {a b : Nat} (h : a ≠ b) : ((a : Int) == (b : Int)) = false := by simp; omega

set_option maxRecDepth 100000 in
set_option maxHeartbeats 1000000 in
theorem tsame_nn (w : World) : Calls Try.prog 26 #[.pointer none, .pointer none] w fun e w' => e = .returned (.bool true) ∧ w' = w := by
  go_enter Try.func26, Try.ntmps26
  go_wp2
  go_ret
  exact ⟨rfl, rfl⟩
set_option maxRecDepth 100000 in
set_option maxHeartbeats 1000000 in
theorem tsame_np (p : Nat) (w : World) : Calls Try.prog 26 #[.pointer none, ptr p] w fun e w' => e = .returned (.bool false) ∧ w' = w := by
  go_enter Try.func26, Try.ntmps26
  go_wp2
  go_ret
  exact ⟨rfl, rfl⟩
set_option maxRecDepth 100000 in
set_option maxHeartbeats 1000000 in
theorem tsame_pn (p : Nat) (w : World) : Calls Try.prog 26 #[ptr p, .pointer none] w fun e w' => e = .returned (.bool false) ∧ w' = w := by
  go_enter Try.func26, Try.ntmps26
  go_wp2
  go_ret
  exact ⟨rfl, rfl⟩

set_option maxRecDepth 100000 in
set_option maxHeartbeats 4000000 in
theorem ts_f0 (w : World) (p q : Nat) (T U : TS) (vw vg vw2 vg2 : Value) (HBp : HasBlk w p 84 (tcs T vw vg)) (HBq : HasBlk w q 84 (tcs U vw2 vg2))  (k0 : ¬ (T.most = U.most ∧ T.again = U.again)) :
    Calls Try.prog 26 #[ptr p, ptr q] w fun e w' => e = .returned (.bool false) ∧ Ow w' w [] := by
  have e0 := fun W => bounds_eq T.most T.again U.most U.again W false (decide_eq_false k0)
  have cp0 := HBp.cell 0
  have cq0 := HBq.cell 0
  have cp1 := HBp.cell 1
  have cq1 := HBq.cell 1
  have cp2 := HBp.cell 2
  have cq2 := HBq.cell 2
  have cp3 := HBp.cell 3
  have cq3 := HBq.cell 3
  have cp4 := HBp.cell 4
  have cq4 := HBq.cell 4
  have cp5 := HBp.cell 5
  have cq5 := HBq.cell 5
  have cp6 := HBp.cell 6
  have cq6 := HBq.cell 6
  have cp7 := HBp.cell 7
  have cq7 := HBq.cell 7
  have cp8 := HBp.cell 8
  have cq8 := HBq.cell 8
  have cp9 := HBp.cell 9
  have cq9 := HBq.cell 9
  have ltp := HBp.lt
  have ltq := HBq.lt
  simp only [tcs] at cp0 cq0 cp1 cq1 cp2 cq2 cp3 cq3 cp4 cq4 cp5 cq5 cp6 cq6 cp7 cq7 cp8 cq8 cp9 cq9
  have HS := Lib.hid (Ow.start w)
  clear HBp HBq
  go_enter Try.func26, Try.ntmps26
  go_wp2
  refine wp_region_rs (by kernel_rfl) (by kernel_rfl) (by kernel_rfl) ?_
  repeat (first
    | (refine B_skip ?_ ?_; (· rfl); (try simp only [Act.put, List.setIfInBounds_toArray, List.set_cons_zero, List.set_cons_succ]))
    | (refine B_move rfl ?_ ?_; (· rfl); (try simp only [Act.eval, Act.put, Array.getD_eq_getD_getElem?, List.getElem?_toArray, List.getElem?_cons_succ, List.getElem?_cons_zero, Option.getD_some, List.setIfInBounds_toArray, List.set_cons_zero, List.set_cons_succ]))
    | (refine B_plain ?_ ?_; (· rfl); intro K hK; go_big_quiet_op; with_reducible refine hK _ ?_; clear hK K)
    | (refine B_nilck rfl rfl ?_ ?_; (· rfl); (try simp only [Act.put, List.setIfInBounds_toArray, List.set_cons_zero, List.set_cons_succ])))
  refine B_nil ?_ rfl ?_ ?_
  · kernel_rfl
  · rfl
  rintro _ ⟨⟨g1, d1⟩, rfl⟩
  simp only [fin, Act.put, List.setIfInBounds_toArray, List.set_cons_zero, List.set_cons_succ]
  go_wp2
  go_ret
  exact ⟨rfl, HS.out.plus _ _⟩
set_option maxRecDepth 100000 in
set_option maxHeartbeats 4000000 in
theorem ts_f1 (w : World) (p q : Nat) (T U : TS) (vw vg vw2 vg2 : Value) (HBp : HasBlk w p 84 (tcs T vw vg)) (HBq : HasBlk w q 84 (tcs U vw2 vg2)) (k0 : T.most = U.most ∧ T.again = U.again) (k1 : ¬ (T.gone = U.gone)) :
    Calls Try.prog 26 #[ptr p, ptr q] w fun e w' => e = .returned (.bool false) ∧ Ow w' w [] := by
  have e0 := fun W => bounds_eq T.most T.again U.most U.again W true (decide_eq_true k0)
  have e1 := natEq_f k1
  have cp0 := HBp.cell 0
  have cq0 := HBq.cell 0
  have cp1 := HBp.cell 1
  have cq1 := HBq.cell 1
  have cp2 := HBp.cell 2
  have cq2 := HBq.cell 2
  have cp3 := HBp.cell 3
  have cq3 := HBq.cell 3
  have cp4 := HBp.cell 4
  have cq4 := HBq.cell 4
  have cp5 := HBp.cell 5
  have cq5 := HBq.cell 5
  have cp6 := HBp.cell 6
  have cq6 := HBq.cell 6
  have cp7 := HBp.cell 7
  have cq7 := HBq.cell 7
  have cp8 := HBp.cell 8
  have cq8 := HBq.cell 8
  have cp9 := HBp.cell 9
  have cq9 := HBq.cell 9
  have ltp := HBp.lt
  have ltq := HBq.lt
  simp only [tcs] at cp0 cq0 cp1 cq1 cp2 cq2 cp3 cq3 cp4 cq4 cp5 cq5 cp6 cq6 cp7 cq7 cp8 cq8 cp9 cq9
  have HS := Lib.hid (Ow.start w)
  clear HBp HBq
  go_enter Try.func26, Try.ntmps26
  go_wp2
  refine wp_region_rs (by kernel_rfl) (by kernel_rfl) (by kernel_rfl) ?_
  repeat (first
    | (refine B_skip ?_ ?_; (· rfl); (try simp only [Act.put, List.setIfInBounds_toArray, List.set_cons_zero, List.set_cons_succ]))
    | (refine B_move rfl ?_ ?_; (· rfl); (try simp only [Act.eval, Act.put, Array.getD_eq_getD_getElem?, List.getElem?_toArray, List.getElem?_cons_succ, List.getElem?_cons_zero, Option.getD_some, List.setIfInBounds_toArray, List.set_cons_zero, List.set_cons_succ]))
    | (refine B_plain ?_ ?_; (· rfl); intro K hK; go_big_quiet_op; with_reducible refine hK _ ?_; clear hK K)
    | (refine B_nilck rfl rfl ?_ ?_; (· rfl); (try simp only [Act.put, List.setIfInBounds_toArray, List.set_cons_zero, List.set_cons_succ])))
  refine B_nil ?_ rfl ?_ ?_
  · kernel_rfl
  · rfl
  rintro _ ⟨⟨g1, d1⟩, rfl⟩
  simp only [fin, Act.put, List.setIfInBounds_toArray, List.set_cons_zero, List.set_cons_succ]
  go_wp2
  go_ret
  exact ⟨rfl, HS.out.plus _ _⟩
set_option maxRecDepth 100000 in
set_option maxHeartbeats 4000000 in
theorem ts_f2 (w : World) (p q : Nat) (T U : TS) (vw vg vw2 vg2 : Value) (HBp : HasBlk w p 84 (tcs T vw vg)) (HBq : HasBlk w q 84 (tcs U vw2 vg2)) (k0 : T.most = U.most ∧ T.again = U.again) (k1 : T.gone = U.gone) (k2 : ¬ (T.said = U.said)) :
    Calls Try.prog 26 #[ptr p, ptr q] w fun e w' => e = .returned (.bool false) ∧ Ow w' w [] := by
  have e0 := fun W => bounds_eq T.most T.again U.most U.again W true (decide_eq_true k0)
  have e1 := natEq_t k1
  have e2 := natEq_f k2
  have cp0 := HBp.cell 0
  have cq0 := HBq.cell 0
  have cp1 := HBp.cell 1
  have cq1 := HBq.cell 1
  have cp2 := HBp.cell 2
  have cq2 := HBq.cell 2
  have cp3 := HBp.cell 3
  have cq3 := HBq.cell 3
  have cp4 := HBp.cell 4
  have cq4 := HBq.cell 4
  have cp5 := HBp.cell 5
  have cq5 := HBq.cell 5
  have cp6 := HBp.cell 6
  have cq6 := HBq.cell 6
  have cp7 := HBp.cell 7
  have cq7 := HBq.cell 7
  have cp8 := HBp.cell 8
  have cq8 := HBq.cell 8
  have cp9 := HBp.cell 9
  have cq9 := HBq.cell 9
  have ltp := HBp.lt
  have ltq := HBq.lt
  simp only [tcs] at cp0 cq0 cp1 cq1 cp2 cq2 cp3 cq3 cp4 cq4 cp5 cq5 cp6 cq6 cp7 cq7 cp8 cq8 cp9 cq9
  have HS := Lib.hid (Ow.start w)
  clear HBp HBq
  go_enter Try.func26, Try.ntmps26
  go_wp2
  refine wp_region_rs (by kernel_rfl) (by kernel_rfl) (by kernel_rfl) ?_
  repeat (first
    | (refine B_skip ?_ ?_; (· rfl); (try simp only [Act.put, List.setIfInBounds_toArray, List.set_cons_zero, List.set_cons_succ]))
    | (refine B_move rfl ?_ ?_; (· rfl); (try simp only [Act.eval, Act.put, Array.getD_eq_getD_getElem?, List.getElem?_toArray, List.getElem?_cons_succ, List.getElem?_cons_zero, Option.getD_some, List.setIfInBounds_toArray, List.set_cons_zero, List.set_cons_succ]))
    | (refine B_plain ?_ ?_; (· rfl); intro K hK; go_big_quiet_op; with_reducible refine hK _ ?_; clear hK K)
    | (refine B_nilck rfl rfl ?_ ?_; (· rfl); (try simp only [Act.put, List.setIfInBounds_toArray, List.set_cons_zero, List.set_cons_succ])))
  refine B_nil ?_ rfl ?_ ?_
  · kernel_rfl
  · rfl
  rintro _ ⟨⟨g1, d1⟩, rfl⟩
  simp only [fin, Act.put, List.setIfInBounds_toArray, List.set_cons_zero, List.set_cons_succ]
  go_wp2
  go_ret
  exact ⟨rfl, HS.out.plus _ _⟩
set_option maxRecDepth 100000 in
set_option maxHeartbeats 4000000 in
theorem ts_f3 (w : World) (p q : Nat) (T U : TS) (vw vg vw2 vg2 : Value) (HBp : HasBlk w p 84 (tcs T vw vg)) (HBq : HasBlk w q 84 (tcs U vw2 vg2)) (k0 : T.most = U.most ∧ T.again = U.again) (k1 : T.gone = U.gone) (k2 : T.said = U.said) (k3 : ¬ (T.heard = U.heard)) :
    Calls Try.prog 26 #[ptr p, ptr q] w fun e w' => e = .returned (.bool false) ∧ Ow w' w [] := by
  have e0 := fun W => bounds_eq T.most T.again U.most U.again W true (decide_eq_true k0)
  have e1 := natEq_t k1
  have e2 := natEq_t k2
  have e3 := natEq_f k3
  have cp0 := HBp.cell 0
  have cq0 := HBq.cell 0
  have cp1 := HBp.cell 1
  have cq1 := HBq.cell 1
  have cp2 := HBp.cell 2
  have cq2 := HBq.cell 2
  have cp3 := HBp.cell 3
  have cq3 := HBq.cell 3
  have cp4 := HBp.cell 4
  have cq4 := HBq.cell 4
  have cp5 := HBp.cell 5
  have cq5 := HBq.cell 5
  have cp6 := HBp.cell 6
  have cq6 := HBq.cell 6
  have cp7 := HBp.cell 7
  have cq7 := HBq.cell 7
  have cp8 := HBp.cell 8
  have cq8 := HBq.cell 8
  have cp9 := HBp.cell 9
  have cq9 := HBq.cell 9
  have ltp := HBp.lt
  have ltq := HBq.lt
  simp only [tcs] at cp0 cq0 cp1 cq1 cp2 cq2 cp3 cq3 cp4 cq4 cp5 cq5 cp6 cq6 cp7 cq7 cp8 cq8 cp9 cq9
  have HS := Lib.hid (Ow.start w)
  clear HBp HBq
  go_enter Try.func26, Try.ntmps26
  go_wp2
  refine wp_region_rs (by kernel_rfl) (by kernel_rfl) (by kernel_rfl) ?_
  repeat (first
    | (refine B_skip ?_ ?_; (· rfl); (try simp only [Act.put, List.setIfInBounds_toArray, List.set_cons_zero, List.set_cons_succ]))
    | (refine B_move rfl ?_ ?_; (· rfl); (try simp only [Act.eval, Act.put, Array.getD_eq_getD_getElem?, List.getElem?_toArray, List.getElem?_cons_succ, List.getElem?_cons_zero, Option.getD_some, List.setIfInBounds_toArray, List.set_cons_zero, List.set_cons_succ]))
    | (refine B_plain ?_ ?_; (· rfl); intro K hK; go_big_quiet_op; with_reducible refine hK _ ?_; clear hK K)
    | (refine B_nilck rfl rfl ?_ ?_; (· rfl); (try simp only [Act.put, List.setIfInBounds_toArray, List.set_cons_zero, List.set_cons_succ])))
  refine B_nil ?_ rfl ?_ ?_
  · kernel_rfl
  · rfl
  rintro _ ⟨⟨g1, d1⟩, rfl⟩
  simp only [fin, Act.put, List.setIfInBounds_toArray, List.set_cons_zero, List.set_cons_succ]
  go_wp2
  go_ret
  exact ⟨rfl, HS.out.plus _ _⟩
set_option maxRecDepth 100000 in
set_option maxHeartbeats 4000000 in
theorem ts_f4 (w : World) (p q : Nat) (T U : TS) (vw vg vw2 vg2 : Value) (HBp : HasBlk w p 84 (tcs T vw vg)) (HBq : HasBlk w q 84 (tcs U vw2 vg2)) (k0 : T.most = U.most ∧ T.again = U.again) (k1 : T.gone = U.gone) (k2 : T.said = U.said) (k3 : T.heard = U.heard) (k4 : ¬ (T.last = U.last)) :
    Calls Try.prog 26 #[ptr p, ptr q] w fun e w' => e = .returned (.bool false) ∧ Ow w' w [] := by
  have e0 := fun W => bounds_eq T.most T.again U.most U.again W true (decide_eq_true k0)
  have e1 := natEq_t k1
  have e2 := natEq_t k2
  have e3 := natEq_t k3
  have e4 := natEq_f k4
  have cp0 := HBp.cell 0
  have cq0 := HBq.cell 0
  have cp1 := HBp.cell 1
  have cq1 := HBq.cell 1
  have cp2 := HBp.cell 2
  have cq2 := HBq.cell 2
  have cp3 := HBp.cell 3
  have cq3 := HBq.cell 3
  have cp4 := HBp.cell 4
  have cq4 := HBq.cell 4
  have cp5 := HBp.cell 5
  have cq5 := HBq.cell 5
  have cp6 := HBp.cell 6
  have cq6 := HBq.cell 6
  have cp7 := HBp.cell 7
  have cq7 := HBq.cell 7
  have cp8 := HBp.cell 8
  have cq8 := HBq.cell 8
  have cp9 := HBp.cell 9
  have cq9 := HBq.cell 9
  have ltp := HBp.lt
  have ltq := HBq.lt
  simp only [tcs] at cp0 cq0 cp1 cq1 cp2 cq2 cp3 cq3 cp4 cq4 cp5 cq5 cp6 cq6 cp7 cq7 cp8 cq8 cp9 cq9
  have HS := Lib.hid (Ow.start w)
  clear HBp HBq
  go_enter Try.func26, Try.ntmps26
  go_wp2
  refine wp_region_rs (by kernel_rfl) (by kernel_rfl) (by kernel_rfl) ?_
  repeat (first
    | (refine B_skip ?_ ?_; (· rfl); (try simp only [Act.put, List.setIfInBounds_toArray, List.set_cons_zero, List.set_cons_succ]))
    | (refine B_move rfl ?_ ?_; (· rfl); (try simp only [Act.eval, Act.put, Array.getD_eq_getD_getElem?, List.getElem?_toArray, List.getElem?_cons_succ, List.getElem?_cons_zero, Option.getD_some, List.setIfInBounds_toArray, List.set_cons_zero, List.set_cons_succ]))
    | (refine B_plain ?_ ?_; (· rfl); intro K hK; go_big_quiet_op; with_reducible refine hK _ ?_; clear hK K)
    | (refine B_nilck rfl rfl ?_ ?_; (· rfl); (try simp only [Act.put, List.setIfInBounds_toArray, List.set_cons_zero, List.set_cons_succ])))
  refine B_nil ?_ rfl ?_ ?_
  · kernel_rfl
  · rfl
  rintro _ ⟨⟨g1, d1⟩, rfl⟩
  simp only [fin, Act.put, List.setIfInBounds_toArray, List.set_cons_zero, List.set_cons_succ]
  go_wp2
  go_ret
  exact ⟨rfl, HS.out.plus _ _⟩
set_option maxRecDepth 100000 in
set_option maxHeartbeats 4000000 in
theorem ts_f5 (w : World) (p q : Nat) (T U : TS) (vw vg vw2 vg2 : Value) (HBp : HasBlk w p 84 (tcs T vw vg)) (HBq : HasBlk w q 84 (tcs U vw2 vg2)) (k0 : T.most = U.most ∧ T.again = U.again) (k1 : T.gone = U.gone) (k2 : T.said = U.said) (k3 : T.heard = U.heard) (k4 : T.last = U.last) (k5 : ¬ (T.went = U.went)) :
    Calls Try.prog 26 #[ptr p, ptr q] w fun e w' => e = .returned (.bool false) ∧ Ow w' w [] := by
  have e0 := fun W => bounds_eq T.most T.again U.most U.again W true (decide_eq_true k0)
  have e1 := natEq_t k1
  have e2 := natEq_t k2
  have e3 := natEq_t k3
  have e4 := natEq_t k4
  have e5 : (T.went == U.went) = false := by simp [k5]
  have cp0 := HBp.cell 0
  have cq0 := HBq.cell 0
  have cp1 := HBp.cell 1
  have cq1 := HBq.cell 1
  have cp2 := HBp.cell 2
  have cq2 := HBq.cell 2
  have cp3 := HBp.cell 3
  have cq3 := HBq.cell 3
  have cp4 := HBp.cell 4
  have cq4 := HBq.cell 4
  have cp5 := HBp.cell 5
  have cq5 := HBq.cell 5
  have cp6 := HBp.cell 6
  have cq6 := HBq.cell 6
  have cp7 := HBp.cell 7
  have cq7 := HBq.cell 7
  have cp8 := HBp.cell 8
  have cq8 := HBq.cell 8
  have cp9 := HBp.cell 9
  have cq9 := HBq.cell 9
  have ltp := HBp.lt
  have ltq := HBq.lt
  simp only [tcs] at cp0 cq0 cp1 cq1 cp2 cq2 cp3 cq3 cp4 cq4 cp5 cq5 cp6 cq6 cp7 cq7 cp8 cq8 cp9 cq9
  have HS := Lib.hid (Ow.start w)
  clear HBp HBq
  go_enter Try.func26, Try.ntmps26
  go_wp2
  refine wp_region_rs (by kernel_rfl) (by kernel_rfl) (by kernel_rfl) ?_
  repeat (first
    | (refine B_skip ?_ ?_; (· rfl); (try simp only [Act.put, List.setIfInBounds_toArray, List.set_cons_zero, List.set_cons_succ]))
    | (refine B_move rfl ?_ ?_; (· rfl); (try simp only [Act.eval, Act.put, Array.getD_eq_getD_getElem?, List.getElem?_toArray, List.getElem?_cons_succ, List.getElem?_cons_zero, Option.getD_some, List.setIfInBounds_toArray, List.set_cons_zero, List.set_cons_succ]))
    | (refine B_plain ?_ ?_; (· rfl); intro K hK; go_big_quiet_op; with_reducible refine hK _ ?_; clear hK K)
    | (refine B_nilck rfl rfl ?_ ?_; (· rfl); (try simp only [Act.put, List.setIfInBounds_toArray, List.set_cons_zero, List.set_cons_succ])))
  refine B_nil ?_ rfl ?_ ?_
  · kernel_rfl
  · rfl
  rintro _ ⟨⟨g1, d1⟩, rfl⟩
  simp only [fin, Act.put, List.setIfInBounds_toArray, List.set_cons_zero, List.set_cons_succ]
  go_wp2
  go_ret
  exact ⟨rfl, HS.out.plus _ _⟩
set_option maxRecDepth 100000 in
set_option maxHeartbeats 4000000 in
theorem ts_f6 (w : World) (p q : Nat) (T U : TS) (vw vg vw2 vg2 : Value) (HBp : HasBlk w p 84 (tcs T vw vg)) (HBq : HasBlk w q 84 (tcs U vw2 vg2)) (k0 : T.most = U.most ∧ T.again = U.again) (k1 : T.gone = U.gone) (k2 : T.said = U.said) (k3 : T.heard = U.heard) (k4 : T.last = U.last) (k5 : T.went = U.went) (k6 : ¬ (T.owes = U.owes)) :
    Calls Try.prog 26 #[ptr p, ptr q] w fun e w' => e = .returned (.bool false) ∧ Ow w' w [] := by
  have e0 := fun W => bounds_eq T.most T.again U.most U.again W true (decide_eq_true k0)
  have e1 := natEq_t k1
  have e2 := natEq_t k2
  have e3 := natEq_t k3
  have e4 := natEq_t k4
  have e5 : (T.went == U.went) = true := by simp [k5]
  have e6 : (T.owes == U.owes) = false := by simp [k6]
  have cp0 := HBp.cell 0
  have cq0 := HBq.cell 0
  have cp1 := HBp.cell 1
  have cq1 := HBq.cell 1
  have cp2 := HBp.cell 2
  have cq2 := HBq.cell 2
  have cp3 := HBp.cell 3
  have cq3 := HBq.cell 3
  have cp4 := HBp.cell 4
  have cq4 := HBq.cell 4
  have cp5 := HBp.cell 5
  have cq5 := HBq.cell 5
  have cp6 := HBp.cell 6
  have cq6 := HBq.cell 6
  have cp7 := HBp.cell 7
  have cq7 := HBq.cell 7
  have cp8 := HBp.cell 8
  have cq8 := HBq.cell 8
  have cp9 := HBp.cell 9
  have cq9 := HBq.cell 9
  have ltp := HBp.lt
  have ltq := HBq.lt
  simp only [tcs] at cp0 cq0 cp1 cq1 cp2 cq2 cp3 cq3 cp4 cq4 cp5 cq5 cp6 cq6 cp7 cq7 cp8 cq8 cp9 cq9
  have HS := Lib.hid (Ow.start w)
  clear HBp HBq
  go_enter Try.func26, Try.ntmps26
  go_wp2
  refine wp_region_rs (by kernel_rfl) (by kernel_rfl) (by kernel_rfl) ?_
  repeat (first
    | (refine B_skip ?_ ?_; (· rfl); (try simp only [Act.put, List.setIfInBounds_toArray, List.set_cons_zero, List.set_cons_succ]))
    | (refine B_move rfl ?_ ?_; (· rfl); (try simp only [Act.eval, Act.put, Array.getD_eq_getD_getElem?, List.getElem?_toArray, List.getElem?_cons_succ, List.getElem?_cons_zero, Option.getD_some, List.setIfInBounds_toArray, List.set_cons_zero, List.set_cons_succ]))
    | (refine B_plain ?_ ?_; (· rfl); intro K hK; go_big_quiet_op; with_reducible refine hK _ ?_; clear hK K)
    | (refine B_nilck rfl rfl ?_ ?_; (· rfl); (try simp only [Act.put, List.setIfInBounds_toArray, List.set_cons_zero, List.set_cons_succ])))
  refine B_nil ?_ rfl ?_ ?_
  · kernel_rfl
  · rfl
  rintro _ ⟨⟨g1, d1⟩, rfl⟩
  simp only [fin, Act.put, List.setIfInBounds_toArray, List.set_cons_zero, List.set_cons_succ]
  go_wp2
  go_ret
  exact ⟨rfl, HS.out.plus _ _⟩
set_option maxRecDepth 100000 in
set_option maxHeartbeats 4000000 in
theorem ts_f7 (w : World) (p q : Nat) (T U : TS) (vw vg vw2 vg2 : Value) (HBp : HasBlk w p 84 (tcs T vw vg)) (HBq : HasBlk w q 84 (tcs U vw2 vg2)) (k0 : T.most = U.most ∧ T.again = U.again) (k1 : T.gone = U.gone) (k2 : T.said = U.said) (k3 : T.heard = U.heard) (k4 : T.last = U.last) (k5 : T.went = U.went) (k6 : T.owes = U.owes) (E1' : ∀ g d, Calls Try.prog 39 #[vw, vw2, .func (.func 40) #[] #[]] (plus w g d) fun e w' => e = .returned (.bool false) ∧ Below (plus w g d).heap.size (plus w g d) w') :
    Calls Try.prog 26 #[ptr p, ptr q] w fun e w' => e = .returned (.bool false) ∧ Ow w' w [] := by
  have e0 := fun W => bounds_eq T.most T.again U.most U.again W true (decide_eq_true k0)
  have e1 := natEq_t k1
  have e2 := natEq_t k2
  have e3 := natEq_t k3
  have e4 := natEq_t k4
  have e5 : (T.went == U.went) = true := by simp [k5]
  have e6 : (T.owes == U.owes) = true := by simp [k6]
  have E1 := Lib.hid E1'
  clear E1'
  have cp0 := HBp.cell 0
  have cq0 := HBq.cell 0
  have cp1 := HBp.cell 1
  have cq1 := HBq.cell 1
  have cp2 := HBp.cell 2
  have cq2 := HBq.cell 2
  have cp3 := HBp.cell 3
  have cq3 := HBq.cell 3
  have cp4 := HBp.cell 4
  have cq4 := HBq.cell 4
  have cp5 := HBp.cell 5
  have cq5 := HBq.cell 5
  have cp6 := HBp.cell 6
  have cq6 := HBq.cell 6
  have cp7 := HBp.cell 7
  have cq7 := HBq.cell 7
  have cp8 := HBp.cell 8
  have cq8 := HBq.cell 8
  have cp9 := HBp.cell 9
  have cq9 := HBq.cell 9
  have ltp := HBp.lt
  have ltq := HBq.lt
  simp only [tcs] at cp0 cq0 cp1 cq1 cp2 cq2 cp3 cq3 cp4 cq4 cp5 cq5 cp6 cq6 cp7 cq7 cp8 cq8 cp9 cq9
  have HS := Lib.hid (Ow.start w)
  clear HBp HBq
  go_enter Try.func26, Try.ntmps26
  go_wp2
  refine wp_region_rs (by kernel_rfl) (by kernel_rfl) (by kernel_rfl) ?_
  repeat (first
    | (refine B_skip ?_ ?_; (· rfl); (try simp only [Act.put, List.setIfInBounds_toArray, List.set_cons_zero, List.set_cons_succ]))
    | (refine B_move rfl ?_ ?_; (· rfl); (try simp only [Act.eval, Act.put, Array.getD_eq_getD_getElem?, List.getElem?_toArray, List.getElem?_cons_succ, List.getElem?_cons_zero, Option.getD_some, List.setIfInBounds_toArray, List.set_cons_zero, List.set_cons_succ]))
    | (refine B_plain ?_ ?_; (· rfl); intro K hK; go_big_quiet_op; with_reducible refine hK _ ?_; clear hK K)
    | (refine B_callX (v := ?_) (f := 39) rfl (by kernel_rfl) ?_ (fun xq => ?_) ?_; rotate_left; (· rfl); (· ((simp only [List.map_toArray, List.map_cons, List.map_nil, Act.eval, Array.getD_eq_getD_getElem?, List.getElem?_toArray, List.getElem?_cons_succ, List.getElem?_cons_zero, Option.getD_some]); with_reducible apply retB; with_reducible exact (E1.out _ _))); (try simp only [Act.put, List.setIfInBounds_toArray, List.set_cons_zero, List.set_cons_succ]))
    | (refine B_nilck rfl rfl ?_ ?_; (· rfl); (try simp only [Act.put, List.setIfInBounds_toArray, List.set_cons_zero, List.set_cons_succ])))
  refine B_nil ?_ rfl ?_ ?_
  · kernel_rfl
  · rfl
  rintro _ ⟨⟨g1, d1⟩, rfl⟩
  simp only [fin, Act.put, List.setIfInBounds_toArray, List.set_cons_zero, List.set_cons_succ]
  go_wp2
  go_ret
  exact ⟨rfl, HS.out.plus _ _⟩
set_option maxRecDepth 100000 in
set_option maxHeartbeats 4000000 in
theorem ts_f8 (w : World) (p q : Nat) (T U : TS) (vw vg vw2 vg2 : Value) (HBp : HasBlk w p 84 (tcs T vw vg)) (HBq : HasBlk w q 84 (tcs U vw2 vg2)) (k0 : T.most = U.most ∧ T.again = U.again) (k1 : T.gone = U.gone) (k2 : T.said = U.said) (k3 : T.heard = U.heard) (k4 : T.last = U.last) (k5 : T.went = U.went) (k6 : T.owes = U.owes) (E1' : ∀ g d, Calls Try.prog 39 #[vw, vw2, .func (.func 40) #[] #[]] (plus w g d) fun e w' => e = .returned (.bool true) ∧ Below (plus w g d).heap.size (plus w g d) w') (b : Bool) (E2' : ∀ g d, Calls Try.prog 39 #[vg, vg2, .func (.func 40) #[] #[]] (plus w g d) fun e w' => e = .returned (.bool b) ∧ Below (plus w g d).heap.size (plus w g d) w') :
    Calls Try.prog 26 #[ptr p, ptr q] w fun e w' => e = .returned (.bool b) ∧ Ow w' w [] := by
  have e0 := fun W => bounds_eq T.most T.again U.most U.again W true (decide_eq_true k0)
  have e1 := natEq_t k1
  have e2 := natEq_t k2
  have e3 := natEq_t k3
  have e4 := natEq_t k4
  have e5 : (T.went == U.went) = true := by simp [k5]
  have e6 : (T.owes == U.owes) = true := by simp [k6]
  have E1 := Lib.hid E1'
  have E2 := Lib.hid E2'
  clear E1' E2'
  have cp0 := HBp.cell 0
  have cq0 := HBq.cell 0
  have cp1 := HBp.cell 1
  have cq1 := HBq.cell 1
  have cp2 := HBp.cell 2
  have cq2 := HBq.cell 2
  have cp3 := HBp.cell 3
  have cq3 := HBq.cell 3
  have cp4 := HBp.cell 4
  have cq4 := HBq.cell 4
  have cp5 := HBp.cell 5
  have cq5 := HBq.cell 5
  have cp6 := HBp.cell 6
  have cq6 := HBq.cell 6
  have cp7 := HBp.cell 7
  have cq7 := HBq.cell 7
  have cp8 := HBp.cell 8
  have cq8 := HBq.cell 8
  have cp9 := HBp.cell 9
  have cq9 := HBq.cell 9
  have ltp := HBp.lt
  have ltq := HBq.lt
  simp only [tcs] at cp0 cq0 cp1 cq1 cp2 cq2 cp3 cq3 cp4 cq4 cp5 cq5 cp6 cq6 cp7 cq7 cp8 cq8 cp9 cq9
  have HS := Lib.hid (Ow.start w)
  clear HBp HBq
  go_enter Try.func26, Try.ntmps26
  go_wp2
  refine wp_region_rs (by kernel_rfl) (by kernel_rfl) (by kernel_rfl) ?_
  repeat (first
    | (refine B_skip ?_ ?_; (· rfl); (try simp only [Act.put, List.setIfInBounds_toArray, List.set_cons_zero, List.set_cons_succ]))
    | (refine B_move rfl ?_ ?_; (· rfl); (try simp only [Act.eval, Act.put, Array.getD_eq_getD_getElem?, List.getElem?_toArray, List.getElem?_cons_succ, List.getElem?_cons_zero, Option.getD_some, List.setIfInBounds_toArray, List.set_cons_zero, List.set_cons_succ]))
    | (refine B_plain ?_ ?_; (· rfl); intro K hK; go_big_quiet_op; with_reducible refine hK _ ?_; clear hK K)
    | (refine B_callX (v := ?_) (f := 39) rfl (by kernel_rfl) ?_ (fun xq => ?_) ?_; rotate_left; (· rfl); (· ((simp only [List.map_toArray, List.map_cons, List.map_nil, Act.eval, Array.getD_eq_getD_getElem?, List.getElem?_toArray, List.getElem?_cons_succ, List.getElem?_cons_zero, Option.getD_some]); with_reducible apply retB; with_reducible exact (E1.out _ _))); (try simp only [Act.put, List.setIfInBounds_toArray, List.set_cons_zero, List.set_cons_succ]))
    | (refine B_callX (v := ?_) (f := 39) rfl (by kernel_rfl) ?_ (fun xq => ?_) ?_; rotate_left; (· rfl); (· ((simp only [List.map_toArray, List.map_cons, List.map_nil, Act.eval, Array.getD_eq_getD_getElem?, List.getElem?_toArray, List.getElem?_cons_succ, List.getElem?_cons_zero, Option.getD_some]); with_reducible apply retB; with_reducible exact (E2.out _ _))); (try simp only [Act.put, List.setIfInBounds_toArray, List.set_cons_zero, List.set_cons_succ]))
    | (refine B_nilck rfl rfl ?_ ?_; (· rfl); (try simp only [Act.put, List.setIfInBounds_toArray, List.set_cons_zero, List.set_cons_succ])))
  refine B_nil ?_ rfl ?_ ?_
  · kernel_rfl
  · rfl
  rintro _ ⟨⟨g1, d1⟩, rfl⟩
  simp only [fin, Act.put, List.setIfInBounds_toArray, List.set_cons_zero, List.set_cons_succ]
  go_wp2
  go_ret
  exact ⟨rfl, HS.out.plus _ _⟩

theorem tsame_to (w w0 : World) (X : List Blk) (p q : Nat) (T U : TS) (h : S2 w w0 X p T q U) (hT : T.waits.length ≤ 1000000 ∧ T.got.length ≤ 1000000) (hU : U.waits.length ≤ 1000000 ∧ U.got.length ≤ 1000000) (b : Bool) (hb : sameT T U = b) :
    Calls Try.prog 26 #[ptr p, ptr q] w fun e w' => e = .returned (.bool b) ∧ Ow w' w [] := by
  obtain ⟨C, ⟨A, O, t⟩, u⟩ := h
  have O2 : Ow w w0 (C ++ (A ++ X)) := O.perm (perm_cnt fun x => by simp only [cnt_append, cnt_cons, cnt_nil] <;> omega)
  obtain ⟨vw, ws, Bw, vg, gs, Bg, Rw, Mw, Rg, Mg, Op, HBp, eA⟩ := t.open_ O
  obtain ⟨vw2, ws2, Bw2, vg2, gs2, Bg2, Rw2, Mw2, Rg2, Mg2, Oq, HBq, eC⟩ := u.open_ O2
  have MW := (Rw.msgl Mw).here O (by intro x hx; rw [eA]; rcases List.mem_append.1 hx with hx | hx <;> simp [hx])
  have MG := (Rg.msgl Mg).here O (by intro x hx; rw [eA]; rcases List.mem_append.1 hx with hx | hx <;> simp [hx])
  have MW2 := (Rw2.msgl Mw2).here O2 (by intro x hx; rw [eC]; rcases List.mem_append.1 hx with hx | hx <;> simp [hx])
  have MG2 := (Rg2.msgl Mg2).here O2 (by intro x hx; rw [eC]; rcases List.mem_append.1 hx with hx | hx <;> simp [hx])
  unfold sameT at hb
  have F : ∀ {P : Prop} [Decidable P], decide P = b → ¬ P → Calls Try.prog 26 #[ptr p, ptr q] w (fun e w' => e = .returned (.bool false) ∧ Ow w' w []) → Calls Try.prog 26 #[ptr p, ptr q] w (fun e w' => e = .returned (.bool b) ∧ Ow w' w []) := by
    intro P _ h1 h2 h3
    rw [← h1, decide_eq_false h2]; exact h3
  by_cases k0 : T.most = U.most ∧ T.again = U.again
  · skip
    by_cases k1 : T.gone = U.gone
    · skip
      by_cases k2 : T.said = U.said
      · skip
        by_cases k3 : T.heard = U.heard
        · skip
          by_cases k4 : T.last = U.last
          · skip
            by_cases k5 : T.went = U.went
            · skip
              by_cases k6 : T.owes = U.owes
              · skip
                have E : ∀ (v1 v2 : Value) (l r : List (List UInt8)) (hl : l.length ≤ 1000000) (hr : r.length ≤ 1000000) (h1 : MsgL w [] v1 l) (h2 : MsgL w [] v2 r) (c : Bool) (hc : decide (l = r) = c) (g : Array Obj) (d : Nat), Calls Try.prog 39 #[v1, v2, .func (.func 40) #[] #[]] (plus w g d) fun e w' => e = .returned (.bool c) ∧ Below (plus w g d).heap.size (plus w g d) w' :=
                  fun v1 v2 l r hl hr h1 h2 c hc g d => (eqfun_to v1 v2 l r _ (by omega) (by omega) (h1.here ((Ow.start w).plus g d) sub_nil) (h2.here ((Ow.start w).plus g d) sub_nil) c hc).mono fun e w' hh => ⟨hh.1, hh.2.below⟩
                by_cases k7 : T.waits = U.waits
                · refine ts_f8 w p q T U _ _ _ _ HBp HBq k0 k1 k2 k3 k4 k5 k6 (E _ _ _ _ hT.1 hU.1 MW MW2 true (decide_eq_true k7)) b (E _ _ _ _ hT.2 hU.2 MG MG2 b ?_)
                  rw [← hb, Bool.eq_iff_iff, decide_eq_true_iff, decide_eq_true_iff]
                  exact ⟨fun hg => ⟨k0.1, k0.2, k1, k2, k3, k4, k5, k6, k7, hg⟩, fun h => h.2.2.2.2.2.2.2.2.2⟩
                · exact F hb (fun h => k7 h.2.2.2.2.2.2.2.2.1) (ts_f7 w p q T U _ _ _ _ HBp HBq k0 k1 k2 k3 k4 k5 k6 (E _ _ _ _ hT.1 hU.1 MW MW2 false (decide_eq_false k7)))
              · exact F hb (fun h => k6 h.2.2.2.2.2.2.2.1) (ts_f6 w p q T U _ _ _ _ HBp HBq k0 k1 k2 k3 k4 k5 k6)
            · exact F hb (fun h => k5 h.2.2.2.2.2.2.1) (ts_f5 w p q T U _ _ _ _ HBp HBq k0 k1 k2 k3 k4 k5)
          · exact F hb (fun h => k4 h.2.2.2.2.2.1) (ts_f4 w p q T U _ _ _ _ HBp HBq k0 k1 k2 k3 k4)
        · exact F hb (fun h => k3 h.2.2.2.2.1) (ts_f3 w p q T U _ _ _ _ HBp HBq k0 k1 k2 k3)
      · exact F hb (fun h => k2 h.2.2.2.1) (ts_f2 w p q T U _ _ _ _ HBp HBq k0 k1 k2)
    · exact F hb (fun h => k1 h.2.2.1) (ts_f1 w p q T U _ _ _ _ HBp HBq k0 k1)
  · exact F hb (fun h => k0 ⟨h.1, h.2.1⟩) (ts_f0 w p q T U _ _ _ _ HBp HBq k0)

end Go.Proofs.Ytgjodjkmefdilaa
