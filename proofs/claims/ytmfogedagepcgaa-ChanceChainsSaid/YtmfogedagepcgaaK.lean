/- The contract of baizelaw18.known. -/
import Derived.Test.YtmfogedagepcgaaI
import Derived.Test.YtmfogedagepcgaaJ
namespace Go.Proofs.Ytmfogedagepcgaa
set_option linter.unusedSimpArgs false
set_option linter.unusedVariables false
open Go.RowKit

theorem k_sum : sumD [5#64, 8#64] = 13#64 := by decide
theorem k_throw : throwF 6 (sumD [5#64, 8#64]) = 2 := by decide
theorem k_needed : nv (neededB 6 2 (sumD [5#64])) = 2 := by rw [nv_eq]; decide
theorem k_order : orderL 1 [false, false, false, true] = [2, 0, 1] := by decide

theorem k_gone : ∀ i, i < [false, false, false, true].length → (#[Value.bool false, .bool false, .bool false, .bool true] : Array Value)[i]? = some ((fun i => Value.bool ([false, false, false, true].getD i true)) i) := by
  intro i hi
  rcases i with _ | _ | _ | _ | i
  · rfl
  · rfl
  · rfl
  · rfl
  · simp at hi; omega
theorem k_seats : ∀ i, i < 3 → (#[Value.int .i64 2, .int .i64 0, .int .i64 1] : Array Value)[i]? = some ((fun i => Value.int .i64 (([2, 0, 1] : List Nat).getD i 0 : Nat)) i) := by
  intro i hi
  rcases i with _ | _ | _ | i
  · rfl
  · rfl
  · rfl
  · omega

theorem fn5 (w : World) : Calls Try.prog 28 #[.int .u64 5] w fun e w' => e = .returned (.agg #[.int .u8 (by8 (5#64) 0), .int .u8 (by8 (5#64) 1), .int .u8 (by8 (5#64) 2), .int .u8 (by8 (5#64) 3), .int .u8 (by8 (5#64) 4), .int .u8 (by8 (5#64) 5), .int .u8 (by8 (5#64) 6), .int .u8 (by8 (5#64) 7)]) ∧ Below w.heap.size w w' := fromNum_lit 5#64 5 (nv_lit 5 (by decide)) w
theorem fn8 (w : World) : Calls Try.prog 28 #[.int .u64 8] w fun e w' => e = .returned (.agg #[.int .u8 (by8 (8#64) 0), .int .u8 (by8 (8#64) 1), .int .u8 (by8 (8#64) 2), .int .u8 (by8 (8#64) 3), .int .u8 (by8 (8#64) 4), .int .u8 (by8 (8#64) 5), .int .u8 (by8 (8#64) 6), .int .u8 (by8 (8#64) 7)]) ∧ Below w.heap.size w w' := fromNum_lit 8#64 8 (nv_lit 8 (by decide)) w
theorem thr6 (v : Value) (w : World) (hv : DSl w v [5#64, 8#64]) : Calls Try.prog 23 #[.int .i64 6, v] w fun e w' => e = .returned (.tuple #[.int .i64 2, .int .i64 0]) ∧ Below w.heap.size w w' := by
  have h := throw_yes v [5#64, 8#64] 6 w (by omega) (by omega) hv (by simp)
  rw [k_throw] at h; exact h
theorem nee6 (v : Value) (w : World) (hv : DSl w v [5#64]) : Calls Try.prog 26 #[.int .i64 6, .int .i64 2, v] w fun e w' => e = .returned (.tuple #[.int .u64 2, .int .i64 0]) ∧ Below w.heap.size w w' := by
  have h := needed_yes v [5#64] 6 2 w (by omega) (by omega) (by omega) (by omega) hv (by simp)
  rw [k_needed] at h; exact h
set_option maxRecDepth 100000 in
set_option maxHeartbeats 2000000 in
theorem known18_any (w : World) :
    Calls Try.prog 19 #[] w fun e w' => e = .returned (.bool true) ∧ Below w.heap.size w w' := by
  have ho := fun gv w => order_yes gv [false, false, false, true] 1 w (by decide) (by decide)
  rw [k_order] at ho
  have HO := Lib.hid ho
  clear ho
  go_enter Try.func19, Try.ntmps19
  go_wp2_with (first
    | (go_at_call 28; with_reducible refine (fn8 _).mono ?_; rintro e w1 ⟨rfl, hb1⟩; obtain ⟨g1, d1, rfl⟩ := plus_of_below hb1; clear hb1)
    | (go_at_call 28; with_reducible refine (fn5 _).mono ?_; rintro e w1 ⟨rfl, hb1⟩; obtain ⟨g1, d1, rfl⟩ := plus_of_below hb1; clear hb1)
    | (go_at_call 23; refine (thr6 _ _ (dsl_new _ [5#64, 8#64] _ _ _ _ (by decide) (by first | (simp; done) | (simp; omega) | omega) (by simp [dall, dcs]))).mono ?_; rintro e w2 ⟨rfl, hb2⟩; obtain ⟨g2, d2, rfl⟩ := plus_of_below hb2; clear hb2)
    | (go_at_call 26; refine (nee6 _ _ (dsl_new _ [5#64] _ _ _ _ (by decide) (by first | (simp; done) | (simp; omega) | omega) (by simp [dall, dcs]))).mono ?_; rintro e w3 ⟨rfl, hb3⟩; obtain ⟨g3, d3, rfl⟩ := plus_of_below hb3; clear hb3)
    | (go_at_call 20; refine (HO.out _ _ (vsl_new _ _ _ _ _ _ _ (by decide) (by first | (simp; done) | (simp; omega) | omega) k_gone)).mono ?_; rintro e w4 ⟨v4, rfl, hb4, hv4⟩; obtain ⟨g4, d4, rfl⟩ := plus_of_below hb4; clear hb4; try simp only [go_sem] at hv4)
    | (go_at_call 21; refine (same_yes _ _ 3 (fun i => (([2, 0, 1] : List Nat).getD i 0 : Nat)) _ (by omega) (hv4.alloc _) (vsl_new _ _ _ _ _ _ _ (by decide) (by first | (simp; done) | (simp; omega) | omega) k_seats)).mono ?_; rintro e w5 ⟨rfl, hb5⟩; obtain ⟨g5, d5, rfl⟩ := plus_of_below hb5; clear hb5))
  go_ret
  exact ⟨rfl, by (repeat' (first | (with_reducible exact Below.refl _ _) | (with_reducible refine bplus ?_ _ _) | (with_reducible refine balloc ?_ _) | (with_reducible refine Below.drew ?_) | (with_reducible refine bdrewN ?_ _) | (with_reducible refine Below.setCell ?_ (by go_size) _)))⟩

end Go.Proofs.Ytmfogedagepcgaa
