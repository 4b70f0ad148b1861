/- The contract of baizelaw18.known. -/
import Derived.Test.YtmfogedagepcgaaI
import Derived.Test.YtmfogedagepcgaaJ
namespace Go.Proofs.Ytmfogedagepcgaa
open Go.RowKit

theorem k_sum : sumD [5#64, 8#64] = 13#64 := by decide
theorem k_throw : throwF 6 (sumD [5#64, 8#64]) = 2 := by decide
theorem k_needed : nv (neededB 6 2 (sumD [5#64])) = 2 := by decide
theorem k_order : orderL 1 [false, false, false, true] = [2, 0, 1] := by decide

theorem k_gone : ∀ i, i < [false, false, false, true].length → (#[Value.bool false, .bool false, .bool false, .bool true] : Array Value)[i]? = some ((fun i => Value.bool ([false, false, false, true].getD i true)) i) := by
  intro i hi
  rcases i with _ | _ | _ | _ | i
  · rfl
  · rfl
  · rfl
  · rfl
  · simp at hi; omega
theorem k_seats : ∀ i, i < 3 → (#[Value.int .i64 2, .int .i64 0, .int .i64 1] : Array Value)[i]? = some ((fun i => Value.int .i64 (([2, 0, 1] : List Nat).getD i 0 : Nat)) i) := by
  intro i hi
  rcases i with _ | _ | _ | i
  · rfl
  · rfl
  · rfl
  · omega

set_option maxRecDepth 100000 in
set_option maxHeartbeats 2000000 in
theorem known18_any (w : World) :
    Calls Try.prog 19 #[] w fun e w' => e = .returned (.bool true) ∧ Below w.heap.size w w' := by
  have ho := fun gv w => order_yes gv [false, false, false, true] 1 w (by decide) (by decide)
  rw [k_order] at ho
  have HO := Lib.hid ho
  clear ho
  go_enter Try.func19, Try.ntmps19
  go_wp2_with (first
    | (go_at_call 28; with_reducible refine (fromNum_lit 8#64 8 rfl _).mono ?_; rintro e w1 ⟨rfl, hb1⟩; obtain ⟨g1, d1, rfl⟩ := plus_of_below hb1; clear hb1)
    | (go_at_call 28; refine (fromNum_lit 5#64 5 rfl _).mono ?_; rintro e w1 ⟨rfl, hb1⟩; obtain ⟨g1, d1, rfl⟩ := plus_of_below hb1; clear hb1)
    | (go_at_call 23; refine (throw_yes _ [5#64, 8#64] 6 _ (by omega) (by omega) (dsl_new _ _ _ _ _ _ (by decide) (by first | (simp; done) | (simp; omega) | omega) (by simp [dall, dcs])) (by simp)).mono ?_; rw [k_throw]; rintro e w2 ⟨rfl, hb2⟩; obtain ⟨g2, d2, rfl⟩ := plus_of_below hb2; clear hb2)
    | (go_at_call 26; refine (needed_yes _ [5#64] 6 2 _ (by omega) (by omega) (by omega) (by omega) (dsl_new _ _ _ _ _ _ (by decide) (by first | (simp; done) | (simp; omega) | omega) (by simp [dall, dcs])) (by simp)).mono ?_; rw [k_needed]; rintro e w3 ⟨rfl, hb3⟩; obtain ⟨g3, d3, rfl⟩ := plus_of_below hb3; clear hb3)
    | (go_at_call 20; refine (HO.out _ _ (vsl_new _ _ _ _ _ _ _ (by decide) (by first | (simp; done) | (simp; omega) | omega) k_gone)).mono ?_; rintro e w4 ⟨v4, rfl, hb4, hv4⟩; obtain ⟨g4, d4, rfl⟩ := plus_of_below hb4; clear hb4; try simp only [go_sem] at hv4)
    | (go_at_call 21; refine (same_yes _ _ 3 (fun i => (([2, 0, 1] : List Nat).getD i 0 : Nat)) _ (by omega) (hv4.alloc _) (vsl_new _ _ _ _ _ _ _ (by decide) (by first | (simp; done) | (simp; omega) | omega) k_seats)).mono ?_; rintro e w5 ⟨rfl, hb5⟩; obtain ⟨g5, d5, rfl⟩ := plus_of_below hb5; clear hb5))
  go_ret
  exact ⟨rfl, by (repeat' (first | (with_reducible exact Below.refl _ _) | (with_reducible refine bplus ?_ _ _) | (with_reducible refine balloc ?_ _) | (with_reducible refine Below.drew ?_) | (with_reducible refine bdrewN ?_ _) | (with_reducible refine Below.setCell ?_ (by go_size) _)))⟩

end Go.Proofs.Ytmfogedagepcgaa
