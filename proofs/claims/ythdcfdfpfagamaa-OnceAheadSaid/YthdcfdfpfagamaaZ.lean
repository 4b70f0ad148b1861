/- Contracts of the reference's One, Two, Chain. -/
import Derived.Test.YthdcfdfpfagamaaD
import Derived.Test.YthdcfdfpfagamaaE
import Derived.Deep.RegionLaw
namespace Go.Proofs.Ythdcfdfpfagamaa
set_option linter.unusedSimpArgs false
set_option linter.unusedVariables false
open Go.RowKit

set_option maxRecDepth 100000 in
set_option maxHeartbeats 1000000 in
theorem refOne_any (x : BitVec 64) (w : World) :
    Calls Try.prog 66 #[.agg #[.int .u8 (by8 x 0), .int .u8 (by8 x 1), .int .u8 (by8 x 2), .int .u8 (by8 x 3), .int .u8 (by8 x 4), .int .u8 (by8 x 5), .int .u8 (by8 x 6), .int .u8 (by8 x 7)]] w fun e w' => e = .returned (.agg #[.int .u8 (by8 (oneF x) 0), .int .u8 (by8 (oneF x) 1), .int .u8 (by8 (oneF x) 2), .int .u8 (by8 (oneF x) 3), .int .u8 (by8 (oneF x) 4), .int .u8 (by8 (oneF x) 5), .int .u8 (by8 (oneF x) 6), .int .u8 (by8 (oneF x) 7)]) ∧ Below w.heap.size w w' := by
  go_enter Try.func66, Try.ntmps66
  go_wp2
  go_region_law (first
    | (go_simp; go_at_call 68; refine (refBegin_any 2#64 _ (nv_lit 2 (by decide)) _).mono ?_; rintro e w1 ⟨rfl, hb1⟩; obtain ⟨g1, d1, rfl⟩ := plus_of_below hb1; clear hb1; simp only [])
    | (go_simp; go_at_call 70; refine (refNum_any _ _).mono ?_; rintro e w2 ⟨rfl, hb2⟩; obtain ⟨g2, d2, rfl⟩ := plus_of_below hb2; clear hb2; simp only [])
    | (go_simp; go_at_call 69; refine (refIn_any (beginF 2#64) x _).mono ?_; rintro e w3 ⟨rfl, hb3⟩; obtain ⟨g3, d3, rfl⟩ := plus_of_below hb3; clear hb3; simp only [])
    | (go_simp; go_at_call 71; refine (refOut_any (takeF (beginF 2#64) x) _).mono ?_; rintro e w4 ⟨rfl, hb4⟩; obtain ⟨g4, d4, rfl⟩ := plus_of_below hb4; clear hb4; simp only []))
  all_goals
    go_wp2
    refine bodyPost_ret (v := .agg #[.int .u8 (by8 (oneF x) 0), .int .u8 (by8 (oneF x) 1), .int .u8 (by8 (oneF x) 2), .int .u8 (by8 (oneF x) 3), .int .u8 (by8 (oneF x) 4), .int .u8 (by8 (oneF x) 5), .int .u8 (by8 (oneF x) 6), .int .u8 (by8 (oneF x) 7)]) (by simp [results, Try.results66, go_sem, oneF]) rfl ⟨rfl, by (repeat' (first | (with_reducible exact Below.refl _ _) | (with_reducible refine bplus ?_ _ _) | (with_reducible refine balloc ?_ _) | (with_reducible refine Below.drew ?_) | (with_reducible refine bdrewN ?_ _) | (with_reducible refine Below.setCell ?_ (by go_size) _)))⟩

set_option maxRecDepth 100000 in
set_option maxHeartbeats 1000000 in
theorem refTwo_any (x y : BitVec 64) (w : World) :
    Calls Try.prog 54 #[.agg #[.int .u8 (by8 x 0), .int .u8 (by8 x 1), .int .u8 (by8 x 2), .int .u8 (by8 x 3), .int .u8 (by8 x 4), .int .u8 (by8 x 5), .int .u8 (by8 x 6), .int .u8 (by8 x 7)], .agg #[.int .u8 (by8 y 0), .int .u8 (by8 y 1), .int .u8 (by8 y 2), .int .u8 (by8 y 3), .int .u8 (by8 y 4), .int .u8 (by8 y 5), .int .u8 (by8 y 6), .int .u8 (by8 y 7)]] w fun e w' => e = .returned (.agg #[.int .u8 (by8 ((twoF x y)) 0), .int .u8 (by8 ((twoF x y)) 1), .int .u8 (by8 ((twoF x y)) 2), .int .u8 (by8 ((twoF x y)) 3), .int .u8 (by8 ((twoF x y)) 4), .int .u8 (by8 ((twoF x y)) 5), .int .u8 (by8 ((twoF x y)) 6), .int .u8 (by8 ((twoF x y)) 7)]) ∧ Below w.heap.size w w' := by
  go_enter Try.func54, Try.ntmps54
  have tok1 : True := trivial
  go_wp2
  go_region_law (first
    | (go_simp; go_at_call 68; refine (refBegin_any 3#64 _ (nv_lit 3 (by decide)) _).mono ?_; rintro e w1 ⟨rfl, hb1⟩; obtain ⟨g1, d1, rfl⟩ := plus_of_below hb1; clear hb1; simp only [])
    | (go_simp; go_at_call 70; with_reducible refine (refNum_any _ _).mono ?_; rintro e w2 ⟨rfl, hb2⟩; obtain ⟨g2, d2, rfl⟩ := plus_of_below hb2; clear hb2; simp only [])
    | (go_simp; go_at_call 69; have _t := tok1; refine (refIn_any (beginF 3#64) _ _).mono ?_; rintro e w3 ⟨rfl, hb3⟩; obtain ⟨g3, d3, rfl⟩ := plus_of_below hb3; clear hb3; simp only []; clear tok1)
    | (go_simp; go_at_call 69; refine (refIn_any (takeF (beginF 3#64) x) _ _).mono ?_; rintro e w4 ⟨rfl, hb4⟩; obtain ⟨g4, d4, rfl⟩ := plus_of_below hb4; clear hb4; simp only [])
    | (go_simp; go_at_call 71; refine (refOut_any (takeF (takeF (beginF 3#64) x) y) _).mono ?_; rintro e w5 ⟨rfl, hb5⟩; obtain ⟨g5, d5, rfl⟩ := plus_of_below hb5; clear hb5; simp only []))
  all_goals
    go_wp2
    refine bodyPost_ret (v := .agg #[.int .u8 (by8 ((twoF x y)) 0), .int .u8 (by8 ((twoF x y)) 1), .int .u8 (by8 ((twoF x y)) 2), .int .u8 (by8 ((twoF x y)) 3), .int .u8 (by8 ((twoF x y)) 4), .int .u8 (by8 ((twoF x y)) 5), .int .u8 (by8 ((twoF x y)) 6), .int .u8 (by8 ((twoF x y)) 7)]) (by simp [results, Try.results54, go_sem, twoF]) rfl ⟨rfl, by (repeat' (first | (with_reducible exact Below.refl _ _) | (with_reducible refine bplus ?_ _ _) | (with_reducible refine balloc ?_ _) | (with_reducible refine Below.drew ?_) | (with_reducible refine bdrewN ?_ _) | (with_reducible refine Below.setCell ?_ (by go_size) _)))⟩

set_option maxRecDepth 100000 in
set_option maxHeartbeats 1000000 in
theorem refChain_some (x : BitVec 64) (n : Nat) (h2 : n ≤ 1048576) (w : World) :
    Calls Try.prog 48 #[.agg #[.int .u8 (by8 x 0), .int .u8 (by8 x 1), .int .u8 (by8 x 2), .int .u8 (by8 x 3), .int .u8 (by8 x 4), .int .u8 (by8 x 5), .int .u8 (by8 x 6), .int .u8 (by8 x 7)], .int .i64 n] w fun e w' => e = .returned (.agg #[.int .u8 (by8 ((chainF x n)) 0), .int .u8 (by8 ((chainF x n)) 1), .int .u8 (by8 ((chainF x n)) 2), .int .u8 (by8 ((chainF x n)) 3), .int .u8 (by8 ((chainF x n)) 4), .int .u8 (by8 ((chainF x n)) 5), .int .u8 (by8 ((chainF x n)) 6), .int .u8 (by8 ((chainF x n)) 7)]) ∧ Below w.heap.size w w' := by
  go_enter Try.func48, Try.ntmps48
  go_wp2
  go_loopw [5] (fun i wr => ∃ (k : Nat) (g : Array Obj) (d : Nat), k ≤ n ∧ i = .int .i64 k ∧ wr = plus ((w.alloc (.cells #[.int .u8 (by8 ((chainF x k)) 0), .int .u8 (by8 ((chainF x k)) 1), .int .u8 (by8 ((chainF x k)) 2), .int .u8 (by8 ((chainF x k)) 3), .int .u8 (by8 ((chainF x k)) 4), .int .u8 (by8 ((chainF x k)) 5), .int .u8 (by8 ((chainF x k)) 6), .int .u8 (by8 ((chainF x k)) 7)] 22)).alloc (.cells #[.int .u8 0, .int .u8 0, .int .u8 0, .int .u8 0, .int .u8 0, .int .u8 0, .int .u8 0, .int .u8 0] 22)) g d) (fun i _ => n - (intOf i).toNat)
  case atStart => exact ⟨0, #[], w.drawn, by omega, rfl, plus_self _⟩
  case round =>
    obtain ⟨k, g, d, hk, rfl, rfl⟩ := hrel
    by_cases hlt : k < n
    · have HN : Hid (chainF x (k + 1) = oneF (chainF x k)) := rfl
      generalize chainF x k = t at HN
      go_wp2_with (go_at_call 66; refine (refOne_any _ _).mono ?_; rintro e w1 ⟨rfl, hb1⟩; obtain ⟨g1, d1, rfl⟩ := plus_of_below hb1; clear hb1)
      go_roundw
      case rel => exact ⟨k + 1, _, _, by omega, by go_num, by rw [HN.out]⟩
      case measure => simp [intOf]; omega
    · obtain rfl : k = n := by omega
      go_wp2
      refine bodyPost_ret (v := .agg #[.int .u8 (by8 ((chainF x k)) 0), .int .u8 (by8 ((chainF x k)) 1), .int .u8 (by8 ((chainF x k)) 2), .int .u8 (by8 ((chainF x k)) 3), .int .u8 (by8 ((chainF x k)) 4), .int .u8 (by8 ((chainF x k)) 5), .int .u8 (by8 ((chainF x k)) 6), .int .u8 (by8 ((chainF x k)) 7)]) (by simp [results, Try.results48, go_sem]) rfl ⟨rfl, by (repeat' (first | (with_reducible exact Below.refl _ _) | (with_reducible refine bplus ?_ _ _) | (with_reducible refine balloc ?_ _) | (with_reducible refine Below.drew ?_) | (with_reducible refine bdrewN ?_ _) | (with_reducible refine Below.setCell ?_ (by go_size) _)))⟩

theorem chainF_add (x : BitVec 64) (a b : Nat) : chainF (chainF x a) b = chainF x (a + b) := by
  induction b with
  | zero => rfl
  | succ b ih => show oneF (chainF (chainF x a) b) = oneF (chainF x (a + b)); rw [ih]

theorem chain_nat (x : BitVec 64) (n : Nat) (h : n ≤ 1048576) (w : World) :
    Calls Try.prog 33 #[.agg #[.int .u8 (by8 x 0), .int .u8 (by8 x 1), .int .u8 (by8 x 2), .int .u8 (by8 x 3), .int .u8 (by8 x 4), .int .u8 (by8 x 5), .int .u8 (by8 x 6), .int .u8 (by8 x 7)], .int .i64 n] w fun e w' => e = .returned (.agg #[.int .u8 (by8 ((chainF x n)) 0), .int .u8 (by8 ((chainF x n)) 1), .int .u8 (by8 ((chainF x n)) 2), .int .u8 (by8 ((chainF x n)) 3), .int .u8 (by8 ((chainF x n)) 4), .int .u8 (by8 ((chainF x n)) 5), .int .u8 (by8 ((chainF x n)) 6), .int .u8 (by8 ((chainF x n)) 7)]) ∧ Below w.heap.size w w' := by
  by_cases h0 : n < 1
  · obtain rfl : n = 0 := by omega
    exact chain_none x _ (.inl (by omega)) w
  · exact chain_some x n (by omega) h w
theorem chain_int (x y : BitVec 64) (n : Int) (k : Nat) (hk : n = k) (h : k ≤ 1048576) (hy : chainF x k = y) (w : World) :
    Calls Try.prog 33 #[.agg #[.int .u8 (by8 x 0), .int .u8 (by8 x 1), .int .u8 (by8 x 2), .int .u8 (by8 x 3), .int .u8 (by8 x 4), .int .u8 (by8 x 5), .int .u8 (by8 x 6), .int .u8 (by8 x 7)], .int .i64 n] w fun e w' => e = .returned (.agg #[.int .u8 (by8 y 0), .int .u8 (by8 y 1), .int .u8 (by8 y 2), .int .u8 (by8 y 3), .int .u8 (by8 y 4), .int .u8 (by8 y 5), .int .u8 (by8 y 6), .int .u8 (by8 y 7)]) ∧ Below w.heap.size w w' := by
  subst hk hy; exact chain_nat x k h w
theorem refChain_int (x y : BitVec 64) (n : Int) (k : Nat) (hk : n = k) (h : k ≤ 1048576) (hy : chainF x k = y) (w : World) :
    Calls Try.prog 48 #[.agg #[.int .u8 (by8 x 0), .int .u8 (by8 x 1), .int .u8 (by8 x 2), .int .u8 (by8 x 3), .int .u8 (by8 x 4), .int .u8 (by8 x 5), .int .u8 (by8 x 6), .int .u8 (by8 x 7)], .int .i64 n] w fun e w' => e = .returned (.agg #[.int .u8 (by8 y 0), .int .u8 (by8 y 1), .int .u8 (by8 y 2), .int .u8 (by8 y 3), .int .u8 (by8 y 4), .int .u8 (by8 y 5), .int .u8 (by8 y 6), .int .u8 (by8 y 7)]) ∧ Below w.heap.size w w' := by
  subst hk hy; exact refChain_some x k h w

theorem one_to (x y : BitVec 64) (h : oneF x = y) (w : World) :
    Calls Try.prog 53 #[.agg #[.int .u8 (by8 x 0), .int .u8 (by8 x 1), .int .u8 (by8 x 2), .int .u8 (by8 x 3), .int .u8 (by8 x 4), .int .u8 (by8 x 5), .int .u8 (by8 x 6), .int .u8 (by8 x 7)]] w fun e w' => e = .returned (.agg #[.int .u8 (by8 y 0), .int .u8 (by8 y 1), .int .u8 (by8 y 2), .int .u8 (by8 y 3), .int .u8 (by8 y 4), .int .u8 (by8 y 5), .int .u8 (by8 y 6), .int .u8 (by8 y 7)]) ∧ Below w.heap.size w w' := by
  subst h; exact one_any x w

end Go.Proofs.Ythdcfdfpfagamaa
