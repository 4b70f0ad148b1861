/- Contracts of One, Two, Chain. -/
import Derived.Test.YthdcfdfpfagamaaC
namespace Go.Proofs.Ythdcfdfpfagamaa
set_option linter.unusedSimpArgs false
set_option linter.unusedVariables false
open Go.RowKit

set_option maxRecDepth 100000 in
set_option maxHeartbeats 1000000 in
theorem one_any (x : BitVec 64) (w : World) :
    Calls Try.prog 53 #[.agg #[.int .u8 (by8 x 0), .int .u8 (by8 x 1), .int .u8 (by8 x 2), .int .u8 (by8 x 3), .int .u8 (by8 x 4), .int .u8 (by8 x 5), .int .u8 (by8 x 6), .int .u8 (by8 x 7)]] w fun e w' => e = .returned (.agg #[.int .u8 (by8 (oneF x) 0), .int .u8 (by8 (oneF x) 1), .int .u8 (by8 (oneF x) 2), .int .u8 (by8 (oneF x) 3), .int .u8 (by8 (oneF x) 4), .int .u8 (by8 (oneF x) 5), .int .u8 (by8 (oneF x) 6), .int .u8 (by8 (oneF x) 7)]) ∧ Below w.heap.size w w' := by
  go_enter Try.func53, Try.ntmps53
  go_wp2_with (first
    | (go_at_call 72; refine (begin_any 2#64 _ (nv_lit 2 (by decide)) _).mono ?_; rintro e w1 ⟨rfl, hb1⟩; obtain ⟨g1, d1, rfl⟩ := plus_of_below hb1; clear hb1)
    | (go_at_call 74; refine (num_any _ _).mono ?_; rintro e w2 ⟨rfl, hb2⟩; obtain ⟨g2, d2, rfl⟩ := plus_of_below hb2; clear hb2)
    | (go_at_call 73; refine (take_any (beginF 2#64) _ _ _ _ (by go_simp) (by go_simp) (by go_simp) (by go_simp) (by go_simp) (by go_simp) (by go_simp) (by go_simp)).mono ?_; rintro e w3 ⟨rfl, n3, rfl⟩; simp only [putSt])
    | (go_at_call 75; refine (gives_any (takeF (beginF 2#64) x) _ _ _ (by go_simp) (by go_simp) (by go_simp)).mono ?_; rintro e w4 ⟨rfl, hb4⟩; obtain ⟨g4, d4, rfl⟩ := plus_of_below hb4; clear hb4))
  refine bodyPost_ret (v := .agg #[.int .u8 (by8 (oneF x) 0), .int .u8 (by8 (oneF x) 1), .int .u8 (by8 (oneF x) 2), .int .u8 (by8 (oneF x) 3), .int .u8 (by8 (oneF x) 4), .int .u8 (by8 (oneF x) 5), .int .u8 (by8 (oneF x) 6), .int .u8 (by8 (oneF x) 7)]) (by simp [results, Try.results53, go_sem, oneF]) rfl ⟨rfl, by (repeat' (first | (with_reducible exact Below.refl _ _) | (with_reducible refine bplus ?_ _ _) | (with_reducible refine balloc ?_ _) | (with_reducible refine Below.drew ?_) | (with_reducible refine bdrewN ?_ _) | (with_reducible refine Below.setCell ?_ (by go_size) _)))⟩

set_option maxRecDepth 100000 in
set_option maxHeartbeats 1000000 in
theorem two_any (x y : BitVec 64) (w : World) :
    Calls Try.prog 57 #[.agg #[.int .u8 (by8 x 0), .int .u8 (by8 x 1), .int .u8 (by8 x 2), .int .u8 (by8 x 3), .int .u8 (by8 x 4), .int .u8 (by8 x 5), .int .u8 (by8 x 6), .int .u8 (by8 x 7)], .agg #[.int .u8 (by8 y 0), .int .u8 (by8 y 1), .int .u8 (by8 y 2), .int .u8 (by8 y 3), .int .u8 (by8 y 4), .int .u8 (by8 y 5), .int .u8 (by8 y 6), .int .u8 (by8 y 7)]] w fun e w' => e = .returned (.agg #[.int .u8 (by8 ((twoF x y)) 0), .int .u8 (by8 ((twoF x y)) 1), .int .u8 (by8 ((twoF x y)) 2), .int .u8 (by8 ((twoF x y)) 3), .int .u8 (by8 ((twoF x y)) 4), .int .u8 (by8 ((twoF x y)) 5), .int .u8 (by8 ((twoF x y)) 6), .int .u8 (by8 ((twoF x y)) 7)]) ∧ Below w.heap.size w w' := by
  go_enter Try.func57, Try.ntmps57
  have tok1 : True := trivial
  go_wp2_with (first
    | (go_at_call 72; refine (begin_any 3#64 _ (nv_lit 3 (by decide)) _).mono ?_; rintro e w1 ⟨rfl, hb1⟩; obtain ⟨g1, d1, rfl⟩ := plus_of_below hb1; clear hb1)
    | (go_at_call 74; with_reducible refine (num_any _ _).mono ?_; rintro e w2 ⟨rfl, hb2⟩; obtain ⟨g2, d2, rfl⟩ := plus_of_below hb2; clear hb2)
    | (go_at_call 73; have _t := tok1; refine (take_any (beginF 3#64) _ _ _ _ (by go_simp) (by go_simp) (by go_simp) (by go_simp) (by go_simp) (by go_simp) (by go_simp) (by go_simp)).mono ?_; rintro e w3 ⟨rfl, n3, rfl⟩; simp only [putSt]; clear tok1)
    | (go_at_call 73; refine (take_any (takeF (beginF 3#64) x) _ _ _ _ (by go_simp) (by go_simp) (by go_simp) (by go_simp) (by go_simp) (by go_simp) (by go_simp) (by go_simp)).mono ?_; rintro e w3 ⟨rfl, n3, rfl⟩; simp only [putSt])
    | (go_at_call 75; refine (gives_any (takeF (takeF (beginF 3#64) x) y) _ _ _ (by go_simp) (by go_simp) (by go_simp)).mono ?_; rintro e w4 ⟨rfl, hb4⟩; obtain ⟨g4, d4, rfl⟩ := plus_of_below hb4; clear hb4))
  refine bodyPost_ret (v := .agg #[.int .u8 (by8 ((twoF x y)) 0), .int .u8 (by8 ((twoF x y)) 1), .int .u8 (by8 ((twoF x y)) 2), .int .u8 (by8 ((twoF x y)) 3), .int .u8 (by8 ((twoF x y)) 4), .int .u8 (by8 ((twoF x y)) 5), .int .u8 (by8 ((twoF x y)) 6), .int .u8 (by8 ((twoF x y)) 7)]) (by simp [results, Try.results57, go_sem, twoF]) rfl ⟨rfl, by (repeat' (first | (with_reducible exact Below.refl _ _) | (with_reducible refine bplus ?_ _ _) | (with_reducible refine balloc ?_ _) | (with_reducible refine Below.drew ?_) | (with_reducible refine bdrewN ?_ _) | (with_reducible refine Below.setCell ?_ (by go_size) _)))⟩

set_option maxRecDepth 100000 in
set_option maxHeartbeats 1000000 in
theorem chain_none (x : BitVec 64) (n : Int) (hn : n < 1 ∨ 1048576 < n) (w : World) :
    Calls Try.prog 33 #[.agg #[.int .u8 (by8 x 0), .int .u8 (by8 x 1), .int .u8 (by8 x 2), .int .u8 (by8 x 3), .int .u8 (by8 x 4), .int .u8 (by8 x 5), .int .u8 (by8 x 6), .int .u8 (by8 x 7)], .int .i64 n] w fun e w' => e = .returned (.agg #[.int .u8 (by8 x 0), .int .u8 (by8 x 1), .int .u8 (by8 x 2), .int .u8 (by8 x 3), .int .u8 (by8 x 4), .int .u8 (by8 x 5), .int .u8 (by8 x 6), .int .u8 (by8 x 7)]) ∧ Below w.heap.size w w' := by
  rcases hn with hn | hn
  · go_enter Try.func33, Try.ntmps33
    go_wp2
    refine bodyPost_ret (v := .agg #[.int .u8 (by8 x 0), .int .u8 (by8 x 1), .int .u8 (by8 x 2), .int .u8 (by8 x 3), .int .u8 (by8 x 4), .int .u8 (by8 x 5), .int .u8 (by8 x 6), .int .u8 (by8 x 7)]) (by simp [results, Try.results33, go_sem]) rfl ⟨rfl, by (repeat' (first | (with_reducible exact Below.refl _ _) | (with_reducible refine bplus ?_ _ _) | (with_reducible refine balloc ?_ _) | (with_reducible refine Below.drew ?_) | (with_reducible refine bdrewN ?_ _) | (with_reducible refine Below.setCell ?_ (by go_size) _)))⟩
  · have h1 : ¬ n < 1 := by omega
    go_enter Try.func33, Try.ntmps33
    go_wp2
    refine bodyPost_ret (v := .agg #[.int .u8 (by8 x 0), .int .u8 (by8 x 1), .int .u8 (by8 x 2), .int .u8 (by8 x 3), .int .u8 (by8 x 4), .int .u8 (by8 x 5), .int .u8 (by8 x 6), .int .u8 (by8 x 7)]) (by simp [results, Try.results33, go_sem]) rfl ⟨rfl, by (repeat' (first | (with_reducible exact Below.refl _ _) | (with_reducible refine bplus ?_ _ _) | (with_reducible refine balloc ?_ _) | (with_reducible refine Below.drew ?_) | (with_reducible refine bdrewN ?_ _) | (with_reducible refine Below.setCell ?_ (by go_size) _)))⟩

set_option maxRecDepth 100000 in
set_option maxHeartbeats 1000000 in
theorem chain_some (x : BitVec 64) (n : Nat) (h1 : 1 ≤ n) (h2 : n ≤ 1048576) (w : World) :
    Calls Try.prog 33 #[.agg #[.int .u8 (by8 x 0), .int .u8 (by8 x 1), .int .u8 (by8 x 2), .int .u8 (by8 x 3), .int .u8 (by8 x 4), .int .u8 (by8 x 5), .int .u8 (by8 x 6), .int .u8 (by8 x 7)], .int .i64 n] w fun e w' => e = .returned (.agg #[.int .u8 (by8 ((chainF x n)) 0), .int .u8 (by8 ((chainF x n)) 1), .int .u8 (by8 ((chainF x n)) 2), .int .u8 (by8 ((chainF x n)) 3), .int .u8 (by8 ((chainF x n)) 4), .int .u8 (by8 ((chainF x n)) 5), .int .u8 (by8 ((chainF x n)) 6), .int .u8 (by8 ((chainF x n)) 7)]) ∧ Below w.heap.size w w' := by
  go_enter Try.func33, Try.ntmps33
  go_wp2
  go_loopw [13] (fun i wr => ∃ (k : Nat) (g : Array Obj) (d : Nat), k ≤ n ∧ i = .int .i64 k ∧ wr = plus ((w.alloc (.cells #[.int .u8 (by8 ((chainF x k)) 0), .int .u8 (by8 ((chainF x k)) 1), .int .u8 (by8 ((chainF x k)) 2), .int .u8 (by8 ((chainF x k)) 3), .int .u8 (by8 ((chainF x k)) 4), .int .u8 (by8 ((chainF x k)) 5), .int .u8 (by8 ((chainF x k)) 6), .int .u8 (by8 ((chainF x k)) 7)] 24)).alloc (.cells #[.int .u8 0, .int .u8 0, .int .u8 0, .int .u8 0, .int .u8 0, .int .u8 0, .int .u8 0, .int .u8 0] 24)) g d) (fun i _ => n - (intOf i).toNat)
  case atStart => exact ⟨0, #[], w.drawn, by omega, rfl, plus_self _⟩
  case round =>
    obtain ⟨k, g, d, hk, rfl, rfl⟩ := hrel
    by_cases hlt : k < n
    · have HN : Hid (chainF x (k + 1) = oneF (chainF x k)) := rfl
      generalize chainF x k = t at HN
      go_wp2_with (go_at_call 53; refine (one_any _ _).mono ?_; rintro e w1 ⟨rfl, hb1⟩; obtain ⟨g1, d1, rfl⟩ := plus_of_below hb1; clear hb1)
      go_roundw
      case rel => exact ⟨k + 1, _, _, by omega, by go_num, by rw [HN.out]⟩
      case measure => simp [intOf]; omega
    · obtain rfl : k = n := by omega
      go_wp2
      refine bodyPost_ret (v := .agg #[.int .u8 (by8 ((chainF x k)) 0), .int .u8 (by8 ((chainF x k)) 1), .int .u8 (by8 ((chainF x k)) 2), .int .u8 (by8 ((chainF x k)) 3), .int .u8 (by8 ((chainF x k)) 4), .int .u8 (by8 ((chainF x k)) 5), .int .u8 (by8 ((chainF x k)) 6), .int .u8 (by8 ((chainF x k)) 7)]) (by simp [results, Try.results33, go_sem]) rfl ⟨rfl, by (repeat' (first | (with_reducible exact Below.refl _ _) | (with_reducible refine bplus ?_ _ _) | (with_reducible refine balloc ?_ _) | (with_reducible refine Below.drew ?_) | (with_reducible refine bdrewN ?_ _) | (with_reducible refine Below.setCell ?_ (by go_size) _)))⟩

end Go.Proofs.Ythdcfdfpfagamaa
