/- Contracts of the reference's One, Two, Chain. -/
import Derived.Test.YtghaiplhakeahaaD
import Derived.Test.YtghaiplhakeahaaE
import Derived.Deep.RegionLaw
namespace Go.Proofs.Ytghaiplhakeahaa
set_option linter.unusedSimpArgs false
set_option linter.unusedVariables false
open Go.RowKit

set_option maxRecDepth 100000 in
set_option maxHeartbeats 1000000 in
theorem refTwo_any (x y : BitVec 64) (w : World) :
    Calls Try.prog 104 #[.agg #[.int .u8 (by8 x 0), .int .u8 (by8 x 1), .int .u8 (by8 x 2), .int .u8 (by8 x 3), .int .u8 (by8 x 4), .int .u8 (by8 x 5), .int .u8 (by8 x 6), .int .u8 (by8 x 7)], .agg #[.int .u8 (by8 y 0), .int .u8 (by8 y 1), .int .u8 (by8 y 2), .int .u8 (by8 y 3), .int .u8 (by8 y 4), .int .u8 (by8 y 5), .int .u8 (by8 y 6), .int .u8 (by8 y 7)]] w fun e w' => e = .returned (.agg #[.int .u8 (by8 ((twoF x y)) 0), .int .u8 (by8 ((twoF x y)) 1), .int .u8 (by8 ((twoF x y)) 2), .int .u8 (by8 ((twoF x y)) 3), .int .u8 (by8 ((twoF x y)) 4), .int .u8 (by8 ((twoF x y)) 5), .int .u8 (by8 ((twoF x y)) 6), .int .u8 (by8 ((twoF x y)) 7)]) ∧ Below w.heap.size w w' := by
  go_enter Try.func104, Try.ntmps104
  have tok1 : True := trivial
  go_wp2
  go_region_law (first
    | (go_simp; go_at_call 96; refine (refBegin_any 3#64 _ (nv_lit 3 (by decide)) _).mono ?_; rintro e w1 ⟨rfl, hb1⟩; obtain ⟨g1, d1, rfl⟩ := plus_of_below hb1; clear hb1; simp only [])
    | (go_simp; go_at_call 97; with_reducible refine (refNum_any _ _).mono ?_; rintro e w2 ⟨rfl, hb2⟩; obtain ⟨g2, d2, rfl⟩ := plus_of_below hb2; clear hb2; simp only [])
    | (go_simp; go_at_call 95; have _t := tok1; refine (refIn_any (beginF 3#64) _ _).mono ?_; rintro e w3 ⟨rfl, hb3⟩; obtain ⟨g3, d3, rfl⟩ := plus_of_below hb3; clear hb3; simp only []; clear tok1)
    | (go_simp; go_at_call 95; refine (refIn_any (takeF (beginF 3#64) x) _ _).mono ?_; rintro e w4 ⟨rfl, hb4⟩; obtain ⟨g4, d4, rfl⟩ := plus_of_below hb4; clear hb4; simp only [])
    | (go_simp; go_at_call 93; refine (refOut_any (takeF (takeF (beginF 3#64) x) y) _).mono ?_; rintro e w5 ⟨rfl, hb5⟩; obtain ⟨g5, d5, rfl⟩ := plus_of_below hb5; clear hb5; simp only []))
  all_goals
    go_wp2
    refine bodyPost_ret (v := .agg #[.int .u8 (by8 ((twoF x y)) 0), .int .u8 (by8 ((twoF x y)) 1), .int .u8 (by8 ((twoF x y)) 2), .int .u8 (by8 ((twoF x y)) 3), .int .u8 (by8 ((twoF x y)) 4), .int .u8 (by8 ((twoF x y)) 5), .int .u8 (by8 ((twoF x y)) 6), .int .u8 (by8 ((twoF x y)) 7)]) (by simp [results, Try.results104, go_sem, twoF]) rfl ⟨rfl, by (repeat' (first | (with_reducible exact Below.refl _ _) | (with_reducible refine bplus ?_ _ _) | (with_reducible refine balloc ?_ _) | (with_reducible refine Below.drew ?_) | (with_reducible refine bdrewN ?_ _) | (with_reducible refine Below.setCell ?_ (by go_size) _)))⟩

theorem chainF_add (x : BitVec 64) (a b : Nat) : chainF (chainF x a) b = chainF x (a + b) := by
  induction b with
  | zero => rfl
  | succ b ih => show oneF (chainF (chainF x a) b) = oneF (chainF x (a + b)); rw [ih]

theorem fromNum_int (c : Nat) (hc : c < 18446744073709551616) (z : BitVec 64) (hz : BitVec.ofNat 64 c = z) (w : World) :
    Calls Try.prog 110 #[.int .u64 c] w fun e w' => e = .returned (.agg #[.int .u8 (by8 z 0), .int .u8 (by8 z 1), .int .u8 (by8 z 2), .int .u8 (by8 z 3), .int .u8 (by8 z 4), .int .u8 (by8 z 5), .int .u8 (by8 z 6), .int .u8 (by8 z 7)]) ∧ Below w.heap.size w w' := by
  subst hz; exact fromNum_lit _ _ (nv_lit c hc) w
theorem refFromNum_int (c : Nat) (hc : c < 18446744073709551616) (z : BitVec 64) (hz : BitVec.ofNat 64 c = z) (w : World) :
    Calls Try.prog 111 #[.int .u64 c] w fun e w' => e = .returned (.agg #[.int .u8 (by8 z 0), .int .u8 (by8 z 1), .int .u8 (by8 z 2), .int .u8 (by8 z 3), .int .u8 (by8 z 4), .int .u8 (by8 z 5), .int .u8 (by8 z 6), .int .u8 (by8 z 7)]) ∧ Below w.heap.size w w' := by
  subst hz; exact refFromNum_lit _ _ (nv_lit c hc) w
theorem two_to (x y z : BitVec 64) (h : twoF x y = z) (w : World) :
    Calls Try.prog 101 #[.agg #[.int .u8 (by8 x 0), .int .u8 (by8 x 1), .int .u8 (by8 x 2), .int .u8 (by8 x 3), .int .u8 (by8 x 4), .int .u8 (by8 x 5), .int .u8 (by8 x 6), .int .u8 (by8 x 7)], .agg #[.int .u8 (by8 y 0), .int .u8 (by8 y 1), .int .u8 (by8 y 2), .int .u8 (by8 y 3), .int .u8 (by8 y 4), .int .u8 (by8 y 5), .int .u8 (by8 y 6), .int .u8 (by8 y 7)]] w fun e w' => e = .returned (.agg #[.int .u8 (by8 z 0), .int .u8 (by8 z 1), .int .u8 (by8 z 2), .int .u8 (by8 z 3), .int .u8 (by8 z 4), .int .u8 (by8 z 5), .int .u8 (by8 z 6), .int .u8 (by8 z 7)]) ∧ Below w.heap.size w w' := by
  subst h; exact two_any x y w
theorem refTwo_to (x y z : BitVec 64) (h : twoF x y = z) (w : World) :
    Calls Try.prog 104 #[.agg #[.int .u8 (by8 x 0), .int .u8 (by8 x 1), .int .u8 (by8 x 2), .int .u8 (by8 x 3), .int .u8 (by8 x 4), .int .u8 (by8 x 5), .int .u8 (by8 x 6), .int .u8 (by8 x 7)], .agg #[.int .u8 (by8 y 0), .int .u8 (by8 y 1), .int .u8 (by8 y 2), .int .u8 (by8 y 3), .int .u8 (by8 y 4), .int .u8 (by8 y 5), .int .u8 (by8 y 6), .int .u8 (by8 y 7)]] w fun e w' => e = .returned (.agg #[.int .u8 (by8 z 0), .int .u8 (by8 z 1), .int .u8 (by8 z 2), .int .u8 (by8 z 3), .int .u8 (by8 z 4), .int .u8 (by8 z 5), .int .u8 (by8 z 6), .int .u8 (by8 z 7)]) ∧ Below w.heap.size w w' := by
  subst h; exact refTwo_any x y w

end Go.Proofs.Ytghaiplhakeahaa
