/- Contracts of One, Two, Chain. -/
import Derived.Test.YtghaiplhakeahaaA
namespace Go.Proofs.Ytghaiplhakeahaa
set_option linter.unusedSimpArgs false
set_option linter.unusedVariables false
open Go.RowKit

set_option maxRecDepth 100000 in
set_option maxHeartbeats 1000000 in
theorem two_any (x y : BitVec 64) (w : World) :
    Calls Try.prog 101 #[.agg #[.int .u8 (by8 x 0), .int .u8 (by8 x 1), .int .u8 (by8 x 2), .int .u8 (by8 x 3), .int .u8 (by8 x 4), .int .u8 (by8 x 5), .int .u8 (by8 x 6), .int .u8 (by8 x 7)], .agg #[.int .u8 (by8 y 0), .int .u8 (by8 y 1), .int .u8 (by8 y 2), .int .u8 (by8 y 3), .int .u8 (by8 y 4), .int .u8 (by8 y 5), .int .u8 (by8 y 6), .int .u8 (by8 y 7)]] w fun e w' => e = .returned (.agg #[.int .u8 (by8 ((twoF x y)) 0), .int .u8 (by8 ((twoF x y)) 1), .int .u8 (by8 ((twoF x y)) 2), .int .u8 (by8 ((twoF x y)) 3), .int .u8 (by8 ((twoF x y)) 4), .int .u8 (by8 ((twoF x y)) 5), .int .u8 (by8 ((twoF x y)) 6), .int .u8 (by8 ((twoF x y)) 7)]) ∧ Below w.heap.size w w' := by
  go_enter Try.func101, Try.ntmps101
  have tok1 : True := trivial
  go_wp2_with (first
    | (go_at_call 88; refine (begin_any 3#64 _ (nv_lit 3 (by decide)) _).mono ?_; rintro e w1 ⟨rfl, hb1⟩; obtain ⟨g1, d1, rfl⟩ := plus_of_below hb1; clear hb1)
    | (go_at_call 90; with_reducible refine (num_any _ _).mono ?_; rintro e w2 ⟨rfl, hb2⟩; obtain ⟨g2, d2, rfl⟩ := plus_of_below hb2; clear hb2)
    | (go_at_call 89; have _t := tok1; refine (take_any (beginF 3#64) _ _ _ _ (by go_simp) (by go_simp) (by go_simp) (by go_simp) (by go_simp) (by go_simp) (by go_simp) (by go_simp)).mono ?_; rintro e w3 ⟨rfl, n3, rfl⟩; simp only [putSt]; clear tok1)
    | (go_at_call 89; refine (take_any (takeF (beginF 3#64) x) _ _ _ _ (by go_simp) (by go_simp) (by go_simp) (by go_simp) (by go_simp) (by go_simp) (by go_simp) (by go_simp)).mono ?_; rintro e w3 ⟨rfl, n3, rfl⟩; simp only [putSt])
    | (go_at_call 92; refine (gives_any (takeF (takeF (beginF 3#64) x) y) _ _ _ (by go_simp) (by go_simp) (by go_simp)).mono ?_; rintro e w4 ⟨rfl, hb4⟩; obtain ⟨g4, d4, rfl⟩ := plus_of_below hb4; clear hb4))
  refine bodyPost_ret (v := .agg #[.int .u8 (by8 ((twoF x y)) 0), .int .u8 (by8 ((twoF x y)) 1), .int .u8 (by8 ((twoF x y)) 2), .int .u8 (by8 ((twoF x y)) 3), .int .u8 (by8 ((twoF x y)) 4), .int .u8 (by8 ((twoF x y)) 5), .int .u8 (by8 ((twoF x y)) 6), .int .u8 (by8 ((twoF x y)) 7)]) (by simp [results, Try.results101, go_sem, twoF]) rfl ⟨rfl, by (repeat' (first | (with_reducible exact Below.refl _ _) | (with_reducible refine bplus ?_ _ _) | (with_reducible refine balloc ?_ _) | (with_reducible refine Below.drew ?_) | (with_reducible refine bdrewN ?_ _) | (with_reducible refine Below.setCell ?_ (by go_size) _)))⟩

end Go.Proofs.Ytghaiplhakeahaa
