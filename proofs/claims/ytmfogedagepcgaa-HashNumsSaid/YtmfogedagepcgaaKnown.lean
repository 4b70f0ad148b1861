/- baizelaw02.known answers yes. -/
import Derived.Test.YtmfogedagepcgaaStream
import Derived.Test.YtmfogedagepcgaaZ
import Derived.Test.YtmfogedagepcgaaEqd
import Derived.Deep.DeepCutAuto
import Derived.Deep.RegionLaw
namespace Go.Proofs.Ytmfogedagepcgaa
open Go.RowKit

set_option maxRecDepth 100000 in
set_option maxHeartbeats 1000000 in
theorem known02_any (w : World) :
    Calls Try.prog 30 #[] w fun e w' => e = .returned (.bool true) ∧ Below w.heap.size w w' := by
  have hb0 : (by8 261#64 0 == 5) = true := by decide
  have hb1 : (by8 261#64 1 == 1) = true := by decide
  have hn : (nv 261#64 == 261) = true := by decide
  go_enter Try.func30, Try.ntmps30
  go_upto_if 3 with (first
    | (go_at_call 28; refine (fromNum_lit 261#64 261 rfl _).mono ?_; rintro e w1 ⟨rfl, hb1⟩; obtain ⟨g1, d1, rfl⟩ := plus_of_below hb1; clear hb1))
  go_region_law (first
    | (go_simp; go_at_call 29; refine (num_any 261#64 _).mono ?_; rintro e w2 ⟨rfl, hb2⟩; obtain ⟨g2, d2, rfl⟩ := plus_of_below hb2; clear hb2; simp only [])
    | (go_simp; go_at_call 33; refine (chain_some 261#64 2 (by omega) (by omega) _).mono ?_; rw [show chainF 261#64 2 = oneF (oneF 261#64) from rfl]; rintro e w3 ⟨rfl, hb3⟩; obtain ⟨g3, d3, rfl⟩ := plus_of_below hb3; clear hb3; simp only [])
    | (go_simp; go_at_call 35; with_reducible refine (one_any _ _).mono ?_; rintro e w4 ⟨rfl, hb4⟩; obtain ⟨g4, d4, rfl⟩ := plus_of_below hb4; clear hb4; simp only [])
    | (go_simp; go_at_call 36; refine (stream_some 261#64 9 (by omega) (by omega) _).mono ?_; rintro e w1 ⟨ao5, rfl, hb5⟩; obtain ⟨g5, d5, rfl⟩ := plus_of_below hb5; clear hb5; simp only []))
  all_goals
    go_wp2
    go_ret
    exact ⟨rfl, by (repeat' (first | (with_reducible exact Below.refl _ _) | (with_reducible refine bplus ?_ _ _) | (with_reducible refine balloc ?_ _) | (with_reducible refine Below.drew ?_) | (with_reducible refine bdrewN ?_ _) | (with_reducible refine Below.setCell ?_ (by go_size) _)))⟩

end Go.Proofs.Ytmfogedagepcgaa
