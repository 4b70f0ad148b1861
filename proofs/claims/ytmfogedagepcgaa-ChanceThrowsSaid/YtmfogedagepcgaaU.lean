/- The law ChanceThrows: its walk. -/
import Derived.Test.YtmfogedagepcgaaK
namespace Go.Proofs.Ytmfogedagepcgaa
open Go.RowKit


set_option maxRecDepth 100000 in
set_option maxHeartbeats 2000000 in
theorem chanceThrows_long (ao : Option Addr) (n cap : Nat) (s k : Int) (w : World) (hn : 20 < n) (hr : n ≤ 9223372036854775807) :
    Calls Try.prog 4 #[.int .i64 s, .int .i64 k, .slice ao n cap] w fun e w' => e = .returned (.bool true) ∧ Below w.heap.size w w' := by
  go_enter Try.func4, Try.ntmps4
  go_wp2_with (go_at_call 19; refine (known18_any _).mono ?_; rintro e w1 ⟨rfl, hb1⟩; obtain ⟨g1, d1, rfl⟩ := plus_of_below hb1; clear hb1)
  go_ret
  exact ⟨rfl, by (repeat' (first | (with_reducible exact Below.refl _ _) | (with_reducible refine bplus ?_ _ _) | (with_reducible refine balloc ?_ _) | (with_reducible refine Below.drew ?_) | (with_reducible refine bdrewN ?_ _) | (with_reducible refine Below.setCell ?_ (by go_size) _)))⟩

set_option maxRecDepth 100000 in
set_option maxHeartbeats 2000000 in
theorem chanceThrows_no (ao : Option Addr) (cap : Nat) (xs : List (BitVec 64)) (s k : Int) (w : World) (hn : xs.length ≤ 20) (hs : s < 1 ∨ 2147483647 < s) (hv : DSl w (.slice ao xs.length cap) xs) :
    Calls Try.prog 4 #[.int .i64 s, .int .i64 k, .slice ao xs.length cap] w fun e w' => e = .returned (.bool true) ∧ Below w.heap.size w w' := by
  have hs' := Lib.hid hs
  have HV := Lib.hid hv
  clear hv
  rcases hs with hs | hs
  all_goals
    go_enter Try.func4, Try.ntmps4
    go_wp2_with (first
      | (go_at_call 19; refine (known18_any _).mono ?_; rintro e w1 ⟨rfl, hb1⟩; obtain ⟨g1, d1, rfl⟩ := plus_of_below hb1; clear hb1)
      | (go_at_call 24; refine (of_any _ xs _ (HV.out.plus _ _) (by omega)).mono ?_; rintro e w2 ⟨v2, rfl, hb2, hu⟩; obtain ⟨g2, d2, rfl⟩ := plus_of_below hb2; clear hb2; try simp only [go_sem] at hu)
      | (go_at_call 23; refine (throw_no _ s _ hs'.out).mono ?_; rintro e w3 ⟨rfl, hb3⟩; obtain ⟨g3, d3, rfl⟩ := plus_of_below hb3; clear hb3)
      | (go_at_call 25; refine (refThrow_no _ s _ hs'.out).mono ?_; rintro e w4 ⟨rfl, hb4⟩; obtain ⟨g4, d4, rfl⟩ := plus_of_below hb4; clear hb4)
      | (go_at_call 26; refine (needed_no _ s k _ (by have := hs'.out; omega)).mono ?_; rintro e w5 ⟨rfl, hb5⟩; obtain ⟨g5, d5, rfl⟩ := plus_of_below hb5; clear hb5)
      | (go_at_call 27; refine (refNeeded_no _ s k _ (by have := hs'.out; omega)).mono ?_; rintro e w6 ⟨rfl, hb6⟩; obtain ⟨g6, d6, rfl⟩ := plus_of_below hb6; clear hb6))
    go_ret
    exact ⟨rfl, by (repeat' (first | (with_reducible exact Below.refl _ _) | (with_reducible refine bplus ?_ _ _) | (with_reducible refine balloc ?_ _) | (with_reducible refine Below.drew ?_) | (with_reducible refine bdrewN ?_ _) | (with_reducible refine Below.setCell ?_ (by go_size) _)))⟩

set_option maxRecDepth 100000 in
set_option maxHeartbeats 2000000 in
theorem chanceThrows_want (ao : Option Addr) (cap : Nat) (xs : List (BitVec 64)) (s : Nat) (k : Int) (w : World) (hn : xs.length ≤ 20) (hs1 : 1 ≤ s) (hs2 : s ≤ 2147483647) (hk : k < 1 ∨ (s : Int) < k) (hv : DSl w (.slice ao xs.length cap) xs) :
    Calls Try.prog 4 #[.int .i64 s, .int .i64 k, .slice ao xs.length cap] w fun e w' => e = .returned (.bool true) ∧ Below w.heap.size w w' := by
  have hk' := Lib.hid hk
  have HV := Lib.hid hv
  clear hv
  by_cases h60 : 60 < s
  all_goals
    rcases hk with hk | hk
    all_goals
      go_enter Try.func4, Try.ntmps4
      go_wp2_with (first
        | (go_at_call 19; refine (known18_any _).mono ?_; rintro e w1 ⟨rfl, hb1⟩; obtain ⟨g1, d1, rfl⟩ := plus_of_below hb1; clear hb1)
        | (go_at_call 24; refine (of_any _ xs _ (HV.out.plus _ _) (by omega)).mono ?_; rintro e w2 ⟨v2, rfl, hb2, hu⟩; obtain ⟨g2, d2, rfl⟩ := plus_of_below hb2; clear hb2; try simp only [go_sem] at hu)
        | (go_at_call 23; refine (throw_yes _ xs s _ hs1 hs2 hu (by omega)).mono ?_; rintro e w3 ⟨rfl, hb3⟩; obtain ⟨g3, d3, rfl⟩ := plus_of_below hb3; clear hb3)
        | (go_at_call 25; refine (refThrow_yes _ xs s _ hs1 hs2 (HV.out.plus _ _) (by omega)).mono ?_; rintro e w4 ⟨rfl, hb4⟩; obtain ⟨g4, d4, rfl⟩ := plus_of_below hb4; clear hb4)
        | (go_at_call 26; refine (needed_no _ s k _ (by have := hk'.out; omega)).mono ?_; rintro e w5 ⟨rfl, hb5⟩; obtain ⟨g5, d5, rfl⟩ := plus_of_below hb5; clear hb5)
        | (go_at_call 27; refine (refNeeded_no _ s k _ (by have := hk'.out; omega)).mono ?_; rintro e w6 ⟨rfl, hb6⟩; obtain ⟨g6, d6, rfl⟩ := plus_of_below hb6; clear hb6))
      go_ret
      exact ⟨rfl, by (repeat' (first | (with_reducible exact Below.refl _ _) | (with_reducible refine bplus ?_ _ _) | (with_reducible refine balloc ?_ _) | (with_reducible refine Below.drew ?_) | (with_reducible refine bdrewN ?_ _) | (with_reducible refine Below.setCell ?_ (by go_size) _)))⟩

set_option maxRecDepth 100000 in
set_option maxHeartbeats 2000000 in
theorem chanceThrows_yes (ao : Option Addr) (cap : Nat) (xs : List (BitVec 64)) (s k : Nat) (w : World) (hn : xs.length ≤ 20) (hs1 : 1 ≤ s) (hs2 : s ≤ 2147483647) (hk1 : 1 ≤ k) (hk2 : k ≤ s) (hv : DSl w (.slice ao xs.length cap) xs) :
    Calls Try.prog 4 #[.int .i64 s, .int .i64 k, .slice ao xs.length cap] w fun e w' => e = .returned (.bool true) ∧ Below w.heap.size w w' := by
  have HV := Lib.hid hv
  clear hv
  have hd1 : decide (s < k) = false := decide_eq_false (by omega)
  have hd2 : decide (k ≤ s) = true := decide_eq_true (by omega)
  by_cases h60 : 60 < s
  all_goals
    go_enter Try.func4, Try.ntmps4
    go_wp2_with (first
      | (go_at_call 19; refine (known18_any _).mono ?_; rintro e w1 ⟨rfl, hb1⟩; obtain ⟨g1, d1, rfl⟩ := plus_of_below hb1; clear hb1)
      | (go_at_call 24; refine (of_any _ xs _ (HV.out.plus _ _) (by omega)).mono ?_; rintro e w2 ⟨v2, rfl, hb2, hu⟩; obtain ⟨g2, d2, rfl⟩ := plus_of_below hb2; clear hb2; try simp only [go_sem] at hu)
      | (go_at_call 23; refine (throw_yes _ xs s _ hs1 hs2 hu (by omega)).mono ?_; rintro e w3 ⟨rfl, hb3⟩; obtain ⟨g3, d3, rfl⟩ := plus_of_below hb3; clear hb3)
      | (go_at_call 25; refine (refThrow_yes _ xs s _ hs1 hs2 (HV.out.plus _ _) (by omega)).mono ?_; rintro e w4 ⟨rfl, hb4⟩; obtain ⟨g4, d4, rfl⟩ := plus_of_below hb4; clear hb4)
      | (go_at_call 26; refine (needed_yes _ xs s k _ hs1 hs2 hk1 hk2 hu (by omega)).mono ?_; rintro e w5 ⟨rfl, hb5⟩; obtain ⟨g5, d5, rfl⟩ := plus_of_below hb5; clear hb5)
      | (go_at_call 27; refine (refNeeded_yes _ xs s k _ hs1 hs2 hk1 hk2 (HV.out.plus _ _) (by omega)).mono ?_; rintro e w6 ⟨rfl, hb6⟩; obtain ⟨g6, d6, rfl⟩ := plus_of_below hb6; clear hb6))
    go_ret
    exact ⟨rfl, by (repeat' (first | (with_reducible exact Below.refl _ _) | (with_reducible refine bplus ?_ _ _) | (with_reducible refine balloc ?_ _) | (with_reducible refine Below.drew ?_) | (with_reducible refine bdrewN ?_ _) | (with_reducible refine Below.setCell ?_ (by go_size) _)))⟩

end Go.Proofs.Ytmfogedagepcgaa
