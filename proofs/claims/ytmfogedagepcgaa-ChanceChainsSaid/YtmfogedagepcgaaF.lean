/- Contracts of package chance: together, Throw, Needed. -/
import Derived.Test.YtmfogedagepcgaaD
import Derived.Test.YtmfogedagepcgaaN
namespace Go.Proofs.Ytmfogedagepcgaa
set_option linter.unusedSimpArgs false
set_option linter.unusedVariables false
open Go.RowKit

set_option maxRecDepth 100000 in
set_option maxHeartbeats 1000000 in
theorem together_any (v : Value) (xs : List (BitVec 64)) (w : World) (hv : DSl w v xs) (hl : xs.length ≤ 9223372036854775807) :
    Calls Try.prog 67 #[v] w fun e w' => e = .returned (.int .u64 (nv (sumD xs))) ∧ Below w.heap.size w w' := by
  obtain ⟨ao, cap, rfl, _, rfl | ⟨b, o, rfl, hb, hc⟩⟩ := hv
  · go_enter Try.func67, Try.ntmps67
    go_wp2
    go_rounds 1
    go_ret
    exact ⟨congrArg Ending.returned nv_zero, by (repeat' (first | (with_reducible exact Below.refl _ _) | (with_reducible refine bplus ?_ _ _) | (with_reducible refine balloc ?_ _) | (with_reducible refine Below.drew ?_) | (with_reducible refine bdrewN ?_ _) | (with_reducible refine Below.setCell ?_ (by go_size) _)))⟩
  · go_enter Try.func67, Try.ntmps67
    have HC := Lib.hid hc
    clear hc
    go_wp2
    go_loopw [3, 8] (fun s i wr => ∃ k : Nat, k ≤ xs.length ∧ s = .int .u64 (nv (sumD (xs.take k))) ∧ i = .int .i64 k ∧ ∃ g d, wr = plus w g d) (fun _ i _ => xs.length - (intOf i).toNat)
    case atStart => exact ⟨0, by omega, nv_zero, rfl, plus_of_below (by (repeat' (first | (with_reducible exact Below.refl _ _) | (with_reducible refine bplus ?_ _ _) | (with_reducible refine balloc ?_ _) | (with_reducible refine Below.drew ?_) | (with_reducible refine bdrewN ?_ _) | (with_reducible refine Below.setCell ?_ (by go_size) _))))⟩
    case round =>
      obtain ⟨k, hk, rfl, rfl, g, d, rfl⟩ := hrel
      by_cases hlt : k < xs.length
      · have HN := Lib.hid (sumD_take xs k hlt)
        have c0 := HC.out k hlt 0 (by omega)
        have c1 := HC.out k hlt 1 (by omega)
        have c2 := HC.out k hlt 2 (by omega)
        have c3 := HC.out k hlt 3 (by omega)
        have c4 := HC.out k hlt 4 (by omega)
        have c5 := HC.out k hlt 5 (by omega)
        have c6 := HC.out k hlt 6 (by omega)
        have c7 := HC.out k hlt 7 (by omega)
        rw [Nat.add_zero] at c0
        generalize xs.getD k 0 = x at *
        generalize sumD (xs.take k) = t at *
        go_wp2_with (go_at_call 29; refine (num_any _ _).mono ?_; rintro e w1 ⟨rfl, hb1⟩; obtain ⟨g1, d1, rfl⟩ := plus_of_below hb1; clear hb1)
        go_roundw
        case rel => exact ⟨k + 1, by omega, by rw [HN.out], by go_num, plus_of_below (by (repeat' (first | (with_reducible exact Below.refl _ _) | (with_reducible refine bplus ?_ _ _) | (with_reducible refine balloc ?_ _) | (with_reducible refine Below.drew ?_) | (with_reducible refine bdrewN ?_ _) | (with_reducible refine Below.setCell ?_ (by go_size) _))))⟩
        case measure => simp [intOf]; omega
      · obtain rfl : k = xs.length := by omega
        rw [sumD_all]
        go_wp2
        go_ret
        exact ⟨rfl, by (repeat' (first | (with_reducible exact Below.refl _ _) | (with_reducible refine bplus ?_ _ _) | (with_reducible refine balloc ?_ _) | (with_reducible refine Below.drew ?_) | (with_reducible refine bdrewN ?_ _) | (with_reducible refine Below.setCell ?_ (by go_size) _)))⟩

/-- What is thrown. -/
def throwF (n : Nat) (s : BitVec 64) : Int := 1 + ((s.toNat % n : Nat) : Int)

theorem throw_law (n : Nat) (s : BitVec 64) : 1 + nv s % (n : Int) = throwF n s := by unfold throwF; simp only [nv_eq]; omega

set_option maxRecDepth 100000 in
set_option maxHeartbeats 1000000 in
theorem throw_no (v : Value) (n : Int) (w : World) (hn : n < 1 ∨ 2147483647 < n) :
    Calls Try.prog 23 #[.int .i64 n, v] w fun e w' => e = .returned (.tuple #[.int .i64 0, .int .i64 2]) ∧ Below w.heap.size w w' := by
  rcases hn with hn | hn
  · go_enter Try.func23, Try.ntmps23
    go_wp2
    go_ret2
    exact ⟨rfl, by (repeat' (first | (with_reducible exact Below.refl _ _) | (with_reducible refine bplus ?_ _ _) | (with_reducible refine balloc ?_ _) | (with_reducible refine Below.drew ?_) | (with_reducible refine bdrewN ?_ _) | (with_reducible refine Below.setCell ?_ (by go_size) _)))⟩
  · have h1 : ¬ n < 1 := by omega
    go_enter Try.func23, Try.ntmps23
    go_wp2
    go_ret2
    exact ⟨rfl, by (repeat' (first | (with_reducible exact Below.refl _ _) | (with_reducible refine bplus ?_ _ _) | (with_reducible refine balloc ?_ _) | (with_reducible refine Below.drew ?_) | (with_reducible refine bdrewN ?_ _) | (with_reducible refine Below.setCell ?_ (by go_size) _)))⟩

set_option maxRecDepth 100000 in
set_option maxHeartbeats 1000000 in
theorem throw_yes (v : Value) (xs : List (BitVec 64)) (n : Nat) (w : World) (h1 : 1 ≤ n) (h2 : n ≤ 2147483647) (hv : DSl w v xs) (hl : xs.length ≤ 9223372036854775807) :
    Calls Try.prog 23 #[.int .i64 n, v] w fun e w' => e = .returned (.tuple #[.int .i64 (throwF n (sumD xs)), .int .i64 0]) ∧ Below w.heap.size w w' := by
  have hs := nv_bd (sumD xs)
  have hm : 0 ≤ nv (sumD xs) % (n : Int) ∧ nv (sumD xs) % (n : Int) < n := ⟨Int.emod_nonneg _ (by omega), Int.emod_lt_of_pos _ (by omega)⟩
  go_enter Try.func23, Try.ntmps23
  go_wp2_with (go_at_call 67; refine (together_any v xs _ hv hl).mono ?_; rintro e w1 ⟨rfl, hb1⟩; obtain ⟨g1, d1, rfl⟩ := plus_of_below hb1; clear hb1)
  go_ret2
  exact ⟨by simp only [← throw_law n (sumD xs)]; rfl, by (repeat' (first | (with_reducible exact Below.refl _ _) | (with_reducible refine bplus ?_ _ _) | (with_reducible refine balloc ?_ _) | (with_reducible refine Below.drew ?_) | (with_reducible refine bdrewN ?_ _) | (with_reducible refine Below.setCell ?_ (by go_size) _)))⟩

end Go.Proofs.Ytmfogedagepcgaa
