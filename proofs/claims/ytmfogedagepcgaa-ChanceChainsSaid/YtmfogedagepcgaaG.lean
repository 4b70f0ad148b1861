/- Contracts of package chance: Needed. -/
import Derived.Test.YtmfogedagepcgaaF
namespace Go.Proofs.Ytmfogedagepcgaa
set_option linter.unusedSimpArgs false
set_option linter.unusedVariables false
open Go.RowKit

/-- The rest that is wanting. -/
def restF (n want : Nat) (s : BitVec 64) : Nat := (want - 1 + n - s.toNat % n) % n
/-- The least number that throws a side with the others. -/
def neededB (n want : Nat) (s : BitVec 64) : BitVec 64 :=
  if s.toNat + restF n want s < 18446744073709551616 then BitVec.ofNat 64 (restF n want s) else BitVec.ofNat 64 (want - 1) - s

theorem rest_law (n want : Nat) (s : BitVec 64) (h1 : 1 ≤ n) (h3 : 1 ≤ want) : ((want : Int) - 1 + n - nv s % n) % n = (restF n want s : Int) := by
  unfold restF; simp only [nv_eq]
  have := Nat.mod_lt s.toNat (show 0 < n by omega)
  have e : ((want : Int) - 1 + n - (s.toNat : Int) % n) = ((want - 1 + n - s.toNat % n : Nat) : Int) := by omega
  rw [e]; rfl

theorem needed_small (n want : Nat) (s : BitVec 64) (h : s.toNat + restF n want s < 18446744073709551616) : (restF n want s : Int) = nv (neededB n want s) := by
  unfold neededB; simp only [nv_eq]; rw [if_pos h, BitVec.toNat_ofNat, Nat.mod_eq_of_lt (by omega)]

theorem needed_great (n want : Nat) (s : BitVec 64) (h3 : 1 ≤ want) (h4 : want ≤ 2147483647) (h : ¬ s.toNat + restF n want s < 18446744073709551616) : IntKind.u64.wrap ((want : Int) - 1 - nv s) = nv (neededB n want s) := by
  unfold neededB; simp only [nv_eq]; rw [if_neg h, IntKind.wrap_u64, BitVec.toNat_sub, BitVec.toNat_ofNat, Nat.mod_eq_of_lt (show want - 1 < 2 ^ 64 by omega)]
  have := s.isLt
  omega

theorem mod_window (S n w i x : Nat) (hx : (S + x) % n = w) (hi : i < x) (hxn : x < n) : (S + i) % n ≠ w := by
  intro h
  have h1 := Nat.div_add_mod (S + x) n
  have h2 := Nat.div_add_mod (S + i) n
  rw [hx] at h1; rw [h] at h2
  have h3 : n * ((S + x) / n) = n * ((S + i) / n) + (x - i) := by omega
  have h4 : (S + x) / n = (S + i) / n ∨ (S + i) / n + 1 ≤ (S + x) / n := by
    have := Nat.div_le_div_right (c := n) (show S + i ≤ S + x by omega)
    omega
  rcases h4 with h4 | h4
  · rw [h4] at h3; omega
  · have := Nat.mul_le_mul_left n h4
    rw [Nat.mul_add] at this
    omega

theorem rest_throws (n want : Nat) (s : BitVec 64) (h1 : 1 ≤ n) (h3 : 1 ≤ want) (h4 : want ≤ n) : (s.toNat + restF n want s) % n = want - 1 := by
  unfold restF
  have hm := Nat.mod_lt s.toNat (show 0 < n by omega)
  rw [Nat.add_mod, Nat.mod_mod]
  by_cases hc : want - 1 + n - s.toNat % n < n
  · rw [Nat.mod_eq_of_lt hc, show s.toNat % n + (want - 1 + n - s.toNat % n) = want - 1 + n by omega, Nat.add_mod_right, Nat.mod_eq_of_lt (by omega)]
  · have e : want - 1 + n - s.toNat % n = (want - 1 - s.toNat % n) + n := by omega
    rw [e, Nat.add_mod_right, Nat.mod_eq_of_lt (show want - 1 - s.toNat % n < n by omega), show s.toNat % n + (want - 1 - s.toNat % n) = want - 1 by omega, Nat.mod_eq_of_lt (by omega)]

/-- The number that is needed throws what is wanted .. -/
theorem needed_throws (n want : Nat) (s : BitVec 64) (h1 : 1 ≤ n) (h2 : n ≤ 2147483647) (h3 : 1 ≤ want) (h4 : want ≤ n) : throwF n (s + neededB n want s) = want := by
  have hr := rest_throws n want s h1 h3 h4
  have hlt : restF n want s < n := Nat.mod_lt _ (by omega)
  have hs := s.isLt
  unfold throwF neededB
  split
  · rename_i h
    rw [BitVec.toNat_add, BitVec.toNat_ofNat, Nat.mod_eq_of_lt (show restF n want s < 2 ^ 64 by omega), Nat.mod_eq_of_lt (show s.toNat + restF n want s < 2 ^ 64 by omega), hr]; omega
  · rw [show s + (BitVec.ofNat 64 (want - 1) - s) = BitVec.ofNat 64 (want - 1) by rw [BitVec.add_comm, BitVec.sub_add_cancel], BitVec.toNat_ofNat, Nat.mod_eq_of_lt (show want - 1 < 2 ^ 64 by omega), Nat.mod_eq_of_lt (show want - 1 < n by omega)]; omega

/-- .. and no lesser one does. -/
theorem needed_least (n want : Nat) (s : BitVec 64) (h1 : 1 ≤ n) (h2 : n ≤ 2147483647) (h3 : 1 ≤ want) (h4 : want ≤ n) (i : Nat) (hi : i < (neededB n want s).toNat) : throwF n (s + BitVec.ofNat 64 i) ≠ want := by
  have hr := rest_throws n want s h1 h3 h4
  have hlt : restF n want s < n := Nat.mod_lt _ (by omega)
  have hs := s.isLt
  have hi2 : i < 2 ^ 64 := by have := (neededB n want s).isLt; omega
  unfold throwF
  rw [BitVec.toNat_add, BitVec.toNat_ofNat, Nat.mod_eq_of_lt hi2]
  unfold neededB at hi
  split at hi
  · rename_i h
    rw [BitVec.toNat_ofNat, Nat.mod_eq_of_lt (by omega)] at hi
    rw [Nat.mod_eq_of_lt (show s.toNat + i < 2 ^ 64 by omega)]
    have := mod_window s.toNat n (want - 1) i _ hr hi hlt
    omega
  · rename_i h
    rw [BitVec.toNat_sub, BitVec.toNat_ofNat, Nat.mod_eq_of_lt (show want - 1 < 2 ^ 64 by omega)] at hi
    by_cases hc : s.toNat + i < 2 ^ 64
    · rw [Nat.mod_eq_of_lt hc]
      have := mod_window s.toNat n (want - 1) i _ hr (by omega) hlt
      omega
    · have e : (s.toNat + i) % 2 ^ 64 = s.toNat + i - 2 ^ 64 := by omega
      rw [e, Nat.mod_eq_of_lt (by omega)]
      omega

set_option maxRecDepth 100000 in
set_option maxHeartbeats 1000000 in
theorem needed_no (v : Value) (n k : Int) (w : World) (hn : n < 1 ∨ 2147483647 < n ∨ k < 1 ∨ n < k) :
    Calls Try.prog 26 #[.int .i64 n, .int .i64 k, v] w fun e w' => e = .returned (.tuple #[.int .u64 0, .int .i64 2]) ∧ Below w.heap.size w w' := by
  by_cases hn1 : n < 1
  · go_enter Try.func26, Try.ntmps26
    go_wp2
    go_ret2
    exact ⟨rfl, by (repeat' (first | (with_reducible exact Below.refl _ _) | (with_reducible refine bplus ?_ _ _) | (with_reducible refine balloc ?_ _) | (with_reducible refine Below.drew ?_) | (with_reducible refine bdrewN ?_ _) | (with_reducible refine Below.setCell ?_ (by go_size) _)))⟩
  by_cases hn2 : 2147483647 < n
  · go_enter Try.func26, Try.ntmps26
    go_wp2
    go_ret2
    exact ⟨rfl, by (repeat' (first | (with_reducible exact Below.refl _ _) | (with_reducible refine bplus ?_ _ _) | (with_reducible refine balloc ?_ _) | (with_reducible refine Below.drew ?_) | (with_reducible refine bdrewN ?_ _) | (with_reducible refine Below.setCell ?_ (by go_size) _)))⟩
  by_cases hn3 : k < 1
  · go_enter Try.func26, Try.ntmps26
    go_wp2
    go_ret2
    exact ⟨rfl, by (repeat' (first | (with_reducible exact Below.refl _ _) | (with_reducible refine bplus ?_ _ _) | (with_reducible refine balloc ?_ _) | (with_reducible refine Below.drew ?_) | (with_reducible refine bdrewN ?_ _) | (with_reducible refine Below.setCell ?_ (by go_size) _)))⟩
  have hn4 : n < k := by omega
  go_enter Try.func26, Try.ntmps26
  go_wp2
  go_ret2
  exact ⟨rfl, by (repeat' (first | (with_reducible exact Below.refl _ _) | (with_reducible refine bplus ?_ _ _) | (with_reducible refine balloc ?_ _) | (with_reducible refine Below.drew ?_) | (with_reducible refine bdrewN ?_ _) | (with_reducible refine Below.setCell ?_ (by go_size) _)))⟩

set_option maxRecDepth 100000 in
set_option maxHeartbeats 1000000 in
theorem needed_yes (v : Value) (xs : List (BitVec 64)) (n k : Nat) (w : World) (h1 : 1 ≤ n) (h2 : n ≤ 2147483647) (h3 : 1 ≤ k) (h4 : k ≤ n) (hv : DSl w v xs) (hl : xs.length ≤ 9223372036854775807) :
    Calls Try.prog 26 #[.int .i64 n, .int .i64 k, v] w fun e w' => e = .returned (.tuple #[.int .u64 (nv (neededB n k (sumD xs))), .int .i64 0]) ∧ Below w.heap.size w w' := by
  have HS := Lib.hid (needed_small n k (sumD xs))
  have HG := Lib.hid (needed_great n k (sumD xs) h3 (by omega))
  have hr := rest_law n k (sumD xs) h1 h3
  have hs := nv_bd (sumD xs)
  have hnv : nv (sumD xs) = ((sumD xs).toNat : Int) := nv_eq _
  have hm : 0 ≤ nv (sumD xs) % (n : Int) ∧ nv (sumD xs) % (n : Int) < n := ⟨Int.emod_nonneg _ (by omega), Int.emod_lt_of_pos _ (by omega)⟩
  have hR : restF n k (sumD xs) < n := Nat.mod_lt _ (by omega)
  by_cases hA : (sumD xs).toNat + restF n k (sumD xs) < 18446744073709551616
  · have hA' : nv (sumD xs) + (restF n k (sumD xs) : Int) ≤ 18446744073709551615 := by omega
    have HE : Hid ((restF n k (sumD xs) : Int) = nv (neededB n k (sumD xs))) := HS.out hA
    clear hnv hA HS HG
    generalize restF n k (sumD xs) = r at *
    go_enter Try.func26, Try.ntmps26
    go_wp2_with (go_at_call 67; refine (together_any v xs _ hv hl).mono ?_; rintro e w1 ⟨rfl, hb1⟩; obtain ⟨g1, d1, rfl⟩ := plus_of_below hb1; clear hb1)
    go_ret2
    exact ⟨by rw [← HE.out, ← hr]; rfl, by (repeat' (first | (with_reducible exact Below.refl _ _) | (with_reducible refine bplus ?_ _ _) | (with_reducible refine balloc ?_ _) | (with_reducible refine Below.drew ?_) | (with_reducible refine bdrewN ?_ _) | (with_reducible refine Below.setCell ?_ (by go_size) _)))⟩
  · have hB : IntKind.u64.wrap (nv (sumD xs) + (restF n k (sumD xs) : Int)) < nv (sumD xs) := by rw [IntKind.wrap_u64]; omega
    have hB' : 18446744073709551615 < nv (sumD xs) + (restF n k (sumD xs) : Int) := by omega
    have HE : Hid (IntKind.u64.wrap ((k : Int) - 1 - nv (sumD xs)) = nv (neededB n k (sumD xs))) := HG.out hA
    clear hnv hA HS HG
    generalize restF n k (sumD xs) = r at *
    go_enter Try.func26, Try.ntmps26
    go_wp2_with (go_at_call 67; refine (together_any v xs _ hv hl).mono ?_; rintro e w1 ⟨rfl, hb1⟩; obtain ⟨g1, d1, rfl⟩ := plus_of_below hb1; clear hb1)
    go_ret2
    exact ⟨by rw [← HE.out]; rfl, by (repeat' (first | (with_reducible exact Below.refl _ _) | (with_reducible refine bplus ?_ _ _) | (with_reducible refine balloc ?_ _) | (with_reducible refine Below.drew ?_) | (with_reducible refine bdrewN ?_ _) | (with_reducible refine Below.setCell ?_ (by go_size) _)))⟩

end Go.Proofs.Ytmfogedagepcgaa
