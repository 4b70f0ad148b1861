/- Contracts of the reference's functions. -/
import Derived.Test.YtghaiplhakeahaaA
namespace Go.Proofs.Ytghaiplhakeahaa
set_option linter.unusedSimpArgs false
set_option linter.unusedVariables false
open Go.RowKit

theorem ref_num_law (x : BitVec 64) : ((((((by8 x 7 * 256 + by8 x 6) * 256 + by8 x 5) * 256 + by8 x 4) * 256 + by8 x 3) * 256 + by8 x 2) * 256 + by8 x 1) * 256 + by8 x 0 = nv x := by
  have hx := nv_bd x
  rw [by8_0, by8_1, by8_2, by8_3, by8_4, by8_5, by8_6, by8_7]; omega

theorem by8_n2 (x : BitVec 64) : by8 x 2 = nv x / 256 / 256 % 256 := by have := nv_bd x; rw [by8_2]; omega
theorem by8_n3 (x : BitVec 64) : by8 x 3 = nv x / 256 / 256 / 256 % 256 := by have := nv_bd x; rw [by8_3]; omega
theorem by8_n4 (x : BitVec 64) : by8 x 4 = nv x / 256 / 256 / 256 / 256 % 256 := by have := nv_bd x; rw [by8_4]; omega
theorem by8_n5 (x : BitVec 64) : by8 x 5 = nv x / 256 / 256 / 256 / 256 / 256 % 256 := by have := nv_bd x; rw [by8_5]; omega
theorem by8_n6 (x : BitVec 64) : by8 x 6 = nv x / 256 / 256 / 256 / 256 / 256 / 256 % 256 := by have := nv_bd x; rw [by8_6]; omega
theorem by8_n7 (x : BitVec 64) : by8 x 7 = nv x / 256 / 256 / 256 / 256 / 256 / 256 / 256 % 256 := by have := nv_bd x; rw [by8_7]; omega

set_option maxRecDepth 100000 in
set_option maxHeartbeats 1000000 in
theorem refNum_any (x : BitVec 64) (w : World) :
    Calls Try.prog 97 #[.agg #[.int .u8 (by8 x 0), .int .u8 (by8 x 1), .int .u8 (by8 x 2), .int .u8 (by8 x 3), .int .u8 (by8 x 4), .int .u8 (by8 x 5), .int .u8 (by8 x 6), .int .u8 (by8 x 7)]] w fun e w' => e = .returned (.int .u64 (nv x)) ∧ Below w.heap.size w w' := by
  have b0 := by8_bd x 0
  have b1 := by8_bd x 1
  have b2 := by8_bd x 2
  have b3 := by8_bd x 3
  have b4 := by8_bd x 4
  have b5 := by8_bd x 5
  have b6 := by8_bd x 6
  have b7 := by8_bd x 7
  go_enter Try.func97, Try.ntmps97
  go_wp2
  go_rounds 9
  go_ret
  exact ⟨ret_u64 (ref_num_law x), by (repeat' (first | (with_reducible exact Below.refl _ _) | (with_reducible refine bplus ?_ _ _) | (with_reducible refine balloc ?_ _) | (with_reducible refine Below.drew ?_) | (with_reducible refine bdrewN ?_ _) | (with_reducible refine Below.setCell ?_ (by go_size) _)))⟩

set_option maxRecDepth 100000 in
set_option maxHeartbeats 1000000 in
theorem refFromNum_any (x : BitVec 64) (w : World) :
    Calls Try.prog 111 #[.int .u64 (nv x)] w fun e w' => e = .returned (.agg #[.int .u8 (by8 x 0), .int .u8 (by8 x 1), .int .u8 (by8 x 2), .int .u8 (by8 x 3), .int .u8 (by8 x 4), .int .u8 (by8 x 5), .int .u8 (by8 x 6), .int .u8 (by8 x 7)]) ∧ Below w.heap.size w w' := by
  have hx := nv_bd x
  go_enter Try.func111, Try.ntmps111
  go_wp2
  go_rounds 9
  rw [← by8_0, ← by8_1, ← by8_n2, ← by8_n3, ← by8_n4, ← by8_n5, ← by8_n6, ← by8_n7]
  refine bodyPost_ret (v := .agg #[.int .u8 (by8 x 0), .int .u8 (by8 x 1), .int .u8 (by8 x 2), .int .u8 (by8 x 3), .int .u8 (by8 x 4), .int .u8 (by8 x 5), .int .u8 (by8 x 6), .int .u8 (by8 x 7)]) (by simp [results, Try.results111, go_sem]) rfl ⟨rfl, by (repeat' (first | (with_reducible exact Below.refl _ _) | (with_reducible refine bplus ?_ _ _) | (with_reducible refine balloc ?_ _) | (with_reducible refine Below.drew ?_) | (with_reducible refine bdrewN ?_ _) | (with_reducible refine Below.setCell ?_ (by go_size) _)))⟩

set_option maxRecDepth 100000 in
set_option maxHeartbeats 1000000 in
theorem refBegin_any (x : BitVec 64) (n : Int) (hn : nv x = n) (w : World) :
    Calls Try.prog 96 #[.int .u64 n] w fun e w' => e = .returned (.agg #[.int .u64 (nv ((beginF x)).a), .int .u64 (nv ((beginF x)).b), .int .u64 (nv ((beginF x)).c), .int .u64 (nv ((beginF x)).d)]) ∧ Below w.heap.size w w' := by
  subst hn
  go_enter Try.func96, Try.ntmps96
  go_wp2
  refine bodyPost_ret (v := .agg #[.int .u64 (nv ((beginF x)).a), .int .u64 (nv ((beginF x)).b), .int .u64 (nv ((beginF x)).c), .int .u64 (nv ((beginF x)).d)]) (by simp [results, Try.results96, go_sem, beginF, nv_ini0, nv_ini1, nv_ini2]) rfl ⟨rfl, by (repeat' (first | (with_reducible exact Below.refl _ _) | (with_reducible refine bplus ?_ _ _) | (with_reducible refine balloc ?_ _) | (with_reducible refine Below.drew ?_) | (with_reducible refine bdrewN ?_ _) | (with_reducible refine Below.setCell ?_ (by go_size) _)))⟩

set_option maxRecDepth 100000 in
set_option maxHeartbeats 1000000 in
theorem refStir_any (s : St) (w : World) :
    Calls Try.prog 112 #[.agg #[.int .u64 (nv s.a), .int .u64 (nv s.b), .int .u64 (nv s.c), .int .u64 (nv s.d)]] w fun e w' => e = .returned (.agg #[.int .u64 (nv ((stirF s)).a), .int .u64 (nv ((stirF s)).b), .int .u64 (nv ((stirF s)).c), .int .u64 (nv ((stirF s)).d)]) ∧ Below w.heap.size w w' := by
  go_enter Try.func112, Try.ntmps112
  go_wp2
  go_loopw [3] (fun i wr => ∃ (k : Nat) (g : Array Obj) (d : Nat), k ≤ 6 ∧ i = .int .u64 ((k : Int) + 1) ∧ wr = plus ((w.alloc (.cells #[.int .u64 (nv ((stirN k s)).a), .int .u64 (nv ((stirN k s)).b), .int .u64 (nv ((stirN k s)).c), .int .u64 (nv ((stirN k s)).d)] 165)).alloc (.cells #[.int .u64 0, .int .u64 0, .int .u64 0, .int .u64 0] 165)) g d) (fun i _ => 7 - (intOf i).toNat)
  case atStart => exact ⟨0, #[], w.drawn, by omega, rfl, plus_self _⟩
  case round =>
    obtain ⟨k, g, d, hk, rfl, rfl⟩ := hrel
    have HN : Hid (stirN (k + 1) s = mixR (BitVec.ofNat 64 (k + 1)) (stirN k s)) := rfl
    by_cases hlt : k < 6
    · have hxk := bits_xor_k k hlt
      generalize stirN k s = t at HN
      go_wp2_with (first | (go_at_call 114; with_reducible refine (left32_any _ _).mono ?_; rintro e w' ⟨rfl, rfl⟩) | (go_at_call 114; with_reducible refine (left24_any _ _).mono ?_; rintro e w' ⟨rfl, rfl⟩) | (go_at_call 114; with_reducible refine (left16_any _ _).mono ?_; rintro e w' ⟨rfl, rfl⟩) | (go_at_call 114; with_reducible refine (left63_any _ _).mono ?_; rintro e w' ⟨rfl, rfl⟩))
      go_roundw
      case rel => exact ⟨k + 1, _, _, by omega, by go_num, by rw [HN.out]; rfl⟩
      case measure => simp [intOf]; omega
    · obtain rfl : k = 6 := by omega
      clear HN hlt hk
      go_wp2
      refine bodyPost_ret (v := .agg #[.int .u64 (nv ((stirF s)).a), .int .u64 (nv ((stirF s)).b), .int .u64 (nv ((stirF s)).c), .int .u64 (nv ((stirF s)).d)]) (by simp [results, Try.results112, go_sem, stirF]) rfl ⟨rfl, by (repeat' (first | (with_reducible exact Below.refl _ _) | (with_reducible refine bplus ?_ _ _) | (with_reducible refine balloc ?_ _) | (with_reducible refine Below.drew ?_) | (with_reducible refine bdrewN ?_ _) | (with_reducible refine Below.setCell ?_ (by go_size) _)))⟩

set_option maxRecDepth 100000 in
set_option maxHeartbeats 1000000 in
theorem refIn_any (s : St) (x : BitVec 64) (w : World) :
    Calls Try.prog 95 #[.agg #[.int .u64 (nv s.a), .int .u64 (nv s.b), .int .u64 (nv s.c), .int .u64 (nv s.d)], .int .u64 (nv x)] w fun e w' => e = .returned (.agg #[.int .u64 (nv ((takeF s x)).a), .int .u64 (nv ((takeF s x)).b), .int .u64 (nv ((takeF s x)).c), .int .u64 (nv ((takeF s x)).d)]) ∧ Below w.heap.size w w' := by
  go_enter Try.func95, Try.ntmps95
  go_wp2_with (go_at_call 112; refine (refStir_any { s with a := s.a ^^^ x } _).mono ?_; rintro e w1 ⟨rfl, hb1⟩; obtain ⟨g1, d1, rfl⟩ := plus_of_below hb1; clear hb1)
  refine bodyPost_ret (v := .agg #[.int .u64 (nv ((takeF s x)).a), .int .u64 (nv ((takeF s x)).b), .int .u64 (nv ((takeF s x)).c), .int .u64 (nv ((takeF s x)).d)]) (by simp [results, Try.results95, go_sem, takeF]) rfl ⟨rfl, by (repeat' (first | (with_reducible exact Below.refl _ _) | (with_reducible refine bplus ?_ _ _) | (with_reducible refine balloc ?_ _) | (with_reducible refine Below.drew ?_) | (with_reducible refine bdrewN ?_ _) | (with_reducible refine Below.setCell ?_ (by go_size) _)))⟩

set_option maxRecDepth 100000 in
set_option maxHeartbeats 1000000 in
theorem refOut_any (s : St) (w : World) :
    Calls Try.prog 93 #[.agg #[.int .u64 (nv s.a), .int .u64 (nv s.b), .int .u64 (nv s.c), .int .u64 (nv s.d)]] w fun e w' => e = .returned (.agg #[.int .u8 (by8 (givesF s) 0), .int .u8 (by8 (givesF s) 1), .int .u8 (by8 (givesF s) 2), .int .u8 (by8 (givesF s) 3), .int .u8 (by8 (givesF s) 4), .int .u8 (by8 (givesF s) 5), .int .u8 (by8 (givesF s) 6), .int .u8 (by8 (givesF s) 7)]) ∧ Below w.heap.size w w' := by
  go_enter Try.func93, Try.ntmps93
  go_wp2_with (go_at_call 111; refine (refFromNum_any _ _).mono ?_; rintro e w1 ⟨rfl, hb1⟩; obtain ⟨g1, d1, rfl⟩ := plus_of_below hb1; clear hb1)
  refine bodyPost_ret (v := .agg #[.int .u8 (by8 (givesF s) 0), .int .u8 (by8 (givesF s) 1), .int .u8 (by8 (givesF s) 2), .int .u8 (by8 (givesF s) 3), .int .u8 (by8 (givesF s) 4), .int .u8 (by8 (givesF s) 5), .int .u8 (by8 (givesF s) 6), .int .u8 (by8 (givesF s) 7)]) (by simp [results, Try.results93, go_sem, givesF]) rfl ⟨rfl, by (repeat' (first | (with_reducible exact Below.refl _ _) | (with_reducible refine bplus ?_ _ _) | (with_reducible refine balloc ?_ _) | (with_reducible refine Below.drew ?_) | (with_reducible refine bdrewN ?_ _) | (with_reducible refine Below.setCell ?_ (by go_size) _)))⟩

theorem refFromNum_lit (x : BitVec 64) (n : Int) (hn : nv x = n) (w : World) :
    Calls Try.prog 111 #[.int .u64 n] w fun e w' => e = .returned (.agg #[.int .u8 (by8 x 0), .int .u8 (by8 x 1), .int .u8 (by8 x 2), .int .u8 (by8 x 3), .int .u8 (by8 x 4), .int .u8 (by8 x 5), .int .u8 (by8 x 6), .int .u8 (by8 x 7)]) ∧ Below w.heap.size w w' := by
  subst hn; exact refFromNum_any x w

end Go.Proofs.Ytghaiplhakeahaa
