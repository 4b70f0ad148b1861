/- Contracts of the small functions of package hash and of its reference, over any world. -/
import Derived.Test.YtghaiplhakeahaaRows
import Derived.Test.YtghaiplhakeahaaL
import Derived.Test.YtghaiplhakeahaaM
import Derived.Deep.QuietTactic
import Derived.BigQuiet
import Derived.Deep.RegionWith
import Derived.Deep.RegionHeld3
namespace Go.Proofs.Ytghaiplhakeahaa
set_option linter.unusedSimpArgs false
set_option linter.unusedVariables false
open Go.RowKit

theorem ret_u64 {a b : Int} (h : a = b) : Ending.returned (.int .u64 a) = .returned (.int .u64 b) := by rw [h]

set_option maxRecDepth 100000 in
set_option maxHeartbeats 1000000 in
theorem num_any (x : BitVec 64) (w : World) :
    Calls Try.prog 90 #[.agg #[.int .u8 (by8 x 0), .int .u8 (by8 x 1), .int .u8 (by8 x 2), .int .u8 (by8 x 3), .int .u8 (by8 x 4), .int .u8 (by8 x 5), .int .u8 (by8 x 6), .int .u8 (by8 x 7)]] w fun e w' => e = .returned (.int .u64 (nv x)) ∧ Below w.heap.size w w' := by
  have b0 := by8_bd x 0
  have b1 := by8_bd x 1
  have b2 := by8_bd x 2
  have b3 := by8_bd x 3
  have b4 := by8_bd x 4
  have b5 := by8_bd x 5
  have b6 := by8_bd x 6
  have b7 := by8_bd x 7
  go_enter Try.func90, Try.ntmps90
  go_wp2
  go_rounds 9
  go_ret
  exact ⟨ret_u64 (num_law x), by (repeat' (first | (with_reducible exact Below.refl _ _) | (with_reducible refine bplus ?_ _ _) | (with_reducible refine balloc ?_ _) | (with_reducible refine Below.drew ?_) | (with_reducible refine bdrewN ?_ _) | (with_reducible refine Below.setCell ?_ (by go_size) _)))⟩

set_option maxRecDepth 100000 in
set_option maxHeartbeats 1000000 in
theorem fromNum_any (x : BitVec 64) (w : World) :
    Calls Try.prog 110 #[.int .u64 (nv x)] w fun e w' => e = .returned (.agg #[.int .u8 (by8 x 0), .int .u8 (by8 x 1), .int .u8 (by8 x 2), .int .u8 (by8 x 3), .int .u8 (by8 x 4), .int .u8 (by8 x 5), .int .u8 (by8 x 6), .int .u8 (by8 x 7)]) ∧ Below w.heap.size w w' := by
  have hx := nv_bd x
  go_enter Try.func110, Try.ntmps110
  go_wp2
  go_rounds 9
  rw [← by8_0, ← by8_1, ← by8_2, ← by8_3, ← by8_4, ← by8_5, ← by8_6, ← by8_7]
  refine bodyPost_ret (v := .agg #[.int .u8 (by8 x 0), .int .u8 (by8 x 1), .int .u8 (by8 x 2), .int .u8 (by8 x 3), .int .u8 (by8 x 4), .int .u8 (by8 x 5), .int .u8 (by8 x 6), .int .u8 (by8 x 7)]) (by simp [results, Try.results110, go_sem]) rfl ⟨rfl, by (repeat' (first | (with_reducible exact Below.refl _ _) | (with_reducible refine bplus ?_ _ _) | (with_reducible refine balloc ?_ _) | (with_reducible refine Below.drew ?_) | (with_reducible refine bdrewN ?_ _) | (with_reducible refine Below.setCell ?_ (by go_size) _)))⟩

theorem fromNum_lit (x : BitVec 64) (n : Int) (hn : nv x = n) (w : World) :
    Calls Try.prog 110 #[.int .u64 n] w fun e w' => e = .returned (.agg #[.int .u8 (by8 x 0), .int .u8 (by8 x 1), .int .u8 (by8 x 2), .int .u8 (by8 x 3), .int .u8 (by8 x 4), .int .u8 (by8 x 5), .int .u8 (by8 x 6), .int .u8 (by8 x 7)]) ∧ Below w.heap.size w w' := by
  subst hn; exact fromNum_any x w

set_option maxRecDepth 100000 in
set_option maxHeartbeats 1000000 in
theorem begin_any (x : BitVec 64) (n : Int) (hn : nv x = n) (w : World) :
    Calls Try.prog 88 #[.int .u64 n] w fun e w' => e = .returned (.agg #[.int .u64 (nv ((beginF x)).a), .int .u64 (nv ((beginF x)).b), .int .u64 (nv ((beginF x)).c), .int .u64 (nv ((beginF x)).d)]) ∧ Below w.heap.size w w' := by
  subst hn
  go_enter Try.func88, Try.ntmps88
  go_wp2
  refine bodyPost_ret (v := .agg #[.int .u64 (nv ((beginF x)).a), .int .u64 (nv ((beginF x)).b), .int .u64 (nv ((beginF x)).c), .int .u64 (nv ((beginF x)).d)]) (by simp [results, Try.results88, go_sem, beginF, nv_ini0, nv_ini1, nv_ini2]) rfl ⟨rfl, by (repeat' (first | (with_reducible exact Below.refl _ _) | (with_reducible refine bplus ?_ _ _) | (with_reducible refine balloc ?_ _) | (with_reducible refine Below.drew ?_) | (with_reducible refine bdrewN ?_ _) | (with_reducible refine Below.setCell ?_ (by go_size) _)))⟩

theorem and_32 : bits .and .u64 32 63 = 32 := by decide
theorem and_24 : bits .and .u64 24 63 = 24 := by decide
theorem and_16 : bits .and .u64 16 63 = 16 := by decide
theorem and_63 : bits .and .u64 63 63 = 63 := by decide

set_option maxRecDepth 100000 in
set_option maxHeartbeats 1000000 in
theorem rot32_any (x : BitVec 64) (w : World) :
    Calls Try.prog 113 #[.int .u64 (nv x), .int .i64 32] w fun e w' => e = .returned (.int .u64 (nv (x.rotateLeft 32))) ∧ w = w' := by
  have hx := nv_bd x
  have hk := and_32
  go_enter Try.func113, Try.ntmps113
  go_wp2
  go_ret
  exact ⟨ret_u64 (rot_32 x), rfl⟩

set_option maxRecDepth 100000 in
set_option maxHeartbeats 1000000 in
theorem left32_any (x : BitVec 64) (w : World) :
    Calls Try.prog 114 #[.int .u64 (nv x), .int .u64 32] w fun e w' => e = .returned (.int .u64 (nv (x.rotateLeft 32))) ∧ w = w' := by
  have hx := nv_bd x
  go_enter Try.func114, Try.ntmps114
  go_wp2
  go_ret
  exact ⟨ret_u64 (rot_32 x), rfl⟩

set_option maxRecDepth 100000 in
set_option maxHeartbeats 1000000 in
theorem rot24_any (x : BitVec 64) (w : World) :
    Calls Try.prog 113 #[.int .u64 (nv x), .int .i64 24] w fun e w' => e = .returned (.int .u64 (nv (x.rotateLeft 24))) ∧ w = w' := by
  have hx := nv_bd x
  have hk := and_24
  go_enter Try.func113, Try.ntmps113
  go_wp2
  go_ret
  exact ⟨ret_u64 (rot_24 x), rfl⟩

set_option maxRecDepth 100000 in
set_option maxHeartbeats 1000000 in
theorem left24_any (x : BitVec 64) (w : World) :
    Calls Try.prog 114 #[.int .u64 (nv x), .int .u64 24] w fun e w' => e = .returned (.int .u64 (nv (x.rotateLeft 24))) ∧ w = w' := by
  have hx := nv_bd x
  go_enter Try.func114, Try.ntmps114
  go_wp2
  go_ret
  exact ⟨ret_u64 (rot_24 x), rfl⟩

set_option maxRecDepth 100000 in
set_option maxHeartbeats 1000000 in
theorem rot16_any (x : BitVec 64) (w : World) :
    Calls Try.prog 113 #[.int .u64 (nv x), .int .i64 16] w fun e w' => e = .returned (.int .u64 (nv (x.rotateLeft 16))) ∧ w = w' := by
  have hx := nv_bd x
  have hk := and_16
  go_enter Try.func113, Try.ntmps113
  go_wp2
  go_ret
  exact ⟨ret_u64 (rot_16 x), rfl⟩

set_option maxRecDepth 100000 in
set_option maxHeartbeats 1000000 in
theorem left16_any (x : BitVec 64) (w : World) :
    Calls Try.prog 114 #[.int .u64 (nv x), .int .u64 16] w fun e w' => e = .returned (.int .u64 (nv (x.rotateLeft 16))) ∧ w = w' := by
  have hx := nv_bd x
  go_enter Try.func114, Try.ntmps114
  go_wp2
  go_ret
  exact ⟨ret_u64 (rot_16 x), rfl⟩

set_option maxRecDepth 100000 in
set_option maxHeartbeats 1000000 in
theorem rot63_any (x : BitVec 64) (w : World) :
    Calls Try.prog 113 #[.int .u64 (nv x), .int .i64 63] w fun e w' => e = .returned (.int .u64 (nv (x.rotateLeft 63))) ∧ w = w' := by
  have hx := nv_bd x
  have hk := and_63
  go_enter Try.func113, Try.ntmps113
  go_wp2
  go_ret
  exact ⟨ret_u64 (rot_63 x), rfl⟩

set_option maxRecDepth 100000 in
set_option maxHeartbeats 1000000 in
theorem left63_any (x : BitVec 64) (w : World) :
    Calls Try.prog 114 #[.int .u64 (nv x), .int .u64 63] w fun e w' => e = .returned (.int .u64 (nv (x.rotateLeft 63))) ∧ w = w' := by
  have hx := nv_bd x
  go_enter Try.func114, Try.ntmps114
  go_wp2
  go_ret
  exact ⟨ret_u64 (rot_63 x), rfl⟩

set_option maxRecDepth 100000 in
set_option maxHeartbeats 1000000 in
theorem stir_any (s : St) (b o : Nat) (w : World)
    (h0 : w.cell? ⟨b, o, none⟩ = some (.int .u64 (nv s.a))) (h1 : w.cell? ⟨b, o + 1, none⟩ = some (.int .u64 (nv s.b)))
    (h2 : w.cell? ⟨b, o + 2, none⟩ = some (.int .u64 (nv s.c))) (h3 : w.cell? ⟨b, o + 3, none⟩ = some (.int .u64 (nv s.d)))
    (f0 : w.frozen? ⟨b, o, none⟩ = false) (f1 : w.frozen? ⟨b, o + 1, none⟩ = false) (f2 : w.frozen? ⟨b, o + 2, none⟩ = false) (f3 : w.frozen? ⟨b, o + 3, none⟩ = false) :
    Calls Try.prog 107 #[.pointer (some ⟨b, o, none⟩)] w fun e w' => e = .returned (.tuple #[]) ∧
      ∃ n, w' = (putSt w b o (stirF s)).drewN n := by
  go_enter Try.func107, Try.ntmps107
  go_wp2
  go_quiet (fail)
  go_wp2
  go_loop [2, 3, 4, 5, 23] (fun a b c d i => ∃ k : Nat, k ≤ 6 ∧ i = .int .u64 k ∧ a = .int .u64 (nv (stirN k s).a) ∧ b = .int .u64 (nv (stirN k s).b) ∧ c = .int .u64 (nv (stirN k s).c) ∧ d = .int .u64 (nv (stirN k s).d))
    (fun _ _ _ _ i => 6 - (intOf i).toNat)
  case atStart => exact ⟨0, by omega, rfl, rfl, rfl, rfl, rfl⟩
  case round =>
    obtain ⟨k, hk, rfl, rfl, rfl, rfl, rfl⟩ := hrel
    have HN : Hid (stirN (k + 1) s = mixR (BitVec.ofNat 64 (k + 1)) (stirN k s)) := rfl
    by_cases hlt : k < 6
    · have hxk := bits_xor_k k hlt
      generalize stirN k s = t at HN
      go_wp2_with (first | (go_at_call 113; with_reducible refine (rot32_any _ _).mono ?_; rintro e w' ⟨rfl, rfl⟩) | (go_at_call 113; with_reducible refine (rot24_any _ _).mono ?_; rintro e w' ⟨rfl, rfl⟩) | (go_at_call 113; with_reducible refine (rot16_any _ _).mono ?_; rintro e w' ⟨rfl, rfl⟩) | (go_at_call 113; with_reducible refine (rot63_any _ _).mono ?_; rintro e w' ⟨rfl, rfl⟩))
      go_round
      case rel => exact ⟨k + 1, by omega, by go_num, by rw [HN.out]; rfl, by rw [HN.out]; rfl, by rw [HN.out]; rfl, by rw [HN.out]; rfl⟩
      case measure => simp [intOf]; omega
    · obtain rfl : k = 6 := by omega
      clear HN hlt hk
      go_wp2
      go_end0
      exact ⟨rfl, nq, rfl⟩

theorem putSt_over (w : World) (b o : Nat) (u : Value) (s : St) : putSt (w.setCell ⟨b, o, none⟩ u) b o s = putSt w b o s := by
  unfold putSt; rw [setCell_setCell]

set_option maxRecDepth 100000 in
set_option maxHeartbeats 1000000 in
theorem take_any (s : St) (x : BitVec 64) (b o : Nat) (w : World)
    (h0 : w.cell? ⟨b, o, none⟩ = some (.int .u64 (nv s.a))) (h1 : w.cell? ⟨b, o + 1, none⟩ = some (.int .u64 (nv s.b)))
    (h2 : w.cell? ⟨b, o + 2, none⟩ = some (.int .u64 (nv s.c))) (h3 : w.cell? ⟨b, o + 3, none⟩ = some (.int .u64 (nv s.d)))
    (f0 : w.frozen? ⟨b, o, none⟩ = false) (f1 : w.frozen? ⟨b, o + 1, none⟩ = false) (f2 : w.frozen? ⟨b, o + 2, none⟩ = false) (f3 : w.frozen? ⟨b, o + 3, none⟩ = false) :
    Calls Try.prog 89 #[.pointer (some ⟨b, o, none⟩), .int .u64 (nv x)] w fun e w' => e = .returned (.tuple #[]) ∧
      ∃ n, w' = (putSt w b o (takeF s x)).drewN n := by
  go_enter Try.func89, Try.ntmps89
  go_wp2
  go_region
  go_wp2_with (go_at_call 107; refine (stir_any { s with a := s.a ^^^ x } b o _ (by go_simp) (by go_simp) (by go_simp) (by go_simp) (by go_simp) (by go_simp) (by go_simp) (by go_simp)).mono ?_; rintro e w1 ⟨rfl, n1, rfl⟩)
  go_end0
  exact ⟨rfl, n1 + 1, by rw [show takeF s x = stirF { s with a := s.a ^^^ x } from rfl, ← putSt_over w b o (.int .u64 (nv (s.a ^^^ x)))]; simp [putSt, go_sem, Nat.add_comm]⟩

set_option maxRecDepth 100000 in
set_option maxHeartbeats 1000000 in
theorem gives_any (s : St) (b o : Nat) (w : World) (hlt : b < w.heap.size)
    (h0 : w.cell? ⟨b, o, none⟩ = some (.int .u64 (nv s.a))) 
    (h2 : w.cell? ⟨b, o + 2, none⟩ = some (.int .u64 (nv s.c)))  :
    Calls Try.prog 92 #[.pointer (some ⟨b, o, none⟩)] w fun e w' => e = .returned (.agg #[.int .u8 (by8 (givesF s) 0), .int .u8 (by8 (givesF s) 1), .int .u8 (by8 (givesF s) 2), .int .u8 (by8 (givesF s) 3), .int .u8 (by8 (givesF s) 4), .int .u8 (by8 (givesF s) 5), .int .u8 (by8 (givesF s) 6), .int .u8 (by8 (givesF s) 7)]) ∧ Below w.heap.size w w' := by
  go_enter Try.func92, Try.ntmps92
  go_wp2
  go_region_with (go_at_call 110; refine (fromNum_any _ _).mono ?_; rintro e w1 ⟨rfl, hb1⟩; obtain ⟨g1, d1, rfl⟩ := plus_of_below hb1; clear hb1)
  all_goals
    go_wp2
    refine bodyPost_ret (v := .agg #[.int .u8 (by8 (givesF s) 0), .int .u8 (by8 (givesF s) 1), .int .u8 (by8 (givesF s) 2), .int .u8 (by8 (givesF s) 3), .int .u8 (by8 (givesF s) 4), .int .u8 (by8 (givesF s) 5), .int .u8 (by8 (givesF s) 6), .int .u8 (by8 (givesF s) 7)]) (by simp [results, Try.results92, go_sem, givesF]) rfl ⟨rfl, by (repeat' (first | (with_reducible exact Below.refl _ _) | (with_reducible refine bplus ?_ _ _) | (with_reducible refine balloc ?_ _) | (with_reducible refine Below.drew ?_) | (with_reducible refine bdrewN ?_ _) | (with_reducible refine Below.setCell ?_ (by go_size) _)))⟩

end Go.Proofs.Ytghaiplhakeahaa
