/- The law ChanceSame: its walk. -/
import Derived.Test.YtmfogedagepcgaaSame18
namespace Go.Proofs.Ytmfogedagepcgaa
set_option linter.unusedSimpArgs false
set_option linter.unusedVariables false
open Go.RowKit

set_option maxRecDepth 100000 in
set_option maxHeartbeats 4000000 in
theorem chanceSame_any (s o : BitVec 64) (q p m : Nat) (w : World) (hq : q ≤ 255) (hp : p ≤ 255) (hm : m ≤ 255) :
    Calls Try.prog 18 #[.agg #[.int .u8 (by8 s 0), .int .u8 (by8 s 1), .int .u8 (by8 s 2), .int .u8 (by8 s 3), .int .u8 (by8 s 4), .int .u8 (by8 s 5), .int .u8 (by8 s 6), .int .u8 (by8 s 7)], .agg #[.int .u8 (by8 o 0), .int .u8 (by8 o 1), .int .u8 (by8 o 2), .int .u8 (by8 o 3), .int .u8 (by8 o 4), .int .u8 (by8 o 5), .int .u8 (by8 o 6), .int .u8 (by8 o 7)], .int .u8 q, .int .u8 p, .int .u8 m] w fun e w' => e = .returned (.bool true) ∧ Below w.heap.size w w' := by
  obtain ⟨n, hn, n1, n2⟩ : ∃ n : Nat, 2 + (q : Int) % 30 = (n : Int) ∧ 2 ≤ n ∧ n ≤ 31 := ⟨2 + q % 30, by omega, by omega, by omega⟩
  obtain ⟨n', hn'⟩ : ∃ n', n' = n + 1 := ⟨_, rfl⟩
  obtain ⟨r, hr, hrn⟩ : ∃ r : Nat, (p : Int) % (n : Int) = (r : Int) ∧ r < n := ⟨p % n, rfl, Nat.mod_lt _ (by omega)⟩
  obtain ⟨u, hu, hu5⟩ : ∃ u : Nat, (m : Int) % 5 = (u : Int) ∧ u < 5 := ⟨m % 5, by omega, by omega⟩
  have n4 : n ≤ 4096 := by omega
  go_enter Try.func18, Try.ntmps18
  go_wp2_with fail
  refine (new_mem s n n rfl (by omega) n4 _ w _ (((Mem.start w).key #[.int .u8 (by8 s 0), .int .u8 (by8 s 1), .int .u8 (by8 s 2), .int .u8 (by8 s 3), .int .u8 (by8 s 4), .int .u8 (by8 s 5), .int .u8 (by8 s 6), .int .u8 (by8 s 7)] 43 w.heap.size rfl).key #[.int .u8 (by8 o 0), .int .u8 (by8 o 1), .int .u8 (by8 o 2), .int .u8 (by8 o 3), .int .u8 (by8 o 4), .int .u8 (by8 o 5), .int .u8 (by8 o 6), .int .u8 (by8 o 7)] 43 (w.heap.size + 1) (by simp))).mono ?_
  rintro e w1 ⟨b1, rfl, hb1, hM1⟩
  have hb1' : w.heap.size ≤ b1 := by simp at hb1; omega
  have M1 := Lib.hid hM1
  have c1 := hM1.cell (b := w.heap.size + 1) (t := 43) (cs := #[.int .u8 (by8 o 0), .int .u8 (by8 o 1), .int .u8 (by8 o 2), .int .u8 (by8 o 3), .int .u8 (by8 o 4), .int .u8 (by8 o 5), .int .u8 (by8 o 6), .int .u8 (by8 o 7)]) (by simp)
  have l1 : w.heap.size + 1 < w1.heap.size := hM1.lt (x := ⟨w.heap.size + 1, 43, #[.int .u8 (by8 o 0), .int .u8 (by8 o 1), .int .u8 (by8 o 2), .int .u8 (by8 o 3), .int .u8 (by8 o 4), .int .u8 (by8 o 5), .int .u8 (by8 o 6), .int .u8 (by8 o 7)]⟩) (by simp)
  clear hM1
  go_wp2_with fail
  refine (new_mem o n n rfl (by omega) n4 _ w _ M1.out).mono ?_
  rintro e w2 ⟨b2, rfl, hb2, hM2⟩
  have hb2' : w.heap.size ≤ b2 := by have := M1.out.size; omega
  have M2 := Lib.hid hM2
  have c2 := hM2.cell (b := w.heap.size) (t := 43) (cs := #[.int .u8 (by8 s 0), .int .u8 (by8 s 1), .int .u8 (by8 s 2), .int .u8 (by8 s 3), .int .u8 (by8 s 4), .int .u8 (by8 s 5), .int .u8 (by8 s 6), .int .u8 (by8 s 7)]) (by simp)
  have l2 : w.heap.size < w2.heap.size := hM2.lt (x := ⟨w.heap.size, 43, #[.int .u8 (by8 s 0), .int .u8 (by8 s 1), .int .u8 (by8 s 2), .int .u8 (by8 s 3), .int .u8 (by8 s 4), .int .u8 (by8 s 5), .int .u8 (by8 s 6), .int .u8 (by8 s 7)]⟩) (by simp)
  clear hM2
  go_wp2_with fail
  refine (new_mem s _ n' (by omega) (by omega) (by omega) _ w _ M2.out).mono ?_
  rintro e w3 ⟨b3, rfl, hb3, hM3⟩
  have hb3' : w.heap.size ≤ b3 := by have := M2.out.size; omega
  have M3 := Lib.hid hM3
  clear hM3
  go_wp2_with fail
  refine (known18_any _).mono ?_
  rintro e w4 ⟨rfl, hb4⟩; obtain ⟨g4, d4, rfl⟩ := plus_of_below hb4; clear hb4
  go_wp2
  simp only [hr]
  go_loopw [67] (fun i wr => ∃ (j k k' : Nat), i = .int .i64 j ∧ j ≤ r ∧ j + k = n ∧ j + k' = n' ∧ Mem wr w (⟨b3, 122, #[.int .u8 (by8 s 0), .int .u8 (by8 s 1), .int .u8 (by8 s 2), .int .u8 (by8 s 3), .int .u8 (by8 s 4), .int .u8 (by8 s 5), .int .u8 (by8 s 6), .int .u8 (by8 s 7), .int .i64 n', .int .i64 k']⟩ :: ⟨b2, 122, #[.int .u8 (by8 o 0), .int .u8 (by8 o 1), .int .u8 (by8 o 2), .int .u8 (by8 o 3), .int .u8 (by8 o 4), .int .u8 (by8 o 5), .int .u8 (by8 o 6), .int .u8 (by8 o 7), .int .i64 n, .int .i64 k]⟩ :: ⟨b1, 122, #[.int .u8 (by8 s 0), .int .u8 (by8 s 1), .int .u8 (by8 s 2), .int .u8 (by8 s 3), .int .u8 (by8 s 4), .int .u8 (by8 s 5), .int .u8 (by8 s 6), .int .u8 (by8 s 7), .int .i64 n, .int .i64 k]⟩ :: ⟨w.heap.size + 1, 43, #[.int .u8 (by8 o 0), .int .u8 (by8 o 1), .int .u8 (by8 o 2), .int .u8 (by8 o 3), .int .u8 (by8 o 4), .int .u8 (by8 o 5), .int .u8 (by8 o 6), .int .u8 (by8 o 7)]⟩ :: ⟨w.heap.size, 43, #[.int .u8 (by8 s 0), .int .u8 (by8 s 1), .int .u8 (by8 s 2), .int .u8 (by8 s 3), .int .u8 (by8 s 4), .int .u8 (by8 s 5), .int .u8 (by8 s 6), .int .u8 (by8 s 7)]⟩ :: [])) (fun i _ => r - (intOf i).toNat)
  case atStart => exact ⟨0, n, n', rfl, by omega, by omega, by omega, M3.out.plus _ _⟩
  case round =>
    obtain ⟨j, k, k', rfl, hjr, hjk, hjk', M⟩ := hrel
    have HM := Lib.hid M
    clear M
    by_cases hlt : j < r
    · obtain ⟨k, rfl⟩ : ∃ x, k = x + 1 := ⟨k - 1, by omega⟩
      obtain ⟨k', rfl⟩ : ∃ x, k' = x + 1 := ⟨k' - 1, by omega⟩
      obtain ⟨z1, HZ1⟩ : ∃ z, Hid (chainF s k = z) := ⟨_, rfl⟩
      obtain ⟨z2, HZ2⟩ : ∃ z, Hid (chainF o k = z) := ⟨_, rfl⟩
      obtain ⟨z3, HZ3⟩ : ∃ z, Hid (chainF s k' = z) := ⟨_, rfl⟩
      go_wp2_with fail
      refine (show_mem s b1 n k (by omega) z1 HZ1.out wr w [_, _] _ HM.out).mono ?_
      rintro e w5 ⟨rfl, hM5⟩
      have M5 := Lib.hid hM5
      clear hM5
      go_wp2_with fail
      refine (show_mem o b2 n k (by omega) z2 HZ2.out w5 w [_] _ M5.out).mono ?_
      rintro e w6 ⟨rfl, hM6⟩
      have M6 := Lib.hid hM6
      clear hM6
      go_wp2_with fail
      refine (show_mem s b3 n' k' (by omega) z3 HZ3.out w6 w [] _ M6.out).mono ?_
      rintro e w7 ⟨rfl, hM7⟩
      have M7 := Lib.hid hM7
      clear hM7
      go_wp2
      go_roundw
      case rel => exact ⟨j + 1, k, k', by go_num, by omega, by omega, by omega, M7.out⟩
      case measure => simp [intOf]; omega
    · obtain rfl : j = r := by omega
      have hb1 := Lib.hid (show HasBlk wr b1 122 #[.int .u8 (by8 s 0), .int .u8 (by8 s 1), .int .u8 (by8 s 2), .int .u8 (by8 s 3), .int .u8 (by8 s 4), .int .u8 (by8 s 5), .int .u8 (by8 s 6), .int .u8 (by8 s 7), .int .i64 n, .int .i64 k] from HM.out.has ⟨b1, 122, #[.int .u8 (by8 s 0), .int .u8 (by8 s 1), .int .u8 (by8 s 2), .int .u8 (by8 s 3), .int .u8 (by8 s 4), .int .u8 (by8 s 5), .int .u8 (by8 s 6), .int .u8 (by8 s 7), .int .i64 n, .int .i64 k]⟩ (by simp))
      have hb2 := Lib.hid (show HasBlk wr b2 122 #[.int .u8 (by8 o 0), .int .u8 (by8 o 1), .int .u8 (by8 o 2), .int .u8 (by8 o 3), .int .u8 (by8 o 4), .int .u8 (by8 o 5), .int .u8 (by8 o 6), .int .u8 (by8 o 7), .int .i64 n, .int .i64 k] from HM.out.has ⟨b2, 122, #[.int .u8 (by8 o 0), .int .u8 (by8 o 1), .int .u8 (by8 o 2), .int .u8 (by8 o 3), .int .u8 (by8 o 4), .int .u8 (by8 o 5), .int .u8 (by8 o 6), .int .u8 (by8 o 7), .int .i64 n, .int .i64 k]⟩ (by simp))
      have hb3 := Lib.hid (show HasBlk wr b3 122 #[.int .u8 (by8 s 0), .int .u8 (by8 s 1), .int .u8 (by8 s 2), .int .u8 (by8 s 3), .int .u8 (by8 s 4), .int .u8 (by8 s 5), .int .u8 (by8 s 6), .int .u8 (by8 s 7), .int .i64 n', .int .i64 k'] from HM.out.has ⟨b3, 122, #[.int .u8 (by8 s 0), .int .u8 (by8 s 1), .int .u8 (by8 s 2), .int .u8 (by8 s 3), .int .u8 (by8 s 4), .int .u8 (by8 s 5), .int .u8 (by8 s 6), .int .u8 (by8 s 7), .int .i64 n', .int .i64 k']⟩ (by simp))
      have c1 := HM.out.cell (b := w.heap.size + 1) (t := 43) (cs := #[.int .u8 (by8 o 0), .int .u8 (by8 o 1), .int .u8 (by8 o 2), .int .u8 (by8 o 3), .int .u8 (by8 o 4), .int .u8 (by8 o 5), .int .u8 (by8 o 6), .int .u8 (by8 o 7)]) (by simp)
      have l1 : w.heap.size + 1 < wr.heap.size := HM.out.lt (x := ⟨w.heap.size + 1, 43, #[.int .u8 (by8 o 0), .int .u8 (by8 o 1), .int .u8 (by8 o 2), .int .u8 (by8 o 3), .int .u8 (by8 o 4), .int .u8 (by8 o 5), .int .u8 (by8 o 6), .int .u8 (by8 o 7)]⟩) (by simp)
      have c2 := HM.out.cell (b := w.heap.size) (t := 43) (cs := #[.int .u8 (by8 s 0), .int .u8 (by8 s 1), .int .u8 (by8 s 2), .int .u8 (by8 s 3), .int .u8 (by8 s 4), .int .u8 (by8 s 5), .int .u8 (by8 s 6), .int .u8 (by8 s 7)]) (by simp)
      have l2 : w.heap.size < wr.heap.size := HM.out.lt (x := ⟨w.heap.size, 43, #[.int .u8 (by8 s 0), .int .u8 (by8 s 1), .int .u8 (by8 s 2), .int .u8 (by8 s 3), .int .u8 (by8 s 4), .int .u8 (by8 s 5), .int .u8 (by8 s 6), .int .u8 (by8 s 7)]⟩) (by simp)
      obtain ⟨q0, HQ0⟩ : ∃ q0 : Bool, Hid (decide (s = o ∧ n = n ∧ k = k) = q0) := ⟨_, rfl⟩
      have HQ1 : Hid (decide (s = s ∧ n = n' ∧ k = k') = false) := by show _ = _; simp; omega
      have HQ2 : Hid (decide (s = s ∧ n = n ∧ k = k) = true) := by show _ = _; simp
      have H5n : Hid (n ≤ 5000) := by show _ ≤ _; omega
      have H5k : Hid (k ≤ 5000) := by show _ ≤ _; omega
      have H5n' : Hid (n' ≤ 5000) := by show _ ≤ _; omega
      have H5k' : Hid (k' ≤ 5000) := by show _ ≤ _; omega
      have HQ3 : (s == o) = q0 := by rw [← HQ0.out, Bool.eq_iff_iff]; simp
      have T1 := Lib.hid (fun g d => same_to s o b1 b2 n k n k (plus wr g d) (hb1.out.plus _ _) (hb2.out.plus _ _) H5n.out H5k.out H5n.out H5k.out q0 HQ0.out)
      have T2 := Lib.hid (fun g d => same_to s s b1 b3 n k n' k' (plus wr g d) (hb1.out.plus _ _) (hb3.out.plus _ _) H5n.out H5k.out H5n'.out H5k'.out false HQ1.out)
      have T3 := Lib.hid (fun g d => same_to s s b1 b1 n k n k (plus wr g d) (hb1.out.plus _ _) (hb1.out.plus _ _) H5n.out H5k.out H5n.out H5k.out true HQ2.out)
      go_wp2
      refine wp_region_rq (by kernel_rfl) (by kernel_rfl) (by kernel_rfl) ?_
      repeat (first
        | (refine B_skip ?_ ?_; (· rfl); (try simp only [Act.put, List.setIfInBounds_toArray, List.set_cons_zero, List.set_cons_succ]))
        | (refine B_move rfl ?_ ?_; (· rfl); (try simp only [Act.eval, Act.put, Array.getD_eq_getD_getElem?, List.getElem?_toArray, List.getElem?_cons_succ, List.getElem?_cons_zero, Option.getD_some, List.setIfInBounds_toArray, List.set_cons_zero, List.set_cons_succ]))
        | (refine B_plain ?_ ?_; (· rfl); intro K hK; go_big_quiet_op; with_reducible refine hK _ ?_; clear hK K)
        | (refine B_callX (v := ?_) (f := 64) rfl (by kernel_rfl) ?_ (fun xq => ?_) ?_; rotate_left; (· rfl); (· ((simp only [List.map_toArray, List.map_cons, List.map_nil, Act.eval, Array.getD_eq_getD_getElem?, List.getElem?_toArray, List.getElem?_cons_succ, List.getElem?_cons_zero, Option.getD_some]); with_reducible apply retB; with_reducible exact (T1.out _ _))); (try simp only [Act.put, List.setIfInBounds_toArray, List.set_cons_zero, List.set_cons_succ]))
        | (refine B_callX (v := ?_) (f := 64) rfl (by kernel_rfl) ?_ (fun xq => ?_) ?_; rotate_left; (· rfl); (· ((simp only [List.map_toArray, List.map_cons, List.map_nil, Act.eval, Array.getD_eq_getD_getElem?, List.getElem?_toArray, List.getElem?_cons_succ, List.getElem?_cons_zero, Option.getD_some]); with_reducible apply retB; with_reducible exact (T2.out _ _))); (try simp only [Act.put, List.setIfInBounds_toArray, List.set_cons_zero, List.set_cons_succ]))
        | (refine B_callX (v := ?_) (f := 64) rfl (by kernel_rfl) ?_ (fun xq => ?_) ?_; rotate_left; (· rfl); (· ((simp only [List.map_toArray, List.map_cons, List.map_nil, Act.eval, Array.getD_eq_getD_getElem?, List.getElem?_toArray, List.getElem?_cons_succ, List.getElem?_cons_zero, Option.getD_some]); with_reducible apply retB; with_reducible exact (T3.out _ _))); (try simp only [Act.put, List.setIfInBounds_toArray, List.set_cons_zero, List.set_cons_succ]))
        | (refine B_callX (v := ?_) (f := 64) rfl (by kernel_rfl) ?_ (fun xq => ?_) ?_; rotate_left; (· rfl); (· ((simp only [List.map_toArray, List.map_cons, List.map_nil, Act.eval, Array.getD_eq_getD_getElem?, List.getElem?_toArray, List.getElem?_cons_succ, List.getElem?_cons_zero, Option.getD_some]); with_reducible apply retB; with_reducible exact (same_pn b1 _))); (try simp only [Act.put, List.setIfInBounds_toArray, List.set_cons_zero, List.set_cons_succ])))
      refine B_nil ?_ rfl ?_ ?_
      · kernel_rfl
      · rfl
      rintro _ ⟨⟨g8, d8⟩, rfl⟩
      simp only [fin, Act.put, List.setIfInBounds_toArray, List.set_cons_zero, List.set_cons_succ]
      go_wp2_with fail
      refine (clone_mem s b1 n k _ w [_, _] _ (HM.out.plus _ _)).mono ?_
      rintro e w9 ⟨b4, rfl, hb4, hM9⟩
      have M9 := Lib.hid hM9
      have hb4' : w.heap.size ≤ b4 := by have := HM.out.size; have := (bplus (Below.refl wr.heap.size wr) g8 d8).size; omega
      have d4 := Lib.hid (show HasBlk w9 b4 122 #[.int .u8 (by8 s 0), .int .u8 (by8 s 1), .int .u8 (by8 s 2), .int .u8 (by8 s 3), .int .u8 (by8 s 4), .int .u8 (by8 s 5), .int .u8 (by8 s 6), .int .u8 (by8 s 7), .int .i64 n, .int .i64 k] from hM9.has ⟨b4, 122, #[.int .u8 (by8 s 0), .int .u8 (by8 s 1), .int .u8 (by8 s 2), .int .u8 (by8 s 3), .int .u8 (by8 s 4), .int .u8 (by8 s 5), .int .u8 (by8 s 6), .int .u8 (by8 s 7), .int .i64 n, .int .i64 k]⟩ (by simp))
      have d1 := Lib.hid (show HasBlk w9 b1 122 #[.int .u8 (by8 s 0), .int .u8 (by8 s 1), .int .u8 (by8 s 2), .int .u8 (by8 s 3), .int .u8 (by8 s 4), .int .u8 (by8 s 5), .int .u8 (by8 s 6), .int .u8 (by8 s 7), .int .i64 n, .int .i64 k] from hM9.has ⟨b1, 122, #[.int .u8 (by8 s 0), .int .u8 (by8 s 1), .int .u8 (by8 s 2), .int .u8 (by8 s 3), .int .u8 (by8 s 4), .int .u8 (by8 s 5), .int .u8 (by8 s 6), .int .u8 (by8 s 7), .int .i64 n, .int .i64 k]⟩ (by simp))
      clear hM9
      go_wp2_with fail
      refine (same_to s s b4 b1 n k n k _ d4.out d1.out H5n.out H5k.out H5n.out H5k.out true (by simp)).mono ?_
      rintro e w10 ⟨rfl, hb10⟩; obtain ⟨g10, d10, rfl⟩ := plus_of_below hb10; clear hb10
      go_wp2
      simp only [hu]
      go_loopw [111] (fun i wr => ∃ (t : Nat), i = .int .i64 t ∧ t ≤ u ∧ Mem wr w (⟨b4, 122, #[.int .u8 (by8 s 0), .int .u8 (by8 s 1), .int .u8 (by8 s 2), .int .u8 (by8 s 3), .int .u8 (by8 s 4), .int .u8 (by8 s 5), .int .u8 (by8 s 6), .int .u8 (by8 s 7), .int .i64 n, .int .i64 (k - t : Nat)]⟩ :: ⟨b3, 122, #[.int .u8 (by8 s 0), .int .u8 (by8 s 1), .int .u8 (by8 s 2), .int .u8 (by8 s 3), .int .u8 (by8 s 4), .int .u8 (by8 s 5), .int .u8 (by8 s 6), .int .u8 (by8 s 7), .int .i64 n', .int .i64 k']⟩ :: ⟨b2, 122, #[.int .u8 (by8 o 0), .int .u8 (by8 o 1), .int .u8 (by8 o 2), .int .u8 (by8 o 3), .int .u8 (by8 o 4), .int .u8 (by8 o 5), .int .u8 (by8 o 6), .int .u8 (by8 o 7), .int .i64 n, .int .i64 k]⟩ :: ⟨b1, 122, #[.int .u8 (by8 s 0), .int .u8 (by8 s 1), .int .u8 (by8 s 2), .int .u8 (by8 s 3), .int .u8 (by8 s 4), .int .u8 (by8 s 5), .int .u8 (by8 s 6), .int .u8 (by8 s 7), .int .i64 n, .int .i64 k]⟩ :: ⟨w.heap.size + 1, 43, #[.int .u8 (by8 o 0), .int .u8 (by8 o 1), .int .u8 (by8 o 2), .int .u8 (by8 o 3), .int .u8 (by8 o 4), .int .u8 (by8 o 5), .int .u8 (by8 o 6), .int .u8 (by8 o 7)]⟩ :: ⟨w.heap.size, 43, #[.int .u8 (by8 s 0), .int .u8 (by8 s 1), .int .u8 (by8 s 2), .int .u8 (by8 s 3), .int .u8 (by8 s 4), .int .u8 (by8 s 5), .int .u8 (by8 s 6), .int .u8 (by8 s 7)]⟩ :: [])) (fun i _ => u - (intOf i).toNat)
      case atStart => exact ⟨0, rfl, by omega, M9.out.plus _ _⟩
      case round =>
        obtain ⟨t, rfl, htu, M⟩ := hrel
        have HM := Lib.hid M
        clear M
        by_cases hlt : t < u
        · go_wp2_with fail
          refine (show_any_mem s b4 n (k - t) (by omega) _ w [] _ HM.out).mono ?_
          rintro e w12 ⟨⟨v12, rfl⟩, hM12⟩
          have M12 := Lib.hid hM12
          clear hM12
          go_wp2
          go_roundw
          case rel => exact ⟨t + 1, by go_num, by omega, by rw [← Nat.sub_sub]; exact M12.out⟩
          case measure => simp [intOf]; omega
        · obtain rfl : t = u := by omega
          obtain ⟨k4, hk4⟩ : ∃ k4, k4 = k - t := ⟨_, rfl⟩
          rw [← hk4] at HM
          have HK4 : Hid (k4 ≤ 5000) := by show _ ≤ _; omega
          have x4 := Lib.hid (show HasBlk wr b4 122 #[.int .u8 (by8 s 0), .int .u8 (by8 s 1), .int .u8 (by8 s 2), .int .u8 (by8 s 3), .int .u8 (by8 s 4), .int .u8 (by8 s 5), .int .u8 (by8 s 6), .int .u8 (by8 s 7), .int .i64 n, .int .i64 k4] from HM.out.has ⟨b4, 122, #[.int .u8 (by8 s 0), .int .u8 (by8 s 1), .int .u8 (by8 s 2), .int .u8 (by8 s 3), .int .u8 (by8 s 4), .int .u8 (by8 s 5), .int .u8 (by8 s 6), .int .u8 (by8 s 7), .int .i64 n, .int .i64 k4]⟩ (by simp))
          have x1 := Lib.hid (show HasBlk wr b1 122 #[.int .u8 (by8 s 0), .int .u8 (by8 s 1), .int .u8 (by8 s 2), .int .u8 (by8 s 3), .int .u8 (by8 s 4), .int .u8 (by8 s 5), .int .u8 (by8 s 6), .int .u8 (by8 s 7), .int .i64 n, .int .i64 k] from HM.out.has ⟨b1, 122, #[.int .u8 (by8 s 0), .int .u8 (by8 s 1), .int .u8 (by8 s 2), .int .u8 (by8 s 3), .int .u8 (by8 s 4), .int .u8 (by8 s 5), .int .u8 (by8 s 6), .int .u8 (by8 s 7), .int .i64 n, .int .i64 k]⟩ (by simp))
          have c1 := HM.out.cell (b := w.heap.size + 1) (t := 43) (cs := #[.int .u8 (by8 o 0), .int .u8 (by8 o 1), .int .u8 (by8 o 2), .int .u8 (by8 o 3), .int .u8 (by8 o 4), .int .u8 (by8 o 5), .int .u8 (by8 o 6), .int .u8 (by8 o 7)]) (by simp)
          have l1 : w.heap.size + 1 < wr.heap.size := HM.out.lt (x := ⟨w.heap.size + 1, 43, #[.int .u8 (by8 o 0), .int .u8 (by8 o 1), .int .u8 (by8 o 2), .int .u8 (by8 o 3), .int .u8 (by8 o 4), .int .u8 (by8 o 5), .int .u8 (by8 o 6), .int .u8 (by8 o 7)]⟩) (by simp)
          have c2 := HM.out.cell (b := w.heap.size) (t := 43) (cs := #[.int .u8 (by8 s 0), .int .u8 (by8 s 1), .int .u8 (by8 s 2), .int .u8 (by8 s 3), .int .u8 (by8 s 4), .int .u8 (by8 s 5), .int .u8 (by8 s 6), .int .u8 (by8 s 7)]) (by simp)
          have l2 : w.heap.size < wr.heap.size := HM.out.lt (x := ⟨w.heap.size, 43, #[.int .u8 (by8 s 0), .int .u8 (by8 s 1), .int .u8 (by8 s 2), .int .u8 (by8 s 3), .int .u8 (by8 s 4), .int .u8 (by8 s 5), .int .u8 (by8 s 6), .int .u8 (by8 s 7)]⟩) (by simp)
          have HBW := Lib.hid (HM.out.below (by intro x hx; simp at hx; rcases hx with rfl | rfl | rfl | rfl | rfl | rfl <;> dsimp only <;> omega))
          obtain ⟨q4, HQ4⟩ : ∃ q4 : Bool, Hid (decide (s = s ∧ n = n ∧ k4 = k) = q4) := ⟨_, rfl⟩
          have HQ5 : ((k4 : Int) == (k : Int)) = q4 := by rw [← HQ4.out, Bool.eq_iff_iff]; simp; omega
          have T4 := Lib.hid (fun W h4 h1 => same_to s s b4 b1 n k4 n k W h4 h1 H5n.out HK4.out H5n.out H5k.out q4 HQ4.out)
          clear hk4
          have hkn : ((k : Int) == (n : Int) - (j : Int)) = true := by rw [beq_iff_eq]; omega
          go_wp2_with fail
          refine (show_nil _).mono ?_
          rintro e w11 ⟨rfl, hb11⟩; obtain ⟨g11, d11, rfl⟩ := plus_of_below hb11; clear hb11
          go_wp2_with fail
          refine (answer_nil o _).mono ?_
          rintro e w12 ⟨rfl, hb12⟩; obtain ⟨g12, d12, rfl⟩ := plus_of_below hb12; clear hb12
          go_wp2_with fail
          refine wp_opq (fun W => Mem W w (⟨b4, 122, #[.int .u8 (by8 s 0), .int .u8 (by8 s 1), .int .u8 (by8 s 2), .int .u8 (by8 s 3), .int .u8 (by8 s 4), .int .u8 (by8 s 5), .int .u8 (by8 s 6), .int .u8 (by8 s 7), .int .i64 n, .int .i64 k4]⟩ :: ⟨b3, 122, #[.int .u8 (by8 s 0), .int .u8 (by8 s 1), .int .u8 (by8 s 2), .int .u8 (by8 s 3), .int .u8 (by8 s 4), .int .u8 (by8 s 5), .int .u8 (by8 s 6), .int .u8 (by8 s 7), .int .i64 n', .int .i64 k']⟩ :: ⟨b2, 122, #[.int .u8 (by8 o 0), .int .u8 (by8 o 1), .int .u8 (by8 o 2), .int .u8 (by8 o 3), .int .u8 (by8 o 4), .int .u8 (by8 o 5), .int .u8 (by8 o 6), .int .u8 (by8 o 7), .int .i64 n, .int .i64 k]⟩ :: ⟨b1, 122, #[.int .u8 (by8 s 0), .int .u8 (by8 s 1), .int .u8 (by8 s 2), .int .u8 (by8 s 3), .int .u8 (by8 s 4), .int .u8 (by8 s 5), .int .u8 (by8 s 6), .int .u8 (by8 s 7), .int .i64 n, .int .i64 k]⟩ :: ⟨w.heap.size + 1, 43, #[.int .u8 (by8 o 0), .int .u8 (by8 o 1), .int .u8 (by8 o 2), .int .u8 (by8 o 3), .int .u8 (by8 o 4), .int .u8 (by8 o 5), .int .u8 (by8 o 6), .int .u8 (by8 o 7)]⟩ :: ⟨w.heap.size, 43, #[.int .u8 (by8 s 0), .int .u8 (by8 s 1), .int .u8 (by8 s 2), .int .u8 (by8 s 3), .int .u8 (by8 s 4), .int .u8 (by8 s 5), .int .u8 (by8 s 6), .int .u8 (by8 s 7)]⟩ :: [])) ((((HM.out.plus _ _).alloc _).plus _ _).alloc _) ?_
          intro W13 hM13
          have y4 := Lib.hid (show HasBlk W13 b4 122 #[.int .u8 (by8 s 0), .int .u8 (by8 s 1), .int .u8 (by8 s 2), .int .u8 (by8 s 3), .int .u8 (by8 s 4), .int .u8 (by8 s 5), .int .u8 (by8 s 6), .int .u8 (by8 s 7), .int .i64 n, .int .i64 k4] from hM13.has ⟨b4, 122, #[.int .u8 (by8 s 0), .int .u8 (by8 s 1), .int .u8 (by8 s 2), .int .u8 (by8 s 3), .int .u8 (by8 s 4), .int .u8 (by8 s 5), .int .u8 (by8 s 6), .int .u8 (by8 s 7), .int .i64 n, .int .i64 k4]⟩ (by simp))
          have y1 := Lib.hid (show HasBlk W13 b1 122 #[.int .u8 (by8 s 0), .int .u8 (by8 s 1), .int .u8 (by8 s 2), .int .u8 (by8 s 3), .int .u8 (by8 s 4), .int .u8 (by8 s 5), .int .u8 (by8 s 6), .int .u8 (by8 s 7), .int .i64 n, .int .i64 k] from hM13.has ⟨b1, 122, #[.int .u8 (by8 s 0), .int .u8 (by8 s 1), .int .u8 (by8 s 2), .int .u8 (by8 s 3), .int .u8 (by8 s 4), .int .u8 (by8 s 5), .int .u8 (by8 s 6), .int .u8 (by8 s 7), .int .i64 n, .int .i64 k]⟩ (by simp))
          have c3 := hM13.cell (b := w.heap.size) (t := 43) (cs := #[.int .u8 (by8 s 0), .int .u8 (by8 s 1), .int .u8 (by8 s 2), .int .u8 (by8 s 3), .int .u8 (by8 s 4), .int .u8 (by8 s 5), .int .u8 (by8 s 6), .int .u8 (by8 s 7)]) (by simp)
          have l3 : w.heap.size < W13.heap.size := hM13.lt (x := ⟨w.heap.size, 43, #[.int .u8 (by8 s 0), .int .u8 (by8 s 1), .int .u8 (by8 s 2), .int .u8 (by8 s 3), .int .u8 (by8 s 4), .int .u8 (by8 s 5), .int .u8 (by8 s 6), .int .u8 (by8 s 7)]⟩) (by simp)
          have HBX := Lib.hid (hM13.below (by intro x hx; simp at hx; rcases hx with rfl | rfl | rfl | rfl | rfl | rfl <;> dsimp only <;> omega))
          clear hM13
          refine wp_region_rq (by kernel_rfl) (by kernel_rfl) (by kernel_rfl) ?_
          repeat (first
            | (refine B_skip ?_ ?_; (· rfl); (try simp only [Act.put, List.setIfInBounds_toArray, List.set_cons_zero, List.set_cons_succ]))
            | (refine B_move rfl ?_ ?_; (· rfl); (try simp only [Act.eval, Act.put, Array.getD_eq_getD_getElem?, List.getElem?_toArray, List.getElem?_cons_succ, List.getElem?_cons_zero, Option.getD_some, List.setIfInBounds_toArray, List.set_cons_zero, List.set_cons_succ]))
            | (refine B_plain ?_ ?_; (· rfl); intro K hK; go_big_quiet_op; with_reducible refine hK _ ?_; clear hK K)
            | (refine B_callX (v := ?_) (f := 64) rfl (by kernel_rfl) ?_ (fun xq => ?_) ?_; rotate_left; (· rfl); (· ((simp only [List.map_toArray, List.map_cons, List.map_nil, Act.eval, Array.getD_eq_getD_getElem?, List.getElem?_toArray, List.getElem?_cons_succ, List.getElem?_cons_zero, Option.getD_some]); with_reducible apply retB; with_reducible exact (T4.out _ (y4.out.plus _ _) (y1.out.plus _ _)))); (try simp only [Act.put, List.setIfInBounds_toArray, List.set_cons_zero, List.set_cons_succ]))
            | (refine B_callX (v := ?_) (f := 63) rfl (by kernel_rfl) ?_ (fun xq => ?_) ?_; rotate_left; (· rfl); (· ((simp only [List.map_toArray, List.map_cons, List.map_nil, Act.eval, Array.getD_eq_getD_getElem?, List.getElem?_toArray, List.getElem?_cons_succ, List.getElem?_cons_zero, Option.getD_some]); with_reducible apply retB; with_reducible exact (left_b s b4 n k4 _ (y4.out.plus _ _)))); (try simp only [Act.put, List.setIfInBounds_toArray, List.set_cons_zero, List.set_cons_succ]))
            | (refine B_callX (v := ?_) (f := 63) rfl (by kernel_rfl) ?_ (fun xq => ?_) ?_; rotate_left; (· rfl); (· ((simp only [List.map_toArray, List.map_cons, List.map_nil, Act.eval, Array.getD_eq_getD_getElem?, List.getElem?_toArray, List.getElem?_cons_succ, List.getElem?_cons_zero, Option.getD_some]); with_reducible apply retB; with_reducible exact (left_b s b1 n k _ (y1.out.plus _ _)))); (try simp only [Act.put, List.setIfInBounds_toArray, List.set_cons_zero, List.set_cons_succ]))
            | (refine B_callX (v := ?_) (f := 63) rfl (by kernel_rfl) ?_ (fun xq => ?_) ?_; rotate_left; (· rfl); (· ((simp only [List.map_toArray, List.map_cons, List.map_nil, Act.eval, Array.getD_eq_getD_getElem?, List.getElem?_toArray, List.getElem?_cons_succ, List.getElem?_cons_zero, Option.getD_some]); with_reducible apply retB; with_reducible exact (left_nb _))); (try simp only [Act.put, List.setIfInBounds_toArray, List.set_cons_zero, List.set_cons_succ]))
            | (refine B_callX (v := ?_) (f := 60) rfl (by kernel_rfl) ?_ (fun xq => ?_) ?_; rotate_left; (· rfl); (· ((simp only [List.map_toArray, List.map_cons, List.map_nil, Act.eval, Array.getD_eq_getD_getElem?, List.getElem?_toArray, List.getElem?_cons_succ, List.getElem?_cons_zero, Option.getD_some]); with_reducible apply retB; with_reducible exact (tip_nz _))); (try simp only [Act.put, List.setIfInBounds_toArray, List.set_cons_zero, List.set_cons_succ]))
            | (refine B_callX (v := ?_) (f := 61) rfl (by kernel_rfl) ?_ (fun xq => ?_) ?_; rotate_left; (· rfl); (· ((simp only [List.map_toArray, List.map_cons, List.map_nil, Act.eval, Array.getD_eq_getD_getElem?, List.getElem?_toArray, List.getElem?_cons_succ, List.getElem?_cons_zero, Option.getD_some]); with_reducible apply retB; with_reducible exact (anchor_nz _))); (try simp only [Act.put, List.setIfInBounds_toArray, List.set_cons_zero, List.set_cons_succ]))
            | (refine B_callX (v := ?_) (f := 65) rfl (by kernel_rfl) ?_ (fun xq => ?_) ?_; rotate_left; (· rfl); (· ((simp only [List.map_toArray, List.map_cons, List.map_nil, Act.eval, Array.getD_eq_getD_getElem?, List.getElem?_toArray, List.getElem?_cons_succ, List.getElem?_cons_zero, Option.getD_some]); with_reducible apply retB; with_reducible exact (clone_nb _))); (try simp only [Act.put, List.setIfInBounds_toArray, List.set_cons_zero, List.set_cons_succ]))
            | (refine B_callX (v := ?_) (f := 64) rfl (by kernel_rfl) ?_ (fun xq => ?_) ?_; rotate_left; (· rfl); (· ((simp only [List.map_toArray, List.map_cons, List.map_nil, Act.eval, Array.getD_eq_getD_getElem?, List.getElem?_toArray, List.getElem?_cons_succ, List.getElem?_cons_zero, Option.getD_some]); with_reducible apply retB; with_reducible exact (same_nn _))); (try simp only [Act.put, List.setIfInBounds_toArray, List.set_cons_zero, List.set_cons_succ]))
            | (refine B_callX (v := ?_) (f := 64) rfl (by kernel_rfl) ?_ (fun xq => ?_) ?_; rotate_left; (· rfl); (· ((simp only [List.map_toArray, List.map_cons, List.map_nil, Act.eval, Array.getD_eq_getD_getElem?, List.getElem?_toArray, List.getElem?_cons_succ, List.getElem?_cons_zero, Option.getD_some]); with_reducible apply retB; with_reducible exact (same_np b1 _))); (try simp only [Act.put, List.setIfInBounds_toArray, List.set_cons_zero, List.set_cons_succ]))
            | (refine B_callX (v := ?_) (f := 31) rfl (by kernel_rfl) ?_ (fun xq => ?_) ?_; rotate_left; (· rfl); (· ((simp only [List.map_toArray, List.map_cons, List.map_nil, Act.eval, Array.getD_eq_getD_getElem?, List.getElem?_toArray, List.getElem?_cons_succ, List.getElem?_cons_zero, Option.getD_some]); with_reducible apply retB; with_reducible exact (refNum_any s _))); (try simp only [Act.put, List.setIfInBounds_toArray, List.set_cons_zero, List.set_cons_succ]))
            | (refine B_callX (v := ?_) (f := 29) rfl (by kernel_rfl) ?_ (fun xq => ?_) ?_; rotate_left; (· rfl); (· ((simp only [List.map_toArray, List.map_cons, List.map_nil, Act.eval, Array.getD_eq_getD_getElem?, List.getElem?_toArray, List.getElem?_cons_succ, List.getElem?_cons_zero, Option.getD_some]); with_reducible apply retB; with_reducible exact (num_any s _))); (try simp only [Act.put, List.setIfInBounds_toArray, List.set_cons_zero, List.set_cons_succ])))
          refine B_nil ?_ rfl ?_ ?_
          · kernel_rfl
          · rfl
          rintro _ ⟨⟨g13, d13⟩, rfl⟩
          simp only [fin, Act.put, List.setIfInBounds_toArray, List.set_cons_zero, List.set_cons_succ]
          go_wp2
          go_ret
          exact ⟨rfl, bplus HBX.out _ _⟩

end Go.Proofs.Ytmfogedagepcgaa
