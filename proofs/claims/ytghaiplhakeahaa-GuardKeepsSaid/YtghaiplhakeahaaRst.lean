/- Contract of the reference's Stream. -/
import Derived.Test.YtghaiplhakeahaaRb
import Derived.Test.YtghaiplhakeahaaBq
import Derived.Test.YtghaiplhakeahaaMem
import Derived.Test.YtghaiplhakeahaaStream
import Derived.Outline
namespace Go.Proofs.Ytghaiplhakeahaa
set_option linter.unusedSimpArgs false
set_option linter.unusedVariables false
open Go.RowKit

set_option maxRecDepth 100000 in
set_option maxHeartbeats 1000000 in
theorem refStream_none (x : BitVec 64) (n : Int) (hn : n < 1 ∨ 1048576 < n) (w : World) :
    Calls Try.prog 106 #[.agg #[.int .u8 (by8 x 0), .int .u8 (by8 x 1), .int .u8 (by8 x 2), .int .u8 (by8 x 3), .int .u8 (by8 x 4), .int .u8 (by8 x 5), .int .u8 (by8 x 6), .int .u8 (by8 x 7)], .int .i64 n] w fun e w' => e = .returned (.slice none 0 0) ∧ Below w.heap.size w w' := by
  rcases hn with hn | hn
  · go_enter Try.func106, Try.ntmps106
    go_wp2
    go_ret
    exact ⟨rfl, by (repeat' (first | (with_reducible exact Below.refl _ _) | (with_reducible refine bplus ?_ _ _) | (with_reducible refine balloc ?_ _) | (with_reducible refine Below.drew ?_) | (with_reducible refine bdrewN ?_ _) | (with_reducible refine Below.setCell ?_ (by go_size) _)))⟩
  · have h1 : ¬ n < 1 := by omega
    go_enter Try.func106, Try.ntmps106
    go_wp2
    go_ret
    exact ⟨rfl, by (repeat' (first | (with_reducible exact Below.refl _ _) | (with_reducible refine bplus ?_ _ _) | (with_reducible refine balloc ?_ _) | (with_reducible refine Below.drew ?_) | (with_reducible refine bdrewN ?_ _) | (with_reducible refine Below.setCell ?_ (by go_size) _)))⟩

theorem refBegin_int' (n : Nat) (k : Int) (hk : k = n) (z : St) (hn : n < 18446744073709551616) (hz : beginF (BitVec.ofNat 64 n) = z) (w : World) :
    Calls Try.prog 96 #[.int .u64 k] w fun e w' => e = .returned (.agg #[.int .u64 (nv z.a), .int .u64 (nv z.b), .int .u64 (nv z.c), .int .u64 (nv z.d)]) ∧ Below w.heap.size w w' := by
  subst hk; exact refBegin_to n z hn hz w
theorem dgc_at2 (x : BitVec 64) (j : Nat) (hj : j < 8) : (#[.int .u8 (by8 x 0), .int .u8 (by8 x 1), .int .u8 (by8 x 2), .int .u8 (by8 x 3), .int .u8 (by8 x 4), .int .u8 (by8 x 5), .int .u8 (by8 x 6), .int .u8 (by8 x 7)] : Array Value)[j]? = some (.int .u8 (by8 x j)) := by
  match j, hj with
  | 0, _ | 1, _ | 2, _ | 3, _ | 4, _ | 5, _ | 6, _ | 7, _ => rfl
theorem bcs_stream (x : BitVec 64) (k j : Nat) (hj : j < 8) : bcs (streamB x (8 * k + j)) ++ [.int .u8 (by8 (givesF (streamS x k)) j)] = bcs (streamB x (8 * k + j + 1)) := by
  rw [streamB_succ, bcs_app]
  congr 1
  simp only [bcs, List.map_cons, List.map_nil]
  rw [streamAt_nat, show (8 * k + j) / 8 = k by omega, show (8 * k + j) % 8 = j by omega]

theorem refStir_to (s z : St) (hz : stirF s = z) (w : World) :
    Calls Try.prog 112 #[.agg #[.int .u64 (nv s.a), .int .u64 (nv s.b), .int .u64 (nv s.c), .int .u64 (nv s.d)]] w fun e w' => e = .returned (.agg #[.int .u64 (nv z.a), .int .u64 (nv z.b), .int .u64 (nv z.c), .int .u64 (nv z.d)]) ∧ Below w.heap.size w w' := by
  subst hz; exact refStir_any s w

set_option maxRecDepth 100000 in
set_option maxHeartbeats 4000000 in
theorem refStream_some (x : BitVec 64) (n : Nat) (h1 : 1 ≤ n) (h2 : n ≤ 1048576) (w : World) :
    Calls Try.prog 106 #[.agg #[.int .u8 (by8 x 0), .int .u8 (by8 x 1), .int .u8 (by8 x 2), .int .u8 (by8 x 3), .int .u8 (by8 x 4), .int .u8 (by8 x 5), .int .u8 (by8 x 6), .int .u8 (by8 x 7)], .int .i64 n] w fun e w' => ∃ v, e = .returned v ∧ Below w.heap.size w w' ∧ BSl w' v (streamB x n) := by
  obtain ⟨s0, HS0⟩ : ∃ s0, Hid (beginF (BitVec.ofNat 64 6) = s0) := ⟨_, rfl⟩
  obtain ⟨u, HU⟩ : ∃ u, Hid (takeF s0 x = u) := ⟨_, rfl⟩
  have HU0 : Hid (streamS x 0 = u) := by show takeF (beginF 6#64) x = _; rw [← HU.out, ← HS0.out]
  have H66 : Hid ((6 : Int) = ((6 : Nat) : Int)) := rfl
  have l6 : 6 < 18446744073709551616 := by omega
  go_enter Try.func106, Try.ntmps106
  go_wp2
  refine wp_region_rt 5 1 (by kernel_rfl) (by kernel_rfl) (by kernel_rfl) (by kernel_rfl) ?_
  simp only [List.take_succ_cons, List.take_zero]
  repeat (first
    | (refine B_skip ?_ ?_; (· rfl); (try simp only [Act.put, List.setIfInBounds_toArray, List.set_cons_zero, List.set_cons_succ]))
    | (refine B_move rfl ?_ ?_; (· rfl); (try simp only [Act.eval, Act.put, Array.getD_eq_getD_getElem?, List.getElem?_toArray, List.getElem?_cons_succ, List.getElem?_cons_zero, Option.getD_some, List.setIfInBounds_toArray, List.set_cons_zero, List.set_cons_succ]))
    | (refine B_plain ?_ ?_; (· rfl); intro K hK; go_big_quiet_op; with_reducible refine hK _ ?_; clear hK K)
    | (refine B_callX (v := ?_) (f := 96) rfl (by kernel_rfl) ?_ (fun xq => ?_) ?_; rotate_left; (· rfl); (· ((simp only [List.map_toArray, List.map_cons, List.map_nil, Act.eval, Array.getD_eq_getD_getElem?, List.getElem?_toArray, List.getElem?_cons_succ, List.getElem?_cons_zero, Option.getD_some]); with_reducible apply retB; with_reducible exact (refBegin_int' 6 6 H66.out s0 l6 HS0.out _))); (try simp only [Act.put, List.setIfInBounds_toArray, List.set_cons_zero, List.set_cons_succ]))
    | (refine B_callX (v := ?_) (f := 97) rfl (by kernel_rfl) ?_ (fun xq => ?_) ?_; rotate_left; (· rfl); (· ((simp only [List.map_toArray, List.map_cons, List.map_nil, Act.eval, Array.getD_eq_getD_getElem?, List.getElem?_toArray, List.getElem?_cons_succ, List.getElem?_cons_zero, Option.getD_some]); with_reducible apply retB; with_reducible exact (refNum_any x _))); (try simp only [Act.put, List.setIfInBounds_toArray, List.set_cons_zero, List.set_cons_succ]))
    | (refine B_callX (v := ?_) (f := 95) rfl (by kernel_rfl) ?_ (fun xq => ?_) ?_; rotate_left; (· rfl); (· ((simp only [List.map_toArray, List.map_cons, List.map_nil, Act.eval, Array.getD_eq_getD_getElem?, List.getElem?_toArray, List.getElem?_cons_succ, List.getElem?_cons_zero, Option.getD_some]); with_reducible apply retB; with_reducible exact (refIn_st s0 u x HU.out _))); (try simp only [Act.put, List.setIfInBounds_toArray, List.set_cons_zero, List.set_cons_succ]))
    | (refine B_new (t := 165) (z := .agg #[.int .u64 0, .int .u64 0, .int .u64 0, .int .u64 0]) rfl rfl (by kernel_rfl) ?_ ?_; (· rfl)))
  refine B_nil ?_ rfl ?_ ?_
  · kernel_rfl
  · rfl
  rintro _ ⟨⟨g1, d1⟩, rfl⟩
  simp only [fin, Act.put, List.setIfInBounds_toArray, List.set_cons_zero, List.set_cons_succ]
  rintro _ ⟨b, rfl, hb, hh⟩
  have hb' : w.heap.size ≤ b := by simp at hb; omega
  have M0 := (((Mem.start w).key #[.int .u8 (by8 x 0), .int .u8 (by8 x 1), .int .u8 (by8 x 2), .int .u8 (by8 x 3), .int .u8 (by8 x 4), .int .u8 (by8 x 5), .int .u8 (by8 x 6), .int .u8 (by8 x 7)] 22 w.heap.size rfl).key #[] 5 (w.heap.size + 1) (by simp)).found ⟨⟨g1, d1⟩, rfl⟩ (by simpa using hb) hh
  generalize plus ((w.alloc (.cells #[.int .u8 (by8 x 0), .int .u8 (by8 x 1), .int .u8 (by8 x 2), .int .u8 (by8 x 3), .int .u8 (by8 x 4), .int .u8 (by8 x 5), .int .u8 (by8 x 6), .int .u8 (by8 x 7)] 22)).alloc (.cells #[] 5)) g1 d1 = w1 at *
  clear hh
  have cb := M0.cell (b := b) (List.mem_cons_self ..)
  have fb := M0.frozen (b := b) (List.mem_cons_self ..)
  refine last_one (k := 5) (by kernel_rfl) (by kernel_rfl) (by rfl) ?_ ?_
  · rfl
  intro K hK
  go_simp
  refine hK _ _ ?_
  clear hK K
  have M1 := ((((M0.set (B := []) 0 (.int .u64 (nv u.a))).set (B := []) 1 (.int .u64 (nv u.b))).set (B := []) 2 (.int .u64 (nv u.c))).set (B := []) 3 (.int .u64 (nv u.d)))
  have M2 := (show Mem _ w (⟨b, 165, #[.int .u64 (nv u.a), .int .u64 (nv u.b), .int .u64 (nv u.c), .int .u64 (nv u.d)]⟩ :: ([⟨w.heap.size + 1, 5, #[]⟩] ++ [⟨w.heap.size, 22, #[.int .u8 (by8 x 0), .int .u8 (by8 x 1), .int .u8 (by8 x 2), .int .u8 (by8 x 3), .int .u8 (by8 x 4), .int .u8 (by8 x 5), .int .u8 (by8 x 6), .int .u8 (by8 x 7)]⟩])) from M1).swap
  clear M0 M1 cb fb
  revert M2
  generalize ((((w1.setCell ⟨b, 0, none⟩ (.int .u64 (nv u.a))).setCell ⟨b, 1, none⟩ (.int .u64 (nv u.b))).setCell ⟨b, 2, none⟩ (.int .u64 (nv u.c))).setCell ⟨b, 3, none⟩ (.int .u64 (nv u.d))) = w2
  intro M2
  go_wp2
  go_loopw [5] (fun v wr => ∃ (k m cap : Nat) (ao : Option Addr) (B : List Blk), v = .slice ao m cap ∧ m ≤ n ∧ (m < n → m = 8 * k) ∧ Row 5 1 (.slice ao m cap) m (bcs (streamB x m)) B ∧ New w B ∧ Mem wr w (B ++ [⟨b, 165, #[.int .u64 (nv ((streamS x k)).a), .int .u64 (nv ((streamS x k)).b), .int .u64 (nv ((streamS x k)).c), .int .u64 (nv ((streamS x k)).d)]⟩, ⟨w.heap.size, 22, #[.int .u8 (by8 x 0), .int .u8 (by8 x 1), .int .u8 (by8 x 2), .int .u8 (by8 x 3), .int .u8 (by8 x 4), .int .u8 (by8 x 5), .int .u8 (by8 x 6), .int .u8 (by8 x 7)]⟩])) (fun v _ => n - sliceLen v)
  case atStart => exact ⟨0, 0, 0, _, _, rfl, by omega, by omega, Row.empty _ _ _, New.cons (by simp) (New.nil _), by rw [HU0.out]; exact M2⟩
  case round =>
    obtain ⟨k, m, cap, ao, B, rfl, hm, hmk, R, hB, M⟩ := hrel
    by_cases hlt : m < n
    · obtain rfl := hmk hlt
      obtain ⟨s, HE⟩ : ∃ s, Hid (streamS x k = s) := ⟨_, rfl⟩
      obtain ⟨z, HZ⟩ : ∃ z, Hid (givesF s = z) := ⟨_, rfl⟩
      rw [HE.out] at M
      have cb := M.cell0
      have fb := M.frozen0
      have lb := M.lt0
      go_wp2_with (go_at_call 93; refine (refOut_to s z HZ.out _).mono ?_; rintro e w2 ⟨rfl, hb2⟩; obtain ⟨g2, d2, rfl⟩ := plus_of_below hb2; clear hb2)
      have M3 := ((M.plus g2 d2).key #[.int .u8 (by8 z 0), .int .u8 (by8 z 1), .int .u8 (by8 z 2), .int .u8 (by8 z 3), .int .u8 (by8 z 4), .int .u8 (by8 z 5), .int .u8 (by8 z 6), .int .u8 (by8 z 7)] 22 (wr.heap.size + g2.size) (by simp)).swap
      have HW := Lib.hid M.size
      obtain ⟨wo, rfl⟩ : ∃ wo : World, wo = wr := ⟨_, rfl⟩
      clear cb fb M
      go_loopw [5, 8] (fun v jv wr => ∃ (j cap : Nat) (ao : Option Addr) (B : List Blk), v = .slice ao (8 * k + j) cap ∧ jv = .int .i64 j ∧ j ≤ 8 ∧ 8 * k + j ≤ n ∧ Row 5 1 (.slice ao (8 * k + j) cap) (8 * k + j) (bcs (streamB x (8 * k + j))) B ∧ New w B ∧ Mem wr w (B ++ [⟨wo.heap.size + g2.size, 22, #[.int .u8 (by8 z 0), .int .u8 (by8 z 1), .int .u8 (by8 z 2), .int .u8 (by8 z 3), .int .u8 (by8 z 4), .int .u8 (by8 z 5), .int .u8 (by8 z 6), .int .u8 (by8 z 7)]⟩, ⟨b, 165, #[.int .u64 (nv s.a), .int .u64 (nv s.b), .int .u64 (nv s.c), .int .u64 (nv s.d)]⟩, ⟨w.heap.size, 22, #[.int .u8 (by8 x 0), .int .u8 (by8 x 1), .int .u8 (by8 x 2), .int .u8 (by8 x 3), .int .u8 (by8 x 4), .int .u8 (by8 x 5), .int .u8 (by8 x 6), .int .u8 (by8 x 7)]⟩])) (fun _ jv _ => 8 - (intOf jv).toNat)
      case atStart => exact ⟨0, cap, ao, B, rfl, rfl, by omega, by omega, R, hB, M3⟩
      case round =>
        clear R M3 hB
        obtain ⟨j, cap, ao, B, rfl, rfl, hj, hjn, R, hB, M⟩ := hrel
        by_cases hc : j < 8 ∧ 8 * k + j < n
        · obtain ⟨hj8, hn⟩ := hc
          have hn' : 8 * (k : Int) + j < n := by omega
          have cj : wr.cell? ⟨wo.heap.size + g2.size, j, none⟩ = some (.int .u8 (by8 z j)) := by rw [M.cell0]; exact dgc_at2 z j hj8
          have HS : Hid (bcs (streamB x (8 * k + j)) ++ [.int .u8 (by8 z j)] = bcs (streamB x (8 * k + j + 1))) := by rw [← HZ.out, ← HE.out]; exact bcs_stream x k j hj8
          have HM := Lib.hid M
          have HR := Lib.hid R
          clear M R
          go_wp2_with (at_builtin; refine wpList_append_new rfl (.tmp 36) (.tmp 40) 26 rfl elt_u8 HM.out hB _ _ _ (by rfl) HR.out _ _ _ _ _ (by rfl) rfl (by simp) (by simp [Value.oneCell']) ?c1 ?c2 (8 * k + (j + 1)) (by omega) _ HS.out (fun ao' cap' B' w' R' M' hB' => ?_))
          case c1 => unfold maxLen; omega
          case c2 => omega
          go_roundw
          case rel => exact ⟨j + 1, cap', ao', B', rfl, by go_num, by omega, by omega, R', hB', M'⟩
          case measure => simp [intOf]; omega
        · have hex : j = 8 ∨ 8 * k + j = n := by omega
          obtain ⟨s', HS'⟩ : ∃ s', Hid (stirF s = s') := ⟨_, rfl⟩
          have HK : Hid (streamS x (k + 1) = s') := by show stirF (streamS x k) = s'; rw [HE.out, HS'.out]
          have hx0 : w.heap.size ≤ wo.heap.size + g2.size := by have := HW.out; omega
          have cb := M.cell1
          have fb := M.frozen1
          have lb := M.lt1
          by_cases hj8 : j < 8
          · have hn : (n : Int) ≤ 8 * k + j := by omega
            go_wp2_with (go_at_call 112; refine (refStir_to s s' HS'.out _).mono ?_; rintro e w5 ⟨rfl, hb5⟩; obtain ⟨g5, d5, rfl⟩ := plus_of_below hb5; clear hb5)
            go_roundw
            case rel => exact ⟨k + 1, 8 * k + j, cap, ao, B, rfl, by omega, by omega, R, hB, by rw [HK.out]; exact ((((M.set1 0 _).set1 1 _).set1 2 _).set1 3 _).plus g5 d5 |>.drop_mid hx0⟩
            case measure => simp [sliceLen]; omega
          · go_wp2_with (go_at_call 112; refine (refStir_to s s' HS'.out _).mono ?_; rintro e w5 ⟨rfl, hb5⟩; obtain ⟨g5, d5, rfl⟩ := plus_of_below hb5; clear hb5)
            go_roundw
            case rel => exact ⟨k + 1, 8 * k + j, cap, ao, B, rfl, by omega, by omega, R, hB, by rw [HK.out]; exact ((((M.set1 0 _).set1 1 _).set1 2 _).set1 3 _).plus g5 d5 |>.drop_mid hx0⟩
            case measure => simp [sliceLen]; omega
    · obtain rfl : m = n := by omega
      go_wp2
      go_ret
      exact ⟨_, rfl, M.below (hB.app (New.cons hb' (New.cons (by simp) (New.nil _)))), R.bsl M⟩

end Go.Proofs.Ytghaiplhakeahaa
