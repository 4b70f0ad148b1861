/- Contracts of hash.Many and of the reference's Many. -/
import Derived.Test.YthdcfdfpfagamaaOf
import Derived.Test.YthdcfdfpfagamaaD
import Derived.Test.YthdcfdfpfagamaaEqd
import Derived.Test.YthdcfdfpfagamaaE
import Derived.Deep.RegionLaw
namespace Go.Proofs.Ythdcfdfpfagamaa
set_option linter.unusedSimpArgs false
set_option linter.unusedVariables false
open Go.RowKit

theorem plus_alloc2 (w : World) (g : Array Obj) (d : Nat) (o : Obj) : (plus w g d).alloc o = plus w (g ++ #[o]) d := alloc_plus w o g d
theorem take_intNew (s : St) (t : TypeId) (n : Nat) (hn : n < 18446744073709551616) (W : World) (G : Array Obj) (D : Nat) (k : Nat) (hk : k = W.heap.size) (z : St) (hz : takeF s (BitVec.ofNat 64 n) = z) :
    Calls Try.prog 73 #[.pointer (some ⟨k, 0, none⟩), .int .u64 n] (plus (W.alloc (.cells #[.int .u64 (nv s.a), .int .u64 (nv s.b), .int .u64 (nv s.c), .int .u64 (nv s.d)] t)) G D) fun e w' => e = .returned (.tuple #[]) ∧ ∃ d, w' = plus (W.alloc (.cells #[.int .u64 (nv z.a), .int .u64 (nv z.b), .int .u64 (nv z.c), .int .u64 (nv z.d)] t)) G d := by
  have h := take_new s t (BitVec.ofNat 64 n) W G D k hk z hz
  rw [nv_lit n hn] at h
  exact h

theorem refOut_to' (s : St) (z : BitVec 64) (hz : givesF s = z) (w : World) :
    Calls Try.prog 71 #[.agg #[.int .u64 (nv s.a), .int .u64 (nv s.b), .int .u64 (nv s.c), .int .u64 (nv s.d)]] w fun e w' => e = .returned (.agg #[.int .u8 (by8 z 0), .int .u8 (by8 z 1), .int .u8 (by8 z 2), .int .u8 (by8 z 3), .int .u8 (by8 z 4), .int .u8 (by8 z 5), .int .u8 (by8 z 6), .int .u8 (by8 z 7)]) ∧ Below w.heap.size w w' := by
  subst hz; exact refOut_any s w
theorem refBegin_to' (n : Nat) (z : St) (hn : n < 18446744073709551616) (hz : beginF (BitVec.ofNat 64 n) = z) (w : World) :
    Calls Try.prog 68 #[.int .u64 n] w fun e w' => e = .returned (.agg #[.int .u64 (nv z.a), .int .u64 (nv z.b), .int .u64 (nv z.c), .int .u64 (nv z.d)]) ∧ Below w.heap.size w w' := by
  subst hz; exact refBegin_any _ _ (nv_lit n hn) w
theorem refIn_to' (s : St) (n : Nat) (z : St) (hn : n < 18446744073709551616) (hz : takeF s (BitVec.ofNat 64 n) = z) (w : World) :
    Calls Try.prog 69 #[.agg #[.int .u64 (nv s.a), .int .u64 (nv s.b), .int .u64 (nv s.c), .int .u64 (nv s.d)], .int .u64 n] w fun e w' => e = .returned (.agg #[.int .u64 (nv z.a), .int .u64 (nv z.b), .int .u64 (nv z.c), .int .u64 (nv z.d)]) ∧ Below w.heap.size w w' := by
  have h := refIn_any s (BitVec.ofNat 64 n) w
  rw [nv_lit n hn, hz] at h
  exact h

set_option maxRecDepth 100000 in
set_option maxHeartbeats 1000000 in
theorem many_any (v : Value) (xs : List (BitVec 64)) (w : World) (hv : DSl w v xs) (hl : xs.length ≤ 1000000) (z : BitVec 64) (hz : manyF xs = z) :
    Calls Try.prog 64 #[v] w fun e w' => e = .returned (.agg #[.int .u8 (by8 z 0), .int .u8 (by8 z 1), .int .u8 (by8 z 2), .int .u8 (by8 z 3), .int .u8 (by8 z 4), .int .u8 (by8 z 5), .int .u8 (by8 z 6), .int .u8 (by8 z 7)]) ∧ Below w.heap.size w w' := by
  obtain ⟨ao, cap, rfl, hno, hx⟩ := hv
  have HX := Lib.hid hx
  have HNO := Lib.hid hno
  clear hx hno
  obtain ⟨s0, HS0⟩ : ∃ s0, Hid (beginF 5#64 = s0) := ⟨_, rfl⟩
  obtain ⟨u, HU⟩ : ∃ u, Hid (takeF (manySt xs) (BitVec.ofNat 64 xs.length) = u) := ⟨_, rfl⟩
  have HZ : Hid (givesF u = z) := by show _ = _; rw [← HU.out]; exact hz
  have H00 : Hid (manySt (xs.take 0) = s0) := by show beginF 5#64 = _; rw [HS0.out]
  clear hz
  go_enter Try.func64, Try.ntmps64
  go_wp2_with (go_at_call 72; refine (begin_any 5#64 _ (nv_lit 5 (by decide)) _).mono ?_; rintro e w1 ⟨rfl, hb1⟩; obtain ⟨g1, d1, rfl⟩ := plus_of_below hb1; clear hb1; rw [HS0.out])
  go_loopw [9] (fun i wr => ∃ (k : Nat) (g : Array Obj) (d : Nat), k ≤ xs.length ∧ i = .int .i64 k ∧ wr = plus ((plus (w.alloc (.cells #[.int .u8 0, .int .u8 0, .int .u8 0, .int .u8 0, .int .u8 0, .int .u8 0, .int .u8 0, .int .u8 0] 24)) g1 d1).alloc (.cells #[.int .u64 (nv ((manySt (xs.take k))).a), .int .u64 (nv ((manySt (xs.take k))).b), .int .u64 (nv ((manySt (xs.take k))).c), .int .u64 (nv ((manySt (xs.take k))).d)] 95)) g d) (fun i _ => xs.length - (intOf i).toNat)
  case atStart => exact ⟨0, #[], d1, by omega, rfl, by rw [H00.out]; exact plus_self _⟩
  case round =>
    obtain ⟨k, g, d, hk, rfl, rfl⟩ := hrel
    by_cases hlt : k < xs.length
    · obtain ⟨b, o, rfl, hb, hc⟩ : ∃ b o, ao = some ⟨b, o, none⟩ ∧ b < w.heap.size ∧ ∀ i, i < xs.length → ∀ j, j < 8 → w.cell? ⟨b, o + i * 8 + j, none⟩ = some (.int .u8 (by8 (xs.getD i 0) j)) := by
        rcases HX.out with rfl | h
        · simp at hlt
        · exact h
      have HN := Lib.hid (manySt_take xs k hlt)
      have c0 := hc k hlt 0 (by omega)
      have c1 := hc k hlt 1 (by omega)
      have c2 := hc k hlt 2 (by omega)
      have c3 := hc k hlt 3 (by omega)
      have c4 := hc k hlt 4 (by omega)
      have c5 := hc k hlt 5 (by omega)
      have c6 := hc k hlt 6 (by omega)
      have c7 := hc k hlt 7 (by omega)
      rw [Nat.add_zero] at c0
      obtain ⟨x, hx⟩ : ∃ x, x = xs.getD k 0 := ⟨_, rfl⟩
      obtain ⟨t, HT⟩ : ∃ t, Hid (manySt (xs.take k) = t) := ⟨_, rfl⟩
      rw [← hx] at HN c0 c1 c2 c3 c4 c5 c6 c7
      rw [HT.out] at HN
      rw [HT.out]
      clear hc hx
      go_wp2_with (first
        | (go_at_call 74; refine (num_any _ _).mono ?_; rintro e w2 ⟨rfl, hb2⟩; obtain ⟨g2, d2, rfl⟩ := plus_of_below hb2; clear hb2)
        | (go_at_call 73; rw [plus_alloc2, plus_plus]; refine (take_new t _ x _ _ _ _ (by simp) _ rfl).mono ?_; rintro e w3 ⟨rfl, n3, rfl⟩))
      go_roundw
      case rel => exact ⟨k + 1, _, _, by omega, by go_num, by rw [HN.out]⟩
      case measure => simp [intOf]; omega
    · obtain rfl : k = xs.length := by omega
      rw [List.take_length]
      go_wp2_with (first
        | (go_at_call 73; refine (take_intNew _ _ xs.length (by omega) _ _ _ _ (by simp) u HU.out).mono ?_; rintro e w3 ⟨rfl, n3, rfl⟩)
        | (go_at_call 75; refine (gives_any u _ _ _ (by go_simp) (by go_simp) (by go_simp)).mono ?_; rw [HZ.out]; rintro e w4 ⟨rfl, hb4⟩; obtain ⟨g4, d4, rfl⟩ := plus_of_below hb4; clear hb4))
      refine bodyPost_ret (v := .agg #[.int .u8 (by8 z 0), .int .u8 (by8 z 1), .int .u8 (by8 z 2), .int .u8 (by8 z 3), .int .u8 (by8 z 4), .int .u8 (by8 z 5), .int .u8 (by8 z 6), .int .u8 (by8 z 7)]) (by simp [results, Try.results64, go_sem]) rfl ⟨rfl, by (repeat' (first | (with_reducible exact Below.refl _ _) | (with_reducible refine bplus ?_ _ _) | (with_reducible refine balloc ?_ _) | (with_reducible refine Below.drew ?_) | (with_reducible refine bdrewN ?_ _) | (with_reducible refine Below.setCell ?_ (by go_size) _)))⟩

set_option maxRecDepth 100000 in
set_option maxHeartbeats 2000000 in
theorem refMany_any (v : Value) (xs : List (BitVec 64)) (w : World) (hv : DSl w v xs) (hl : xs.length ≤ 1000000) (z : BitVec 64) (hz : manyF xs = z) :
    Calls Try.prog 50 #[v] w fun e w' => e = .returned (.agg #[.int .u8 (by8 z 0), .int .u8 (by8 z 1), .int .u8 (by8 z 2), .int .u8 (by8 z 3), .int .u8 (by8 z 4), .int .u8 (by8 z 5), .int .u8 (by8 z 6), .int .u8 (by8 z 7)]) ∧ Below w.heap.size w w' := by
  obtain ⟨ao, cap, rfl, hno, hx⟩ := hv
  have HX := Lib.hid hx
  have HNO := Lib.hid hno
  clear hx hno
  obtain ⟨s0, HS0⟩ : ∃ s0, Hid (beginF (BitVec.ofNat 64 5) = s0) := ⟨_, rfl⟩
  obtain ⟨u, HU⟩ : ∃ u, Hid (takeF (manySt xs) (BitVec.ofNat 64 xs.length) = u) := ⟨_, rfl⟩
  have HZ : Hid (givesF u = z) := by show _ = _; rw [← HU.out]; exact hz
  have H00 : Hid (manySt (xs.take 0) = s0) := by show beginF 5#64 = _; exact HS0.out
  clear hz
  go_enter Try.func50, Try.ntmps50
  go_wp2_with (go_at_call 68; refine (refBegin_to' 5 s0 (by omega) HS0.out _).mono ?_; rintro e w1 ⟨rfl, hb1⟩; obtain ⟨g1, d1, rfl⟩ := plus_of_below hb1; clear hb1)
  go_loopw [4] (fun i wr => ∃ (k : Nat) (g : Array Obj) (d : Nat), k ≤ xs.length ∧ i = .int .i64 k ∧ wr = plus ((plus (w.alloc (.cells #[.int .u8 0, .int .u8 0, .int .u8 0, .int .u8 0, .int .u8 0, .int .u8 0, .int .u8 0, .int .u8 0] 22)) g1 d1).alloc (.cells #[.int .u64 (nv ((manySt (xs.take k))).a), .int .u64 (nv ((manySt (xs.take k))).b), .int .u64 (nv ((manySt (xs.take k))).c), .int .u64 (nv ((manySt (xs.take k))).d)] 90)) g d) (fun i _ => xs.length - (intOf i).toNat)
  case atStart => exact ⟨0, #[], d1, by omega, rfl, by rw [H00.out]; exact plus_self _⟩
  case round =>
    obtain ⟨k, g, d, hk, rfl, rfl⟩ := hrel
    by_cases hlt : k < xs.length
    · obtain ⟨b, o, rfl, hb, hc⟩ : ∃ b o, ao = some ⟨b, o, none⟩ ∧ b < w.heap.size ∧ ∀ i, i < xs.length → ∀ j, j < 8 → w.cell? ⟨b, o + i * 8 + j, none⟩ = some (.int .u8 (by8 (xs.getD i 0) j)) := by
        rcases HX.out with rfl | h
        · simp at hlt
        · exact h
      have HN := Lib.hid (manySt_take xs k hlt)
      have c0 := hc k hlt 0 (by omega)
      have c1 := hc k hlt 1 (by omega)
      have c2 := hc k hlt 2 (by omega)
      have c3 := hc k hlt 3 (by omega)
      have c4 := hc k hlt 4 (by omega)
      have c5 := hc k hlt 5 (by omega)
      have c6 := hc k hlt 6 (by omega)
      have c7 := hc k hlt 7 (by omega)
      rw [Nat.add_zero] at c0
      obtain ⟨x, hx⟩ : ∃ x, x = xs.getD k 0 := ⟨_, rfl⟩
      obtain ⟨t, HT⟩ : ∃ t, Hid (manySt (xs.take k) = t) := ⟨_, rfl⟩
      rw [← hx] at HN c0 c1 c2 c3 c4 c5 c6 c7
      rw [HT.out] at HN
      rw [HT.out]
      have hki : (k : Int) < xs.length := by omega
      have hk0 : (0 : Int) ≤ k := by omega
      clear hc hx
      go_wp2
      go_region_law ((go_simp; first
        | (go_at_call 70; refine (refNum_any x _).mono ?_; rintro e w5 ⟨rfl, hb5⟩; obtain ⟨g5, d5, rfl⟩ := plus_of_below hb5; clear hb5; simp only [])
        | (go_at_call 69; refine (refIn_any t x _).mono ?_; rintro e w6 ⟨rfl, hb6⟩; obtain ⟨g6, d6, rfl⟩ := plus_of_below hb6; clear hb6; simp only [])))
      all_goals
        go_wp2
        go_roundw
        case rel => exact ⟨k + 1, _, _, by omega, by go_num, by rw [HN.out]⟩
        case measure => simp [intOf]; omega
    · obtain rfl : k = xs.length := by omega
      rw [List.take_length]
      go_wp2_with (first
        | (go_at_call 69; refine (refIn_to' _ xs.length u (by omega) HU.out _).mono ?_; rintro e w7 ⟨rfl, hb7⟩; obtain ⟨g7, d7, rfl⟩ := plus_of_below hb7; clear hb7)
        | (go_at_call 71; refine (refOut_to' u z HZ.out _).mono ?_; rintro e w8 ⟨rfl, hb8⟩; obtain ⟨g8, d8, rfl⟩ := plus_of_below hb8; clear hb8))
      refine bodyPost_ret (v := .agg #[.int .u8 (by8 z 0), .int .u8 (by8 z 1), .int .u8 (by8 z 2), .int .u8 (by8 z 3), .int .u8 (by8 z 4), .int .u8 (by8 z 5), .int .u8 (by8 z 6), .int .u8 (by8 z 7)]) (by simp [results, Try.results50, go_sem]) rfl ⟨rfl, by (repeat' (first | (with_reducible exact Below.refl _ _) | (with_reducible refine bplus ?_ _ _) | (with_reducible refine balloc ?_ _) | (with_reducible refine Below.drew ?_) | (with_reducible refine bdrewN ?_ _) | (with_reducible refine Below.setCell ?_ (by go_size) _)))⟩

end Go.Proofs.Ythdcfdfpfagamaa
