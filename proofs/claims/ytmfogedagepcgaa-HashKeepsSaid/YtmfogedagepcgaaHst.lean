/- The law HashStream: its walk. -/
import Derived.Test.YtmfogedagepcgaaRst
import Derived.Test.YtmfogedagepcgaaSm
import Derived.Test.YtmfogedagepcgaaKnown
namespace Go.Proofs.Ytmfogedagepcgaa
set_option linter.unusedSimpArgs false
set_option linter.unusedVariables false
open Go.RowKit

/-- As many bytes of a digest's stream, of whatever number. -/
noncomputable def strm (x : BitVec 64) (n : Int) : List UInt8 := if 1 ≤ n ∧ n ≤ 1048576 then streamB x n.toNat else []
theorem stream_bsl (x : BitVec 64) (n : Int) (w : World) :
    Calls Try.prog 36 #[.agg #[.int .u8 (by8 x 0), .int .u8 (by8 x 1), .int .u8 (by8 x 2), .int .u8 (by8 x 3), .int .u8 (by8 x 4), .int .u8 (by8 x 5), .int .u8 (by8 x 6), .int .u8 (by8 x 7)], .int .i64 n] w fun e w' => ∃ u, e = .returned u ∧ Below w.heap.size w w' ∧ BSl w' u (strm x n) := by
  unfold strm
  by_cases h : 1 ≤ n ∧ n ≤ 1048576
  · obtain ⟨m, rfl⟩ := Int.eq_ofNat_of_zero_le (show 0 ≤ n by omega)
    rw [if_pos h]
    refine (stream_some x m (by omega) (by omega) w).mono ?_
    rintro e w' ⟨ao, rfl, h1, h2⟩
    exact ⟨_, rfl, h1, by simpa using h2⟩
  · rw [if_neg h]
    refine (stream_none x n (by omega) w).mono ?_
    rintro e w' ⟨rfl, h1⟩
    exact ⟨_, rfl, h1, BSl.nil _⟩
theorem refStream_bsl (x : BitVec 64) (n : Int) (w : World) :
    Calls Try.prog 38 #[.agg #[.int .u8 (by8 x 0), .int .u8 (by8 x 1), .int .u8 (by8 x 2), .int .u8 (by8 x 3), .int .u8 (by8 x 4), .int .u8 (by8 x 5), .int .u8 (by8 x 6), .int .u8 (by8 x 7)], .int .i64 n] w fun e w' => ∃ u, e = .returned u ∧ Below w.heap.size w w' ∧ BSl w' u (strm x n) := by
  unfold strm
  by_cases h : 1 ≤ n ∧ n ≤ 1048576
  · obtain ⟨m, rfl⟩ := Int.eq_ofNat_of_zero_le (show 0 ≤ n by omega)
    rw [if_pos h]
    refine (refStream_some x m (by omega) (by omega) w).mono ?_
    rintro e w' ⟨v, rfl, h1, h2⟩
    exact ⟨_, rfl, h1, by simpa using h2⟩
  · rw [if_neg h]
    refine (refStream_none x n (by omega) w).mono ?_
    rintro e w' ⟨rfl, h1⟩
    exact ⟨_, rfl, h1, BSl.nil _⟩

theorem tmod_bd (m : Int) : -400 < m.tmod 400 ∧ m.tmod 400 < 400 := by
  have h1 := Int.tmod_lt_of_pos m (show (0 : Int) < 400 by omega)
  have h2 := Int.lt_tmod_of_pos m (show (0 : Int) < 400 by omega)
  omega
theorem same_yes (u v : Value) (l : List UInt8) (w : World) (hu : BSl w u l) (hv : BSl w v l) :
    Calls Try.prog 37 #[u, v] w fun e w' => e = .returned (.bool true) ∧ w' = w := by
  have h := same_any u v l l w hu hv
  rwa [beq_self_eq_true] at h
theorem strm_len (x : BitVec 64) (n : Int) (h : n ≤ 1048576) : ((strm x n).length : Int) = max n 0 := by
  unfold strm
  split
  · rw [streamB_len]; omega
  · simp; omega
theorem streamB_take (x : BitVec 64) (m n : Nat) (h : m ≤ n) : (streamB x n).take m = streamB x m := by
  simp [streamB, ← List.map_take, List.take_range, Nat.min_eq_left h]
theorem strm_take (x : BitVec 64) (m n : Int) (h : m ≤ n) (hn : n ≤ 1048576) : (strm x n).take (strm x m).length = strm x m := by
  unfold strm
  by_cases h1 : 1 ≤ m
  · rw [if_pos ⟨h1, by omega⟩, if_pos ⟨by omega, hn⟩, streamB_len, streamB_take _ _ _ (by omega)]
  · rw [if_neg (c := 1 ≤ m ∧ _) (by omega)]; simp
theorem bsl_take {w : World} {ao : Option Addr} {N cap : Nat} {l : List UInt8} (h : BSl w (.slice ao N cap) l) (n : Nat) (hn : n ≤ l.length) : BSl w (.slice ao n cap) (l.take n) := by
  obtain ⟨ao', cap', e, ⟨h1, h2⟩, h3⟩ := h
  cases e
  have hl : (l.take n).length = n := by simp [hn]
  refine ⟨ao, cap, by rw [hl], ⟨by rw [hl]; omega, fun h => by have := h2 h; rw [hl]; omega⟩, ?_⟩
  rw [hl]
  rcases h3 with h3 | ⟨b, o, h3, h4, h5⟩
  · left; omega
  · refine .inr ⟨b, o, h3, h4, fun i hi => ?_⟩
    rw [h5 i (by omega)]
    simp [List.getD_eq_getElem?_getD, List.getElem?_take, hi]

set_option maxRecDepth 100000 in
set_option maxHeartbeats 2000000 in
set_option pp.maxSteps 1000000 in
set_option pp.deepTerms true in
theorem hashStream_any (x : BitVec 64) (m n far : Int) (w : World) (hm : -32768 ≤ m ∧ m ≤ 32767) (hn : -32768 ≤ n ∧ n ≤ 32767) (hf : far < 1 ∨ (1 ≤ far ∧ far ≤ 1048576) ∨ 1048576 < far) :
    Calls Try.prog 10 #[.agg #[.int .u8 (by8 x 0), .int .u8 (by8 x 1), .int .u8 (by8 x 2), .int .u8 (by8 x 3), .int .u8 (by8 x 4), .int .u8 (by8 x 5), .int .u8 (by8 x 6), .int .u8 (by8 x 7)], .int .i16 m, .int .i16 n, .int .i64 far] w fun e w' => e = .returned (.bool true) ∧ Below w.heap.size w w' := by
  have ha := tmod_bd m
  have hb := tmod_bd n
  obtain ⟨a, ea⟩ : ∃ a, m.tmod 400 = a := ⟨_, rfl⟩
  obtain ⟨b, eb⟩ : ∃ b, n.tmod 400 = b := ⟨_, rfl⟩
  rw [ea] at ha
  rw [eb] at hb
  have hlen := strm_len x (max a b) (by omega)
  have hle : (strm x (min a b)).length ≤ (strm x (max a b)).length := by
    have := strm_len x (min a b) (by omega); omega
  have hfr := strm_take x (min a b) (max a b) (by omega) (by omega)
  obtain ⟨l1, HL1⟩ : ∃ l, Hid (strm x (min a b) = l) := ⟨_, rfl⟩
  obtain ⟨l2, HL2⟩ : ∃ l, Hid (strm x (max a b) = l) := ⟨_, rfl⟩
  obtain ⟨l3, HL3⟩ : ∃ l, Hid (strm x a = l) := ⟨_, rfl⟩
  rw [HL1.out, HL2.out] at hle hfr
  rw [HL2.out] at hlen
  have HLEN := Lib.hid hlen
  have HLE := Lib.hid hle
  have HFR := Lib.hid hfr
  have EA := Lib.hid ea
  have EB := Lib.hid eb
  clear hlen hle hfr ea eb
  have st1 := fun W => HL1.out ▸ stream_bsl x (min a b) W
  have st2 := fun W => HL2.out ▸ stream_bsl x (max a b) W
  have st3 := fun W => HL3.out ▸ stream_bsl x a W
  have st4 := fun W => HL3.out ▸ refStream_bsl x a W
  have S1 := Lib.hid st1
  have S2 := Lib.hid st2
  have S3 := Lib.hid st3
  have S4 := Lib.hid st4
  clear st1 st2 st3 st4
  go_enter Try.func10, Try.ntmps10
  go_wp2
  rw [EA.out, EB.out]
  refine wp_region_rq (by kernel_rfl) (by kernel_rfl) (by kernel_rfl) ?_
  repeat (first
    | (refine B_skip ?_ ?_; (· rfl); (try simp only [Act.put, List.setIfInBounds_toArray, List.set_cons_zero, List.set_cons_succ]))
    | (refine B_move rfl ?_ ?_; (· rfl); (try simp only [Act.eval, Act.put, Array.getD_eq_getD_getElem?, List.getElem?_toArray, List.getElem?_cons_succ, List.getElem?_cons_zero, Option.getD_some, List.setIfInBounds_toArray, List.set_cons_zero, List.set_cons_succ]))
    | (refine B_plain ?_ ?_; (· rfl); intro K hK; go_big_quiet_op; with_reducible refine hK _ ?_; clear hK K)
    | (refine B_callR ((fun v w => BSl w v l1)) ((stays_bsl _)) (f := 36) rfl rfl (by kernel_rfl) ?_ (fun xq => ?_) ?_; (· rfl); (· ((simp only [List.map_toArray, List.map_cons, List.map_nil, Act.eval, Array.getD_eq_getD_getElem?, List.getElem?_toArray, List.getElem?_cons_succ, List.getElem?_cons_zero, Option.getD_some]); (with_reducible apply retR); with_reducible exact S1.out _)))
    | (refine B_callR ((fun v w => BSl w v l2)) ((stays_bsl _)) (f := 36) rfl rfl (by kernel_rfl) ?_ (fun xq => ?_) ?_; (· rfl); (· ((simp only [List.map_toArray, List.map_cons, List.map_nil, Act.eval, Array.getD_eq_getD_getElem?, List.getElem?_toArray, List.getElem?_cons_succ, List.getElem?_cons_zero, Option.getD_some]); (with_reducible apply retR); with_reducible exact S2.out _)))
    | (refine B_moveR _ ?_ rfl (Or.inr rfl) rfl ?_ ?_; (· exact stays_bsl _); (· rfl)))
  refine B_nil ?_ rfl ?_ ?_
  · kernel_rfl
  · rfl
  rintro _ ⟨⟨g1, d1⟩, rfl⟩
  simp only [fin, Act.put, List.setIfInBounds_toArray, List.set_cons_zero, List.set_cons_succ]
  rintro v13 h13 v12 h12 v30 - v25 -
  obtain ⟨ao1, cap1, rfl, ca1, cb1, -⟩ := h12.open_
  obtain ⟨ao2, cap2, rfl, ca2, cb2, -⟩ := h13.open_
  have H12 := Lib.hid h12
  have H13 : Hid (BSl (plus ((w.alloc (.cells #[.int .u8 (by8 x 0), .int .u8 (by8 x 1), .int .u8 (by8 x 2), .int .u8 (by8 x 3), .int .u8 (by8 x 4), .int .u8 (by8 x 5), .int .u8 (by8 x 6), .int .u8 (by8 x 7)] 43)).alloc (.cells #[.int .u8 (by8 x 0), .int .u8 (by8 x 1), .int .u8 (by8 x 2), .int .u8 (by8 x 3), .int .u8 (by8 x 4), .int .u8 (by8 x 5), .int .u8 (by8 x 6), .int .u8 (by8 x 7)] 44)) g1 d1) (.slice ao2 l1.length cap2) l1) := by
    have := bsl_take h13 l1.length HLE.out
    rwa [HFR.out] at this
  clear h12 h13 cb1 cb2
  have hg1 : (l1.length : Int) ≤ cap2 := by have := HLE.out; omega
  have hg2 := HLE.out
  have hq : ((l2.length : Int) != if (if a < b then b else a) < 0 then 0 else if a < b then b else a) = false := by
    have := HLEN.out
    rw [bne_eq_false_iff_eq]; (repeat' split) <;> omega
  have hq2 : decide (l2.length < l1.length) = false := by simpa using HLE.out
  go_wp2
  refine wp_region_rq (by kernel_rfl) (by kernel_rfl) (by kernel_rfl) ?_
  repeat (first
    | (refine B_skip ?_ ?_; (· rfl); (try simp only [Act.put, List.setIfInBounds_toArray, List.set_cons_zero, List.set_cons_succ]))
    | (refine B_move rfl ?_ ?_; (· rfl); (try simp only [Act.eval, Act.put, Array.getD_eq_getD_getElem?, List.getElem?_toArray, List.getElem?_cons_succ, List.getElem?_cons_zero, Option.getD_some, List.setIfInBounds_toArray, List.set_cons_zero, List.set_cons_succ]))
    | (refine B_plain ?_ ?_; (· rfl); intro K hK; go_big_quiet_op; with_reducible refine hK _ ?_; clear hK K)
    | (refine B_callX (v := ?_) (f := 30) rfl (by kernel_rfl) ?_ (fun xq => ?_) ?_; rotate_left; (· rfl); (· ((simp only [List.map_toArray, List.map_cons, List.map_nil, Act.eval, Array.getD_eq_getD_getElem?, List.getElem?_toArray, List.getElem?_cons_succ, List.getElem?_cons_zero, Option.getD_some]); with_reducible apply retB; with_reducible exact (known02_any _))); (try simp only [Act.put, List.setIfInBounds_toArray, List.set_cons_zero, List.set_cons_succ]))
    | (refine B_callR ((fun v w => BSl w v l3)) ((stays_bsl _)) (f := 36) rfl rfl (by kernel_rfl) ?_ (fun xq => ?_) ?_; (· rfl); (· ((simp only [List.map_toArray, List.map_cons, List.map_nil, Act.eval, Array.getD_eq_getD_getElem?, List.getElem?_toArray, List.getElem?_cons_succ, List.getElem?_cons_zero, Option.getD_some]); (with_reducible apply retR); with_reducible exact S3.out _)))
    | (refine B_callR ((fun v w => BSl w v l3)) ((stays_bsl _)) (f := 38) rfl rfl (by kernel_rfl) ?_ (fun xq => ?_) ?_; (· rfl); (· ((simp only [List.map_toArray, List.map_cons, List.map_nil, Act.eval, Array.getD_eq_getD_getElem?, List.getElem?_toArray, List.getElem?_cons_succ, List.getElem?_cons_zero, Option.getD_some]); (with_reducible apply retR); with_reducible exact S4.out _)))
    | (refine B_callRX (v := .bool true) (f := 37) rfl (by kernel_rfl) ?_ (fun xq vs hvs => ?_) ?_; (· rfl); (· (obtain ⟨a1, _, rfl, e1, a2, _, rfl, e2, e3⟩ := hvs; cases e3; (with_reducible apply retB_same); exact same_yes a1 a2 l3 _ e1 e2)); (try simp only [Act.put, List.setIfInBounds_toArray, List.set_cons_zero, List.set_cons_succ]))
    | (refine B_callX (v := ?_) (f := 37) rfl (by kernel_rfl) ?_ (fun xq => ?_) ?_; rotate_left; (· rfl); (· ((simp only [List.map_toArray, List.map_cons, List.map_nil, Act.eval, Array.getD_eq_getD_getElem?, List.getElem?_toArray, List.getElem?_cons_succ, List.getElem?_cons_zero, Option.getD_some]); with_reducible apply retB_same; with_reducible exact (same_yes _ _ l1 _ (H12.out.plus _ _) (H13.out.plus _ _)))); (try simp only [Act.put, List.setIfInBounds_toArray, List.set_cons_zero, List.set_cons_succ])))
  refine B_nil ?_ rfl ?_ ?_
  · kernel_rfl
  · rfl
  rintro _ ⟨⟨g2, d2⟩, rfl⟩
  simp only [fin, Act.put, List.setIfInBounds_toArray, List.set_cons_zero, List.set_cons_succ]
  rintro v39 - v36 -
  rcases hf with hf | hf | hf
  · go_wp2_with (go_at_call 36; refine (stream_none x far (Or.inl hf) _).mono ?_; rintro e w3 ⟨rfl, hb3⟩; obtain ⟨g3, d3, rfl⟩ := plus_of_below hb3; clear hb3)
    all_goals
      go_ret
      exact ⟨rfl, by (repeat' (first | (with_reducible exact Below.refl _ _) | (with_reducible refine bplus ?_ _ _) | (with_reducible refine balloc ?_ _) | (with_reducible refine Below.drew ?_) | (with_reducible refine bdrewN ?_ _) | (with_reducible refine Below.setCell ?_ (by go_size) _)))⟩
  · obtain ⟨hf1, hf2⟩ := hf
    go_wp2
    all_goals
      go_ret
      exact ⟨rfl, by (repeat' (first | (with_reducible exact Below.refl _ _) | (with_reducible refine bplus ?_ _ _) | (with_reducible refine balloc ?_ _) | (with_reducible refine Below.drew ?_) | (with_reducible refine bdrewN ?_ _) | (with_reducible refine Below.setCell ?_ (by go_size) _)))⟩
  · have hf1 : 1 ≤ far := by omega
    go_wp2_with (go_at_call 36; refine (stream_none x far (Or.inr hf) _).mono ?_; rintro e w3 ⟨rfl, hb3⟩; obtain ⟨g3, d3, rfl⟩ := plus_of_below hb3; clear hb3)
    all_goals
      go_ret
      exact ⟨rfl, by (repeat' (first | (with_reducible exact Below.refl _ _) | (with_reducible refine bplus ?_ _ _) | (with_reducible refine balloc ?_ _) | (with_reducible refine Below.drew ?_) | (with_reducible refine bdrewN ?_ _) | (with_reducible refine Below.setCell ?_ (by go_size) _)))⟩

end Go.Proofs.Ytmfogedagepcgaa
