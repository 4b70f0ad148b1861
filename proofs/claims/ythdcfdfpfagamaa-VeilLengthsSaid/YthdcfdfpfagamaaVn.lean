/- The law VeilLengths: its walk. -/
import Derived.Test.YthdcfdfpfagamaaVc
namespace Go.Proofs.Ythdcfdfpfagamaa
set_option linter.unusedSimpArgs false
set_option linter.unusedVariables false
open Go.RowKit

set_option maxRecDepth 100000 in
set_option maxHeartbeats 4000000 in
theorem veilLengths_any (k o : BitVec 64) (v1 v2 : Value) (l m : List UInt8) (hlm : l.length ≤ 9223372036854775807) (hmm : m.length ≤ 9223372036854775807) (w : World) (hv1 : BSl w v1 l) (hv2 : BSl w v2 m) :
    Calls Try.prog 14 #[.agg #[.int .u8 (by8 k 0), .int .u8 (by8 k 1), .int .u8 (by8 k 2), .int .u8 (by8 k 3), .int .u8 (by8 k 4), .int .u8 (by8 k 5), .int .u8 (by8 k 6), .int .u8 (by8 k 7), .int .u8 (by8 o 0), .int .u8 (by8 o 1), .int .u8 (by8 o 2), .int .u8 (by8 o 3), .int .u8 (by8 o 4), .int .u8 (by8 o 5), .int .u8 (by8 o 6), .int .u8 (by8 o 7)], v1, v2] w fun e w' => e = .returned (.bool true) ∧ Below w.heap.size w w' := by
  obtain ⟨x, HX⟩ : ∃ x, Hid (l.take 300 = x) := ⟨_, rfl⟩
  have hxl : x.length ≤ 300 := by rw [← HX.out]; simp; omega
  obtain ⟨n, hn1, hn2, hn3⟩ : ∃ n : Nat, min (x.length : Int) (m.length : Int) = (n : Int) ∧ n ≤ x.length ∧ n ≤ m.length := ⟨min x.length m.length, by omega, by omega, by omega⟩
  obtain ⟨ao, cap, rfl, hcap, -⟩ := hv1.open_
  obtain ⟨bo, bcap, rfl, hbcap, -⟩ := hv2.open_
  have hu1 := bsl_take (few_bsl HX.out hv1) n hn2
  have hu2 := bsl_take hv2 n hn3
  have l1 : (x.take n).length = n := by simp [hn2]
  have l2 : (m.take n).length = n := by simp [hn3]
  obtain ⟨a1, HA1⟩ : ∃ a1, Hid (x.take n = a1) := ⟨_, rfl⟩
  obtain ⟨a2, HA2⟩ : ∃ a2, Hid (m.take n = a2) := ⟨_, rfl⟩
  rw [HA1.out] at hu1 l1
  rw [HA2.out] at hu2 l2
  have hcx : x.length ≤ cap := by
    have := few_len l
    rw [HX.out] at this
    omega
  have hc1 : (n : Int) ≤ (cap : Int) := by omega
  have hc2 : (n : Int) ≤ (bcap : Int) := by omega
  obtain ⟨y1, HY1⟩ : ∃ y, Hid (sealF k a1 = y) := ⟨_, rfl⟩
  obtain ⟨y2, HY2⟩ : ∃ y, Hid (sealF o a2 = y) := ⟨_, rfl⟩
  have hy1 : y1.length = n + 8 := by rw [← HY1.out, sealF_len]; omega
  have hy2 : y2.length = n + 8 := by rw [← HY2.out, sealF_len]; omega
  have HU1 := Lib.hid hu1
  have HU2 := Lib.hid hu2
  have hn6 : a1.length ≤ 65536 := by omega
  have hn7 : a2.length ≤ 65536 := by omega
  clear hv1 hv2 hu1 hu2
  go_enter Try.func14, Try.ntmps14
  go_wp2_with fail
  refine (few_eq ao cap l x HX.out hcap _).mono ?_
  rintro e w1 ⟨rfl, rfl⟩
  go_wp2_with fail
  refine wp_mem (fun W => Mem W w [(⟨w.heap.size, 63, #[.int .u8 (by8 k 0), .int .u8 (by8 k 1), .int .u8 (by8 k 2), .int .u8 (by8 k 3), .int .u8 (by8 k 4), .int .u8 (by8 k 5), .int .u8 (by8 k 6), .int .u8 (by8 k 7), .int .u8 (by8 o 0), .int .u8 (by8 o 1), .int .u8 (by8 o 2), .int .u8 (by8 o 3), .int .u8 (by8 o 4), .int .u8 (by8 o 5), .int .u8 (by8 o 6), .int .u8 (by8 o 7)]⟩ : Blk)] ∧ BSl W (.slice ao n cap) a1 ∧ BSl W (.slice bo n bcap) a2) ⟨(Mem.start w).key #[.int .u8 (by8 k 0), .int .u8 (by8 k 1), .int .u8 (by8 k 2), .int .u8 (by8 k 3), .int .u8 (by8 k 4), .int .u8 (by8 k 5), .int .u8 (by8 k 6), .int .u8 (by8 k 7), .int .u8 (by8 o 0), .int .u8 (by8 o 1), .int .u8 (by8 o 2), .int .u8 (by8 o 3), .int .u8 (by8 o 4), .int .u8 (by8 o 5), .int .u8 (by8 o 6), .int .u8 (by8 o 7)] 63 w.heap.size rfl, HU1.out.alloc _, HU2.out.alloc _⟩ ?_
  rintro W ⟨M, h1, h2⟩
  have cK := M.cell (b := w.heap.size) (t := 63) (cs := #[.int .u8 (by8 k 0), .int .u8 (by8 k 1), .int .u8 (by8 k 2), .int .u8 (by8 k 3), .int .u8 (by8 k 4), .int .u8 (by8 k 5), .int .u8 (by8 k 6), .int .u8 (by8 k 7), .int .u8 (by8 o 0), .int .u8 (by8 o 1), .int .u8 (by8 o 2), .int .u8 (by8 o 3), .int .u8 (by8 o 4), .int .u8 (by8 o 5), .int .u8 (by8 o 6), .int .u8 (by8 o 7)]) (by simp)
  have lK : w.heap.size < W.heap.size := M.lt (x := (⟨w.heap.size, 63, #[.int .u8 (by8 k 0), .int .u8 (by8 k 1), .int .u8 (by8 k 2), .int .u8 (by8 k 3), .int .u8 (by8 k 4), .int .u8 (by8 k 5), .int .u8 (by8 k 6), .int .u8 (by8 k 7), .int .u8 (by8 o 0), .int .u8 (by8 o 1), .int .u8 (by8 o 2), .int .u8 (by8 o 3), .int .u8 (by8 o 4), .int .u8 (by8 o 5), .int .u8 (by8 o 6), .int .u8 (by8 o 7)]⟩ : Blk)) (by simp)
  have T1 : Hid (∀ g d, Calls Try.prog 39 #[.agg #[.int .u8 (by8 k 0), .int .u8 (by8 k 1), .int .u8 (by8 k 2), .int .u8 (by8 k 3), .int .u8 (by8 k 4), .int .u8 (by8 k 5), .int .u8 (by8 k 6), .int .u8 (by8 k 7)], .slice ao n cap] (plus W g d) fun e w' => ∃ u, e = .returned u ∧ Below (plus W g d).heap.size (plus W g d) w' ∧ BSl w' u y1) := fun g d => by
    refine (seal_to k _ a1 hn6 y1 HY1.out _ (h1.plus g d)).mono ?_
    rintro e w' ⟨u, h1, h2, h3⟩
    exact ⟨u, h1, h2, h3.bsl⟩
  have T2 : Hid (∀ g d, Calls Try.prog 39 #[.agg #[.int .u8 (by8 o 0), .int .u8 (by8 o 1), .int .u8 (by8 o 2), .int .u8 (by8 o 3), .int .u8 (by8 o 4), .int .u8 (by8 o 5), .int .u8 (by8 o 6), .int .u8 (by8 o 7)], .slice bo n bcap] (plus W g d) fun e w' => ∃ u, e = .returned u ∧ Below (plus W g d).heap.size (plus W g d) w' ∧ BSl w' u y2) := fun g d => by
    refine (seal_to o _ a2 hn7 y2 HY2.out _ (h2.plus g d)).mono ?_
    rintro e w' ⟨u, h1, h2, h3⟩
    exact ⟨u, h1, h2, h3.bsl⟩
  have HBW := Lib.hid (M.below (New.cons (Nat.le_refl _) (New.nil _)))
  clear M h1 h2
  refine wp_region_rq (by kernel_rfl) (by kernel_rfl) (by kernel_rfl) ?_
  repeat (first
    | (refine B_skip ?_ ?_; (· rfl); (try simp only [Act.put, List.setIfInBounds_toArray, List.set_cons_zero, List.set_cons_succ]))
    | (refine B_move rfl ?_ ?_; (· rfl); (try simp only [Act.eval, Act.put, Array.getD_eq_getD_getElem?, List.getElem?_toArray, List.getElem?_cons_succ, List.getElem?_cons_zero, Option.getD_some, List.setIfInBounds_toArray, List.set_cons_zero, List.set_cons_succ]))
    | (refine B_plain ?_ ?_; (· rfl); intro K hK; go_big_quiet_op; with_reducible refine hK _ ?_; clear hK K)
    | (refine B_callR ((fun v w => BSl w v y1)) ((stays_bsl _)) (f := 39) rfl rfl (by kernel_rfl) ?_ (fun xq => ?_) ?_; (· rfl); (· ((simp only [List.map_toArray, List.map_cons, List.map_nil, Act.eval, Array.getD_eq_getD_getElem?, List.getElem?_toArray, List.getElem?_cons_succ, List.getElem?_cons_zero, Option.getD_some]); (with_reducible apply retR); with_reducible exact T1.out _ _)))
    | (refine B_callR ((fun v w => BSl w v y2)) ((stays_bsl _)) (f := 39) rfl rfl (by kernel_rfl) ?_ (fun xq => ?_) ?_; (· rfl); (· ((simp only [List.map_toArray, List.map_cons, List.map_nil, Act.eval, Array.getD_eq_getD_getElem?, List.getElem?_toArray, List.getElem?_cons_succ, List.getElem?_cons_zero, Option.getD_some]); (with_reducible apply retR); with_reducible exact T2.out _ _)))
    | (refine B_moveR _ ?_ rfl (Or.inr rfl) rfl ?_ ?_; (· exact stays_bsl _); (· rfl)))
  refine B_nil ?_ rfl ?_ ?_
  · kernel_rfl
  · rfl
  rintro _ ⟨⟨g3, d3⟩, rfl⟩
  simp only [fin, Act.put, List.setIfInBounds_toArray, List.set_cons_zero, List.set_cons_succ]
  intro u9 A9 u8 A8 u28 _ u22 _
  obtain ⟨o9, c9, rfl, -⟩ := A9.open_
  obtain ⟨o8, c8, rfl, -⟩ := A8.open_
  clear A9 A8
  rw [hy1, hy2]
  go_wp2_with fail
  refine (told_any _).mono ?_
  rintro e w4 ⟨rfl, hb4⟩; obtain ⟨g4, d4, rfl⟩ := plus_of_below hb4; clear hb4
  go_wp2
  go_ret
  exact ⟨rfl, bplus HBW.out _ _⟩

end Go.Proofs.Ythdcfdfpfagamaa
