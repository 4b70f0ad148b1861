/- The laws VeilSeals, VeilOpens, VeilKeys: their walks. -/
import Derived.Test.YthdcfdfpfagamaaVa
namespace Go.Proofs.Ythdcfdfpfagamaa
set_option linter.unusedSimpArgs false
set_option linter.unusedVariables false
open Go.RowKit

/-! ### VeilSeals -/
set_option maxRecDepth 100000 in
set_option maxHeartbeats 4000000 in
theorem veilSeals_any (k : BitVec 64) (v : Value) (l : List UInt8) (hm : l.length ≤ 9223372036854775807) (w : World) (hv : BSl w v l) :
    Calls Try.prog 11 #[.agg #[.int .u8 (by8 k 0), .int .u8 (by8 k 1), .int .u8 (by8 k 2), .int .u8 (by8 k 3), .int .u8 (by8 k 4), .int .u8 (by8 k 5), .int .u8 (by8 k 6), .int .u8 (by8 k 7)], v] w fun e w' => e = .returned (.bool true) ∧ Below w.heap.size w w' := by
  obtain ⟨x, HX⟩ : ∃ x, Hid (l.take 300 = x) := ⟨_, rfl⟩
  have hxl : x.length ≤ 65536 := by rw [← HX.out]; simp; omega
  obtain ⟨y, HY⟩ : ∃ y, Hid (sealF k x = y) := ⟨_, rfl⟩
  have hyl : y.length ≤ 9223372036854775807 := by rw [← HY.out, sealF_len]; omega
  have HO : Hid (openF k y = (x, 0)) := by show _ = _; rw [← HY.out]; exact open_sealF k x hxl
  have hbx := beq_str x
  have hby := beq_str y
  have HV := Lib.hid (hv.alloc (.cells #[.int .u8 (by8 k 0), .int .u8 (by8 k 1), .int .u8 (by8 k 2), .int .u8 (by8 k 3), .int .u8 (by8 k 4), .int .u8 (by8 k 5), .int .u8 (by8 k 6), .int .u8 (by8 k 7)] 24))
  obtain ⟨ao, cap, rfl, -⟩ := hv.open_
  clear hv
  go_enter Try.func11, Try.ntmps11
  go_wp2_with fail
  refine (few_to _ l hm x HX.out _ HV.out).mono ?_
  rintro e w1 ⟨u, rfl, rfl, hu⟩
  have HU := Lib.hid hu
  clear hu
  go_wp2_with fail
  refine calls_mem (fun W => Mem W w [(⟨w.heap.size, 24, #[.int .u8 (by8 k 0), .int .u8 (by8 k 1), .int .u8 (by8 k 2), .int .u8 (by8 k 3), .int .u8 (by8 k 4), .int .u8 (by8 k 5), .int .u8 (by8 k 6), .int .u8 (by8 k 7)]⟩ : Blk)] ∧ BSl W u x) ⟨(Mem.start w).key #[.int .u8 (by8 k 0), .int .u8 (by8 k 1), .int .u8 (by8 k 2), .int .u8 (by8 k 3), .int .u8 (by8 k 4), .int .u8 (by8 k 5), .int .u8 (by8 k 6), .int .u8 (by8 k 7)] 24 w.heap.size rfl, HU.out⟩ ?_
  rintro W1 ⟨M1, hU1⟩
  refine (seal_to k u x hxl y HY.out W1 hU1).mono ?_
  rintro e W2 ⟨b, rfl, hB2, A2⟩
  have M2 : Mem W2 w [(⟨w.heap.size, 24, #[.int .u8 (by8 k 0), .int .u8 (by8 k 1), .int .u8 (by8 k 2), .int .u8 (by8 k 3), .int .u8 (by8 k 4), .int .u8 (by8 k 5), .int .u8 (by8 k 6), .int .u8 (by8 k 7)]⟩ : Blk)] := M1.of_below hB2
  have cK2 := M2.cell (b := w.heap.size) (t := 24) (cs := #[.int .u8 (by8 k 0), .int .u8 (by8 k 1), .int .u8 (by8 k 2), .int .u8 (by8 k 3), .int .u8 (by8 k 4), .int .u8 (by8 k 5), .int .u8 (by8 k 6), .int .u8 (by8 k 7)]) (by simp)
  have lK2 : w.heap.size < W2.heap.size := M2.lt (x := (⟨w.heap.size, 24, #[.int .u8 (by8 k 0), .int .u8 (by8 k 1), .int .u8 (by8 k 2), .int .u8 (by8 k 3), .int .u8 (by8 k 4), .int .u8 (by8 k 5), .int .u8 (by8 k 6), .int .u8 (by8 k 7)]⟩ : Blk)) (by simp)
  have HB2 := Lib.hid A2.bsl
  have HU2 := Lib.hid (hU1.below hB2)
  have HM2 := Lib.hid M2
  clear M1 M2 hU1 hB2 A2
  go_wp2_with fail
  refine (open_any k b y hyl x 0 HO.out W2 HB2.out).mono ?_
  rintro e W3 ⟨p, rfl, hB3, A3⟩
  have M3 : Mem W3 w [(⟨w.heap.size, 24, #[.int .u8 (by8 k 0), .int .u8 (by8 k 1), .int .u8 (by8 k 2), .int .u8 (by8 k 3), .int .u8 (by8 k 4), .int .u8 (by8 k 5), .int .u8 (by8 k 6), .int .u8 (by8 k 7)]⟩ : Blk)] := HM2.out.of_below hB3
  have cK3 := M3.cell (b := w.heap.size) (t := 24) (cs := #[.int .u8 (by8 k 0), .int .u8 (by8 k 1), .int .u8 (by8 k 2), .int .u8 (by8 k 3), .int .u8 (by8 k 4), .int .u8 (by8 k 5), .int .u8 (by8 k 6), .int .u8 (by8 k 7)]) (by simp)
  have lK3 : w.heap.size < W3.heap.size := M3.lt (x := (⟨w.heap.size, 24, #[.int .u8 (by8 k 0), .int .u8 (by8 k 1), .int .u8 (by8 k 2), .int .u8 (by8 k 3), .int .u8 (by8 k 4), .int .u8 (by8 k 5), .int .u8 (by8 k 6), .int .u8 (by8 k 7)]⟩ : Blk)) (by simp)
  have hb3 := HB2.out.below hB3
  have hu3 := HU2.out.below hB3
  have hp3 := A3.bsl
  have hsb : ∀ g d, (convert 28 9 b).run Try.prog (plus W3 g d) = .ok (.string { data := y.toArray }) (plus W3 g d) := fun g d => run_str' _ b y (hb3.plus g d)
  have hsu : ∀ g d, (convert 28 9 u).run Try.prog (plus W3 g d) = .ok (.string { data := x.toArray }) (plus W3 g d) := fun g d => run_str' _ u x (hu3.plus g d)
  have hsp : ∀ g d, (convert 28 9 p).run Try.prog (plus W3 g d) = .ok (.string { data := x.toArray }) (plus W3 g d) := fun g d => run_str' _ p x (hp3.plus g d)
  have T1 : Hid (∀ g d, Calls Try.prog 41 #[.agg #[.int .u8 (by8 k 0), .int .u8 (by8 k 1), .int .u8 (by8 k 2), .int .u8 (by8 k 3), .int .u8 (by8 k 4), .int .u8 (by8 k 5), .int .u8 (by8 k 6), .int .u8 (by8 k 7)], u] (plus W3 g d) fun e w' => ∃ u, e = .returned u ∧ Below (plus W3 g d).heap.size (plus W3 g d) w' ∧ BSl w' u y) := fun g d => by
    refine (refSeal_to k u x hxl y HY.out _ (hu3.plus g d)).mono ?_
    rintro e w' ⟨u', h1, h2, h3⟩
    exact ⟨u', h1, h2, h3.bsl⟩
  have HBW := Lib.hid (M3.below (New.cons (Nat.le_refl _) (New.nil _)))
  clear cK2 lK2 HM2 HB2 HU2 hB3 A3 M3 hb3 hu3 hp3
  go_wp2_with fail
  refine wp_region_rq (by kernel_rfl) (by kernel_rfl) (by kernel_rfl) ?_
  repeat (first
    | (refine B_skip ?_ ?_; (· rfl); (try simp only [Act.put, List.setIfInBounds_toArray, List.set_cons_zero, List.set_cons_succ]))
    | (refine B_move rfl ?_ ?_; (· rfl); (try simp only [Act.eval, Act.put, Array.getD_eq_getD_getElem?, List.getElem?_toArray, List.getElem?_cons_succ, List.getElem?_cons_zero, Option.getD_some, List.setIfInBounds_toArray, List.set_cons_zero, List.set_cons_succ]))
    | (refine B_plain ?_ ?_; (· rfl); intro K hK; go_big_quiet_op; with_reducible refine hK _ ?_; clear hK K)
    | (refine B_callX (v := ?_) (f := 36) rfl (by kernel_rfl) ?_ (fun xq => ?_) ?_; rotate_left; (· rfl); (· ((simp only [List.map_toArray, List.map_cons, List.map_nil, Act.eval, Array.getD_eq_getD_getElem?, List.getElem?_toArray, List.getElem?_cons_succ, List.getElem?_cons_zero, Option.getD_some]); with_reducible apply retB; with_reducible exact (told_any _))); (try simp only [Act.put, List.setIfInBounds_toArray, List.set_cons_zero, List.set_cons_succ]))
    | (refine B_callR ((fun v w => BSl w v y)) ((stays_bsl _)) (f := 41) rfl rfl (by kernel_rfl) ?_ (fun xq => ?_) ?_; (· rfl); (· ((simp only [List.map_toArray, List.map_cons, List.map_nil, Act.eval, Array.getD_eq_getD_getElem?, List.getElem?_toArray, List.getElem?_cons_succ, List.getElem?_cons_zero, Option.getD_some]); (with_reducible apply retR); with_reducible exact T1.out _ _)))
    | (refine B_str (s := 25) (l := y) rfl rfl ?_ ?_; (· rfl); (try simp only [Act.put, List.setIfInBounds_toArray, List.set_cons_zero, List.set_cons_succ])))
  refine B_nil ?_ rfl ?_ ?_
  · kernel_rfl
  · rfl
  rintro _ ⟨⟨g4, d4⟩, rfl⟩
  simp only [fin, Act.put, List.setIfInBounds_toArray, List.set_cons_zero, List.set_cons_succ]
  intros
  go_wp2
  go_ret
  exact ⟨rfl, bplus HBW.out _ _⟩

/-! ### VeilOpens -/
set_option maxRecDepth 100000 in
set_option maxHeartbeats 4000000 in
theorem veilOpens_any (k : BitVec 64) (v : Value) (l : List UInt8) (hm : l.length ≤ 9223372036854775807) (w : World) (hv : BSl w v l) :
    Calls Try.prog 12 #[.agg #[.int .u8 (by8 k 0), .int .u8 (by8 k 1), .int .u8 (by8 k 2), .int .u8 (by8 k 3), .int .u8 (by8 k 4), .int .u8 (by8 k 5), .int .u8 (by8 k 6), .int .u8 (by8 k 7)], v] w fun e w' => e = .returned (.bool true) ∧ Below w.heap.size w w' := by
  obtain ⟨x, HX⟩ : ∃ x, Hid (l.take 300 = x) := ⟨_, rfl⟩
  have hxl : x.length ≤ 9223372036854775807 := by rw [← HX.out]; simp; omega
  obtain ⟨y, er, HO⟩ : ∃ y er, Hid (openF k x = (y, er)) := ⟨_, _, rfl⟩
  have hby := beq_str y
  have HV := Lib.hid (hv.alloc (.cells #[.int .u8 (by8 k 0), .int .u8 (by8 k 1), .int .u8 (by8 k 2), .int .u8 (by8 k 3), .int .u8 (by8 k 4), .int .u8 (by8 k 5), .int .u8 (by8 k 6), .int .u8 (by8 k 7)] 24))
  obtain ⟨ao, cap, rfl, -⟩ := hv.open_
  clear hv
  go_enter Try.func12, Try.ntmps12
  go_wp2_with fail
  refine (few_to _ l hm x HX.out _ HV.out).mono ?_
  rintro e w1 ⟨u, rfl, rfl, hu⟩
  have HU := Lib.hid hu
  clear hu
  go_wp2_with fail
  refine calls_mem (fun W => Mem W w [(⟨w.heap.size, 24, #[.int .u8 (by8 k 0), .int .u8 (by8 k 1), .int .u8 (by8 k 2), .int .u8 (by8 k 3), .int .u8 (by8 k 4), .int .u8 (by8 k 5), .int .u8 (by8 k 6), .int .u8 (by8 k 7)]⟩ : Blk)] ∧ BSl W u x) ⟨(Mem.start w).key #[.int .u8 (by8 k 0), .int .u8 (by8 k 1), .int .u8 (by8 k 2), .int .u8 (by8 k 3), .int .u8 (by8 k 4), .int .u8 (by8 k 5), .int .u8 (by8 k 6), .int .u8 (by8 k 7)] 24 w.heap.size rfl, HU.out⟩ ?_
  rintro W1 ⟨M1, hU1⟩
  refine (open_any k u x hxl y er HO.out W1 hU1).mono ?_
  rintro e W2 ⟨p, rfl, hB2, A2⟩
  have M2 : Mem W2 w [(⟨w.heap.size, 24, #[.int .u8 (by8 k 0), .int .u8 (by8 k 1), .int .u8 (by8 k 2), .int .u8 (by8 k 3), .int .u8 (by8 k 4), .int .u8 (by8 k 5), .int .u8 (by8 k 6), .int .u8 (by8 k 7)]⟩ : Blk)] := M1.of_below hB2
  have cK2 := M2.cell (b := w.heap.size) (t := 24) (cs := #[.int .u8 (by8 k 0), .int .u8 (by8 k 1), .int .u8 (by8 k 2), .int .u8 (by8 k 3), .int .u8 (by8 k 4), .int .u8 (by8 k 5), .int .u8 (by8 k 6), .int .u8 (by8 k 7)]) (by simp)
  have lK2 : w.heap.size < W2.heap.size := M2.lt (x := (⟨w.heap.size, 24, #[.int .u8 (by8 k 0), .int .u8 (by8 k 1), .int .u8 (by8 k 2), .int .u8 (by8 k 3), .int .u8 (by8 k 4), .int .u8 (by8 k 5), .int .u8 (by8 k 6), .int .u8 (by8 k 7)]⟩ : Blk)) (by simp)
  have HP2 := Lib.hid A2.bsl
  have HU2 := Lib.hid (hU1.below hB2)
  have HM2 := Lib.hid M2
  clear M1 M2 hU1 hB2 A2
  go_wp2_with fail
  refine (refOpen_any k u x hxl y er HO.out W2 HU2.out).mono ?_
  rintro e W3 ⟨q, rfl, hB3, A3⟩
  have HP3 := Lib.hid (HP2.out.below hB3)
  have HQ3 := Lib.hid A3.bsl
  have HBW := Lib.hid ((HM2.out.of_below hB3).below (New.cons (Nat.le_refl _) (New.nil _)))
  clear cK2 lK2 HM2 HP2 HU2 hB3 A3
  go_wp2_with fail
  refine (told_any _).mono ?_
  rintro e w4 ⟨rfl, hb4⟩; obtain ⟨g4, d4, rfl⟩ := plus_of_below hb4; clear hb4
  have hsp := run_str' _ p y (HP3.out.plus g4 d4)
  have hsq := run_str' _ q y (HQ3.out.plus g4 d4)
  go_wp2
  go_ret
  exact ⟨rfl, bplus HBW.out _ _⟩

/-! ### VeilKeys -/
set_option maxRecDepth 100000 in
set_option maxHeartbeats 4000000 in
theorem veilKeys_any (k o : BitVec 64) (v : Value) (l : List UInt8) (hm : l.length ≤ 9223372036854775807) (w : World) (hv : BSl w v l) :
    Calls Try.prog 13 #[.agg #[.int .u8 (by8 k 0), .int .u8 (by8 k 1), .int .u8 (by8 k 2), .int .u8 (by8 k 3), .int .u8 (by8 k 4), .int .u8 (by8 k 5), .int .u8 (by8 k 6), .int .u8 (by8 k 7)], .agg #[.int .u8 (by8 o 0), .int .u8 (by8 o 1), .int .u8 (by8 o 2), .int .u8 (by8 o 3), .int .u8 (by8 o 4), .int .u8 (by8 o 5), .int .u8 (by8 o 6), .int .u8 (by8 o 7)], v] w fun e w' => e = .returned (.bool true) ∧ Below w.heap.size w w' := by
  obtain ⟨x, HX⟩ : ∃ x, Hid (l.take 300 = x) := ⟨_, rfl⟩
  have hxl : x.length ≤ 65536 := by rw [← HX.out]; simp; omega
  obtain ⟨y, HY⟩ : ∃ y, Hid (sealF k x = y) := ⟨_, rfl⟩
  have hyl : y.length ≤ 9223372036854775807 := by rw [← HY.out, sealF_len]; omega
  obtain ⟨z, er, HO⟩ : ∃ z er, Hid (openF o y = (z, er)) := ⟨_, _, rfl⟩
  have HSM : o = k → z = x ∧ er = 0 := fun h => by
    have h1 := HO.out
    rw [h, ← HY.out, open_sealF k x hxl] at h1
    cases h1; exact ⟨rfl, rfl⟩
  have hbz := beq_str z
  have HV := Lib.hid ((hv.alloc (.cells #[.int .u8 (by8 k 0), .int .u8 (by8 k 1), .int .u8 (by8 k 2), .int .u8 (by8 k 3), .int .u8 (by8 k 4), .int .u8 (by8 k 5), .int .u8 (by8 k 6), .int .u8 (by8 k 7)] 24)).alloc (.cells #[.int .u8 (by8 o 0), .int .u8 (by8 o 1), .int .u8 (by8 o 2), .int .u8 (by8 o 3), .int .u8 (by8 o 4), .int .u8 (by8 o 5), .int .u8 (by8 o 6), .int .u8 (by8 o 7)] 24))
  obtain ⟨ao, cap, rfl, -⟩ := hv.open_
  have HSM := Lib.hid HSM
  clear hv
  go_enter Try.func13, Try.ntmps13
  go_wp2_with fail
  refine (few_to _ l hm x HX.out _ HV.out).mono ?_
  rintro e w1 ⟨u, rfl, rfl, hu⟩
  have HU := Lib.hid hu
  clear hu
  go_wp2_with fail
  refine calls_mem (fun W => Mem W w [(⟨w.heap.size + 1, 24, #[.int .u8 (by8 o 0), .int .u8 (by8 o 1), .int .u8 (by8 o 2), .int .u8 (by8 o 3), .int .u8 (by8 o 4), .int .u8 (by8 o 5), .int .u8 (by8 o 6), .int .u8 (by8 o 7)]⟩ : Blk), (⟨w.heap.size, 24, #[.int .u8 (by8 k 0), .int .u8 (by8 k 1), .int .u8 (by8 k 2), .int .u8 (by8 k 3), .int .u8 (by8 k 4), .int .u8 (by8 k 5), .int .u8 (by8 k 6), .int .u8 (by8 k 7)]⟩ : Blk)] ∧ BSl W u x) ⟨((Mem.start w).key #[.int .u8 (by8 k 0), .int .u8 (by8 k 1), .int .u8 (by8 k 2), .int .u8 (by8 k 3), .int .u8 (by8 k 4), .int .u8 (by8 k 5), .int .u8 (by8 k 6), .int .u8 (by8 k 7)] 24 w.heap.size rfl).key #[.int .u8 (by8 o 0), .int .u8 (by8 o 1), .int .u8 (by8 o 2), .int .u8 (by8 o 3), .int .u8 (by8 o 4), .int .u8 (by8 o 5), .int .u8 (by8 o 6), .int .u8 (by8 o 7)] 24 (w.heap.size + 1) (by simp), HU.out⟩ ?_
  rintro W1 ⟨M1, hU1⟩
  refine (seal_to k u x hxl y HY.out W1 hU1).mono ?_
  rintro e W2 ⟨b, rfl, hB2, A2⟩
  have M2 : Mem W2 w [(⟨w.heap.size + 1, 24, #[.int .u8 (by8 o 0), .int .u8 (by8 o 1), .int .u8 (by8 o 2), .int .u8 (by8 o 3), .int .u8 (by8 o 4), .int .u8 (by8 o 5), .int .u8 (by8 o 6), .int .u8 (by8 o 7)]⟩ : Blk), (⟨w.heap.size, 24, #[.int .u8 (by8 k 0), .int .u8 (by8 k 1), .int .u8 (by8 k 2), .int .u8 (by8 k 3), .int .u8 (by8 k 4), .int .u8 (by8 k 5), .int .u8 (by8 k 6), .int .u8 (by8 k 7)]⟩ : Blk)] := M1.of_below hB2
  have cO2 := M2.cell (b := w.heap.size + 1) (t := 24) (cs := #[.int .u8 (by8 o 0), .int .u8 (by8 o 1), .int .u8 (by8 o 2), .int .u8 (by8 o 3), .int .u8 (by8 o 4), .int .u8 (by8 o 5), .int .u8 (by8 o 6), .int .u8 (by8 o 7)]) (by simp)
  have lO2 : w.heap.size + 1 < W2.heap.size := M2.lt (x := (⟨w.heap.size + 1, 24, #[.int .u8 (by8 o 0), .int .u8 (by8 o 1), .int .u8 (by8 o 2), .int .u8 (by8 o 3), .int .u8 (by8 o 4), .int .u8 (by8 o 5), .int .u8 (by8 o 6), .int .u8 (by8 o 7)]⟩ : Blk)) (by simp)
  have HB2 := Lib.hid A2.bsl
  have HU2 := Lib.hid (hU1.below hB2)
  have HM2 := Lib.hid M2
  clear M1 M2 hU1 hB2 A2
  go_wp2_with fail
  refine (open_any o b y hyl z er HO.out W2 HB2.out).mono ?_
  rintro e W3 ⟨p, rfl, hB3, A3⟩
  have M3 : Mem W3 w [(⟨w.heap.size + 1, 24, #[.int .u8 (by8 o 0), .int .u8 (by8 o 1), .int .u8 (by8 o 2), .int .u8 (by8 o 3), .int .u8 (by8 o 4), .int .u8 (by8 o 5), .int .u8 (by8 o 6), .int .u8 (by8 o 7)]⟩ : Blk), (⟨w.heap.size, 24, #[.int .u8 (by8 k 0), .int .u8 (by8 k 1), .int .u8 (by8 k 2), .int .u8 (by8 k 3), .int .u8 (by8 k 4), .int .u8 (by8 k 5), .int .u8 (by8 k 6), .int .u8 (by8 k 7)]⟩ : Blk)] := HM2.out.of_below hB3
  have cO3 := M3.cell (b := w.heap.size + 1) (t := 24) (cs := #[.int .u8 (by8 o 0), .int .u8 (by8 o 1), .int .u8 (by8 o 2), .int .u8 (by8 o 3), .int .u8 (by8 o 4), .int .u8 (by8 o 5), .int .u8 (by8 o 6), .int .u8 (by8 o 7)]) (by simp)
  have lO3 : w.heap.size + 1 < W3.heap.size := M3.lt (x := (⟨w.heap.size + 1, 24, #[.int .u8 (by8 o 0), .int .u8 (by8 o 1), .int .u8 (by8 o 2), .int .u8 (by8 o 3), .int .u8 (by8 o 4), .int .u8 (by8 o 5), .int .u8 (by8 o 6), .int .u8 (by8 o 7)]⟩ : Blk)) (by simp)
  have HB3 := Lib.hid (HB2.out.below hB3)
  have HU3 := Lib.hid (HU2.out.below hB3)
  have HP3 := Lib.hid A3.bsl
  have HM3 := Lib.hid M3
  clear cO2 lO2 HM2 HB2 HU2 hB3 A3 M3
  go_wp2_with fail
  refine (refOpen_any o b y hyl z er HO.out W3 HB3.out).mono ?_
  rintro e W4 ⟨q, rfl, hB4, A4⟩
  have M4 : Mem W4 w [(⟨w.heap.size + 1, 24, #[.int .u8 (by8 o 0), .int .u8 (by8 o 1), .int .u8 (by8 o 2), .int .u8 (by8 o 3), .int .u8 (by8 o 4), .int .u8 (by8 o 5), .int .u8 (by8 o 6), .int .u8 (by8 o 7)]⟩ : Blk), (⟨w.heap.size, 24, #[.int .u8 (by8 k 0), .int .u8 (by8 k 1), .int .u8 (by8 k 2), .int .u8 (by8 k 3), .int .u8 (by8 k 4), .int .u8 (by8 k 5), .int .u8 (by8 k 6), .int .u8 (by8 k 7)]⟩ : Blk)] := HM3.out.of_below hB4
  have cO4 := M4.cell (b := w.heap.size + 1) (t := 24) (cs := #[.int .u8 (by8 o 0), .int .u8 (by8 o 1), .int .u8 (by8 o 2), .int .u8 (by8 o 3), .int .u8 (by8 o 4), .int .u8 (by8 o 5), .int .u8 (by8 o 6), .int .u8 (by8 o 7)]) (by simp)
  have lO4 : w.heap.size + 1 < W4.heap.size := M4.lt (x := (⟨w.heap.size + 1, 24, #[.int .u8 (by8 o 0), .int .u8 (by8 o 1), .int .u8 (by8 o 2), .int .u8 (by8 o 3), .int .u8 (by8 o 4), .int .u8 (by8 o 5), .int .u8 (by8 o 6), .int .u8 (by8 o 7)]⟩ : Blk)) (by simp)
  have cK4 := M4.cell (b := w.heap.size) (t := 24) (cs := #[.int .u8 (by8 k 0), .int .u8 (by8 k 1), .int .u8 (by8 k 2), .int .u8 (by8 k 3), .int .u8 (by8 k 4), .int .u8 (by8 k 5), .int .u8 (by8 k 6), .int .u8 (by8 k 7)]) (by simp)
  have lK4 : w.heap.size < W4.heap.size := M4.lt (x := (⟨w.heap.size, 24, #[.int .u8 (by8 k 0), .int .u8 (by8 k 1), .int .u8 (by8 k 2), .int .u8 (by8 k 3), .int .u8 (by8 k 4), .int .u8 (by8 k 5), .int .u8 (by8 k 6), .int .u8 (by8 k 7)]⟩ : Blk)) (by simp)
  have HU4 := Lib.hid (HU3.out.below hB4)
  have HP4 := Lib.hid (HP3.out.below hB4)
  have HQ4 := Lib.hid A4.bsl
  have HBW := Lib.hid (M4.below (New.cons (Nat.le_succ _) (New.cons (Nat.le_refl _) (New.nil _))))
  clear cO3 lO3 HM3 HB3 HU3 HP3 hB4 A4 M4
  go_wp2_with fail
  refine (told_any _).mono ?_
  rintro e w5 ⟨rfl, hb5⟩; obtain ⟨g5, d5, rfl⟩ := plus_of_below hb5; clear hb5
  have hsp := run_str' _ p z (HP4.out.plus g5 d5)
  have hsq := run_str' _ q z (HQ4.out.plus g5 d5)
  have hsu := run_str' _ u x (HU4.out.plus g5 d5)
  by_cases hok : o = k
  · obtain ⟨rfl, rfl⟩ := HSM.out hok
    subst hok
    go_wp2
    go_ret
    exact ⟨rfl, bplus HBW.out _ _⟩
  · have hq : (o == k) = false := by simpa using hok
    go_wp2
    go_ret
    exact ⟨rfl, bplus HBW.out _ _⟩

end Go.Proofs.Ythdcfdfpfagamaa
