/- The law TowerSees: its walk. -/
import Derived.Test.YtghaiplhakeahaaYr
import Derived.Test.YtghaiplhakeahaaYt
namespace Go.Proofs.Ytghaiplhakeahaa
set_option linter.unusedSimpArgs false
set_option linter.unusedVariables false
open Go.RowKit Go.WideMaps Go.ChangeMaps Go.Maps

theorem idx_other (a : AP) (x : BitVec 64) (h : a.h ≠ x) : idx [a] x = none := by
  unfold idx
  rw [List.findIdx?_cons]
  simp [h]
theorem takeE_first (room : Nat) (hr : 1 ≤ room) (a : AP) (hn : isNum a.n = true) (h8 : 8 ≤ a.l.length) (hl : a.l.length ≤ 32776) : takeE ⟨room, []⟩ a = 0 := by
  unfold takeE
  rw [if_neg (by simp [hn]), if_neg (by omega), if_neg (by omega)]
  have : idx ([] : List AP) a.h = none := rfl
  simp only [this]
  rw [if_neg (by simp; omega)]
theorem takeT_first (room : Nat) (a : AP) (h : takeE ⟨room, []⟩ a = 0) : takeT ⟨room, []⟩ a = ⟨room, [a]⟩ := by
  unfold takeT
  rw [if_pos h]
  have : idx ([] : List AP) a.h = none := rfl
  simp only [this]
  rfl
theorem by8_zT (i : Nat) : by8 0#64 i = 0 := by
  have h := by8_bd 0#64 i
  simp [by8_eq]
set_option maxRecDepth 100000 in
set_option maxHeartbeats 4000000 in
theorem towerSees_any (x o : BitVec 64) (n b : Int) (s : ByteArray) (bl : Bool) (hsz : s.size ≤ maxLen) (w : World) :
    Calls Try.prog 4 #[.agg #[.int .u8 (by8 x 0), .int .u8 (by8 x 1), .int .u8 (by8 x 2), .int .u8 (by8 x 3), .int .u8 (by8 x 4), .int .u8 (by8 x 5), .int .u8 (by8 x 6), .int .u8 (by8 x 7)], .agg #[.int .u8 (by8 o 0), .int .u8 (by8 o 1), .int .u8 (by8 o 2), .int .u8 (by8 o 3), .int .u8 (by8 o 4), .int .u8 (by8 o 5), .int .u8 (by8 o 6), .int .u8 (by8 o 7)], .agg #[.int .i64 n, .int .i64 b, .string s, .bool bl]] w fun e w' => e = .returned (.bool true) ∧ Below w.heap.size w w' := by
  have hml : s.size ≤ 9223372036854775807 := by unfold maxLen at hsz; omega
  clear hsz
  by_cases h300 : 300 < s.size
  · have hd : decide ((300 : Int) < (s.size : Int)) = true := decide_eq_true (by omega)
    go_enter Try.func4, Try.ntmps4
    go_wp2_with fail
    refine wp_region_rq (by kernel_rfl) (by kernel_rfl) (by kernel_rfl) ?_
    repeat (first
      | (refine B_skip ?_ ?_; (· rfl); (try simp only [Act.put, List.setIfInBounds_toArray, List.set_cons_zero, List.set_cons_succ]))
      | (refine B_move rfl ?_ ?_; (· rfl); (try simp only [Act.eval, Act.put, Array.getD_eq_getD_getElem?, List.getElem?_toArray, List.getElem?_cons_succ, List.getElem?_cons_zero, Option.getD_some, List.setIfInBounds_toArray, List.set_cons_zero, List.set_cons_succ]))
      | (refine B_plain ?_ ?_; (· rfl); intro K hK; go_big_quiet_op; with_reducible refine hK _ ?_; clear hK K)
      | (fail))
    refine B_nil ?_ rfl ?_ ?_
    · kernel_rfl
    · rfl
    rintro _ ⟨⟨g1, d1⟩, rfl⟩
    simp only [fin, Act.put, List.setIfInBounds_toArray, List.set_cons_zero, List.set_cons_succ]
    go_wp2_with fail
    refine wp_region_rq (by kernel_rfl) (by kernel_rfl) (by kernel_rfl) ?_
    repeat (first
      | (refine B_skip ?_ ?_; (· rfl); (try simp only [Act.put, List.setIfInBounds_toArray, List.set_cons_zero, List.set_cons_succ]))
      | (refine B_move rfl ?_ ?_; (· rfl); (try simp only [Act.eval, Act.put, Array.getD_eq_getD_getElem?, List.getElem?_toArray, List.getElem?_cons_succ, List.getElem?_cons_zero, Option.getD_some, List.setIfInBounds_toArray, List.set_cons_zero, List.set_cons_succ]))
      | (refine B_plain ?_ ?_; (· rfl); intro K hK; go_big_quiet_op; with_reducible refine hK _ ?_; clear hK K)
      | (fail))
    refine B_nil ?_ rfl ?_ ?_
    · kernel_rfl
    · rfl
    rintro _ ⟨⟨g2, d2⟩, rfl⟩
    simp only [fin, Act.put, List.setIfInBounds_toArray, List.set_cons_zero, List.set_cons_succ]
    go_wp2_with fail
    refine (told51_to _).mono ?_
    rintro e w3 ⟨rfl, hb3⟩; obtain ⟨g3, d3, rfl⟩ := plus_of_below hb3; clear hb3
    go_wp2
    go_ret
    exact ⟨rfl, by (repeat' (first | (with_reducible exact Below.refl _ _) | (with_reducible refine bplus ?_ _ _) | (with_reducible refine balloc ?_ _) | (with_reducible refine Below.drew ?_) | (with_reducible refine bdrewN ?_ _) | (with_reducible refine Below.setCell ?_ (by go_size) _)))⟩
  have hd : decide ((300 : Int) < (s.size : Int)) = false := decide_eq_false (by omega)
  by_cases hne0 : thintF x = thintF o
  · have hne : (thintF x == thintF o) = true := by rw [hne0]; simp
    clear hne0
    obtain ⟨hx, HX⟩ : ∃ h, Hid (thintF x = h) := ⟨_, rfl⟩
    obtain ⟨hy, HY⟩ : ∃ h, Hid (thintF o = h) := ⟨_, rfl⟩
    have HO := Lib.hid ((((Ow.start w).key #[.int .u8 (by8 x 0), .int .u8 (by8 x 1), .int .u8 (by8 x 2), .int .u8 (by8 x 3), .int .u8 (by8 x 4), .int .u8 (by8 x 5), .int .u8 (by8 x 6), .int .u8 (by8 x 7)] 22 w.heap.size rfl).key #[.int .u8 (by8 o 0), .int .u8 (by8 o 1), .int .u8 (by8 o 2), .int .u8 (by8 o 3), .int .u8 (by8 o 4), .int .u8 (by8 o 5), .int .u8 (by8 o 6), .int .u8 (by8 o 7)] 22 (w.heap.size + 1) (by simp)).key #[.int .i64 n, .int .i64 b, .string s, .bool bl] 24 (w.heap.size + 1 + 1) (by simp))
    rw [HX.out, HY.out] at hne
    go_enter Try.func4, Try.ntmps4
    go_wp2_with fail
    refine wp_region_rq (by kernel_rfl) (by kernel_rfl) (by kernel_rfl) ?_
    repeat (first
      | (refine B_skip ?_ ?_; (· rfl); (try simp only [Act.put, List.setIfInBounds_toArray, List.set_cons_zero, List.set_cons_succ]))
      | (refine B_move rfl ?_ ?_; (· rfl); (try simp only [Act.eval, Act.put, Array.getD_eq_getD_getElem?, List.getElem?_toArray, List.getElem?_cons_succ, List.getElem?_cons_zero, Option.getD_some, List.setIfInBounds_toArray, List.set_cons_zero, List.set_cons_succ]))
      | (refine B_plain ?_ ?_; (· rfl); intro K hK; go_big_quiet_op; with_reducible refine hK _ ?_; clear hK K)
      | (fail))
    refine B_nil ?_ rfl ?_ ?_
    · kernel_rfl
    · rfl
    rintro _ ⟨⟨g1, d1⟩, rfl⟩
    simp only [fin, Act.put, List.setIfInBounds_toArray, List.set_cons_zero, List.set_cons_succ]
    go_wp2_with fail
    refine wp_region_rq (by kernel_rfl) (by kernel_rfl) (by kernel_rfl) ?_
    repeat (first
      | (refine B_skip ?_ ?_; (· rfl); (try simp only [Act.put, List.setIfInBounds_toArray, List.set_cons_zero, List.set_cons_succ]))
      | (refine B_move rfl ?_ ?_; (· rfl); (try simp only [Act.eval, Act.put, Array.getD_eq_getD_getElem?, List.getElem?_toArray, List.getElem?_cons_succ, List.getElem?_cons_zero, Option.getD_some, List.setIfInBounds_toArray, List.set_cons_zero, List.set_cons_succ]))
      | (refine B_plain ?_ ?_; (· rfl); intro K hK; go_big_quiet_op; with_reducible refine hK _ ?_; clear hK K)
      | (refine B_callX (v := ?_) (f := 19) rfl (by kernel_rfl) ?_ (fun xq => ?_) ?_; rotate_left; (· rfl); (· ((simp only [List.map_toArray, List.map_cons, List.map_nil, Act.eval, Array.getD_eq_getD_getElem?, List.getElem?_toArray, List.getElem?_cons_succ, List.getElem?_cons_zero, Option.getD_some]); with_reducible apply retB; with_reducible exact (rhint_to x hx HX.out _))); (try simp only [Act.put, List.setIfInBounds_toArray, List.set_cons_zero, List.set_cons_succ]))
      | (refine B_callX (v := ?_) (f := 19) rfl (by kernel_rfl) ?_ (fun xq => ?_) ?_; rotate_left; (· rfl); (· ((simp only [List.map_toArray, List.map_cons, List.map_nil, Act.eval, Array.getD_eq_getD_getElem?, List.getElem?_toArray, List.getElem?_cons_succ, List.getElem?_cons_zero, Option.getD_some]); with_reducible apply retB; with_reducible exact (rhint_to o hy HY.out _))); (try simp only [Act.put, List.setIfInBounds_toArray, List.set_cons_zero, List.set_cons_succ])))
    refine B_nil ?_ rfl ?_ ?_
    · kernel_rfl
    · rfl
    rintro _ ⟨⟨g2, d2⟩, rfl⟩
    simp only [fin, Act.put, List.setIfInBounds_toArray, List.set_cons_zero, List.set_cons_succ]
    go_wp2_with fail
    refine (told51_to _).mono ?_
    rintro e w3 ⟨rfl, hb3⟩; obtain ⟨g3, d3, rfl⟩ := plus_of_below hb3; clear hb3
    go_wp2
    go_ret
    exact ⟨rfl, by (repeat' (first | (with_reducible exact Below.refl _ _) | (with_reducible refine bplus ?_ _ _) | (with_reducible refine balloc ?_ _) | (with_reducible refine Below.drew ?_) | (with_reducible refine bdrewN ?_ _) | (with_reducible refine Below.setCell ?_ (by go_size) _)))⟩
  have hne : (thintF x == thintF o) = false := by rw [beq_eq_false_iff_ne]; exact hne0
  have HNE := Lib.hid hne0
  obtain ⟨bv, bg, bd, hconv, hB⟩ := conv_fn s
  have HCB2 : Hid (∀ A g g' d, BSl (plus A (g ++ (g' ++ bg (plus A (g ++ g') d))) (bd (plus A (g ++ g') d))) (bv (plus A (g ++ g') d)) (strL s)) := fun A g g' d => by
    have := hB (plus A (g ++ g') d)
    rwa [plus_plus, Array.append_assoc] at this
  clear hB hne0
  have hl300 : (strL s).length ≤ 32768 := by rw [strL_len]; omega
  by_cases hn : isNum n = false
  · obtain ⟨hx, HX⟩ : ∃ h, Hid (thintF x = h) := ⟨_, rfl⟩
    obtain ⟨hy, HY⟩ : ∃ h, Hid (thintF o = h) := ⟨_, rfl⟩
    have HN := Lib.hid hn
    clear hn
    have HO := Lib.hid ((((Ow.start w).key #[.int .u8 (by8 x 0), .int .u8 (by8 x 1), .int .u8 (by8 x 2), .int .u8 (by8 x 3), .int .u8 (by8 x 4), .int .u8 (by8 x 5), .int .u8 (by8 x 6), .int .u8 (by8 x 7)] 22 w.heap.size rfl).key #[.int .u8 (by8 o 0), .int .u8 (by8 o 1), .int .u8 (by8 o 2), .int .u8 (by8 o 3), .int .u8 (by8 o 4), .int .u8 (by8 o 5), .int .u8 (by8 o 6), .int .u8 (by8 o 7)] 22 (w.heap.size + 1) (by simp)).key #[.int .i64 n, .int .i64 b, .string s, .bool bl] 24 (w.heap.size + 1 + 1) (by simp))
    rw [HX.out, HY.out] at hne
    go_enter Try.func4, Try.ntmps4
    go_wp2_with fail
    refine wp_region_rq (by kernel_rfl) (by kernel_rfl) (by kernel_rfl) ?_
    repeat (first
      | (refine B_skip ?_ ?_; (· rfl); (try simp only [Act.put, List.setIfInBounds_toArray, List.set_cons_zero, List.set_cons_succ]))
      | (refine B_move rfl ?_ ?_; (· rfl); (try simp only [Act.eval, Act.put, Array.getD_eq_getD_getElem?, List.getElem?_toArray, List.getElem?_cons_succ, List.getElem?_cons_zero, Option.getD_some, List.setIfInBounds_toArray, List.set_cons_zero, List.set_cons_succ]))
      | (refine B_plain ?_ ?_; (· rfl); intro K hK; go_big_quiet_op; with_reducible refine hK _ ?_; clear hK K)
      | (fail))
    refine B_nil ?_ rfl ?_ ?_
    · kernel_rfl
    · rfl
    rintro _ ⟨⟨g1, d1⟩, rfl⟩
    simp only [fin, Act.put, List.setIfInBounds_toArray, List.set_cons_zero, List.set_cons_succ]
    go_wp2_with fail
    refine wp_region_rq (by kernel_rfl) (by kernel_rfl) (by kernel_rfl) ?_
    repeat (first
      | (refine B_skip ?_ ?_; (· rfl); (try simp only [Act.put, List.setIfInBounds_toArray, List.set_cons_zero, List.set_cons_succ]))
      | (refine B_move rfl ?_ ?_; (· rfl); (try simp only [Act.eval, Act.put, Array.getD_eq_getD_getElem?, List.getElem?_toArray, List.getElem?_cons_succ, List.getElem?_cons_zero, Option.getD_some, List.setIfInBounds_toArray, List.set_cons_zero, List.set_cons_succ]))
      | (refine B_plain ?_ ?_; (· rfl); intro K hK; go_big_quiet_op; with_reducible refine hK _ ?_; clear hK K)
      | (refine B_callX (v := ?_) (f := 19) rfl (by kernel_rfl) ?_ (fun xq => ?_) ?_; rotate_left; (· rfl); (· ((simp only [List.map_toArray, List.map_cons, List.map_nil, Act.eval, Array.getD_eq_getD_getElem?, List.getElem?_toArray, List.getElem?_cons_succ, List.getElem?_cons_zero, Option.getD_some]); with_reducible apply retB; with_reducible exact (rhint_to x hx HX.out _))); (try simp only [Act.put, List.setIfInBounds_toArray, List.set_cons_zero, List.set_cons_succ]))
      | (refine B_callX (v := ?_) (f := 19) rfl (by kernel_rfl) ?_ (fun xq => ?_) ?_; rotate_left; (· rfl); (· ((simp only [List.map_toArray, List.map_cons, List.map_nil, Act.eval, Array.getD_eq_getD_getElem?, List.getElem?_toArray, List.getElem?_cons_succ, List.getElem?_cons_zero, Option.getD_some]); with_reducible apply retB; with_reducible exact (rhint_to o hy HY.out _))); (try simp only [Act.put, List.setIfInBounds_toArray, List.set_cons_zero, List.set_cons_succ])))
    refine B_nil ?_ rfl ?_ ?_
    · kernel_rfl
    · rfl
    rintro _ ⟨⟨g2, d2⟩, rfl⟩
    simp only [fin, Act.put, List.setIfInBounds_toArray, List.set_cons_zero, List.set_cons_succ]
    have HO2 := Lib.hid HO.out.drop1
    clear HO
    go_wp2_with fail
    refine (make_range x n _ HN.out _).mono ?_
    rintro e w3 ⟨rfl, hb3⟩
    have HO3 := Lib.hid ((Ow.of_below (HO2.out.of_below (by (repeat' (first | (with_reducible exact Below.refl _ _) | (with_reducible refine bplus ?_ _ _) | (with_reducible refine balloc ?_ _) | (with_reducible refine Below.drew ?_) | (with_reducible refine bdrewN ?_ _) | (with_reducible refine Below.setCell ?_ (by go_size) _))))) hb3).key #[.int .u8 0, .int .u8 0, .int .u8 0, .int .u8 0, .int .u8 0, .int .u8 0, .int .u8 0, .int .u8 0, .int .i64 0, .slice none 0 0] 29 w3.heap.size rfl)
    clear hb3 HO2 hconv
    go_wp2_with fail
    have HOm : Hid (Omw _ w _ []) := ⟨HO3.out, by simp, by simp, by simp, .nil⟩
    refine (tnew_to 1 (by omega) (by omega) _ w _ [] HOm.out).mono ?_
    rintro e w4 ⟨p, B, k, rfl, O4, hP⟩
    have h4 : Tw w4 w (⟨w3.heap.size, 29, #[.int .u8 0, .int .u8 0, .int .u8 0, .int .u8 0, .int .u8 0, .int .u8 0, .int .u8 0, .int .u8 0, .int .i64 0, .slice none 0 0]⟩ :: [⟨w.heap.size + 1, 22, #[.int .u8 (by8 o 0), .int .u8 (by8 o 1), .int .u8 (by8 o 2), .int .u8 (by8 o 3), .int .u8 (by8 o 4), .int .u8 (by8 o 5), .int .u8 (by8 o 6), .int .u8 (by8 o 7)]⟩, ⟨w.heap.size, 22, #[.int .u8 (by8 x 0), .int .u8 (by8 x 1), .int .u8 (by8 x 2), .int .u8 (by8 x 3), .int .u8 (by8 x 4), .int .u8 (by8 x 5), .int .u8 (by8 x 6), .int .u8 (by8 x 7)]⟩]) [] [] p ⟨1, []⟩ := ⟨B, k, O4, hP []⟩
    have H4 := Lib.hid h4
    have hq := h4.has (List.mem_cons_self ..)
    (have a0 := hq.cell 0); (have a1 := hq.cell 1); (have a2 := hq.cell 2); (have a3 := hq.cell 3); (have a4 := hq.cell 4); (have a5 := hq.cell 5); (have a6 := hq.cell 6); (have a7 := hq.cell 7); (have a8 := hq.cell 8); (have a9 := hq.cell 9); (have la := hq.lt)
    simp only [List.getElem?_toArray, List.getElem?_cons_succ, List.getElem?_cons_zero] at a0 a1 a2 a3 a4 a5 a6 a7 a8 a9
    clear hq h4 O4 hP HO3 HOm
    go_wp2_with fail
    have h0 : (#[.int .u8 0, .int .u8 0, .int .u8 0, .int .u8 0, .int .u8 0, .int .u8 0, .int .u8 0, .int .u8 0, .int .i64 0, .slice none 0 0] : Array Value) = #[.int .u8 (by8 0#64 0), .int .u8 (by8 0#64 1), .int .u8 (by8 0#64 2), .int .u8 (by8 0#64 3), .int .u8 (by8 0#64 4), .int .u8 (by8 0#64 5), .int .u8 (by8 0#64 6), .int .u8 (by8 0#64 7), .int .i64 0, .slice none 0 0] := by simp [by8_zT]
    rw [h0]
    refine (take_form p 0#64 0 none 0 0 (by omega) rfl _).mono ?_
    rintro e w5 ⟨rfl, hb5⟩
    have HB5 := Lib.hid (H4.out.of_below hb5).below
    clear hb5 H4 h0 a0 a1 a2 a3 a4 a5 a6 a7 a8 a9 la
    go_wp2_with fail
    refine (told51_to _).mono ?_
    rintro e w6 ⟨rfl, hb6⟩
    have HB6 := Lib.hid (HB5.out.trans (hb6.mono HB5.out.size))
    clear hb6 HB5
    go_wp2
    go_ret
    exact ⟨rfl, HB6.out⟩
  have hn1 : isNum n = true := by simpa using hn
  obtain ⟨y, HYB⟩ : ∃ y, Hid (tboxF x (strL s) = y) := ⟨_, rfl⟩
  have hyl : y.length = 8 + s.size := by rw [← HYB.out]; unfold tboxF; rw [sealF_len, strL_len]
  obtain ⟨hx, HX⟩ : ∃ h, Hid (thintF x = h) := ⟨_, rfl⟩
  obtain ⟨hy, HY⟩ : ∃ h, Hid (thintF o = h) := ⟨_, rfl⟩
  have HN := Lib.hid hn1
  have HE1 : Hid (takeE ⟨1, []⟩ ⟨hx, n, y⟩ = 0) := takeE_first 1 (by omega) ⟨hx, n, y⟩ hn1 (by show 8 ≤ y.length; omega) (by show y.length ≤ 32776; omega)
  have HT1 : Hid (takeT ⟨1, []⟩ ⟨hx, n, y⟩ = ⟨1, [⟨hx, n, y⟩]⟩) := takeT_first 1 _ HE1.out
  have HOK : Hid (TOk ⟨1, [⟨hx, n, y⟩]⟩) := by show TOk _; rw [← HT1.out]; exact (TOk.new 1 (by omega)).take _
  have HS1 : Hid (seeT ⟨1, [⟨hx, n, y⟩]⟩ x b = if n ≤ b then ([], false) else (strL s, true)) := seeT_sealed _ x 0 b n (strL s) (by omega) (idx_one _ _ HX.out.symm) hx (by rw [← HYB.out]; rfl)
  have HS2 : Hid (seeT ⟨1, [⟨hx, n, y⟩]⟩ o (-1) = ([], false)) := by
    show _ = _
    unfold seeT
    have : idx [(⟨hx, n, y⟩ : AP)] (thintF o) = none := idx_other _ _ (by rw [← HX.out]; exact HNE.out)
    simp only [this]
  clear hn hn1 hyl
  by_cases hnb : n ≤ b
  · have HS : Hid (seeT ⟨1, [⟨hx, n, y⟩]⟩ x b = ([], false)) := by show _ = _; rw [HS1.out, if_pos hnb]
    have hdn : decide (b < n) = false := decide_eq_false (by omega)
    have HO := Lib.hid ((((Ow.start w).key #[.int .u8 (by8 x 0), .int .u8 (by8 x 1), .int .u8 (by8 x 2), .int .u8 (by8 x 3), .int .u8 (by8 x 4), .int .u8 (by8 x 5), .int .u8 (by8 x 6), .int .u8 (by8 x 7)] 22 w.heap.size rfl).key #[.int .u8 (by8 o 0), .int .u8 (by8 o 1), .int .u8 (by8 o 2), .int .u8 (by8 o 3), .int .u8 (by8 o 4), .int .u8 (by8 o 5), .int .u8 (by8 o 6), .int .u8 (by8 o 7)] 22 (w.heap.size + 1) (by simp)).key #[.int .i64 n, .int .i64 b, .string s, .bool bl] 24 (w.heap.size + 1 + 1) (by simp))
    rw [HX.out, HY.out] at hne
    go_enter Try.func4, Try.ntmps4
    go_wp2_with fail
    refine wp_region_rq (by kernel_rfl) (by kernel_rfl) (by kernel_rfl) ?_
    repeat (first
      | (refine B_skip ?_ ?_; (· rfl); (try simp only [Act.put, List.setIfInBounds_toArray, List.set_cons_zero, List.set_cons_succ]))
      | (refine B_move rfl ?_ ?_; (· rfl); (try simp only [Act.eval, Act.put, Array.getD_eq_getD_getElem?, List.getElem?_toArray, List.getElem?_cons_succ, List.getElem?_cons_zero, Option.getD_some, List.setIfInBounds_toArray, List.set_cons_zero, List.set_cons_succ]))
      | (refine B_plain ?_ ?_; (· rfl); intro K hK; go_big_quiet_op; with_reducible refine hK _ ?_; clear hK K)
      | (fail))
    refine B_nil ?_ rfl ?_ ?_
    · kernel_rfl
    · rfl
    rintro _ ⟨⟨g1, d1⟩, rfl⟩
    simp only [fin, Act.put, List.setIfInBounds_toArray, List.set_cons_zero, List.set_cons_succ]
    go_wp2_with fail
    refine wp_region_rq (by kernel_rfl) (by kernel_rfl) (by kernel_rfl) ?_
    repeat (first
      | (refine B_skip ?_ ?_; (· rfl); (try simp only [Act.put, List.setIfInBounds_toArray, List.set_cons_zero, List.set_cons_succ]))
      | (refine B_move rfl ?_ ?_; (· rfl); (try simp only [Act.eval, Act.put, Array.getD_eq_getD_getElem?, List.getElem?_toArray, List.getElem?_cons_succ, List.getElem?_cons_zero, Option.getD_some, List.setIfInBounds_toArray, List.set_cons_zero, List.set_cons_succ]))
      | (refine B_plain ?_ ?_; (· rfl); intro K hK; go_big_quiet_op; with_reducible refine hK _ ?_; clear hK K)
      | (refine B_callX (v := ?_) (f := 19) rfl (by kernel_rfl) ?_ (fun xq => ?_) ?_; rotate_left; (· rfl); (· ((simp only [List.map_toArray, List.map_cons, List.map_nil, Act.eval, Array.getD_eq_getD_getElem?, List.getElem?_toArray, List.getElem?_cons_succ, List.getElem?_cons_zero, Option.getD_some]); with_reducible apply retB; with_reducible exact (rhint_to x hx HX.out _))); (try simp only [Act.put, List.setIfInBounds_toArray, List.set_cons_zero, List.set_cons_succ]))
      | (refine B_callX (v := ?_) (f := 19) rfl (by kernel_rfl) ?_ (fun xq => ?_) ?_; rotate_left; (· rfl); (· ((simp only [List.map_toArray, List.map_cons, List.map_nil, Act.eval, Array.getD_eq_getD_getElem?, List.getElem?_toArray, List.getElem?_cons_succ, List.getElem?_cons_zero, Option.getD_some]); with_reducible apply retB; with_reducible exact (rhint_to o hy HY.out _))); (try simp only [Act.put, List.setIfInBounds_toArray, List.set_cons_zero, List.set_cons_succ])))
    refine B_nil ?_ rfl ?_ ?_
    · kernel_rfl
    · rfl
    rintro _ ⟨⟨g2, d2⟩, rfl⟩
    simp only [fin, Act.put, List.setIfInBounds_toArray, List.set_cons_zero, List.set_cons_succ]
    have HO2 := Lib.hid HO.out.drop1
    clear HO
    go_wp2_with fail
    refine (make_to x n _ (strL s) HN.out hl300 hx HX.out y HYB.out _ (HCB2.out _ _ _ _)).mono ?_
    rintro e w3 ⟨u, rfl, hb3, hu⟩
    obtain ⟨NB, O3, hm⟩ := hu.found (HO2.out.of_below (by (repeat' (first | (with_reducible exact Below.refl _ _) | (with_reducible refine bplus ?_ _ _) | (with_reducible refine balloc ?_ _) | (with_reducible refine Below.drew ?_) | (with_reducible refine bdrewN ?_ _) | (with_reducible refine Below.setCell ?_ (by go_size) _))))) (Ext.of_below hb3)
    obtain ⟨au, cu, rfl⟩ := (hm w).slice
    have HM := Lib.hid (hm w)
    have HO3 := Lib.hid (O3.key #[.int .u8 (by8 hx 0), .int .u8 (by8 hx 1), .int .u8 (by8 hx 2), .int .u8 (by8 hx 3), .int .u8 (by8 hx 4), .int .u8 (by8 hx 5), .int .u8 (by8 hx 6), .int .u8 (by8 hx 7), .int .i64 n, .slice au y.length cu] 29 w3.heap.size rfl)
    clear hb3 hu O3 hm HO2 hconv
    go_wp2_with fail
    have HOm : Hid (Omw _ w _ []) := ⟨HO3.out, by simp, by simp, by simp, .nil⟩
    refine (tnew_to 1 (by omega) (by omega) _ w _ [] HOm.out).mono ?_
    rintro e w4 ⟨p, B, k, rfl, O4, hP⟩
    have h4 : Tw w4 w (⟨w3.heap.size, 29, #[.int .u8 (by8 hx 0), .int .u8 (by8 hx 1), .int .u8 (by8 hx 2), .int .u8 (by8 hx 3), .int .u8 (by8 hx 4), .int .u8 (by8 hx 5), .int .u8 (by8 hx 6), .int .u8 (by8 hx 7), .int .i64 n, .slice au y.length cu]⟩ :: (NB ++ [⟨w.heap.size + 1, 22, #[.int .u8 (by8 o 0), .int .u8 (by8 o 1), .int .u8 (by8 o 2), .int .u8 (by8 o 3), .int .u8 (by8 o 4), .int .u8 (by8 o 5), .int .u8 (by8 o 6), .int .u8 (by8 o 7)]⟩, ⟨w.heap.size, 22, #[.int .u8 (by8 x 0), .int .u8 (by8 x 1), .int .u8 (by8 x 2), .int .u8 (by8 x 3), .int .u8 (by8 x 4), .int .u8 (by8 x 5), .int .u8 (by8 x 6), .int .u8 (by8 x 7)]⟩])) [] [] p ⟨1, []⟩ := ⟨B, k, O4.perm (perm_cnt fun x => by simp only [cnt_append, cnt_cons, cnt_nil] <;> omega), hP []⟩
    have H4 := Lib.hid h4
    have hq := h4.has (List.mem_cons_self ..)
    (have a0 := hq.cell 0); (have a1 := hq.cell 1); (have a2 := hq.cell 2); (have a3 := hq.cell 3); (have a4 := hq.cell 4); (have a5 := hq.cell 5); (have a6 := hq.cell 6); (have a7 := hq.cell 7); (have a8 := hq.cell 8); (have a9 := hq.cell 9); (have la := hq.lt)
    simp only [List.getElem?_toArray, List.getElem?_cons_succ, List.getElem?_cons_zero] at a0 a1 a2 a3 a4 a5 a6 a7 a8 a9
    clear hq h4 O4 hP HO3 HOm
    go_wp2_with fail
    refine (take_to p ⟨1, []⟩ (TOk.new 1 (by omega)) hx n _ y _ w _ [] [] H4.out (H4.out.bsl HM.out (sub_cnt fun x => by simp only [cnt_append, cnt_cons, cnt_nil]; omega)) 0 HE1.out _ HT1.out).mono ?_
    rintro e w5 ⟨rfl, N, h5⟩
    have H5 := Lib.hid h5
    have hqx := h5.has (b := w.heap.size) (t := 22) (cs := #[.int .u8 (by8 x 0), .int .u8 (by8 x 1), .int .u8 (by8 x 2), .int .u8 (by8 x 3), .int .u8 (by8 x 4), .int .u8 (by8 x 5), .int .u8 (by8 x 6), .int .u8 (by8 x 7)]) (by simp)
    (have x0 := hqx.cell 0); (have x1 := hqx.cell 1); (have x2 := hqx.cell 2); (have x3 := hqx.cell 3); (have x4 := hqx.cell 4); (have x5 := hqx.cell 5); (have x6 := hqx.cell 6); (have x7 := hqx.cell 7); (have lx := hqx.lt)
    simp only [List.getElem?_toArray, List.getElem?_cons_succ, List.getElem?_cons_zero] at x0 x1 x2 x3 x4 x5 x6 x7
    clear h5 hqx a0 a1 a2 a3 a4 a5 a6 a7 a8 a9 la H4
    go_wp2_with fail
    refine (see_to p _ HOK.out x b _ w _ _ [] H5.out [] false HS.out).mono ?_
    rintro e w6 ⟨u6, rfl, hb6, hu6⟩
    have h6 := H5.out.of_below hb6
    have H6 := Lib.hid h6
    have HU := Lib.hid hu6.bsl
    have hqx := h6.has (b := w.heap.size + 1) (t := 22) (cs := #[.int .u8 (by8 o 0), .int .u8 (by8 o 1), .int .u8 (by8 o 2), .int .u8 (by8 o 3), .int .u8 (by8 o 4), .int .u8 (by8 o 5), .int .u8 (by8 o 6), .int .u8 (by8 o 7)]) (by simp)
    clear x0 x1 x2 x3 x4 x5 x6 x7 lx
    (have x0 := hqx.cell 0); (have x1 := hqx.cell 1); (have x2 := hqx.cell 2); (have x3 := hqx.cell 3); (have x4 := hqx.cell 4); (have x5 := hqx.cell 5); (have x6 := hqx.cell 6); (have x7 := hqx.cell 7); (have lx := hqx.lt)
    simp only [List.getElem?_toArray, List.getElem?_cons_succ, List.getElem?_cons_zero] at x0 x1 x2 x3 x4 x5 x6 x7
    clear h6 hqx hb6 hu6 H5
    go_wp2_with fail
    refine (see_to p _ HOK.out o (-1) _ w _ _ [] H6.out [] false HS2.out).mono ?_
    rintro e w7 ⟨u7, rfl, hb7, -⟩
    have HB7 := Lib.hid (H6.out.of_below hb7).below
    clear x0 x1 x2 x3 x4 x5 x6 x7 lx H6
    go_wp2_with fail
    refine (told51_to _).mono ?_
    rintro e w8 ⟨rfl, hb8⟩
    have HB8 := Lib.hid (HB7.out.trans (hb8.mono HB7.out.size))
    clear hb8 HB7
    go_wp2
    go_ret
    exact ⟨rfl, HB8.out⟩
  · have HS : Hid (seeT ⟨1, [⟨hx, n, y⟩]⟩ x b = (strL s, true)) := by show _ = _; rw [HS1.out, if_neg hnb]
    have hdn : decide (b < n) = true := decide_eq_true (by omega)
    have HO := Lib.hid ((((Ow.start w).key #[.int .u8 (by8 x 0), .int .u8 (by8 x 1), .int .u8 (by8 x 2), .int .u8 (by8 x 3), .int .u8 (by8 x 4), .int .u8 (by8 x 5), .int .u8 (by8 x 6), .int .u8 (by8 x 7)] 22 w.heap.size rfl).key #[.int .u8 (by8 o 0), .int .u8 (by8 o 1), .int .u8 (by8 o 2), .int .u8 (by8 o 3), .int .u8 (by8 o 4), .int .u8 (by8 o 5), .int .u8 (by8 o 6), .int .u8 (by8 o 7)] 22 (w.heap.size + 1) (by simp)).key #[.int .i64 n, .int .i64 b, .string s, .bool bl] 24 (w.heap.size + 1 + 1) (by simp))
    rw [HX.out, HY.out] at hne
    go_enter Try.func4, Try.ntmps4
    go_wp2_with fail
    refine wp_region_rq (by kernel_rfl) (by kernel_rfl) (by kernel_rfl) ?_
    repeat (first
      | (refine B_skip ?_ ?_; (· rfl); (try simp only [Act.put, List.setIfInBounds_toArray, List.set_cons_zero, List.set_cons_succ]))
      | (refine B_move rfl ?_ ?_; (· rfl); (try simp only [Act.eval, Act.put, Array.getD_eq_getD_getElem?, List.getElem?_toArray, List.getElem?_cons_succ, List.getElem?_cons_zero, Option.getD_some, List.setIfInBounds_toArray, List.set_cons_zero, List.set_cons_succ]))
      | (refine B_plain ?_ ?_; (· rfl); intro K hK; go_big_quiet_op; with_reducible refine hK _ ?_; clear hK K)
      | (fail))
    refine B_nil ?_ rfl ?_ ?_
    · kernel_rfl
    · rfl
    rintro _ ⟨⟨g1, d1⟩, rfl⟩
    simp only [fin, Act.put, List.setIfInBounds_toArray, List.set_cons_zero, List.set_cons_succ]
    go_wp2_with fail
    refine wp_region_rq (by kernel_rfl) (by kernel_rfl) (by kernel_rfl) ?_
    repeat (first
      | (refine B_skip ?_ ?_; (· rfl); (try simp only [Act.put, List.setIfInBounds_toArray, List.set_cons_zero, List.set_cons_succ]))
      | (refine B_move rfl ?_ ?_; (· rfl); (try simp only [Act.eval, Act.put, Array.getD_eq_getD_getElem?, List.getElem?_toArray, List.getElem?_cons_succ, List.getElem?_cons_zero, Option.getD_some, List.setIfInBounds_toArray, List.set_cons_zero, List.set_cons_succ]))
      | (refine B_plain ?_ ?_; (· rfl); intro K hK; go_big_quiet_op; with_reducible refine hK _ ?_; clear hK K)
      | (refine B_callX (v := ?_) (f := 19) rfl (by kernel_rfl) ?_ (fun xq => ?_) ?_; rotate_left; (· rfl); (· ((simp only [List.map_toArray, List.map_cons, List.map_nil, Act.eval, Array.getD_eq_getD_getElem?, List.getElem?_toArray, List.getElem?_cons_succ, List.getElem?_cons_zero, Option.getD_some]); with_reducible apply retB; with_reducible exact (rhint_to x hx HX.out _))); (try simp only [Act.put, List.setIfInBounds_toArray, List.set_cons_zero, List.set_cons_succ]))
      | (refine B_callX (v := ?_) (f := 19) rfl (by kernel_rfl) ?_ (fun xq => ?_) ?_; rotate_left; (· rfl); (· ((simp only [List.map_toArray, List.map_cons, List.map_nil, Act.eval, Array.getD_eq_getD_getElem?, List.getElem?_toArray, List.getElem?_cons_succ, List.getElem?_cons_zero, Option.getD_some]); with_reducible apply retB; with_reducible exact (rhint_to o hy HY.out _))); (try simp only [Act.put, List.setIfInBounds_toArray, List.set_cons_zero, List.set_cons_succ])))
    refine B_nil ?_ rfl ?_ ?_
    · kernel_rfl
    · rfl
    rintro _ ⟨⟨g2, d2⟩, rfl⟩
    simp only [fin, Act.put, List.setIfInBounds_toArray, List.set_cons_zero, List.set_cons_succ]
    have HO2 := Lib.hid HO.out.drop1
    clear HO
    go_wp2_with fail
    refine (make_to x n _ (strL s) HN.out hl300 hx HX.out y HYB.out _ (HCB2.out _ _ _ _)).mono ?_
    rintro e w3 ⟨u, rfl, hb3, hu⟩
    obtain ⟨NB, O3, hm⟩ := hu.found (HO2.out.of_below (by (repeat' (first | (with_reducible exact Below.refl _ _) | (with_reducible refine bplus ?_ _ _) | (with_reducible refine balloc ?_ _) | (with_reducible refine Below.drew ?_) | (with_reducible refine bdrewN ?_ _) | (with_reducible refine Below.setCell ?_ (by go_size) _))))) (Ext.of_below hb3)
    obtain ⟨au, cu, rfl⟩ := (hm w).slice
    have HM := Lib.hid (hm w)
    have HO3 := Lib.hid (O3.key #[.int .u8 (by8 hx 0), .int .u8 (by8 hx 1), .int .u8 (by8 hx 2), .int .u8 (by8 hx 3), .int .u8 (by8 hx 4), .int .u8 (by8 hx 5), .int .u8 (by8 hx 6), .int .u8 (by8 hx 7), .int .i64 n, .slice au y.length cu] 29 w3.heap.size rfl)
    clear hb3 hu O3 hm HO2 hconv
    go_wp2_with fail
    have HOm : Hid (Omw _ w _ []) := ⟨HO3.out, by simp, by simp, by simp, .nil⟩
    refine (tnew_to 1 (by omega) (by omega) _ w _ [] HOm.out).mono ?_
    rintro e w4 ⟨p, B, k, rfl, O4, hP⟩
    have h4 : Tw w4 w (⟨w3.heap.size, 29, #[.int .u8 (by8 hx 0), .int .u8 (by8 hx 1), .int .u8 (by8 hx 2), .int .u8 (by8 hx 3), .int .u8 (by8 hx 4), .int .u8 (by8 hx 5), .int .u8 (by8 hx 6), .int .u8 (by8 hx 7), .int .i64 n, .slice au y.length cu]⟩ :: (NB ++ [⟨w.heap.size + 1, 22, #[.int .u8 (by8 o 0), .int .u8 (by8 o 1), .int .u8 (by8 o 2), .int .u8 (by8 o 3), .int .u8 (by8 o 4), .int .u8 (by8 o 5), .int .u8 (by8 o 6), .int .u8 (by8 o 7)]⟩, ⟨w.heap.size, 22, #[.int .u8 (by8 x 0), .int .u8 (by8 x 1), .int .u8 (by8 x 2), .int .u8 (by8 x 3), .int .u8 (by8 x 4), .int .u8 (by8 x 5), .int .u8 (by8 x 6), .int .u8 (by8 x 7)]⟩])) [] [] p ⟨1, []⟩ := ⟨B, k, O4.perm (perm_cnt fun x => by simp only [cnt_append, cnt_cons, cnt_nil] <;> omega), hP []⟩
    have H4 := Lib.hid h4
    have hq := h4.has (List.mem_cons_self ..)
    (have a0 := hq.cell 0); (have a1 := hq.cell 1); (have a2 := hq.cell 2); (have a3 := hq.cell 3); (have a4 := hq.cell 4); (have a5 := hq.cell 5); (have a6 := hq.cell 6); (have a7 := hq.cell 7); (have a8 := hq.cell 8); (have a9 := hq.cell 9); (have la := hq.lt)
    simp only [List.getElem?_toArray, List.getElem?_cons_succ, List.getElem?_cons_zero] at a0 a1 a2 a3 a4 a5 a6 a7 a8 a9
    clear hq h4 O4 hP HO3 HOm
    go_wp2_with fail
    refine (take_to p ⟨1, []⟩ (TOk.new 1 (by omega)) hx n _ y _ w _ [] [] H4.out (H4.out.bsl HM.out (sub_cnt fun x => by simp only [cnt_append, cnt_cons, cnt_nil]; omega)) 0 HE1.out _ HT1.out).mono ?_
    rintro e w5 ⟨rfl, N, h5⟩
    have H5 := Lib.hid h5
    have hqx := h5.has (b := w.heap.size) (t := 22) (cs := #[.int .u8 (by8 x 0), .int .u8 (by8 x 1), .int .u8 (by8 x 2), .int .u8 (by8 x 3), .int .u8 (by8 x 4), .int .u8 (by8 x 5), .int .u8 (by8 x 6), .int .u8 (by8 x 7)]) (by simp)
    (have x0 := hqx.cell 0); (have x1 := hqx.cell 1); (have x2 := hqx.cell 2); (have x3 := hqx.cell 3); (have x4 := hqx.cell 4); (have x5 := hqx.cell 5); (have x6 := hqx.cell 6); (have x7 := hqx.cell 7); (have lx := hqx.lt)
    simp only [List.getElem?_toArray, List.getElem?_cons_succ, List.getElem?_cons_zero] at x0 x1 x2 x3 x4 x5 x6 x7
    clear h5 hqx a0 a1 a2 a3 a4 a5 a6 a7 a8 a9 la H4
    go_wp2_with fail
    refine (see_to p _ HOK.out x b _ w _ _ [] H5.out (strL s) true HS.out).mono ?_
    rintro e w6 ⟨u6, rfl, hb6, hu6⟩
    have h6 := H5.out.of_below hb6
    have H6 := Lib.hid h6
    have HU := Lib.hid hu6.bsl
    have hqx := h6.has (b := w.heap.size + 1) (t := 22) (cs := #[.int .u8 (by8 o 0), .int .u8 (by8 o 1), .int .u8 (by8 o 2), .int .u8 (by8 o 3), .int .u8 (by8 o 4), .int .u8 (by8 o 5), .int .u8 (by8 o 6), .int .u8 (by8 o 7)]) (by simp)
    clear x0 x1 x2 x3 x4 x5 x6 x7 lx
    (have x0 := hqx.cell 0); (have x1 := hqx.cell 1); (have x2 := hqx.cell 2); (have x3 := hqx.cell 3); (have x4 := hqx.cell 4); (have x5 := hqx.cell 5); (have x6 := hqx.cell 6); (have x7 := hqx.cell 7); (have lx := hqx.lt)
    simp only [List.getElem?_toArray, List.getElem?_cons_succ, List.getElem?_cons_zero] at x0 x1 x2 x3 x4 x5 x6 x7
    clear h6 hqx hb6 hu6 H5
    go_wp2_with fail
    refine (see_to p _ HOK.out o (-1) _ w _ _ [] H6.out [] false HS2.out).mono ?_
    rintro e w7 ⟨u7, rfl, hb7, -⟩
    have HB7 := Lib.hid (H6.out.of_below hb7).below
    clear x0 x1 x2 x3 x4 x5 x6 x7 lx H6
    have hcv : (convert 26 9 u6).run Try.prog w7 = .ok (.string s) w7 := by rw [run_strT w7 u6 (strL s) (HU.out.below hb7), mk_strL]
    go_wp2_with fail
    refine (told51_to _).mono ?_
    rintro e w8 ⟨rfl, hb8⟩
    have HB8 := Lib.hid (HB7.out.trans (hb8.mono HB7.out.size))
    clear hb8 HB7
    go_wp2
    go_ret
    exact ⟨rfl, HB8.out⟩

end Go.Proofs.Ytghaiplhakeahaa
