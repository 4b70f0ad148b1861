/- The law TowerNil: its walk. -/
import Derived.Test.YtghaiplhakeahaaYr
import Derived.Test.YtghaiplhakeahaaYt
import Derived.Test.YtghaiplhakeahaaTowerSees
import Derived.Test.YtghaiplhakeahaaYe
namespace Go.Proofs.Ytghaiplhakeahaa
set_option linter.unusedSimpArgs false
set_option linter.unusedVariables false
open Go.RowKit Go.WideMaps Go.ChangeMaps Go.Maps

set_option maxRecDepth 100000 in
set_option maxHeartbeats 1000000 in
theorem tclone_nil (w : World) : Calls Try.prog 51 #[.pointer none] w fun e w' => e = .returned (.pointer none) ∧ w' = w := by
  go_enter Try.func51, Try.ntmps51
  go_wp2
  go_ret
  exact ⟨rfl, rfl⟩
set_option maxRecDepth 100000 in
set_option maxHeartbeats 1000000 in
theorem tsame_nn (w : World) : Calls Try.prog 52 #[.pointer none, .pointer none] w fun e w' => e = .returned (.bool true) ∧ w' = w := by
  go_enter Try.func52, Try.ntmps52
  go_wp2
  go_ret
  exact ⟨rfl, rfl⟩
set_option maxRecDepth 100000 in
set_option maxHeartbeats 1000000 in
theorem tsame_np (p : Nat) (w : World) : Calls Try.prog 52 #[.pointer none, tptr p] w fun e w' => e = .returned (.bool false) ∧ w' = w := by
  go_enter Try.func52, Try.ntmps52
  go_wp2
  go_ret
  exact ⟨rfl, rfl⟩
set_option maxRecDepth 100000 in
set_option maxHeartbeats 1000000 in
theorem tsame_pn (p : Nat) (w : World) : Calls Try.prog 52 #[tptr p, .pointer none] w fun e w' => e = .returned (.bool false) ∧ w' = w := by
  go_enter Try.func52, Try.ntmps52
  go_wp2
  go_ret
  exact ⟨rfl, rfl⟩
set_option maxRecDepth 100000 in
set_option maxHeartbeats 4000000 in
theorem towerNil_any (x : BitVec 64) (n b : Int) (w : World) :
    Calls Try.prog 13 #[.agg #[.int .u8 (by8 x 0), .int .u8 (by8 x 1), .int .u8 (by8 x 2), .int .u8 (by8 x 3), .int .u8 (by8 x 4), .int .u8 (by8 x 5), .int .u8 (by8 x 6), .int .u8 (by8 x 7)], .int .i64 n, .int .i64 b] w fun e w' => e = .returned (.bool true) ∧ Below w.heap.size w w' := by
  have HO := Lib.hid ((Ow.start w).key #[.int .u8 (by8 x 0), .int .u8 (by8 x 1), .int .u8 (by8 x 2), .int .u8 (by8 x 3), .int .u8 (by8 x 4), .int .u8 (by8 x 5), .int .u8 (by8 x 6), .int .u8 (by8 x 7)] 22 w.heap.size rfl)
  by_cases hn : isNum n = false
  · have HN := Lib.hid hn
    clear hn
    have HOm : Hid (Omw _ w _ []) := ⟨HO.out, by simp, by simp, by simp, .nil⟩
    go_enter Try.func13, Try.ntmps13
    go_wp2_with fail
    refine (tnew_to 1 (by omega) (by omega) _ w _ [] HOm.out).mono ?_
    rintro e w3 ⟨p, B, k, rfl, O3, -⟩
    have HO3 := Lib.hid O3.ow
    have hqx := O3.ow.has (b := w.heap.size) (t := 22) (cs := #[.int .u8 (by8 x 0), .int .u8 (by8 x 1), .int .u8 (by8 x 2), .int .u8 (by8 x 3), .int .u8 (by8 x 4), .int .u8 (by8 x 5), .int .u8 (by8 x 6), .int .u8 (by8 x 7)]) (by simp)
    (have x0 := hqx.cell 0); (have x1 := hqx.cell 1); (have x2 := hqx.cell 2); (have x3 := hqx.cell 3); (have x4 := hqx.cell 4); (have x5 := hqx.cell 5); (have x6 := hqx.cell 6); (have x7 := hqx.cell 7); (have lx := hqx.lt)
    simp only [List.getElem?_toArray, List.getElem?_cons_succ, List.getElem?_cons_zero] at x0 x1 x2 x3 x4 x5 x6 x7
    clear hqx O3 HOm
    go_wp2_with fail
    refine (make_range x n _ HN.out _).mono ?_
    rintro e w4 ⟨rfl, hb4⟩
    have h0 : (#[.int .u8 0, .int .u8 0, .int .u8 0, .int .u8 0, .int .u8 0, .int .u8 0, .int .u8 0, .int .u8 0, .int .i64 0, .slice none 0 0] : Array Value) = #[.int .u8 (by8 0#64 0), .int .u8 (by8 0#64 1), .int .u8 (by8 0#64 2), .int .u8 (by8 0#64 3), .int .u8 (by8 0#64 4), .int .u8 (by8 0#64 5), .int .u8 (by8 0#64 6), .int .u8 (by8 0#64 7), .int .i64 0, .slice none 0 0] := by simp [by8_zT]
    have HO4 := Lib.hid ((HO3.out.of_below hb4).key #[.int .u8 (by8 0#64 0), .int .u8 (by8 0#64 1), .int .u8 (by8 0#64 2), .int .u8 (by8 0#64 3), .int .u8 (by8 0#64 4), .int .u8 (by8 0#64 5), .int .u8 (by8 0#64 6), .int .u8 (by8 0#64 7), .int .i64 0, .slice none 0 0] 29 w4.heap.size rfl)
    clear x0 x1 x2 x3 x4 x5 x6 x7 lx
    have hqx := (HO3.out.of_below hb4).has (b := w.heap.size) (t := 22) (cs := #[.int .u8 (by8 x 0), .int .u8 (by8 x 1), .int .u8 (by8 x 2), .int .u8 (by8 x 3), .int .u8 (by8 x 4), .int .u8 (by8 x 5), .int .u8 (by8 x 6), .int .u8 (by8 x 7)]) (by simp)
    (have x0 := hqx.cell 0); (have x1 := hqx.cell 1); (have x2 := hqx.cell 2); (have x3 := hqx.cell 3); (have x4 := hqx.cell 4); (have x5 := hqx.cell 5); (have x6 := hqx.cell 6); (have x7 := hqx.cell 7); (have lx := hqx.lt)
    simp only [List.getElem?_toArray, List.getElem?_cons_succ, List.getElem?_cons_zero] at x0 x1 x2 x3 x4 x5 x6 x7
    clear hqx
    clear hb4 HO3
    go_wp2_with fail
    refine (see_nil x b _).mono ?_
    rintro e w5 ⟨rfl, hb5⟩
    have HOc := Lib.hid (HO4.out.of_below hb5)
    clear hb5 HO4 x0 x1 x2 x3 x4 x5 x6 x7 lx
    (have hq := HOc.out.has (List.mem_cons_self ..)); (have a0 := hq.cell 0); (have a1 := hq.cell 1); (have a2 := hq.cell 2); (have a3 := hq.cell 3); (have a4 := hq.cell 4); (have a5 := hq.cell 5); (have a6 := hq.cell 6); (have a7 := hq.cell 7); (have a8 := hq.cell 8); (have a9 := hq.cell 9); (have la := hq.lt)
    simp only [List.getElem?_toArray, List.getElem?_cons_succ, List.getElem?_cons_zero] at a0 a1 a2 a3 a4 a5 a6 a7 a8 a9
    clear hq
    go_wp2_with fail
    refine (take_nil 0#64 0 (.slice none 0 0) _).mono ?_
    rintro e w6 ⟨rfl, hb6⟩
    have HOd := Lib.hid (HOc.out.of_below hb6)
    clear hb6 HOc a0 a1 a2 a3 a4 a5 a6 a7 a8 a9 la
    have HOc := HOd
    clear HOd
    (have hq := HOc.out.has (List.mem_cons_self ..)); (have a0 := hq.cell 0); (have a1 := hq.cell 1); (have a2 := hq.cell 2); (have a3 := hq.cell 3); (have a4 := hq.cell 4); (have a5 := hq.cell 5); (have a6 := hq.cell 6); (have a7 := hq.cell 7); (have a8 := hq.cell 8); (have a9 := hq.cell 9); (have la := hq.lt)
    simp only [List.getElem?_toArray, List.getElem?_cons_succ, List.getElem?_cons_zero] at a0 a1 a2 a3 a4 a5 a6 a7 a8 a9
    clear hq
    go_wp2_with fail
    refine (drop_nil 0#64 _).mono ?_
    rintro e w7 ⟨rfl, hb7⟩
    have HO7 := Lib.hid (HOc.out.of_below hb7)
    clear hb7 HOc a0 a1 a2 a3 a4 a5 a6 a7 a8 a9 la
    go_wp2_with fail
    refine (thas_nil _).mono ?_
    rintro e w8 ⟨rfl, rfl⟩
    go_wp2_with fail
    refine (tsize_nil _).mono ?_
    rintro e w9 ⟨rfl, rfl⟩
    go_wp2_with fail
    refine (tclone_nil _).mono ?_
    rintro e w10 ⟨rfl, rfl⟩
    go_wp2_with fail
    refine (tsame_nn _).mono ?_
    rintro e w11 ⟨rfl, rfl⟩
    go_wp2_with fail
    refine (tsame_np p _).mono ?_
    rintro e w12 ⟨rfl, rfl⟩
    go_wp2_with fail
    refine (tsame_pn p _).mono ?_
    rintro e w13 ⟨rfl, rfl⟩
    go_wp2_with fail
    refine (told51_to _).mono ?_
    rintro e w14 ⟨rfl, hb14⟩
    have HB := Lib.hid (HO7.out.of_below hb14).below
    clear hb14 HO7
    go_wp2
    go_ret
    exact ⟨rfl, HB.out⟩
  · have HN : Hid (isNum n = true) := by show _ = _; simpa using hn
    clear hn
    obtain ⟨h, HX⟩ : ∃ h, Hid (thintF x = h) := ⟨_, rfl⟩
    obtain ⟨y, HYB⟩ : ∃ y, Hid (tboxF x [] = y) := ⟨_, rfl⟩
    have HOm : Hid (Omw _ w _ []) := ⟨HO.out, by simp, by simp, by simp, .nil⟩
    go_enter Try.func13, Try.ntmps13
    go_wp2_with fail
    refine (tnew_to 1 (by omega) (by omega) _ w _ [] HOm.out).mono ?_
    rintro e w3 ⟨p, B, k, rfl, O3, -⟩
    have HO3 := Lib.hid O3.ow
    have hqx := O3.ow.has (b := w.heap.size) (t := 22) (cs := #[.int .u8 (by8 x 0), .int .u8 (by8 x 1), .int .u8 (by8 x 2), .int .u8 (by8 x 3), .int .u8 (by8 x 4), .int .u8 (by8 x 5), .int .u8 (by8 x 6), .int .u8 (by8 x 7)]) (by simp)
    (have x0 := hqx.cell 0); (have x1 := hqx.cell 1); (have x2 := hqx.cell 2); (have x3 := hqx.cell 3); (have x4 := hqx.cell 4); (have x5 := hqx.cell 5); (have x6 := hqx.cell 6); (have x7 := hqx.cell 7); (have lx := hqx.lt)
    simp only [List.getElem?_toArray, List.getElem?_cons_succ, List.getElem?_cons_zero] at x0 x1 x2 x3 x4 x5 x6 x7
    clear hqx O3 HOm
    go_wp2_with fail
    refine (make_to x n _ [] HN.out (by simp) h HX.out y HYB.out _ ⟨none, 0, rfl, by simp, Or.inl rfl⟩).mono ?_
    rintro e w4 ⟨u, rfl, hb4, hu⟩
    obtain ⟨au, cu, rfl, -, -⟩ := hu.bsl
    have HO4 := Lib.hid ((HO3.out.of_below hb4).key #[.int .u8 (by8 h 0), .int .u8 (by8 h 1), .int .u8 (by8 h 2), .int .u8 (by8 h 3), .int .u8 (by8 h 4), .int .u8 (by8 h 5), .int .u8 (by8 h 6), .int .u8 (by8 h 7), .int .i64 n, .slice au y.length cu] 29 w4.heap.size rfl)
    clear x0 x1 x2 x3 x4 x5 x6 x7 lx
    have hqx := (HO3.out.of_below hb4).has (b := w.heap.size) (t := 22) (cs := #[.int .u8 (by8 x 0), .int .u8 (by8 x 1), .int .u8 (by8 x 2), .int .u8 (by8 x 3), .int .u8 (by8 x 4), .int .u8 (by8 x 5), .int .u8 (by8 x 6), .int .u8 (by8 x 7)]) (by simp)
    (have x0 := hqx.cell 0); (have x1 := hqx.cell 1); (have x2 := hqx.cell 2); (have x3 := hqx.cell 3); (have x4 := hqx.cell 4); (have x5 := hqx.cell 5); (have x6 := hqx.cell 6); (have x7 := hqx.cell 7); (have lx := hqx.lt)
    simp only [List.getElem?_toArray, List.getElem?_cons_succ, List.getElem?_cons_zero] at x0 x1 x2 x3 x4 x5 x6 x7
    clear hqx
    clear hb4 HO3 hu
    go_wp2_with fail
    refine (see_nil x b _).mono ?_
    rintro e w5 ⟨rfl, hb5⟩
    have HOc := Lib.hid (HO4.out.of_below hb5)
    clear hb5 HO4 x0 x1 x2 x3 x4 x5 x6 x7 lx
    (have hq := HOc.out.has (List.mem_cons_self ..)); (have a0 := hq.cell 0); (have a1 := hq.cell 1); (have a2 := hq.cell 2); (have a3 := hq.cell 3); (have a4 := hq.cell 4); (have a5 := hq.cell 5); (have a6 := hq.cell 6); (have a7 := hq.cell 7); (have a8 := hq.cell 8); (have a9 := hq.cell 9); (have la := hq.lt)
    simp only [List.getElem?_toArray, List.getElem?_cons_succ, List.getElem?_cons_zero] at a0 a1 a2 a3 a4 a5 a6 a7 a8 a9
    clear hq
    go_wp2_with fail
    refine (take_nil h n (.slice au y.length cu) _).mono ?_
    rintro e w6 ⟨rfl, hb6⟩
    have HOd := Lib.hid (HOc.out.of_below hb6)
    clear hb6 HOc a0 a1 a2 a3 a4 a5 a6 a7 a8 a9 la
    have HOc := HOd
    clear HOd
    (have hq := HOc.out.has (List.mem_cons_self ..)); (have a0 := hq.cell 0); (have a1 := hq.cell 1); (have a2 := hq.cell 2); (have a3 := hq.cell 3); (have a4 := hq.cell 4); (have a5 := hq.cell 5); (have a6 := hq.cell 6); (have a7 := hq.cell 7); (have a8 := hq.cell 8); (have a9 := hq.cell 9); (have la := hq.lt)
    simp only [List.getElem?_toArray, List.getElem?_cons_succ, List.getElem?_cons_zero] at a0 a1 a2 a3 a4 a5 a6 a7 a8 a9
    clear hq
    go_wp2_with fail
    refine (drop_nil h _).mono ?_
    rintro e w7 ⟨rfl, hb7⟩
    have HO7 := Lib.hid (HOc.out.of_below hb7)
    clear hb7 HOc a0 a1 a2 a3 a4 a5 a6 a7 a8 a9 la
    go_wp2_with fail
    refine (thas_nil _).mono ?_
    rintro e w8 ⟨rfl, rfl⟩
    go_wp2_with fail
    refine (tsize_nil _).mono ?_
    rintro e w9 ⟨rfl, rfl⟩
    go_wp2_with fail
    refine (tclone_nil _).mono ?_
    rintro e w10 ⟨rfl, rfl⟩
    go_wp2_with fail
    refine (tsame_nn _).mono ?_
    rintro e w11 ⟨rfl, rfl⟩
    go_wp2_with fail
    refine (tsame_np p _).mono ?_
    rintro e w12 ⟨rfl, rfl⟩
    go_wp2_with fail
    refine (tsame_pn p _).mono ?_
    rintro e w13 ⟨rfl, rfl⟩
    go_wp2_with fail
    refine (told51_to _).mono ?_
    rintro e w14 ⟨rfl, hb14⟩
    have HB := Lib.hid (HO7.out.of_below hb14).below
    clear hb14 HO7
    go_wp2
    go_ret
    exact ⟨rfl, HB.out⟩

end Go.Proofs.Ytghaiplhakeahaa
