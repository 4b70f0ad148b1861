/- chance: Answer of a chain. -/
import Derived.Test.YtmfogedagepcgaaCa
namespace Go.Proofs.Ytmfogedagepcgaa
set_option linter.unusedSimpArgs false
set_option linter.unusedVariables false
open Go.RowKit

set_option maxRecDepth 100000 in
set_option maxHeartbeats 4000000 in
theorem answer_to (s t : BitVec 64) (b n k : Nat) (hn : n ≤ 4096) (w : World) (hb : HasBlk w b 122 #[.int .u8 (by8 s 0), .int .u8 (by8 s 1), .int .u8 (by8 s 2), .int .u8 (by8 s 3), .int .u8 (by8 s 4), .int .u8 (by8 s 5), .int .u8 (by8 s 6), .int .u8 (by8 s 7), .int .i64 n, .int .i64 k]) (z : BitVec 64) (hz : fndF s t n = z) (h : Bool) (hh : hasF s t n = h) (er : Int) (her : er = if h then 0 else 9) :
    Calls Try.prog 59 #[.pointer (some ⟨b, 0, none⟩), .agg #[.int .u8 (by8 t 0), .int .u8 (by8 t 1), .int .u8 (by8 t 2), .int .u8 (by8 t 3), .int .u8 (by8 t 4), .int .u8 (by8 t 5), .int .u8 (by8 t 6), .int .u8 (by8 t 7)]] w fun e w' => e = .returned (.tuple #[.agg #[.int .u8 (by8 z 0), .int .u8 (by8 z 1), .int .u8 (by8 z 2), .int .u8 (by8 z 3), .int .u8 (by8 z 4), .int .u8 (by8 z 5), .int .u8 (by8 z 6), .int .u8 (by8 z 7)], .int .i64 er]) ∧ Below w.heap.size w w' := by
  have cb := hb.cell
  have lb := hb.lt
  have HZ := Lib.hid hz
  have HH := Lib.hid hh
  have HZE := Lib.hid dgc_zero
  have HZD := Lib.hid dg_zero
  have HER := Lib.hid her
  clear hb hz hh her
  go_enter Try.func59, Try.ntmps59
  go_wp2
  have M0 := ((((Mem.start w).key #[.int .u8 (by8 t 0), .int .u8 (by8 t 1), .int .u8 (by8 t 2), .int .u8 (by8 t 3), .int .u8 (by8 t 4), .int .u8 (by8 t 5), .int .u8 (by8 t 6), .int .u8 (by8 t 7)] 44 w.heap.size rfl).key #[.int .u8 0, .int .u8 0, .int .u8 0, .int .u8 0, .int .u8 0, .int .u8 0, .int .u8 0, .int .u8 0] 44 (w.heap.size + 1) (by simp)).key #[.int .u8 0, .int .u8 0, .int .u8 0, .int .u8 0, .int .u8 0, .int .u8 0, .int .u8 0, .int .u8 0] 44 (w.heap.size + 1 + 1) (by simp)).key #[.int .u8 (by8 s 0), .int .u8 (by8 s 1), .int .u8 (by8 s 2), .int .u8 (by8 s 3), .int .u8 (by8 s 4), .int .u8 (by8 s 5), .int .u8 (by8 s 6), .int .u8 (by8 s 7)] 44 (w.heap.size + 1 + 1 + 1) (by simp)
  go_loopw [7, 21] (fun hv i wr => ∃ i' : Nat, i' ≤ n ∧ i = .int .i64 i' ∧ hv = .bool (hasF s t i') ∧ Mem wr w ([] ++ [⟨w.heap.size + 1 + 1 + 1, 44, #[.int .u8 (by8 (chainF s i') 0), .int .u8 (by8 (chainF s i') 1), .int .u8 (by8 (chainF s i') 2), .int .u8 (by8 (chainF s i') 3), .int .u8 (by8 (chainF s i') 4), .int .u8 (by8 (chainF s i') 5), .int .u8 (by8 (chainF s i') 6), .int .u8 (by8 (chainF s i') 7)]⟩, ⟨w.heap.size + 1 + 1, 44, #[.int .u8 (by8 (fndF s t i') 0), .int .u8 (by8 (fndF s t i') 1), .int .u8 (by8 (fndF s t i') 2), .int .u8 (by8 (fndF s t i') 3), .int .u8 (by8 (fndF s t i') 4), .int .u8 (by8 (fndF s t i') 5), .int .u8 (by8 (fndF s t i') 6), .int .u8 (by8 (fndF s t i') 7)]⟩, ⟨w.heap.size + 1, 44, #[.int .u8 0, .int .u8 0, .int .u8 0, .int .u8 0, .int .u8 0, .int .u8 0, .int .u8 0, .int .u8 0]⟩, ⟨w.heap.size, 44, #[.int .u8 (by8 t 0), .int .u8 (by8 t 1), .int .u8 (by8 t 2), .int .u8 (by8 t 3), .int .u8 (by8 t 4), .int .u8 (by8 t 5), .int .u8 (by8 t 6), .int .u8 (by8 t 7)]⟩])) (fun _ i _ => n - (intOf i).toNat)
  case atStart => exact ⟨0, by omega, rfl, by rw [(ans_0 s t).1], by rw [(ans_0 s t).2]; show Mem _ w ([] ++ [_, ⟨_, _, #[.int .u8 (by8 (0#64) 0), .int .u8 (by8 (0#64) 1), .int .u8 (by8 (0#64) 2), .int .u8 (by8 (0#64) 3), .int .u8 (by8 (0#64) 4), .int .u8 (by8 (0#64) 5), .int .u8 (by8 (0#64) 6), .int .u8 (by8 (0#64) 7)]⟩, _, _]); rw [HZE.out]; exact M0⟩
  case round =>
    clear M0
    obtain ⟨i, hi, rfl, rfl, M⟩ := hrel
    obtain ⟨y, HY⟩ : ∃ y, Hid (chainF s i = y) := ⟨_, rfl⟩
    obtain ⟨f, HF⟩ : ∃ f, Hid (fndF s t i = f) := ⟨_, rfl⟩
    obtain ⟨h', HH'⟩ : ∃ h', Hid (hasF s t i = h') := ⟨_, rfl⟩
    rw [HY.out, HF.out] at M
    rw [HH'.out]
    have HM := Lib.hid M
    have c0 := M.cell0
    have c1 := M.cell1
    have c2 := M.cell2
    have c3 := M.cell3
    have f0 := M.frozen0
    have f1 := M.frozen1
    have f2 := M.frozen2
    have l0 := M.lt0
    have l1 := M.lt1
    have l2 := M.lt2
    have l3 := M.lt3
    by_cases hlt : i < n
    · obtain ⟨x, HX⟩ : ∃ x, Hid (oneF y = x) := ⟨_, rfl⟩
      have HC : Hid (chainF s (i + 1) = x) := by show oneF (chainF s i) = x; rw [HY.out, HX.out]
      clear M
      by_cases he : x = t
      · have hq : (x == t) = true := by simpa using he
        have HHIT := Lib.hid (ans_hit s t i (by rw [HY.out, HX.out]; exact he))
        clear he
        go_wp2_with (first
          | (go_at_call 35; refine (one_to y x HX.out _).mono ?_; rintro e w1 ⟨rfl, hb1⟩; obtain ⟨g1, d1, rfl⟩ := plus_of_below hb1; clear hb1)
          | (refine wpList_store_blk rfl 44 (.tmp 6) (.tmp 28) rfl (B := [_, _]) (w0 := w) ((HM.out.plus g1 d1).key #[.int .u8 (by8 x 0), .int .u8 (by8 x 1), .int .u8 (by8 x 2), .int .u8 (by8 x 3), .int .u8 (by8 x 4), .int .u8 (by8 x 5), .int .u8 (by8 x 6), .int .u8 (by8 x 7)] 44 (wr.heap.size + g1.size) (by simp)) (by rfl) #[.int .u8 (by8 y 0), .int .u8 (by8 y 1), .int .u8 (by8 y 2), .int .u8 (by8 y 3), .int .u8 (by8 y 4), .int .u8 (by8 y 5), .int .u8 (by8 y 6), .int .u8 (by8 y 7)] (by rfl) (by kernel_rfl) (by rfl) (dcs_one y) ?_; intro w3 M3; have n0 := M3.cell (b := wr.heap.size + g1.size) (t := 44) (cs := #[.int .u8 (by8 x 0), .int .u8 (by8 x 1), .int .u8 (by8 x 2), .int .u8 (by8 x 3), .int .u8 (by8 x 4), .int .u8 (by8 x 5), .int .u8 (by8 x 6), .int .u8 (by8 x 7)]) (by simp))
          | (refine wpList_store_blk rfl 44 (.tmp 8) (.tmp 29) rfl (B := [_]) M3 (by rfl) #[.int .u8 (by8 x 0), .int .u8 (by8 x 1), .int .u8 (by8 x 2), .int .u8 (by8 x 3), .int .u8 (by8 x 4), .int .u8 (by8 x 5), .int .u8 (by8 x 6), .int .u8 (by8 x 7)] (by rfl) (by kernel_rfl) (by rfl) (dcs_one x) ?_; intro w5 M5))
        go_roundw
        case rel =>
          refine ⟨i + 1, by omega, by go_num, by rw [HHIT.out.1], ?_⟩
          rw [HHIT.out.2, HC.out, HY.out]
          exact M5.drop (by have := HM.out.size; show _ ≤ wr.heap.size + g1.size; omega)
        case measure => simp [intOf]; omega
      · have hq : (x == t) = false := by simpa using he
        have HMISS := Lib.hid (ans_miss s t i (by rw [HY.out, HX.out]; exact he))
        clear he
        go_wp2_with (first
          | (go_at_call 35; refine (one_to y x HX.out _).mono ?_; rintro e w1 ⟨rfl, hb1⟩; obtain ⟨g1, d1, rfl⟩ := plus_of_below hb1; clear hb1)
          | (refine wpList_store_blk rfl 44 (.tmp 8) (.tmp 29) rfl (B := [_]) (w0 := w) ((HM.out.plus g1 d1).key #[.int .u8 (by8 x 0), .int .u8 (by8 x 1), .int .u8 (by8 x 2), .int .u8 (by8 x 3), .int .u8 (by8 x 4), .int .u8 (by8 x 5), .int .u8 (by8 x 6), .int .u8 (by8 x 7)] 44 (wr.heap.size + g1.size) (by simp)) (by rfl) #[.int .u8 (by8 x 0), .int .u8 (by8 x 1), .int .u8 (by8 x 2), .int .u8 (by8 x 3), .int .u8 (by8 x 4), .int .u8 (by8 x 5), .int .u8 (by8 x 6), .int .u8 (by8 x 7)] (by rfl) (by kernel_rfl) (by rfl) (dcs_one x) ?_; intro w5 M5))
        go_roundw
        case rel =>
          refine ⟨i + 1, by omega, by go_num, by rw [HMISS.out.1, HH'.out], ?_⟩
          rw [HMISS.out.2, HC.out, HF.out]
          exact M5.drop (by have := HM.out.size; show _ ≤ wr.heap.size + g1.size; omega)
        case measure => simp [intOf]; omega
    · obtain rfl : i = n := by omega
      have hf : f = z := by rw [← HF.out, HZ.out]
      have hh : h' = h := by rw [← HH'.out, HH.out]
      subst hf hh
      cases h' with
      | true =>
        obtain rfl : er = 0 := HER.out
        clear M
        go_wp2_with (refine wpList_store_blk rfl 44 (.tmp 4) (.tmp 34) rfl (B := [_, _]) HM.out (by rfl) #[.int .u8 (by8 f 0), .int .u8 (by8 f 1), .int .u8 (by8 f 2), .int .u8 (by8 f 3), .int .u8 (by8 f 4), .int .u8 (by8 f 5), .int .u8 (by8 f 6), .int .u8 (by8 f 7)] (by rfl) (by kernel_rfl) (by rfl) (dcs_one f) ?_; intro w3 M3)
        have c3 := M3.cell (b := w.heap.size + 1) (t := 44) (cs := #[.int .u8 (by8 f 0), .int .u8 (by8 f 1), .int .u8 (by8 f 2), .int .u8 (by8 f 3), .int .u8 (by8 f 4), .int .u8 (by8 f 5), .int .u8 (by8 f 6), .int .u8 (by8 f 7)]) (by simp)
        refine bodyPost_ret (v := .tuple #[.agg #[.int .u8 (by8 f 0), .int .u8 (by8 f 1), .int .u8 (by8 f 2), .int .u8 (by8 f 3), .int .u8 (by8 f 4), .int .u8 (by8 f 5), .int .u8 (by8 f 6), .int .u8 (by8 f 7)], .int .i64 0]) (by simp [results, Try.results59, go_sem, c3]) rfl ⟨rfl, M3.below (by intro x hx; simp only [List.cons_append, List.nil_append, List.mem_cons, List.not_mem_nil, or_false] at hx; rcases hx with rfl | rfl | rfl | rfl <;> (simp; try omega))⟩
      | false =>
        obtain rfl : er = 9 := HER.out
        have h0 := ans_none s t i HH'.out
        rw [HF.out] at h0
        subst h0
        clear M
        go_wp2_with (refine wpList_store_blk rfl 44 (.tmp 4) (.tmp 33) rfl (B := [_, _]) HM.out (by rfl) #[.int .u8 0, .int .u8 0, .int .u8 0, .int .u8 0, .int .u8 0, .int .u8 0, .int .u8 0, .int .u8 0] (by rfl) (by kernel_rfl) (by rfl) (by simp [Value.oneCell']) ?_; intro w3 M3)
        have c3 := M3.cell (b := w.heap.size + 1) (t := 44) (cs := #[.int .u8 0, .int .u8 0, .int .u8 0, .int .u8 0, .int .u8 0, .int .u8 0, .int .u8 0, .int .u8 0]) (by simp)
        refine bodyPost_ret (v := .tuple #[.agg #[.int .u8 0, .int .u8 0, .int .u8 0, .int .u8 0, .int .u8 0, .int .u8 0, .int .u8 0, .int .u8 0], .int .i64 9]) (by simp [results, Try.results59, go_sem, c3]) rfl ⟨by rw [HZD.out], M3.below (by intro x hx; simp only [List.cons_append, List.nil_append, List.mem_cons, List.not_mem_nil, or_false] at hx; rcases hx with rfl | rfl | rfl | rfl <;> (simp; try omega))⟩

theorem refAns_up (s t : BitVec 64) (n i : Nat) (hi : i ≤ n) (h : ∀ j, i ≤ j → j < n → oneF (chainF s j) ≠ t) : hasF s t n = hasF s t i ∧ fndF s t n = fndF s t i := by
  induction n with
  | zero => obtain rfl : i = 0 := by omega
            exact ⟨rfl, rfl⟩
  | succ n ih =>
    by_cases e : i = n + 1
    · subst e; exact ⟨rfl, rfl⟩
    · have h1 := ans_miss s t n (h n (by omega) (by omega))
      have h2 := ih (by omega) fun j hj hjn => h j hj (by omega)
      exact ⟨h1.1.trans h2.1, h1.2.trans h2.2⟩

set_option maxRecDepth 100000 in
set_option maxHeartbeats 4000000 in
theorem refAnswer_to (s t : BitVec 64) (n k : Nat) (hn : n ≤ 4096) (w : World) (z : BitVec 64) (hz : fndF s t n = z) (rb : Bool) (hh : hasF s t n = rb) (er : Int) (her : er = if rb then 0 else 9) :
    Calls Try.prog 58 #[.agg #[.int .u8 (by8 s 0), .int .u8 (by8 s 1), .int .u8 (by8 s 2), .int .u8 (by8 s 3), .int .u8 (by8 s 4), .int .u8 (by8 s 5), .int .u8 (by8 s 6), .int .u8 (by8 s 7), .int .i64 n, .int .i64 k], .agg #[.int .u8 (by8 t 0), .int .u8 (by8 t 1), .int .u8 (by8 t 2), .int .u8 (by8 t 3), .int .u8 (by8 t 4), .int .u8 (by8 t 5), .int .u8 (by8 t 6), .int .u8 (by8 t 7)]] w fun e w' => e = .returned (.tuple #[.agg #[.int .u8 (by8 z 0), .int .u8 (by8 z 1), .int .u8 (by8 z 2), .int .u8 (by8 z 3), .int .u8 (by8 z 4), .int .u8 (by8 z 5), .int .u8 (by8 z 6), .int .u8 (by8 z 7)], .int .i64 er]) ∧ Below w.heap.size w w' := by
  have HZ := Lib.hid hz
  have HH := Lib.hid hh
  have HZD := Lib.hid dg_zero
  have HER := Lib.hid her
  clear hz hh her
  go_enter Try.func58, Try.ntmps58
  go_wp2
  go_loopw [6] (fun i wr => ∃ (j : Nat) (g : Array Obj) (d : Nat), j ≤ n ∧ i = .int .i64 j ∧ (∀ q, j ≤ q → q < n → oneF (chainF s q) ≠ t) ∧ wr = plus (((w.alloc (.cells #[.int .u8 (by8 s 0), .int .u8 (by8 s 1), .int .u8 (by8 s 2), .int .u8 (by8 s 3), .int .u8 (by8 s 4), .int .u8 (by8 s 5), .int .u8 (by8 s 6), .int .u8 (by8 s 7), .int .i64 n, .int .i64 k] 89)).alloc (.cells #[.int .u8 (by8 t 0), .int .u8 (by8 t 1), .int .u8 (by8 t 2), .int .u8 (by8 t 3), .int .u8 (by8 t 4), .int .u8 (by8 t 5), .int .u8 (by8 t 6), .int .u8 (by8 t 7)] 43)).alloc (.cells #[.int .u8 0, .int .u8 0, .int .u8 0, .int .u8 0, .int .u8 0, .int .u8 0, .int .u8 0, .int .u8 0] 43)) g d) (fun i _ => (intOf i).toNat)
  case atStart => exact ⟨n, #[], w.drawn, by omega, rfl, fun q h1 h2 => absurd h1 (by omega), plus_self _⟩
  case round =>
    obtain ⟨j, g, d, hj, rfl, hnot, rfl⟩ := hrel
    have HNOT := Lib.hid hnot
    clear hnot
    by_cases hlt : 1 ≤ j
    · obtain ⟨i, rfl⟩ : ∃ i, j = i + 1 := ⟨j - 1, by omega⟩
      obtain ⟨y, HY⟩ : ∃ y, Hid (chainF s i = y) := ⟨_, rfl⟩
      obtain ⟨x, HX⟩ : ∃ x, Hid (oneF y = x) := ⟨_, rfl⟩
      have HC : Hid (chainF s (i + 1) = x) := by show oneF (chainF s i) = x; rw [HY.out, HX.out]
      have H1 : Hid (i + 1 ≤ 1048576) := by show _ ≤ _; omega
      have H2 : Hid (i ≤ 1048576) := by show _ ≤ _; omega
      have HK : Hid (((i : Int) + 1) = ((i + 1 : Nat) : Int)) := by show _ = _; omega
      by_cases he : x = t
      · have hq : (x == t) = true := by simpa using he
        have HE := Lib.hid he
        clear he
        go_wp2
        refine wp_region_rq (by kernel_rfl) (by kernel_rfl) (by kernel_rfl) ?_
        repeat (first
          | (refine B_skip ?_ ?_; (· rfl); (try simp only [Act.put, List.setIfInBounds_toArray, List.set_cons_zero, List.set_cons_succ]))
          | (refine B_move rfl ?_ ?_; (· rfl); (try simp only [Act.eval, Act.put, Array.getD_eq_getD_getElem?, List.getElem?_toArray, List.getElem?_cons_succ, List.getElem?_cons_zero, Option.getD_some, List.setIfInBounds_toArray, List.set_cons_zero, List.set_cons_succ]))
          | (refine B_plain ?_ ?_; (· rfl); intro K hK; go_big_quiet_op; with_reducible refine hK _ ?_; clear hK K)
          | (refine B_callX (v := ?_) (f := 57) rfl (by kernel_rfl) ?_ (fun xq => ?_) ?_; rotate_left; (· rfl); (· ((simp only [List.map_toArray, List.map_cons, List.map_nil, Act.eval, Array.getD_eq_getD_getElem?, List.getElem?_toArray, List.getElem?_cons_succ, List.getElem?_cons_zero, Option.getD_some]); with_reducible apply retB; with_reducible exact (place_to s n k (i + 1) H1.out x HC.out _))); (try simp only [Act.put, List.setIfInBounds_toArray, List.set_cons_zero, List.set_cons_succ]))
          | (refine B_callX (v := ?_) (f := 57) rfl (by kernel_rfl) ?_ (fun xq => ?_) ?_; rotate_left; (· rfl); (· ((simp only [List.map_toArray, List.map_cons, List.map_nil, Act.eval, Array.getD_eq_getD_getElem?, List.getElem?_toArray, List.getElem?_cons_succ, List.getElem?_cons_zero, Option.getD_some]); with_reducible apply retB; with_reducible exact (place_int s n k _ _ HK.out H1.out x HC.out _))); (try simp only [Act.put, List.setIfInBounds_toArray, List.set_cons_zero, List.set_cons_succ])))
        refine B_nil ?_ rfl ?_ ?_
        · kernel_rfl
        · rfl
        rintro _ ⟨⟨g1, d1⟩, rfl⟩
        simp only [fin, Act.put, List.setIfInBounds_toArray, List.set_cons_zero, List.set_cons_succ]
        go_wp2_with (go_at_call 57; refine (place_to s n k i H2.out y HY.out _).mono ?_; rintro e w2 ⟨rfl, hb2⟩; obtain ⟨g2, d2, rfl⟩ := plus_of_below hb2; clear hb2)
        have HU := refAns_up s t n (i + 1) hj HNOT.out
        have HHIT := ans_hit s t i (by rw [HY.out, HX.out, HE.out])
        have e1 : rb = true := by rw [← HH.out, HU.1, HHIT.1]
        have e2 : z = y := by rw [← HZ.out, HU.2, HHIT.2, HY.out]
        have e3 : er = 0 := by rw [HER.out, e1]; rfl
        subst e1 e2 e3
        refine bodyPost_ret (v := .tuple #[.agg #[.int .u8 (by8 z 0), .int .u8 (by8 z 1), .int .u8 (by8 z 2), .int .u8 (by8 z 3), .int .u8 (by8 z 4), .int .u8 (by8 z 5), .int .u8 (by8 z 6), .int .u8 (by8 z 7)], .int .i64 0]) (by simp [results, Try.results58, go_sem]) rfl ⟨rfl, by (repeat' (first | (with_reducible exact Below.refl _ _) | (with_reducible refine bplus ?_ _ _) | (with_reducible refine balloc ?_ _) | (with_reducible refine Below.drew ?_) | (with_reducible refine bdrewN ?_ _) | (with_reducible refine Below.setCell ?_ (by go_size) _)))⟩
      · have hq : (x == t) = false := by simpa using he
        have HE := Lib.hid he
        clear he
        go_wp2
        refine wp_region_rq (by kernel_rfl) (by kernel_rfl) (by kernel_rfl) ?_
        repeat (first
          | (refine B_skip ?_ ?_; (· rfl); (try simp only [Act.put, List.setIfInBounds_toArray, List.set_cons_zero, List.set_cons_succ]))
          | (refine B_move rfl ?_ ?_; (· rfl); (try simp only [Act.eval, Act.put, Array.getD_eq_getD_getElem?, List.getElem?_toArray, List.getElem?_cons_succ, List.getElem?_cons_zero, Option.getD_some, List.setIfInBounds_toArray, List.set_cons_zero, List.set_cons_succ]))
          | (refine B_plain ?_ ?_; (· rfl); intro K hK; go_big_quiet_op; with_reducible refine hK _ ?_; clear hK K)
          | (refine B_callX (v := ?_) (f := 57) rfl (by kernel_rfl) ?_ (fun xq => ?_) ?_; rotate_left; (· rfl); (· ((simp only [List.map_toArray, List.map_cons, List.map_nil, Act.eval, Array.getD_eq_getD_getElem?, List.getElem?_toArray, List.getElem?_cons_succ, List.getElem?_cons_zero, Option.getD_some]); with_reducible apply retB; with_reducible exact (place_to s n k (i + 1) H1.out x HC.out _))); (try simp only [Act.put, List.setIfInBounds_toArray, List.set_cons_zero, List.set_cons_succ]))
          | (refine B_callX (v := ?_) (f := 57) rfl (by kernel_rfl) ?_ (fun xq => ?_) ?_; rotate_left; (· rfl); (· ((simp only [List.map_toArray, List.map_cons, List.map_nil, Act.eval, Array.getD_eq_getD_getElem?, List.getElem?_toArray, List.getElem?_cons_succ, List.getElem?_cons_zero, Option.getD_some]); with_reducible apply retB; with_reducible exact (place_int s n k _ _ HK.out H1.out x HC.out _))); (try simp only [Act.put, List.setIfInBounds_toArray, List.set_cons_zero, List.set_cons_succ])))
        refine B_nil ?_ rfl ?_ ?_
        · kernel_rfl
        · rfl
        rintro _ ⟨⟨g1, d1⟩, rfl⟩
        simp only [fin, Act.put, List.setIfInBounds_toArray, List.set_cons_zero, List.set_cons_succ]
        go_wp2
        go_roundw
        case rel =>
          refine ⟨i, _, _, by omega, by go_num, fun q h1 h2 => ?_, rfl⟩
          by_cases hqi : q = i
          · subst hqi; rw [HY.out, HX.out]; exact HE.out
          · exact HNOT.out q (by omega) h2
        case measure => simp [intOf]
    · obtain rfl : j = 0 := by omega
      go_wp2
      have HU := refAns_up s t n 0 hj HNOT.out
      have H0 := ans_0 s t
      have e1 : rb = false := by rw [← HH.out, HU.1, H0.1]
      have e2 : z = 0#64 := by rw [← HZ.out, HU.2, H0.2]
      have e3 : er = 9 := by rw [HER.out, e1]; rfl
      subst e1 e2 e3
      refine bodyPost_ret (v := .tuple #[.agg #[.int .u8 0, .int .u8 0, .int .u8 0, .int .u8 0, .int .u8 0, .int .u8 0, .int .u8 0, .int .u8 0], .int .i64 9]) (by simp [results, Try.results58, go_sem]) rfl ⟨by rw [HZD.out], by (repeat' (first | (with_reducible exact Below.refl _ _) | (with_reducible refine bplus ?_ _ _) | (with_reducible refine balloc ?_ _) | (with_reducible refine Below.drew ?_) | (with_reducible refine bdrewN ?_ _) | (with_reducible refine Below.setCell ?_ (by go_size) _)))⟩

end Go.Proofs.Ytmfogedagepcgaa
