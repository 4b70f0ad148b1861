/- once: the chapter's examples. -/
import Derived.Test.YthdcfdfpfagamaaSa
import Derived.Test.YthdcfdfpfagamaaAe
namespace Go.Proofs.Ythdcfdfpfagamaa
set_option linter.unusedSimpArgs false
set_option linter.unusedVariables false
open Go.RowKit

theorem size_int (w : World) : (sizeOf 3).run Try.prog w = .ok 1 w := by kernel_rfl
/-- Digits are compared. -/
theorem eq_dgA (x : BitVec 64) (ys : Array Value) (g : Nat → Int) (hy : ∀ i, i < 18 → ys[i]? = some (.int .i64 (g i))) (r : Bool) (hr : ((List.range 18).all fun i => dgt x i == g i) = r) (w : World) :
    (Op.equalIn 10000 31 (.agg (dgA x)) (.agg ys)).run Try.prog w = .ok r w := by
  rw [← hr]
  exact run_eq_ints w 31 3 18 .i64 Try.underlying31 Try.underlying3 (size_int w) _ _ (fun i => dgt x i) g (fun i hi => dgA_get x i hi) hy

theorem keyF_congr (f g : Nat → BitVec 64) (h : ∀ c, c < 18 → f c = g c) : keyF f = keyF g := by
  unfold keyF
  congr 1
  apply List.map_congr_left
  intro c hc
  exact h c (List.mem_range.1 hc)
/-- What a secret signs tells its key. -/
theorem told_sign (s m : BitVec 64) : toldF m (signB s m) = publicF s := by
  unfold toldF publicF
  apply keyF_congr
  intro c hc
  have h := dgt_bd m c
  rw [signB_at s m c hc, chainF_add]
  congr 1
  omega

noncomputable def k7 : BitVec 64 := 7#64
theorem dg_7 : (.agg #[.int .u8 (by8 (7#64) 0), .int .u8 (by8 (7#64) 1), .int .u8 (by8 (7#64) 2), .int .u8 (by8 (7#64) 3), .int .u8 (by8 (7#64) 4), .int .u8 (by8 (7#64) 5), .int .u8 (by8 (7#64) 6), .int .u8 (by8 (7#64) 7)] : Value) = .agg #[.int .u8 7, .int .u8 0, .int .u8 0, .int .u8 0, .int .u8 0, .int .u8 0, .int .u8 0, .int .u8 0] := by simp [by8_eq]
theorem dg_9 : (.agg #[.int .u8 (by8 (9#64) 0), .int .u8 (by8 (9#64) 1), .int .u8 (by8 (9#64) 2), .int .u8 (by8 (9#64) 3), .int .u8 (by8 (9#64) 4), .int .u8 (by8 (9#64) 5), .int .u8 (by8 (9#64) 6), .int .u8 (by8 (9#64) 7)] : Value) = .agg #[.int .u8 9, .int .u8 0, .int .u8 0, .int .u8 0, .int .u8 0, .int .u8 0, .int .u8 0, .int .u8 0] := by simp [by8_eq]
theorem dg_ff : (.agg #[.int .u8 (by8 (18446744073709551615#64) 0), .int .u8 (by8 (18446744073709551615#64) 1), .int .u8 (by8 (18446744073709551615#64) 2), .int .u8 (by8 (18446744073709551615#64) 3), .int .u8 (by8 (18446744073709551615#64) 4), .int .u8 (by8 (18446744073709551615#64) 5), .int .u8 (by8 (18446744073709551615#64) 6), .int .u8 (by8 (18446744073709551615#64) 7)] : Value) = .agg #[.int .u8 255, .int .u8 255, .int .u8 255, .int .u8 255, .int .u8 255, .int .u8 255, .int .u8 255, .int .u8 255] := by simp [by8_eq]
theorem dgt_0 (i : Nat) (h : i < 18) : dgt 0#64 i = if i = 17 then 15 else 0 := by
  have e : ∀ j, by8 0#64 j = 0 := fun j => by simp [by8_eq]
  rw [dgt_eq]
  have hl : lkZ 0#64 8 = 240 := by simp [lkZ, e]
  rw [hl, e]
  (repeat' split) <;> omega
theorem dgt_ff (i : Nat) (h : i < 18) : dgt 18446744073709551615#64 i = if i < 16 then 15 else 0 := by
  have e : ∀ j, j < 8 → by8 18446744073709551615#64 j = 255 := fun j hj => by
    match j, hj with
    | 0, _ | 1, _ | 2, _ | 3, _ | 4, _ | 5, _ | 6, _ | 7, _ => simp [by8_eq]
  rw [dgt_eq]
  have hl : lkZ 18446744073709551615#64 8 = 0 := by
    simp [lkZ, e 0 (by omega), e 1 (by omega), e 2 (by omega), e 3 (by omega), e 4 (by omega), e 5 (by omega), e 6 (by omega), e 7 (by omega)]
  rw [hl]
  by_cases h16 : i < 16
  · rw [e (i / 2) (by omega)]
    (repeat' split) <;> omega
  · (repeat' split) <;> omega

set_option maxRecDepth 100000 in
set_option maxHeartbeats 2000000 in
theorem known05_any (w : World) :
    Calls Try.prog 19 #[] w fun e w' => e = .returned (.bool true) ∧ Below w.heap.size w w' := by
  have e0 := fun W : World => eq_dgA 0#64 #[.int .i64 0, .int .i64 0, .int .i64 0, .int .i64 0, .int .i64 0, .int .i64 0, .int .i64 0, .int .i64 0, .int .i64 0, .int .i64 0, .int .i64 0, .int .i64 0, .int .i64 0, .int .i64 0, .int .i64 0, .int .i64 0, .int .i64 0, .int .i64 15] (fun i => if i = 17 then 15 else 0) (fun i hi => by
    have h : i = 0 ∨ i = 1 ∨ i = 2 ∨ i = 3 ∨ i = 4 ∨ i = 5 ∨ i = 6 ∨ i = 7 ∨ i = 8 ∨ i = 9 ∨ i = 10 ∨ i = 11 ∨ i = 12 ∨ i = 13 ∨ i = 14 ∨ i = 15 ∨ i = 16 ∨ i = 17 := by omega
    rcases h with rfl | rfl | rfl | rfl | rfl | rfl | rfl | rfl | rfl | rfl | rfl | rfl | rfl | rfl | rfl | rfl | rfl | rfl <;> rfl) true (by
      rw [List.all_eq_true]; intro i hi; have hi := List.mem_range.1 hi; rw [dgt_0 i hi]; simp) W
  have e1 := fun W : World => eq_dgA 18446744073709551615#64 #[.int .i64 15, .int .i64 15, .int .i64 15, .int .i64 15, .int .i64 15, .int .i64 15, .int .i64 15, .int .i64 15, .int .i64 15, .int .i64 15, .int .i64 15, .int .i64 15, .int .i64 15, .int .i64 15, .int .i64 15, .int .i64 15, .int .i64 0, .int .i64 0] (fun i => if i < 16 then 15 else 0) (fun i hi => by
    have h : i = 0 ∨ i = 1 ∨ i = 2 ∨ i = 3 ∨ i = 4 ∨ i = 5 ∨ i = 6 ∨ i = 7 ∨ i = 8 ∨ i = 9 ∨ i = 10 ∨ i = 11 ∨ i = 12 ∨ i = 13 ∨ i = 14 ∨ i = 15 ∨ i = 16 ∨ i = 17 := by omega
    rcases h with rfl | rfl | rfl | rfl | rfl | rfl | rfl | rfl | rfl | rfl | rfl | rfl | rfl | rfl | rfl | rfl | rfl | rfl <;> rfl) true (by
      rw [List.all_eq_true]; intro i hi; have hi := List.mem_range.1 hi; rw [dgt_ff i hi]; simp) W
  have HT := Lib.hid (told_sign 7#64 9#64)
  have HSL : Hid ((signB 7#64 9#64).length = 144) := signB_len _ _
  obtain ⟨kp, HP⟩ : ∃ kp, Hid (publicF 7#64 = kp) := ⟨_, rfl⟩
  have HT2 : Hid (toldF 9#64 (signB 7#64 9#64) = kp) := by show _ = _; rw [HT.out, HP.out]
  have HQ : Hid ((kp == kp) = true) := by show _ = _; simp
  go_enter Try.func19, Try.ntmps19
  go_wp2_with (first
    | (go_at_call 25; rw [← dg_zero]; refine (reach_any 0#64 _).mono ?_; rintro e w1 ⟨rfl, hb1⟩; obtain ⟨g1, d1, rfl⟩ := plus_of_below hb1; clear hb1)
    | (go_at_call 25; rw [← dg_ff]; refine (reach_any 18446744073709551615#64 _).mono ?_; rintro e w2 ⟨rfl, hb2⟩; obtain ⟨g2, d2, rfl⟩ := plus_of_below hb2; clear hb2)
    | (refine wpList_store_blk rfl 31 (.tmp 1) (.tmp 5) rfl (B := [⟨w.heap.size + (g1.size + g2.size) + 1, 31, #[.int .i64 0, .int .i64 0, .int .i64 0, .int .i64 0, .int .i64 0, .int .i64 0, .int .i64 0, .int .i64 0, .int .i64 0, .int .i64 0, .int .i64 0, .int .i64 0, .int .i64 0, .int .i64 0, .int .i64 0, .int .i64 0, .int .i64 0, .int .i64 0]⟩]) (L := []) (w0 := plus w (g1 ++ g2) d2) (Mem.key (Mem.key (Mem.start _) _ _ (w.heap.size + (g1.size + g2.size)) (by simp)) _ _ _ (by simp)) (by rfl) (dgA 0#64) (by rfl) (by kernel_rfl) (by rw [dgA_size]; rfl) (dgA_one _) ?_; intro w3 M3)
    | (refine wpList_store_blk rfl 31 (.tmp 2) (.tmp 7) rfl (B := []) M3 (by rfl) (dgA 18446744073709551615#64) (by rfl) (by kernel_rfl) (by rw [dgA_size]; rfl) (dgA_one _) ?_; intro w5 M5; have H51 := Lib.hid (show HasBlk w5 _ _ _ from M5.blk0); have H50 := Lib.hid (show HasBlk w5 _ _ _ from M5.blk1); have HB5 := Lib.hid (M5.below (New.cons (by simp) (New.cons (by simp) (New.nil _)))); clear M3 M5)
    | (go_at_call 23; rw [← dg_7, ← dg_9]; refine (sign_to 7#64 9#64 _).mono ?_; rintro e w6 ⟨v, rfl, hb6, hv6⟩; have HS6 := Lib.hid hv6; obtain ⟨ao, cap, rfl, _, _, _⟩ := hv6.open_; rw [HSL.out] at HS6 ⊢; obtain ⟨g6, d6, rfl⟩ := plus_of_below hb6; clear hb6 hv6)
    | (refine wpList_load_want (by rfl) 31 (.tmp 1) rfl _ (by rfl) _ _ _ _ (H50.out.plus _ _) Try.underlying31 rfl (size_18 _) ?_)
    | (refine wpList_load_want (by rfl) 31 (.tmp 2) rfl _ (by rfl) _ _ _ _ (H51.out.plus _ _) Try.underlying31 rfl (size_18 _) ?_)
    | (go_at_call 20; rw [← dg_7]; refine (public_to 7#64 kp HP.out _).mono ?_; rintro e w7 ⟨rfl, hb7⟩; obtain ⟨g7, d7, rfl⟩ := plus_of_below hb7; clear hb7)
    | (go_at_call 28; rw [← dg_9]; refine (verify_yes kp 9#64 _ (signB 7#64 9#64) HSL.out _ (by rw [← plus_plus]; exact HS6.out.plus _ _) kp HT2.out true HQ.out).mono ?_; rintro e w8 ⟨rfl, hb8⟩; obtain ⟨g8, d8, rfl⟩ := plus_of_below hb8; clear hb8))
  go_ret
  exact ⟨rfl, bplus ((bplus (Below.refl _ _) (g1 ++ g2) d2).trans (HB5.out.mono (by simp))) _ _⟩

end Go.Proofs.Ythdcfdfpfagamaa
