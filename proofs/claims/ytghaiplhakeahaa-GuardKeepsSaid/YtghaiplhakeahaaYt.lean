/- tower: what the law's file says of an example. -/
import Derived.Test.YtghaiplhakeahaaYb
import Derived.Test.YtghaiplhakeahaaInv
namespace Go.Proofs.Ytghaiplhakeahaa
set_option linter.unusedSimpArgs false
set_option linter.unusedVariables false
open Go.RowKit Go.WideMaps Go.ChangeMaps Go.Maps

theorem wp_ran {P : Program} {o : Oper} {a : Act} {w W' : World} {K : Act → World → Prop} {Q : Exit → Act → World → Prop} {v : Value} (h : (execOp a.eval o).run P w = .ok (.value v) W') (hK : K (a.put o.dst v) W') : o.wp P a w K Q := by
  unfold Oper.wp
  rw [h]
  exact hK
theorem Tw.found {w w0 W : World} {C X N : List Blk} {K : List (Nat × Obj)} {p : Nat} {T : TWS} (h : Tw W w0 C X K p T) (hx : Ext W w) (hp : N.Pairwise (fun x y => x.no ≠ y.no)) (hb : ∀ x ∈ N, W.heap.size ≤ x.no ∧ HasBlk w x.no x.ty x.cs) : Tw w w0 (N ++ C) X K p T := by
  obtain ⟨B, k, O, D⟩ := h
  exact ⟨B, k, (O.found hx hp hb).perm (perm_cnt fun x => by simp only [cnt_append, cnt_cons, cnt_nil] <;> omega), D⟩
theorem dig_exT (f : Nat → UInt8) : ∃ x : BitVec 64, ∀ j, j < 8 → by8 x j = ((f j).toNat : Int) := ⟨word8 f, by8_word8 f⟩
noncomputable def t5X : BitVec 64 := Classical.choose (dig_exT fun j => [5, 0, 0, 0, 0, 0, 0, 0].getD j 0)
theorem t5X_eq (j : Nat) (hj : j < 8) : by8 t5X j = (([5, 0, 0, 0, 0, 0, 0, 0] : List UInt8).getD j 0).toNat := Classical.choose_spec (dig_exT fun j => [5, 0, 0, 0, 0, 0, 0, 0].getD j 0) j hj
theorem t5_dg : (.agg #[.int .u8 (by8 t5X 0), .int .u8 (by8 t5X 1), .int .u8 (by8 t5X 2), .int .u8 (by8 t5X 3), .int .u8 (by8 t5X 4), .int .u8 (by8 t5X 5), .int .u8 (by8 t5X 6), .int .u8 (by8 t5X 7)] : Value) = .agg #[.int .u8 5, .int .u8 0, .int .u8 0, .int .u8 0, .int .u8 0, .int .u8 0, .int .u8 0, .int .u8 0] := by
  rw [t5X_eq 0 (by omega), t5X_eq 1 (by omega), t5X_eq 2 (by omega), t5X_eq 3 (by omega), t5X_eq 4 (by omega), t5X_eq 5 (by omega), t5X_eq 6 (by omega), t5X_eq 7 (by omega)]
  rfl
theorem bsl_two (W : World) (g : Nat) (hg : g = W.heap.size) : BSl (W.alloc (.cells #[.int .u8 7, .int .u8 8] 5)) (.slice (some ⟨g, 0, none⟩) 2 2) [7, 8] := by
  subst hg
  have HB := HasBlk.new W 5 #[.int .u8 7, .int .u8 8] W.heap.size rfl
  refine ⟨_, 2, rfl, ⟨Nat.le_refl _, fun h => by cases h⟩, .inr ⟨_, 0, rfl, HB.lt, fun i hi => ?_⟩⟩
  rw [Nat.zero_add, HB.cell]
  match i, hi with
  | 0, _ => rfl
  | 1, _ => rfl
theorem seeT_at (T : TWS) (x : BitVec 64) (i : Nat) (base : Int) (hi : idx T.all (thintF x) = some i) (a : AP) (ha : T.all.getD i default = a) : seeT T x base = if a.n ≤ base then ([], false) else if (openF (tkeyF x) a.l).2 = 0 then ((openF (tkeyF x) a.l).1, true) else ([], false) := by
  unfold seeT
  rw [hi]
  simp only [ha]
theorem seeT_sealed (T : TWS) (x : BitVec 64) (i : Nat) (base : Int) (n : Int) (l : List UInt8) (hl : l.length ≤ 65536) (hi : idx T.all (thintF x) = some i) (h : BitVec 64) (ha : T.all.getD i default = ⟨h, n, tboxF x l⟩) : seeT T x base = if n ≤ base then ([], false) else (l, true) := by
  rw [seeT_at T x i base hi _ ha]
  have h2 : openF (tkeyF x) (tboxF x l) = (l, 0) := open_sealF (tkeyF x) l hl
  simp only [h2]
  by_cases h : n ≤ base
  · rw [if_pos h, if_pos h]
  · rw [if_neg h, if_neg h, if_pos trivial]
theorem idx_one (a : AP) (x : BitVec 64) (h : a.h = x) : idx [a] x = some 0 := by
  unfold idx
  subst h
  rw [List.findIdx?_cons]
  simp
theorem Tw.bsl {w w0 : World} {C X L : List Blk} {K : List (Nat × Obj)} {p : Nat} {T : TWS} {v : Value} {l : List UInt8} (h : Tw w w0 C X K p T) (m : Msg w0 L v l) (hL : ∀ x ∈ L, x ∈ C ++ X) : BSl w v l := by
  obtain ⟨B, k, O, D⟩ := h
  exact m.bsl O.ow (fun x hx => List.mem_append_right _ (hL x hx))
noncomputable def tY : List UInt8 := tboxF t5X [7, 8]
theorem tY_len : tY.length = 10 := by unfold tY tboxF; rw [sealF_len]; rfl
noncomputable def tAp : AP := ⟨thintF t5X, 3, tY⟩
def tA0 : TWS := ⟨2, []⟩
noncomputable def tA1 : TWS := ⟨2, [tAp]⟩
theorem tA0_ok : TOk tA0 := TOk.new 2 (by omega)
theorem tA_E1 : takeE tA0 tAp = 0 := by simp [takeE, tA0, tAp, isNum, tY_len, idx]
theorem tA_T1 : takeT tA0 tAp = tA1 := by
  unfold takeT
  rw [if_pos tA_E1]
  have hi : idx tA0.all tAp.h = none := rfl
  simp only [hi]
  rfl
theorem tA1_ok : TOk tA1 := by rw [← tA_T1]; exact tA0_ok.take tAp
theorem tA_hi : idx tA1.all tAp.h = some 0 := by simp [idx, tA1]
theorem tA_E2 : takeE tA1 tAp = 18 := by
  unfold takeE
  rw [if_neg (by simp [tAp, isNum]), if_neg (by show ¬ tY.length < 8; rw [tY_len]; omega), if_neg (by show ¬ 32776 < tY.length; rw [tY_len]; omega)]
  simp only [tA_hi]
  rw [if_pos (by exact Int.le_refl 3)]
theorem tA_T2 : takeT tA1 tAp = tA1 := by unfold takeT; rw [if_neg (by rw [tA_E2]; omega)]
theorem tA_see (b : Int) : seeT tA1 t5X b = if 3 ≤ b then ([], false) else ([7, 8], true) := seeT_sealed tA1 t5X 0 b 3 [7, 8] (by decide) (idx_one tAp _ rfl) (thintF t5X) rfl
set_option maxRecDepth 100000 in
set_option maxHeartbeats 4000000 in
theorem told51_to (w : World) : Calls Try.prog 15 #[] w fun e w' => e = .returned (.bool true) ∧ Below w.heap.size w w' := by
  have htd := t5_dg
  have HC0 : (#[.int .u8 (by8 t5X 0), .int .u8 (by8 t5X 1), .int .u8 (by8 t5X 2), .int .u8 (by8 t5X 3), .int .u8 (by8 t5X 4), .int .u8 (by8 t5X 5), .int .u8 (by8 t5X 6), .int .u8 (by8 t5X 7)] : Array Value) = #[.int .u8 5, .int .u8 0, .int .u8 0, .int .u8 0, .int .u8 0, .int .u8 0, .int .u8 0, .int .u8 0] := Value.agg.inj t5_dg
  have O0 := (Ow.start w).key #[.int .u8 5, .int .u8 0, .int .u8 0, .int .u8 0, .int .u8 0, .int .u8 0, .int .u8 0, .int .u8 0] 27 w.heap.size rfl
  rw [← HC0] at O0
  have HO0 := Lib.hid (O0.alloc (.cells #[.int .u8 7, .int .u8 8] 5))
  rw [HC0] at HO0
  have hbs := Lib.hid (bsl_two (w.alloc (.cells #[.int .u8 5, .int .u8 0, .int .u8 0, .int .u8 0, .int .u8 0, .int .u8 0, .int .u8 0, .int .u8 0] 27)) (w.heap.size + 1) (by simp))
  have HC := Lib.hid HC0
  obtain ⟨h, HH⟩ : ∃ h, Hid (thintF t5X = h) := ⟨_, rfl⟩
  obtain ⟨y, HY⟩ : ∃ y, Hid (tY = y) := ⟨_, rfl⟩
  have hy10 : y.length = 10 := by rw [← HY.out]; exact tY_len
  have hap : tAp = ⟨h, 3, y⟩ := by unfold tAp; rw [HH.out, HY.out]
  have HE1 : Hid (takeE tA0 ⟨h, 3, y⟩ = 0) := by show _ = _; rw [← hap]; exact tA_E1
  have HT1 : Hid (takeT tA0 ⟨h, 3, y⟩ = tA1) := by show _ = _; rw [← hap]; exact tA_T1
  have HE2 : Hid (takeE tA1 ⟨h, 3, y⟩ = 18) := by show _ = _; rw [← hap]; exact tA_E2
  have HT2 : Hid (takeT tA1 ⟨h, 3, y⟩ = tA1) := by show _ = _; rw [← hap]; exact tA_T2
  clear O0 HC0 hap
  go_enter Try.func15, Try.ntmps15
  go_wp2_with fail
  rw [← htd]
  refine (make_to t5X 3 _ [7, 8] rfl (by simp) h HH.out y HY.out _ hbs.out).mono ?_
  rintro e w1 ⟨u, rfl, hb1, hu⟩
  obtain ⟨NB, O1, hm⟩ := hu.found HO0.out (Ext.of_below hb1)
  obtain ⟨au, cu, rfl⟩ := (hm w).slice
  rw [hy10] at hm
  have HM := Lib.hid (hm w)
  have HO1 := Lib.hid (O1.key #[.int .u8 (by8 h 0), .int .u8 (by8 h 1), .int .u8 (by8 h 2), .int .u8 (by8 h 3), .int .u8 (by8 h 4), .int .u8 (by8 h 5), .int .u8 (by8 h 6), .int .u8 (by8 h 7), .int .i64 3, .slice au y.length cu] 29 w1.heap.size rfl)
  rw [hy10] at HO1 ⊢
  rw [← HC.out] at HO1
  clear hb1 hu O1 hm htd hbs HO0 hy10
  go_wp2_with fail
  have HOm : Hid (Omw _ w _ []) := ⟨HO1.out, by simp, by simp, by simp, .nil⟩
  refine (tnew_to 2 (by omega) (by omega) _ w _ [] HOm.out).mono ?_
  rintro e w2 ⟨p, B, k, rfl, O2, hP⟩
  obtain ⟨b1, hb1⟩ : ∃ b, b = w.heap.size := ⟨_, rfl⟩
  obtain ⟨b2, hb2⟩ : ∃ b, b = w1.heap.size := ⟨_, rfl⟩
  have h3 : Tw w2 w (⟨w1.heap.size, 29, #[.int .u8 (by8 h 0), .int .u8 (by8 h 1), .int .u8 (by8 h 2), .int .u8 (by8 h 3), .int .u8 (by8 h 4), .int .u8 (by8 h 5), .int .u8 (by8 h 6), .int .u8 (by8 h 7), .int .i64 3, .slice au 10 cu]⟩ :: (⟨w.heap.size, 27, #[.int .u8 (by8 t5X 0), .int .u8 (by8 t5X 1), .int .u8 (by8 t5X 2), .int .u8 (by8 t5X 3), .int .u8 (by8 t5X 4), .int .u8 (by8 t5X 5), .int .u8 (by8 t5X 6), .int .u8 (by8 t5X 7)]⟩ :: NB)) [] [] p tA0 := ⟨B, k, O2.perm (perm_cnt fun x => by simp only [cnt_append, cnt_cons, cnt_nil] <;> omega), hP []⟩
  rw [← hb1, ← hb2] at h3
  simp only [← hb1, ← hb2]
  have H3 := Lib.hid h3
  clear h3 O2 hP HO1 HOm hb1 hb2
  go_wp2_with fail
  refine wp_region_o2 [21, 22, 23, 24, 25, 26, 27, 28, 29, 30, 31, 32, 33, 34, 35, 36, 37, 38, 39, 40, 41, 42, 43, 44, 45, 46, 47, 48, 49, 50, 51, 52, 53, 54, 55] (fun L (_ : Unit) => [(L 0, 21, tptr p), (L 1, 22, .bool false), (L 2, 23, .bool false), (L 3, 24, .int .i64 0), (L 4, 25, .bool false), (L 5, 26, .bool false), (L 6, 27, .bool false), (L 7, 28, .int .i64 0), (L 8, 29, .bool false), (L 9, 30, .bool false), (L 10, 31, .bool false), (L 11, 32, .pointer (some ⟨b2, 9, none⟩)), (L 12, 33, .slice au 10 cu), (L 13, 34, .int .i64 10), (L 14, 35, .bool false), (L 15, 36, .bool false), (L 16, 37, .bool false), (L 17, 38, tptr b2), (L 18, 39, .agg #[.int .u8 (by8 h 0), .int .u8 (by8 h 1), .int .u8 (by8 h 2), .int .u8 (by8 h 3), .int .u8 (by8 h 4), .int .u8 (by8 h 5), .int .u8 (by8 h 6), .int .u8 (by8 h 7)]), (L 19, 40, .agg #[.int .u8 (by8 t5X 0), .int .u8 (by8 t5X 1), .int .u8 (by8 t5X 2), .int .u8 (by8 t5X 3), .int .u8 (by8 t5X 4), .int .u8 (by8 t5X 5), .int .u8 (by8 t5X 6), .int .u8 (by8 t5X 7)]), (L 20, 41, .agg #[.int .u8 (by8 h 0), .int .u8 (by8 h 1), .int .u8 (by8 h 2), .int .u8 (by8 h 3), .int .u8 (by8 h 4), .int .u8 (by8 h 5), .int .u8 (by8 h 6), .int .u8 (by8 h 7)]), (L 21, 42, .bool false), (L 22, 43, .bool false), (L 23, 44, .bool false), (L 24, 45, tptr p), (L 25, 46, .agg #[.int .u8 (by8 h 0), .int .u8 (by8 h 1), .int .u8 (by8 h 2), .int .u8 (by8 h 3), .int .u8 (by8 h 4), .int .u8 (by8 h 5), .int .u8 (by8 h 6), .int .u8 (by8 h 7), .int .i64 3, .slice au 10 cu]), (L 26, 47, .int .i64 0), (L 27, 48, .bool false), (L 28, 49, .bool false), (L 29, 50, .bool false), (L 30, 51, tptr p), (L 31, 52, .agg #[.int .u8 (by8 h 0), .int .u8 (by8 h 1), .int .u8 (by8 h 2), .int .u8 (by8 h 3), .int .u8 (by8 h 4), .int .u8 (by8 h 5), .int .u8 (by8 h 6), .int .u8 (by8 h 7), .int .i64 3, .slice au 10 cu]), (L 32, 53, .int .i64 18), (L 33, 54, .bool false), (L 34, 55, .bool false)])
    (fun L _ W => ∃ N, Tw W w (⟨b2, 29, #[.int .u8 (by8 h 0), .int .u8 (by8 h 1), .int .u8 (by8 h 2), .int .u8 (by8 h 3), .int .u8 (by8 h 4), .int .u8 (by8 h 5), .int .u8 (by8 h 6), .int .u8 (by8 h 7), .int .i64 3, .slice au 10 cu]⟩ :: (⟨b1, 27, #[.int .u8 (by8 t5X 0), .int .u8 (by8 t5X 1), .int .u8 (by8 t5X 2), .int .u8 (by8 t5X 3), .int .u8 (by8 t5X 4), .int .u8 (by8 t5X 5), .int .u8 (by8 t5X 6), .int .u8 (by8 t5X 7)]⟩ :: NB)) N [] p (bif L 26 then tA1 else tA0)) () (by kernel_rfl) (by kernel_rfl) 78 (by rfl) (fun _ _ => rfl) (by kernel_rfl) (by kernel_rfl) (by kernel_rfl) (by rfl) ⟨[], H3.out.drew⟩ ?_ ⟨?_, ?_, ?_, ?_, ?_, ?_, ?_, ?_, ?_, ?_, ?_, ?_, ?_, ?_, ?_, ?_, ?_, ?_, ?_, ?_, ?_, ?_, ?_, ?_, ?_, ?_, ?_, ?_, ?_, ?_, ?_, ?_, ?_, ?_, ?_, trivial⟩
  rotate_left
  · (intro L x W hW hC hL hd B K hB hK; (try simp [depsB, Region.binds] at hd); (try simp only [Nat.reduceAdd] at hK hL); (have e4 := hB.out 4); (simp (decide := true) only [look, if_true, if_false, hd, cond_true, cond_false, Array.getD_eq_getD_getElem?, List.getElem?_toArray, List.getElem?_cons_succ, List.getElem?_cons_zero, Option.getD_some] at e4); go_simp; exact hK.out (tptr p) () W (by simp (decide := true) [putO, setF, upd]) hW)
  · (intro L x W hW hC hL hd B K hB hK; (try simp [depsB, Region.binds] at hd); (try simp only [Nat.reduceAdd] at hK hL); (have e21 := hB.out 21); (simp (decide := true) only [look, if_true, if_false, hd, cond_true, cond_false, Array.getD_eq_getD_getElem?, List.getElem?_toArray, List.getElem?_cons_succ, List.getElem?_cons_zero, Option.getD_some] at e21); go_simp; exact hK.out (.bool false) () W (by simp (decide := true) [putO, setF, upd]) hW)
  · (intro L x W hW hC hL hd B K hB hK; (try simp [depsB, Region.binds] at hd); (try simp only [Nat.reduceAdd] at hK hL); (have e22 := hB.out 22); (simp (decide := true) only [look, if_true, if_false, hd, cond_true, cond_false, Array.getD_eq_getD_getElem?, List.getElem?_toArray, List.getElem?_cons_succ, List.getElem?_cons_zero, Option.getD_some] at e22); go_simp; exact hK.out (.bool false) () W (by simp (decide := true) [putO, setF, upd]) hW)
  · (intro L x W hW hC hL hd B K hB hK; (try simp [depsB, Region.binds] at hd); (try simp only [Nat.reduceAdd] at hK hL); (have e23 := hB.out 23); (simp (decide := true) only [look, if_true, if_false, hd, cond_true, cond_false] at e23); (try dsimp only); rw [if_pos (by rw [wanted_B rfl rfl e23]; rfl)]; (have e3 := hB.out 3); (simp (decide := true) only [look, if_true, if_false, hd, cond_true, cond_false, Array.getD_eq_getD_getElem?, List.getElem?_toArray, List.getElem?_cons_succ, List.getElem?_cons_zero, Option.getD_some] at e3); go_simp; exact hK.out (.int .i64 0) () W (by simp (decide := true) [putO, setF, upd]) hW)
  · (intro L x W hW hC hL hd B K hB hK; (try simp [depsB, Region.binds] at hd); (try simp only [Nat.reduceAdd] at hK hL); (have e23 := hB.out 23); (simp (decide := true) only [look, if_true, if_false, hd, cond_true, cond_false] at e23); (try dsimp only); rw [if_pos (by rw [wanted_B rfl rfl e23]; rfl)]; (have e24 := hB.out 24); (simp (decide := true) only [look, if_true, if_false, hd, cond_true, cond_false, Array.getD_eq_getD_getElem?, List.getElem?_toArray, List.getElem?_cons_succ, List.getElem?_cons_zero, Option.getD_some] at e24); go_simp; exact hK.out (.bool false) () W (by simp (decide := true) [putO, setF, upd]) hW)
  · (intro L x W hW hC hL hd B K hB hK; (try simp [depsB, Region.binds] at hd); (try simp only [Nat.reduceAdd] at hK hL); (have e23 := hB.out 23); (simp (decide := true) only [look, if_true, if_false, hd, cond_true, cond_false, Array.getD_eq_getD_getElem?, List.getElem?_toArray, List.getElem?_cons_succ, List.getElem?_cons_zero, Option.getD_some] at e23); (have e25 := hB.out 25); (simp (decide := true) only [look, if_true, if_false, hd, cond_true, cond_false, Array.getD_eq_getD_getElem?, List.getElem?_toArray, List.getElem?_cons_succ, List.getElem?_cons_zero, Option.getD_some] at e25); go_simp; exact hK.out (.bool false) () W (by simp (decide := true) [putO, setF, upd]) hW)
  · (intro L x W hW hC hL hd B K hB hK; (try simp [depsB, Region.binds] at hd); (try simp only [Nat.reduceAdd] at hK hL); (have e26 := hB.out 26); (simp (decide := true) only [look, if_true, if_false, hd, cond_true, cond_false, Array.getD_eq_getD_getElem?, List.getElem?_toArray, List.getElem?_cons_succ, List.getElem?_cons_zero, Option.getD_some] at e26); go_simp; exact hK.out (.bool false) () W (by simp (decide := true) [putO, setF, upd]) hW)
  · (intro L x W hW hC hL hd B K hB hK; (try simp [depsB, Region.binds] at hd); (try simp only [Nat.reduceAdd] at hK hL); (have e27 := hB.out 27); (simp (decide := true) only [look, if_true, if_false, hd, cond_true, cond_false] at e27); (try dsimp only); rw [if_pos (by rw [wanted_B rfl rfl e27]; rfl)]; (have e5 := hB.out 5); (simp (decide := true) only [look, if_true, if_false, hd, cond_true, cond_false, Array.getD_eq_getD_getElem?, List.getElem?_toArray, List.getElem?_cons_succ, List.getElem?_cons_zero, Option.getD_some] at e5); go_simp; exact hK.out (.int .i64 0) () W (by simp (decide := true) [putO, setF, upd]) hW)
  · (intro L x W hW hC hL hd B K hB hK; (try simp [depsB, Region.binds] at hd); (try simp only [Nat.reduceAdd] at hK hL); (have e27 := hB.out 27); (simp (decide := true) only [look, if_true, if_false, hd, cond_true, cond_false] at e27); (try dsimp only); rw [if_pos (by rw [wanted_B rfl rfl e27]; rfl)]; (have e28 := hB.out 28); (simp (decide := true) only [look, if_true, if_false, hd, cond_true, cond_false, Array.getD_eq_getD_getElem?, List.getElem?_toArray, List.getElem?_cons_succ, List.getElem?_cons_zero, Option.getD_some] at e28); go_simp; exact hK.out (.bool false) () W (by simp (decide := true) [putO, setF, upd]) hW)
  · (intro L x W hW hC hL hd B K hB hK; (try simp [depsB, Region.binds] at hd); (try simp only [Nat.reduceAdd] at hK hL); (have e27 := hB.out 27); (simp (decide := true) only [look, if_true, if_false, hd, cond_true, cond_false, Array.getD_eq_getD_getElem?, List.getElem?_toArray, List.getElem?_cons_succ, List.getElem?_cons_zero, Option.getD_some] at e27); (have e29 := hB.out 29); (simp (decide := true) only [look, if_true, if_false, hd, cond_true, cond_false, Array.getD_eq_getD_getElem?, List.getElem?_toArray, List.getElem?_cons_succ, List.getElem?_cons_zero, Option.getD_some] at e29); go_simp; exact hK.out (.bool false) () W (by simp (decide := true) [putO, setF, upd]) hW)
  · (intro L x W hW hC hL hd B K hB hK; (try simp [depsB, Region.binds] at hd); (try simp only [Nat.reduceAdd] at hK hL); (have e30 := hB.out 30); (simp (decide := true) only [look, if_true, if_false, hd, cond_true, cond_false, Array.getD_eq_getD_getElem?, List.getElem?_toArray, List.getElem?_cons_succ, List.getElem?_cons_zero, Option.getD_some] at e30); go_simp; exact hK.out (.bool false) () W (by simp (decide := true) [putO, setF, upd]) hW)
  · (intro L x W hW hC hL hd B K hB hK; (try simp [depsB, Region.binds] at hd); (try simp only [Nat.reduceAdd] at hK hL); (have e31 := hB.out 31); (simp (decide := true) only [look, if_true, if_false, hd, cond_true, cond_false] at e31); (try dsimp only); rw [if_pos (by rw [wanted_B rfl rfl e31]; rfl)]; (have e2 := hB.out 2); (simp (decide := true) only [look, if_true, if_false, hd, cond_true, cond_false, Array.getD_eq_getD_getElem?, List.getElem?_toArray, List.getElem?_cons_succ, List.getElem?_cons_zero, Option.getD_some] at e2); go_simp; exact hK.out (.pointer (some ⟨b2, 9, none⟩)) () W (by simp (decide := true) [putO, setF, upd]) hW)
  · (intro L x W hW hC hL hd B K hB hK; (try simp [depsB, Region.binds] at hd); (try simp only [Nat.reduceAdd] at hK hL); (have e31 := hB.out 31); (simp (decide := true) only [look, if_true, if_false, hd, cond_true, cond_false] at e31); (try dsimp only); rw [if_pos (by rw [wanted_B rfl rfl e31]; rfl)]; (have e32 := hB.out 32); (simp (decide := true) only [look, if_true, if_false, hd, cond_true, cond_false, Array.getD_eq_getD_getElem?, List.getElem?_toArray, List.getElem?_cons_succ, List.getElem?_cons_zero, Option.getD_some] at e32); (have hW0 := hW); (obtain ⟨N, hN⟩ := hW0); (have hq := hN.has (b := b2) (t := 29) (cs := #[.int .u8 (by8 h 0), .int .u8 (by8 h 1), .int .u8 (by8 h 2), .int .u8 (by8 h 3), .int .u8 (by8 h 4), .int .u8 (by8 h 5), .int .u8 (by8 h 6), .int .u8 (by8 h 7), .int .i64 3, .slice au 10 cu]) (by simp)); (have q0 := hq.cell 0); (have q1 := hq.cell 1); (have q2 := hq.cell 2); (have q3 := hq.cell 3); (have q4 := hq.cell 4); (have q5 := hq.cell 5); (have q6 := hq.cell 6); (have q7 := hq.cell 7); (have q8 := hq.cell 8); (have q9 := hq.cell 9); (have lq := hq.lt); (simp only [List.getElem?_toArray, List.getElem?_cons_succ, List.getElem?_cons_zero] at q0 q1 q2 q3 q4 q5 q6 q7 q8 q9); clear hq; clear hN; go_simp; exact hK.out (.slice au 10 cu) () W (by simp (decide := true) [putO, setF, upd]) hW)
  · (intro L x W hW hC hL hd B K hB hK; (try simp [depsB, Region.binds] at hd); (try simp only [Nat.reduceAdd] at hK hL); (have e31 := hB.out 31); (simp (decide := true) only [look, if_true, if_false, hd, cond_true, cond_false] at e31); (try dsimp only); rw [if_pos (by rw [wanted_B rfl rfl e31]; rfl)]; (have e33 := hB.out 33); (simp (decide := true) only [look, if_true, if_false, hd, cond_true, cond_false, Array.getD_eq_getD_getElem?, List.getElem?_toArray, List.getElem?_cons_succ, List.getElem?_cons_zero, Option.getD_some] at e33); go_simp; exact hK.out (.int .i64 10) () W (by simp (decide := true) [putO, setF, upd]) hW)
  · (intro L x W hW hC hL hd B K hB hK; (try simp [depsB, Region.binds] at hd); (try simp only [Nat.reduceAdd] at hK hL); (have e31 := hB.out 31); (simp (decide := true) only [look, if_true, if_false, hd, cond_true, cond_false] at e31); (try dsimp only); rw [if_pos (by rw [wanted_B rfl rfl e31]; rfl)]; (have e34 := hB.out 34); (simp (decide := true) only [look, if_true, if_false, hd, cond_true, cond_false, Array.getD_eq_getD_getElem?, List.getElem?_toArray, List.getElem?_cons_succ, List.getElem?_cons_zero, Option.getD_some] at e34); go_simp; exact hK.out (.bool false) () W (by simp (decide := true) [putO, setF, upd]) hW)
  · (intro L x W hW hC hL hd B K hB hK; (try simp [depsB, Region.binds] at hd); (try simp only [Nat.reduceAdd] at hK hL); (have e31 := hB.out 31); (simp (decide := true) only [look, if_true, if_false, hd, cond_true, cond_false, Array.getD_eq_getD_getElem?, List.getElem?_toArray, List.getElem?_cons_succ, List.getElem?_cons_zero, Option.getD_some] at e31); (have e35 := hB.out 35); (simp (decide := true) only [look, if_true, if_false, hd, cond_true, cond_false, Array.getD_eq_getD_getElem?, List.getElem?_toArray, List.getElem?_cons_succ, List.getElem?_cons_zero, Option.getD_some] at e35); go_simp; exact hK.out (.bool false) () W (by simp (decide := true) [putO, setF, upd]) hW)
  · (intro L x W hW hC hL hd B K hB hK; (try simp [depsB, Region.binds] at hd); (try simp only [Nat.reduceAdd] at hK hL); (have e36 := hB.out 36); (simp (decide := true) only [look, if_true, if_false, hd, cond_true, cond_false, Array.getD_eq_getD_getElem?, List.getElem?_toArray, List.getElem?_cons_succ, List.getElem?_cons_zero, Option.getD_some] at e36); go_simp; exact hK.out (.bool false) () W (by simp (decide := true) [putO, setF, upd]) hW)
  · (intro L x W hW hC hL hd B K hB hK; (try simp [depsB, Region.binds] at hd); (try simp only [Nat.reduceAdd] at hK hL); (have e37 := hB.out 37); (simp (decide := true) only [look, if_true, if_false, hd, cond_true, cond_false] at e37); (try dsimp only); rw [if_pos (by rw [wanted_B rfl rfl e37]; rfl)]; (have e2 := hB.out 2); (simp (decide := true) only [look, if_true, if_false, hd, cond_true, cond_false, Array.getD_eq_getD_getElem?, List.getElem?_toArray, List.getElem?_cons_succ, List.getElem?_cons_zero, Option.getD_some] at e2); go_simp; exact hK.out (tptr b2) () W (by simp (decide := true) [putO, setF, upd]) hW)
  · (intro L x W hW hC hL hd B K hB hK; (try simp [depsB, Region.binds] at hd); (try simp only [Nat.reduceAdd] at hK hL); (have e37 := hB.out 37); (simp (decide := true) only [look, if_true, if_false, hd, cond_true, cond_false] at e37); (try dsimp only); rw [if_pos (by rw [wanted_B rfl rfl e37]; rfl)]; (have e38 := hB.out 38); (simp (decide := true) only [look, if_true, if_false, hd, cond_true, cond_false, Array.getD_eq_getD_getElem?, List.getElem?_toArray, List.getElem?_cons_succ, List.getElem?_cons_zero, Option.getD_some] at e38); (have hW0 := hW); (obtain ⟨N, hN⟩ := hW0); (have hq := hN.has (b := b2) (t := 29) (cs := #[.int .u8 (by8 h 0), .int .u8 (by8 h 1), .int .u8 (by8 h 2), .int .u8 (by8 h 3), .int .u8 (by8 h 4), .int .u8 (by8 h 5), .int .u8 (by8 h 6), .int .u8 (by8 h 7), .int .i64 3, .slice au 10 cu]) (by simp)); (have q0 := hq.cell 0); (have q1 := hq.cell 1); (have q2 := hq.cell 2); (have q3 := hq.cell 3); (have q4 := hq.cell 4); (have q5 := hq.cell 5); (have q6 := hq.cell 6); (have q7 := hq.cell 7); (have q8 := hq.cell 8); (have q9 := hq.cell 9); (have lq := hq.lt); (simp only [List.getElem?_toArray, List.getElem?_cons_succ, List.getElem?_cons_zero] at q0 q1 q2 q3 q4 q5 q6 q7 q8 q9); clear hq; clear hN; go_simp; exact hK.out (.agg #[.int .u8 (by8 h 0), .int .u8 (by8 h 1), .int .u8 (by8 h 2), .int .u8 (by8 h 3), .int .u8 (by8 h 4), .int .u8 (by8 h 5), .int .u8 (by8 h 6), .int .u8 (by8 h 7)]) () W (by simp (decide := true) [putO, setF, upd]) hW)
  · (intro L x W hW hC hL hd B K hB hK; (try simp [depsB, Region.binds] at hd); (try simp only [Nat.reduceAdd] at hK hL); (have e37 := hB.out 37); (simp (decide := true) only [look, if_true, if_false, hd, cond_true, cond_false] at e37); (try dsimp only); rw [if_pos (by rw [wanted_B rfl rfl e37]; rfl)]; (have e1 := hB.out 1); (simp (decide := true) only [look, if_true, if_false, hd, cond_true, cond_false, Array.getD_eq_getD_getElem?, List.getElem?_toArray, List.getElem?_cons_succ, List.getElem?_cons_zero, Option.getD_some] at e1); (have hW0 := hW); (obtain ⟨N, hN⟩ := hW0); (have hq := hN.has (b := b1) (t := 27) (cs := #[.int .u8 (by8 t5X 0), .int .u8 (by8 t5X 1), .int .u8 (by8 t5X 2), .int .u8 (by8 t5X 3), .int .u8 (by8 t5X 4), .int .u8 (by8 t5X 5), .int .u8 (by8 t5X 6), .int .u8 (by8 t5X 7)]) (by simp)); (have q0 := hq.cell 0); (have q1 := hq.cell 1); (have q2 := hq.cell 2); (have q3 := hq.cell 3); (have q4 := hq.cell 4); (have q5 := hq.cell 5); (have q6 := hq.cell 6); (have q7 := hq.cell 7); (have lq := hq.lt); (simp only [List.getElem?_toArray, List.getElem?_cons_succ, List.getElem?_cons_zero] at q0 q1 q2 q3 q4 q5 q6 q7); clear hq; clear hN; go_simp; exact hK.out (.agg #[.int .u8 (by8 t5X 0), .int .u8 (by8 t5X 1), .int .u8 (by8 t5X 2), .int .u8 (by8 t5X 3), .int .u8 (by8 t5X 4), .int .u8 (by8 t5X 5), .int .u8 (by8 t5X 6), .int .u8 (by8 t5X 7)]) () W (by simp (decide := true) [putO, setF, upd]) hW)
  · intro L x W hW hC hL hd B K hB hK; (try simp [depsB, Region.binds] at hd); (try simp only [Nat.reduceAdd] at hK hL)
    (have e37 := hB.out 37); (simp (decide := true) only [look, if_true, if_false, hd, cond_true, cond_false] at e37); (try dsimp only); rw [if_pos (by rw [wanted_B rfl rfl e37]; rfl)]
    (have e40 := hB.out 40); (simp (decide := true) only [look, if_true, if_false, hd, cond_true, cond_false, Array.getD_eq_getD_getElem?, List.getElem?_toArray, List.getElem?_cons_succ, List.getElem?_cons_zero, Option.getD_some] at e40)
    obtain ⟨N, hN⟩ := hW
    refine wp_call_in 18 (by rfl) (by kernel_rfl) #[.agg #[.int .u8 (by8 t5X 0), .int .u8 (by8 t5X 1), .int .u8 (by8 t5X 2), .int .u8 (by8 t5X 3), .int .u8 (by8 t5X 4), .int .u8 (by8 t5X 5), .int .u8 (by8 t5X 6), .int .u8 (by8 t5X 7)]] (by simp [Act.eval, e40]) ((hint_to t5X h HH.out W).mono ?_)
    rintro e W4 ⟨rfl, hb4⟩
    refine ⟨_, rfl, ?_⟩
    exact hK.out (.agg #[.int .u8 (by8 h 0), .int .u8 (by8 h 1), .int .u8 (by8 h 2), .int .u8 (by8 h 3), .int .u8 (by8 h 4), .int .u8 (by8 h 5), .int .u8 (by8 h 6), .int .u8 (by8 h 7)]) () W4 (by simp (decide := true) [putO, setF, upd]) ⟨N, hN.of_below hb4⟩
  · (intro L x W hW hC hL hd B K hB hK; (try simp [depsB, Region.binds] at hd); (try simp only [Nat.reduceAdd] at hK hL); (have e37 := hB.out 37); (simp (decide := true) only [look, if_true, if_false, hd, cond_true, cond_false] at e37); (try dsimp only); rw [if_pos (by rw [wanted_B rfl rfl e37]; rfl)]; (have e39 := hB.out 39); (simp (decide := true) only [look, if_true, if_false, hd, cond_true, cond_false, Array.getD_eq_getD_getElem?, List.getElem?_toArray, List.getElem?_cons_succ, List.getElem?_cons_zero, Option.getD_some] at e39); (have e41 := hB.out 41); (simp (decide := true) only [look, if_true, if_false, hd, cond_true, cond_false, Array.getD_eq_getD_getElem?, List.getElem?_toArray, List.getElem?_cons_succ, List.getElem?_cons_zero, Option.getD_some] at e41); go_simp; exact hK.out (.bool false) () W (by simp (decide := true) [putO, setF, upd]) hW)
  · (intro L x W hW hC hL hd B K hB hK; (try simp [depsB, Region.binds] at hd); (try simp only [Nat.reduceAdd] at hK hL); (have e37 := hB.out 37); (simp (decide := true) only [look, if_true, if_false, hd, cond_true, cond_false, Array.getD_eq_getD_getElem?, List.getElem?_toArray, List.getElem?_cons_succ, List.getElem?_cons_zero, Option.getD_some] at e37); (have e42 := hB.out 42); (simp (decide := true) only [look, if_true, if_false, hd, cond_true, cond_false, Array.getD_eq_getD_getElem?, List.getElem?_toArray, List.getElem?_cons_succ, List.getElem?_cons_zero, Option.getD_some] at e42); go_simp; exact hK.out (.bool false) () W (by simp (decide := true) [putO, setF, upd]) hW)
  · (intro L x W hW hC hL hd B K hB hK; (try simp [depsB, Region.binds] at hd); (try simp only [Nat.reduceAdd] at hK hL); (have e43 := hB.out 43); (simp (decide := true) only [look, if_true, if_false, hd, cond_true, cond_false, Array.getD_eq_getD_getElem?, List.getElem?_toArray, List.getElem?_cons_succ, List.getElem?_cons_zero, Option.getD_some] at e43); go_simp; exact hK.out (.bool false) () W (by simp (decide := true) [putO, setF, upd]) hW)
  · (intro L x W hW hC hL hd B K hB hK; (try simp [depsB, Region.binds] at hd); (try simp only [Nat.reduceAdd] at hK hL); (have e44 := hB.out 44); (simp (decide := true) only [look, if_true, if_false, hd, cond_true, cond_false] at e44); (try dsimp only); rw [if_pos (by rw [wanted_B rfl rfl e44]; rfl)]; (have e4 := hB.out 4); (simp (decide := true) only [look, if_true, if_false, hd, cond_true, cond_false, Array.getD_eq_getD_getElem?, List.getElem?_toArray, List.getElem?_cons_succ, List.getElem?_cons_zero, Option.getD_some] at e4); go_simp; exact hK.out (tptr p) () W (by simp (decide := true) [putO, setF, upd]) hW)
  · (intro L x W hW hC hL hd B K hB hK; (try simp [depsB, Region.binds] at hd); (try simp only [Nat.reduceAdd] at hK hL); (have e44 := hB.out 44); (simp (decide := true) only [look, if_true, if_false, hd, cond_true, cond_false] at e44); (try dsimp only); rw [if_pos (by rw [wanted_B rfl rfl e44]; rfl)]; (have e2 := hB.out 2); (simp (decide := true) only [look, if_true, if_false, hd, cond_true, cond_false, Array.getD_eq_getD_getElem?, List.getElem?_toArray, List.getElem?_cons_succ, List.getElem?_cons_zero, Option.getD_some] at e2); (have hW0 := hW); (obtain ⟨N, hN⟩ := hW0); (have hq := hN.has (b := b2) (t := 29) (cs := #[.int .u8 (by8 h 0), .int .u8 (by8 h 1), .int .u8 (by8 h 2), .int .u8 (by8 h 3), .int .u8 (by8 h 4), .int .u8 (by8 h 5), .int .u8 (by8 h 6), .int .u8 (by8 h 7), .int .i64 3, .slice au 10 cu]) (by simp)); (have q0 := hq.cell 0); (have q1 := hq.cell 1); (have q2 := hq.cell 2); (have q3 := hq.cell 3); (have q4 := hq.cell 4); (have q5 := hq.cell 5); (have q6 := hq.cell 6); (have q7 := hq.cell 7); (have q8 := hq.cell 8); (have q9 := hq.cell 9); (have lq := hq.lt); (simp only [List.getElem?_toArray, List.getElem?_cons_succ, List.getElem?_cons_zero] at q0 q1 q2 q3 q4 q5 q6 q7 q8 q9); clear hq; clear hN; go_simp; exact hK.out (.agg #[.int .u8 (by8 h 0), .int .u8 (by8 h 1), .int .u8 (by8 h 2), .int .u8 (by8 h 3), .int .u8 (by8 h 4), .int .u8 (by8 h 5), .int .u8 (by8 h 6), .int .u8 (by8 h 7), .int .i64 3, .slice au 10 cu]) () W (by simp (decide := true) [putO, setF, upd]) hW)
  · intro L x W hW hC hL hd B K hB hK; (try simp [depsB, Region.binds] at hd); (try simp only [Nat.reduceAdd] at hK hL)
    (have e44 := hB.out 44); (simp (decide := true) only [look, if_true, if_false, hd, cond_true, cond_false] at e44); (try dsimp only); rw [if_pos (by rw [wanted_B rfl rfl e44]; rfl)]
    (have e45 := hB.out 45); (simp (decide := true) only [look, if_true, if_false, hd, cond_true, cond_false, Array.getD_eq_getD_getElem?, List.getElem?_toArray, List.getElem?_cons_succ, List.getElem?_cons_zero, Option.getD_some] at e45); (have e46 := hB.out 46); (simp (decide := true) only [look, if_true, if_false, hd, cond_true, cond_false, Array.getD_eq_getD_getElem?, List.getElem?_toArray, List.getElem?_cons_succ, List.getElem?_cons_zero, Option.getD_some] at e46)
    obtain ⟨N, hN⟩ := hW
    simp only [hL, cond_false] at hN
    refine wp_call_in 21 (by rfl) (by kernel_rfl) #[tptr p, .agg #[.int .u8 (by8 h 0), .int .u8 (by8 h 1), .int .u8 (by8 h 2), .int .u8 (by8 h 3), .int .u8 (by8 h 4), .int .u8 (by8 h 5), .int .u8 (by8 h 6), .int .u8 (by8 h 7), .int .i64 3, .slice au 10 cu]] (by simp [Act.eval, e45, e46]) ((take_to p tA0 tA0_ok h 3 _ y W w _ N [] hN (hN.bsl HM.out (sub_cnt fun x => by simp only [cnt_append, cnt_cons, cnt_nil]; omega)) 0 HE1.out tA1 HT1.out).mono ?_)
    rintro e W4 ⟨rfl, N2, h2⟩
    refine ⟨_, rfl, ?_⟩
    exact hK.out (.int .i64 0) () W4 (by simp (decide := true) [putO, setF, upd]) ⟨N2 ++ N, by simpa [upd] using h2⟩
  · (intro L x W hW hC hL hd B K hB hK; (try simp [depsB, Region.binds] at hd); (try simp only [Nat.reduceAdd] at hK hL); (have e44 := hB.out 44); (simp (decide := true) only [look, if_true, if_false, hd, cond_true, cond_false] at e44); (try dsimp only); rw [if_pos (by rw [wanted_B rfl rfl e44]; rfl)]; (have e47 := hB.out 47); (simp (decide := true) only [look, if_true, if_false, hd, cond_true, cond_false, Array.getD_eq_getD_getElem?, List.getElem?_toArray, List.getElem?_cons_succ, List.getElem?_cons_zero, Option.getD_some] at e47); go_simp; exact hK.out (.bool false) () W (by simp (decide := true) [putO, setF, upd]) hW)
  · (intro L x W hW hC hL hd B K hB hK; (try simp [depsB, Region.binds] at hd); (try simp only [Nat.reduceAdd] at hK hL); (have e44 := hB.out 44); (simp (decide := true) only [look, if_true, if_false, hd, cond_true, cond_false, Array.getD_eq_getD_getElem?, List.getElem?_toArray, List.getElem?_cons_succ, List.getElem?_cons_zero, Option.getD_some] at e44); (have e48 := hB.out 48); (simp (decide := true) only [look, if_true, if_false, hd, cond_true, cond_false, Array.getD_eq_getD_getElem?, List.getElem?_toArray, List.getElem?_cons_succ, List.getElem?_cons_zero, Option.getD_some] at e48); go_simp; exact hK.out (.bool false) () W (by simp (decide := true) [putO, setF, upd]) hW)
  · (intro L x W hW hC hL hd B K hB hK; (try simp [depsB, Region.binds] at hd); (try simp only [Nat.reduceAdd] at hK hL); (have e49 := hB.out 49); (simp (decide := true) only [look, if_true, if_false, hd, cond_true, cond_false, Array.getD_eq_getD_getElem?, List.getElem?_toArray, List.getElem?_cons_succ, List.getElem?_cons_zero, Option.getD_some] at e49); go_simp; exact hK.out (.bool false) () W (by simp (decide := true) [putO, setF, upd]) hW)
  · (intro L x W hW hC hL hd B K hB hK; (try simp [depsB, Region.binds] at hd); (try simp only [Nat.reduceAdd] at hK hL); (have e50 := hB.out 50); (simp (decide := true) only [look, if_true, if_false, hd, cond_true, cond_false] at e50); (try dsimp only); rw [if_pos (by rw [wanted_B rfl rfl e50]; rfl)]; (have e4 := hB.out 4); (simp (decide := true) only [look, if_true, if_false, hd, cond_true, cond_false, Array.getD_eq_getD_getElem?, List.getElem?_toArray, List.getElem?_cons_succ, List.getElem?_cons_zero, Option.getD_some] at e4); go_simp; exact hK.out (tptr p) () W (by simp (decide := true) [putO, setF, upd]) hW)
  · (intro L x W hW hC hL hd B K hB hK; (try simp [depsB, Region.binds] at hd); (try simp only [Nat.reduceAdd] at hK hL); (have e50 := hB.out 50); (simp (decide := true) only [look, if_true, if_false, hd, cond_true, cond_false] at e50); (try dsimp only); rw [if_pos (by rw [wanted_B rfl rfl e50]; rfl)]; (have e2 := hB.out 2); (simp (decide := true) only [look, if_true, if_false, hd, cond_true, cond_false, Array.getD_eq_getD_getElem?, List.getElem?_toArray, List.getElem?_cons_succ, List.getElem?_cons_zero, Option.getD_some] at e2); (have hW0 := hW); (obtain ⟨N, hN⟩ := hW0); (have hq := hN.has (b := b2) (t := 29) (cs := #[.int .u8 (by8 h 0), .int .u8 (by8 h 1), .int .u8 (by8 h 2), .int .u8 (by8 h 3), .int .u8 (by8 h 4), .int .u8 (by8 h 5), .int .u8 (by8 h 6), .int .u8 (by8 h 7), .int .i64 3, .slice au 10 cu]) (by simp)); (have q0 := hq.cell 0); (have q1 := hq.cell 1); (have q2 := hq.cell 2); (have q3 := hq.cell 3); (have q4 := hq.cell 4); (have q5 := hq.cell 5); (have q6 := hq.cell 6); (have q7 := hq.cell 7); (have q8 := hq.cell 8); (have q9 := hq.cell 9); (have lq := hq.lt); (simp only [List.getElem?_toArray, List.getElem?_cons_succ, List.getElem?_cons_zero] at q0 q1 q2 q3 q4 q5 q6 q7 q8 q9); clear hq; clear hN; go_simp; exact hK.out (.agg #[.int .u8 (by8 h 0), .int .u8 (by8 h 1), .int .u8 (by8 h 2), .int .u8 (by8 h 3), .int .u8 (by8 h 4), .int .u8 (by8 h 5), .int .u8 (by8 h 6), .int .u8 (by8 h 7), .int .i64 3, .slice au 10 cu]) () W (by simp (decide := true) [putO, setF, upd]) hW)
  · intro L x W hW hC hL hd B K hB hK; (try simp [depsB, Region.binds] at hd); (try simp only [Nat.reduceAdd] at hK hL)
    (have e50 := hB.out 50); (simp (decide := true) only [look, if_true, if_false, hd, cond_true, cond_false] at e50); (try dsimp only); rw [if_pos (by rw [wanted_B rfl rfl e50]; rfl)]
    (have e51 := hB.out 51); (simp (decide := true) only [look, if_true, if_false, hd, cond_true, cond_false, Array.getD_eq_getD_getElem?, List.getElem?_toArray, List.getElem?_cons_succ, List.getElem?_cons_zero, Option.getD_some] at e51); (have e52 := hB.out 52); (simp (decide := true) only [look, if_true, if_false, hd, cond_true, cond_false, Array.getD_eq_getD_getElem?, List.getElem?_toArray, List.getElem?_cons_succ, List.getElem?_cons_zero, Option.getD_some] at e52)
    obtain ⟨N, hN⟩ := hW
    have h29 := hC 29 _ rfl (by simp only [hd])
    simp [depsB, Region.binds] at h29
    simp only [h29, cond_true] at hN
    refine wp_call_in 21 (by rfl) (by kernel_rfl) #[tptr p, .agg #[.int .u8 (by8 h 0), .int .u8 (by8 h 1), .int .u8 (by8 h 2), .int .u8 (by8 h 3), .int .u8 (by8 h 4), .int .u8 (by8 h 5), .int .u8 (by8 h 6), .int .u8 (by8 h 7), .int .i64 3, .slice au 10 cu]] (by simp [Act.eval, e51, e52]) ((take_to p tA1 tA1_ok h 3 _ y W w _ N [] hN (hN.bsl HM.out (sub_cnt fun x => by simp only [cnt_append, cnt_cons, cnt_nil]; omega)) 18 HE2.out tA1 HT2.out).mono ?_)
    rintro e W4 ⟨rfl, N2, h2⟩
    refine ⟨_, rfl, ?_⟩
    exact hK.out (.int .i64 18) () W4 (by simp (decide := true) [putO, setF, upd]) ⟨N2 ++ N, by simpa [upd, h29] using h2⟩
  · (intro L x W hW hC hL hd B K hB hK; (try simp [depsB, Region.binds] at hd); (try simp only [Nat.reduceAdd] at hK hL); (have e50 := hB.out 50); (simp (decide := true) only [look, if_true, if_false, hd, cond_true, cond_false] at e50); (try dsimp only); rw [if_pos (by rw [wanted_B rfl rfl e50]; rfl)]; (have e53 := hB.out 53); (simp (decide := true) only [look, if_true, if_false, hd, cond_true, cond_false, Array.getD_eq_getD_getElem?, List.getElem?_toArray, List.getElem?_cons_succ, List.getElem?_cons_zero, Option.getD_some] at e53); go_simp; exact hK.out (.bool false) () W (by simp (decide := true) [putO, setF, upd]) hW)
  · (intro L x W hW hC hL hd B K hB hK; (try simp [depsB, Region.binds] at hd); (try simp only [Nat.reduceAdd] at hK hL); (have e50 := hB.out 50); (simp (decide := true) only [look, if_true, if_false, hd, cond_true, cond_false, Array.getD_eq_getD_getElem?, List.getElem?_toArray, List.getElem?_cons_succ, List.getElem?_cons_zero, Option.getD_some] at e50); (have e54 := hB.out 54); (simp (decide := true) only [look, if_true, if_false, hd, cond_true, cond_false, Array.getD_eq_getD_getElem?, List.getElem?_toArray, List.getElem?_cons_succ, List.getElem?_cons_zero, Option.getD_some] at e54); go_simp; exact hK.out (.bool false) () W (by simp (decide := true) [putO, setF, upd]) hW)
  intro _ W9 hW9
  simp only [ovl, cond_true, Array.getD_eq_getD_getElem?, List.getElem?_toArray, List.getElem?_cons_succ, List.getElem?_cons_zero, Option.getD_some, List.setIfInBounds_toArray, List.set_cons_zero, List.set_cons_succ]
  (try simp only [cond_true] at hW9)
  obtain ⟨N, h9⟩ := hW9
  have H9 := Lib.hid h9
  (have hq := h9.has (b := b1) (t := 27) (cs := #[.int .u8 (by8 t5X 0), .int .u8 (by8 t5X 1), .int .u8 (by8 t5X 2), .int .u8 (by8 t5X 3), .int .u8 (by8 t5X 4), .int .u8 (by8 t5X 5), .int .u8 (by8 t5X 6), .int .u8 (by8 t5X 7)]) (by simp)); (have q0 := hq.cell 0); (have q1 := hq.cell 1); (have q2 := hq.cell 2); (have q3 := hq.cell 3); (have q4 := hq.cell 4); (have q5 := hq.cell 5); (have q6 := hq.cell 6); (have q7 := hq.cell 7); (have lq := hq.lt); (simp only [List.getElem?_toArray, List.getElem?_cons_succ, List.getElem?_cons_zero] at q0 q1 q2 q3 q4 q5 q6 q7); clear hq
  clear h9 H3
  go_wp2_with fail
  refine (see_to p tA1 tA1_ok t5X 2 _ w _ N [] H9.out [7, 8] true (tA_see 2)).mono ?_
  rintro e w10 ⟨u10, rfl, hb10, hu10⟩
  have h10 := H9.out.of_below hb10
  have H10 := Lib.hid h10
  have HU := Lib.hid hu10.bsl
  clear q0 q1 q2 q3 q4 q5 q6 q7 lq
  (have hq := h10.has (b := b1) (t := 27) (cs := #[.int .u8 (by8 t5X 0), .int .u8 (by8 t5X 1), .int .u8 (by8 t5X 2), .int .u8 (by8 t5X 3), .int .u8 (by8 t5X 4), .int .u8 (by8 t5X 5), .int .u8 (by8 t5X 6), .int .u8 (by8 t5X 7)]) (by simp)); (have q0 := hq.cell 0); (have q1 := hq.cell 1); (have q2 := hq.cell 2); (have q3 := hq.cell 3); (have q4 := hq.cell 4); (have q5 := hq.cell 5); (have q6 := hq.cell 6); (have q7 := hq.cell 7); (have lq := hq.lt); (simp only [List.getElem?_toArray, List.getElem?_cons_succ, List.getElem?_cons_zero] at q0 q1 q2 q3 q4 q5 q6 q7); clear hq
  clear h10 hb10 hu10 H9
  go_wp2_with fail
  refine (see_to p tA1 tA1_ok t5X 3 _ w _ N [] H10.out [] false (tA_see 3)).mono ?_
  rintro e w11 ⟨u11, rfl, hb11, -⟩
  have hcv : (convert 26 9 u10).run Try.prog w11 = .ok (.string { data := #[7, 8] }) w11 := run_str w11 _ _ _ u10 [7, 8] Try.underlying26 Try.underlying5 Try.underlying9 (HU.out.below hb11)
  have HB11 := Lib.hid (H10.out.of_below hb11).below
  clear hb11 q0 q1 q2 q3 q4 q5 q6 q7 lq
  go_wp2
  go_ret
  exact ⟨rfl, HB11.out⟩

end Go.Proofs.Ytghaiplhakeahaa
