/- baizelaw52: contracts of nonce, begin, told. -/
import Derived.Test.YtghaiplhakeahaaGx
import Derived.Lib.SlBytesConst
namespace Go.Proofs.Ytghaiplhakeahaa
set_option linter.unusedSimpArgs false
set_option linter.unusedVariables false
open Go.RowKit

/-- What is left of a number of 64 bits, as the laws take it. -/
def cutN (x : Int) (m : Nat) : Nat := (x % 18446744073709551616).toNat % m
theorem cut_eq (x : Int) (m : Nat) (hm : 0 < m) (hm2 : m ≤ 1000000) : wrap64 ((IntKind.u64.wrap x).tmod (m : Int)) = (cutN x m : Int) := by
  have e : IntKind.u64.wrap x = x % 18446744073709551616 := by simp [IntKind.wrap, IntKind.bits, IntKind.signed]
  have h0 : 0 ≤ x % 18446744073709551616 := Int.emod_nonneg _ (by omega)
  rw [e, Int.tmod_eq_emod_of_nonneg h0]
  have h1 : (x % 18446744073709551616) % (m : Int) = (cutN x m : Int) := by
    unfold cutN
    rw [Int.natCast_emod, Int.toNat_of_nonneg h0]
  rw [h1]
  have h2 : cutN x m < m := Nat.mod_lt _ hm
  unfold wrap64
  omega
theorem dig_ex (f : Nat → UInt8) : ∃ x : BitVec 64, ∀ j, j < 8 → by8 x j = ((f j).toNat : Int) := ⟨word8 f, by8_word8 f⟩
noncomputable def nonceX : BitVec 64 := Classical.choose (dig_ex fun j => [4, 2, 0, 0, 0, 0, 0, 0].getD j 0)
theorem nonceX_eq (j : Nat) (hj : j < 8) : by8 nonceX j = (([4, 2, 0, 0, 0, 0, 0, 0] : List UInt8).getD j 0).toNat := Classical.choose_spec (dig_ex fun j => [4, 2, 0, 0, 0, 0, 0, 0].getD j 0) j hj
theorem nonce_dg : (.agg #[.int .u8 (by8 nonceX 0), .int .u8 (by8 nonceX 1), .int .u8 (by8 nonceX 2), .int .u8 (by8 nonceX 3), .int .u8 (by8 nonceX 4), .int .u8 (by8 nonceX 5), .int .u8 (by8 nonceX 6), .int .u8 (by8 nonceX 7)] : Value) = .agg #[.int .u8 4, .int .u8 2, .int .u8 0, .int .u8 0, .int .u8 0, .int .u8 0, .int .u8 0, .int .u8 0] := by
  rw [nonceX_eq 0 (by omega), nonceX_eq 1 (by omega), nonceX_eq 2 (by omega), nonceX_eq 3 (by omega), nonceX_eq 4 (by omega), nonceX_eq 5 (by omega), nonceX_eq 6 (by omega), nonceX_eq 7 (by omega)]
  rfl
noncomputable def toldX : BitVec 64 := Classical.choose (dig_ex fun j => [1, 0, 0, 0, 0, 0, 0, 0].getD j 0)
theorem toldX_eq (j : Nat) (hj : j < 8) : by8 toldX j = (([1, 0, 0, 0, 0, 0, 0, 0] : List UInt8).getD j 0).toNat := Classical.choose_spec (dig_ex fun j => [1, 0, 0, 0, 0, 0, 0, 0].getD j 0) j hj
theorem told_dg : (.agg #[.int .u8 (by8 toldX 0), .int .u8 (by8 toldX 1), .int .u8 (by8 toldX 2), .int .u8 (by8 toldX 3), .int .u8 (by8 toldX 4), .int .u8 (by8 toldX 5), .int .u8 (by8 toldX 6), .int .u8 (by8 toldX 7)] : Value) = .agg #[.int .u8 1, .int .u8 0, .int .u8 0, .int .u8 0, .int .u8 0, .int .u8 0, .int .u8 0, .int .u8 0] := by
  rw [toldX_eq 0 (by omega), toldX_eq 1 (by omega), toldX_eq 2 (by omega), toldX_eq 3 (by omega), toldX_eq 4 (by omega), toldX_eq 5 (by omega), toldX_eq 6 (by omega), toldX_eq 7 (by omega)]
  rfl
set_option maxRecDepth 100000 in
theorem nonce_to (w : World) : Calls Try.prog 39 #[] w fun e w' => e = .returned (.agg #[.int .u8 (by8 nonceX 0), .int .u8 (by8 nonceX 1), .int .u8 (by8 nonceX 2), .int .u8 (by8 nonceX 3), .int .u8 (by8 nonceX 4), .int .u8 (by8 nonceX 5), .int .u8 (by8 nonceX 6), .int .u8 (by8 nonceX 7)]) ∧ Below w.heap.size w w' := by
  rw [nonce_dg]
  go_enter Try.func39, Try.ntmps39
  go_wp2
  refine bodyPost_ret (v := .agg #[.int .u8 4, .int .u8 2, .int .u8 0, .int .u8 0, .int .u8 0, .int .u8 0, .int .u8 0, .int .u8 0]) (by simp [results, Try.results39, go_sem]) rfl ⟨rfl, by (repeat' (first | (with_reducible exact Below.refl _ _) | (with_reducible refine bplus ?_ _ _) | (with_reducible refine balloc ?_ _) | (with_reducible refine Below.drew ?_) | (with_reducible refine bdrewN ?_ _) | (with_reducible refine Below.setCell ?_ (by go_size) _)))⟩

set_option maxRecDepth 100000 in
set_option maxHeartbeats 4000000 in
theorem begin_to (x y : Int) (w w0 : World) (F : List Blk) (O : Ow w w0 F) (n k : Nat) (hn : 1 + cutN x 16 = n) (hk : 1 + cutN y n = k) :
    Calls Try.prog 27 #[.agg #[.int .i64 x, .int .i64 y]] w fun e w' => ∃ p hv, e = .returned (.tuple #[ptr p, .agg #[.int .i64 n, .int .i64 k, .int .i64 (-1), .string ByteArray.empty, hv, .bool false, .int .i64 0, .int .i64 0]]) ∧ ∃ NB, Ow w' w0 (⟨p, 132, gcs (newG nonceX n k) (.slice none 0 0)⟩ :: (NB ++ F)) ∧ Row 3 1 hv n (ics (List.replicate n (-1))) NB := by
  have HO := Lib.hid ((O.alloc (.cells #[.int .i64 x, .int .i64 y] 57)).key #[.int .i64 0, .int .i64 0, .int .i64 0, .string ByteArray.empty, .slice none 0 0, .bool false, .int .i64 0, .int .i64 0] 61 (w.heap.size + 1) (by simp))
  have ex := cut_eq x 16 (by omega) (by omega)
  have hx : cutN x 16 < 16 := Nat.mod_lt _ (by omega)
  have hn1 : 1 ≤ n := by omega
  have hn2 : n ≤ 16 := by omega
  have ey := cut_eq y n (by omega) (by omega)
  have hy : cutN y n < n := Nat.mod_lt _ (by omega)
  generalize cutN x 16 = cx at *
  generalize cutN y n = cy at *
  have hax : (1 : Int) + (cx : Int) = (n : Int) := by omega
  have hby : (1 : Int) + (cy : Int) = (k : Int) := by omega
  have ex' : wrap64 ((IntKind.u64.wrap x).tmod 16) = (cx : Int) := ex
  have ewk : IntKind.u64.wrap (n : Int) = (n : Int) := by simp [IntKind.wrap, IntKind.bits, IntKind.signed]; omega
  have hpn : ((n : Int) == 0) = false := by rw [beq_eq_false_iff_ne]; omega
  have hk1 : 1 ≤ k := by omega
  have hk2 : k ≤ n := by omega
  clear ex
  clear O
  go_enter Try.func27, Try.ntmps27
  go_wp2_with fail
  refine (nonce_to _).mono ?_
  rintro e w1 ⟨rfl, hb1⟩
  have HO1 := Lib.hid (HO.out.of_below hb1)
  clear hb1 HO
  go_wp2_with fail
  refine (gnew_yes nonceX n k _ w0 _ HO1.out hn1 hn2 hk1 hk2).mono ?_
  rintro e w2 ⟨p, rfl, O2⟩
  have HO2 := Lib.hid O2
  clear O2 HO1
  go_wp2_with fail
  refine (rnew_yes n k hn1 hn2 hk1 hk2 _).mono ?_
  rintro e w3 ⟨hv, rfl, hb3, hw3⟩
  obtain ⟨NB, O3, R3⟩ := hw3.found HO2.out (Ext.of_below hb3)
  obtain ⟨ah, ch, rfl⟩ := R3.slice
  have HR3 := Lib.hid R3
  have HO3 := Lib.hid (O3.key #[.int .i64 n, .int .i64 k, .int .i64 (-1), .string ByteArray.empty, .slice ah n ch, .bool false, .int .i64 0, .int .i64 0] 61 w3.heap.size rfl)
  clear hb3 hw3 O3 R3 HO2
  go_wp2_with fail
  have HO4 := Lib.hid (HO3.out.perm (L' := ⟨w.heap.size + 1, 61, #[.int .i64 0, .int .i64 0, .int .i64 0, .string ByteArray.empty, .slice none 0 0, .bool false, .int .i64 0, .int .i64 0]⟩ :: (⟨w3.heap.size, 61, #[.int .i64 n, .int .i64 k, .int .i64 (-1), .string ByteArray.empty, .slice ah n ch, .bool false, .int .i64 0, .int .i64 0]⟩ :: (⟨p, 132, gcs (newG nonceX n k) (.slice none 0 0)⟩ :: (NB ++ F)))) (perm_cnt fun x => by simp only [cnt_append, cnt_cons, cnt_nil] <;> omega))
  clear HO3
  refine wp_region_rc 3 1 (by kernel_rfl) (by kernel_rfl) (by kernel_rfl) (by kernel_rfl) ?_
  simp only [List.take_succ_cons, List.take_zero]
  repeat (first
    | (refine B_skip ?_ ?_; (· rfl); (try simp only [Act.put, List.setIfInBounds_toArray, List.set_cons_zero, List.set_cons_succ]))
    | (refine B_move rfl ?_ ?_; (· rfl); (try simp only [Act.eval, Act.put, Array.getD_eq_getD_getElem?, List.getElem?_toArray, List.getElem?_cons_succ, List.getElem?_cons_zero, Option.getD_some, List.setIfInBounds_toArray, List.set_cons_zero, List.set_cons_succ]))
    | (refine B_plain ?_ ?_; (· rfl); intro K hK; go_big_quiet_op; with_reducible refine hK _ ?_; clear hK K)
    | (fail))
  refine B_nil ?_ rfl ?_ ?_
  · kernel_rfl
  · rfl
  rintro _ ⟨⟨g5, d5⟩, rfl⟩
  simp only [fin, Act.put, List.setIfInBounds_toArray, List.set_cons_zero, List.set_cons_succ]
  intros
  refine last_one (k := 3) (by kernel_rfl) (by kernel_rfl) (by rfl) ?_ ?_
  · rfl
  intro K hK
  refine (HO4.out.plus g5 d5).storeAt 61 (.tmp 3) (.tmp 38) (by rfl) 0 (by rfl) #[.int .i64 n, .int .i64 k, .int .i64 (-1), .string ByteArray.empty, .slice ah n ch, .bool false, .int .i64 0, .int .i64 0] (by rfl) (by kernel_rfl) (by simp) (by simp [Value.oneCell']) (fun w5 O5 => hK _ _ ?_)
  clear hK K
  rw [writeAt_all _ _ (by simp)] at O5
  have HB := O5.has (List.mem_cons_self ..)
  have hd := HB.cell
  have HO5 := Lib.hid O5
  clear O5 HB
  go_wp2
  refine bodyPost_ret (v := .tuple #[ptr p, .agg #[.int .i64 n, .int .i64 k, .int .i64 (-1), .string ByteArray.empty, .slice ah n ch, .bool false, .int .i64 0, .int .i64 0]]) (by simp [results, Try.results27, go_sem, hd]) rfl ?_
  exact ⟨p, _, rfl, NB, HO5.out.drop1.drop1, HR3.out⟩

theorem run_const_c (W : World) (g : Nat) (hg : g = W.heap.size) : (convert 26 26 (.slice (some ⟨g, 0, none⟩) 1 1)).run Try.prog (W.alloc (.cells #[.int .u8 99] 5)) = .ok (.slice (some ⟨g, 0, none⟩) 1 1) (W.alloc (.cells #[.int .u8 99] 5 (1, 2))) := by
  subst hg; exact Lib.run_convert_bytes_const W 26 5 _ 1 1 Try.underlying26 Try.underlying5
theorem bsl_const_c (W : World) (g : Nat) (hg : g = W.heap.size) : BSl (W.alloc (.cells #[.int .u8 99] 5 (1, 2))) (.slice (some ⟨g, 0, none⟩) 1 1) [99] := by
  subst hg
  refine ⟨_, 1, rfl, ⟨Nat.le_refl _, fun h => by cases h⟩, .inr ⟨_, 0, rfl, by simp, fun i hi => ?_⟩⟩
  rw [World.cell?_alloc_mark, Nat.zero_add]
  match i, hi with
  | 0, _ => rfl
/-- A slice of one number, in a block that was just made. -/
theorem sl_one {w : World} {z : Int} {b : Nat} (hb : b < w.heap.size) (hc : w.cell? ⟨b, 0, none⟩ = some (.int .i64 z)) : Sl w [] (.slice (some ⟨b, 0, none⟩) 1 1) 1 (ics [z]) := by
  refine ⟨rfl, _, 1, rfl, ⟨Nat.le_refl _, fun h => by cases h⟩, .inr ⟨b, 0, rfl, .inl ⟨hb, fun j u hj => ?_⟩⟩⟩
  match j, hj with
  | 0, hj => simp [ics] at hj; subst hj; exact hc
noncomputable def tG0 : GS := newG toldX 2 1
noncomputable def tG1 : GS := noteG tG0 5 [99]
noncomputable def tG2 : GS := ackG tG1 1 5
noncomputable def tG3 : GS := sleepG tG2 3 10 13
theorem tG1_eq : tG1 = notedG tG0 5 [99] := rfl
theorem tE1 : noteE tG0 5 [99] = 0 := by simp [noteE, tG0, newG, isNum]
theorem tD1 : dueL tG1 = [0, 1] := by simp [tG1_eq, dueL, notedG, duK, tG0, newG, List.range_succ]
theorem tS1 : safeB tG1 = false := by unfold safeB; rw [tD1]; simp [tG1_eq, notedG, tG0, newG]
theorem tE2 : sleepE tG1 3 10 13 = 10 := by unfold sleepE; rw [tS1]; simp [checkE, isNum, tG1_eq, notedG, tG0, newG]
theorem tE3 : ackE tG1 1 5 = 0 := by simp [ackE, tG1_eq, notedG, tG0, newG]
theorem tG2_eq : tG2 = tG1.say 1 5 := by unfold tG2 ackG; rw [tE3]; rfl
theorem tD2 : dueL tG2 = [0] := by rw [tG2_eq, tG1_eq]; simp [dueL, notedG, duK, tG0, newG, GS.say, List.range_succ]
theorem tS2 : safeB tG2 = true := by unfold safeB; rw [tD2]; simp [tG2_eq, GS.say, tG1_eq, notedG, tG0, newG]
theorem tE4 : sleepE tG2 3 10 14 = 5 := by unfold sleepE; rw [tS2]; simp [checkE, isNum, tG2_eq, GS.say, tG1_eq, notedG, tG0, newG]
theorem tE5 : sleepE tG2 3 10 13 = 0 := by unfold sleepE; rw [tS2]; simp [checkE, isNum, tG2_eq, GS.say, tG1_eq, notedG, tG0, newG]
theorem tG3_eq : tG3 = { tG2 with slf := 10, slt := 13 } := by unfold tG3 sleepG; rw [tE5]; simp
theorem tT1 : tG1.towers ≤ 16 := by simp [tG1_eq, notedG, tG0, newG]
theorem tT2 : tG2.towers ≤ 16 := by simp [tG2_eq, GS.say, tG1_eq, notedG, tG0, newG]
set_option maxRecDepth 100000 in
set_option maxHeartbeats 4000000 in
theorem told_to (w : World) : Calls Try.prog 28 #[] w fun e w' => e = .returned (.bool true) ∧ Below w.heap.size w w' := by
  have HS := Lib.hid (Ow.start w)
  have htd := told_dg
  go_enter Try.func28, Try.ntmps28
  go_wp2_with fail
  rw [← htd]
  refine (gnew_yes toldX 2 1 w w [] HS.out (by omega) (by omega) (by omega) (by omega)).mono ?_
  rintro e w1 ⟨p, rfl, O1⟩
  have hcv := run_const_c w1 w1.heap.size rfl
  have hbs := Lib.hid (bsl_const_c w1 w1.heap.size rfl)
  have H1 : Hid (Gu (w1.alloc (.cells #[.int .u8 99] 5 (1, 2))) w [] [] p tG0) := Gu.alloc ⟨.slice none 0 0, O1, (show Msg w [] (.slice none 0 0) tG0.box from Sl.nil w [])⟩ _
  clear O1 HS
  go_wp2_with fail
  refine (note_to p tG0 5 _ [99] _ w [] [] H1.out hbs.out 0 tE1 tG1 rfl).mono ?_
  rintro e w3 ⟨rfl, X, -, h3⟩
  have H4 := Lib.hid (h3.park (cs := #[.int .i64 0, .int .i64 0, .int .i64 3]) (t := 90) (b := w3.heap.size) rfl)
  clear h3 H1 hcv hbs htd
  go_wp2_with fail
  refine (sleep_to p tG1 3 10 13 _ w _ X H4.out tT1 10 tE2 tG1 (by unfold sleepG; rw [tE2]; rfl)).mono ?_
  rintro e w5 ⟨rfl, h5⟩
  have H5 := Lib.hid h5
  clear h5 H4
  go_wp2_with fail
  refine (ack_to p tG1 1 5 _ w _ X H5.out tT1 0 tE3 tG2 rfl).mono ?_
  rintro e w6 ⟨rfl, h6⟩
  have H6 := Lib.hid h6
  clear h6 H5
  go_wp2_with fail
  refine (due_to p tG2 _ w _ X H6.out tT2 [0] tD2).mono ?_
  rintro e w7 ⟨u, rfl, hb7, hu7⟩
  have H7 := Lib.hid ((H6.out.of_below hb7).alloc (.cells #[.int .i64 0] 3))
  have HU := Lib.hid (hu7.sl.here ((Ow.start w7).alloc (.cells #[.int .i64 0] 3)) (by simp))
  have HV : Hid (Sl (w7.alloc (.cells #[.int .i64 0] 3)) [] (.slice (some ⟨w7.heap.size, 0, none⟩) 1 1) 1 (ics [0])) := sl_one (by simp) ((HasBlk.new w7 3 #[.int .i64 0] w7.heap.size rfl).cell 0)
  clear hb7 hu7 H6
  go_wp2_with fail
  refine (rsame_to u _ [0] [0] (by simp) (by simp) _ HU.out HV.out true rfl).mono ?_
  rintro e w8 ⟨rfl, hb8⟩
  have h8 := H7.out.of_below hb8
  have HB := h8.has (b := w3.heap.size) (t := 90) (cs := #[.int .i64 0, .int .i64 0, .int .i64 3]) (List.mem_cons_self ..)
  have c0 := HB.cell 0
  have c1 := HB.cell 1
  have c2 := HB.cell 2
  have lt := HB.lt
  have H8 := Lib.hid h8
  clear hb8 HU HV H7 h8 HB
  go_wp2_with fail
  refine (safe_to p tG2 _ w _ X H8.out tT2 true tS2).mono ?_
  rintro e w9 ⟨rfl, hb9⟩
  have h9 := H8.out.of_below hb9
  have HB := h9.has (b := w3.heap.size) (t := 90) (cs := #[.int .i64 0, .int .i64 0, .int .i64 3]) (List.mem_cons_self ..)
  have c0 := HB.cell 0
  have c1 := HB.cell 1
  have c2 := HB.cell 2
  have lt := HB.lt
  have H9 := Lib.hid h9
  clear hb9 H8 h9 HB
  go_wp2_with fail
  refine (sleep_to p tG2 3 10 14 _ w _ X H9.out tT2 5 tE4 tG2 (by unfold sleepG; rw [tE4]; rfl)).mono ?_
  rintro e w10 ⟨rfl, h9⟩
  have HB := h9.has (b := w3.heap.size) (t := 90) (cs := #[.int .i64 0, .int .i64 0, .int .i64 3]) (List.mem_cons_self ..)
  have c0 := HB.cell 0
  have c1 := HB.cell 1
  have c2 := HB.cell 2
  have lt := HB.lt
  have H10 := Lib.hid h9
  clear H9 h9 HB
  go_wp2_with fail
  refine (sleep_to p tG2 3 10 13 _ w _ X H10.out tT2 0 tE5 tG3 rfl).mono ?_
  rintro e w11 ⟨rfl, h11⟩
  have H11 := Lib.hid h11
  clear H10 h11 c0 c1 c2 lt
  go_wp2_with fail
  refine (asleep_to p tG3 12 _ w _ X H11.out true (by rw [tG3_eq]; rfl)).mono ?_
  rintro e w12 ⟨rfl, rfl⟩
  go_wp2_with fail
  refine (asleep_to p tG3 13 _ w _ X H11.out false (by rw [tG3_eq]; rfl)).mono ?_
  rintro e w13 ⟨rfl, rfl⟩
  go_wp2
  go_ret
  exact ⟨rfl, H11.out.below⟩

end Go.Proofs.Ytghaiplhakeahaa
