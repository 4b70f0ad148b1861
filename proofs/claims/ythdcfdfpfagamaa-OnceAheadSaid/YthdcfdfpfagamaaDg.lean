/- once: the digits of a message, the program's and the document's. -/
import Derived.Test.YthdcfdfpfagamaaE
import Derived.Test.YthdcfdfpfagamaaEqd
import Derived.Test.YthdcfdfpfagamaaMem
namespace Go.Proofs.Ythdcfdfpfagamaa
set_option linter.unusedSimpArgs false
set_option linter.unusedVariables false
open Go.RowKit

/-- What the digits of a message's first bytes lack. -/
noncomputable def lkZ (x : BitVec 64) : Nat → Int
  | 0 => 0
  | k + 1 => lkZ x k + (30 - by8 x k % 16 - by8 x k / 16)
theorem lkZ_bd (x : BitVec 64) (k : Nat) : 0 ≤ lkZ x k ∧ lkZ x k ≤ 30 * k := by
  induction k with
  | zero => simp [lkZ]
  | succ k ih =>
    have b := by8_bd x k
    unfold lkZ
    omega
theorem dgt_ex : ∃ f : BitVec 64 → Nat → Int, ∀ x i, f x i = if i < 16 then (if i % 2 = 0 then by8 x (i / 2) % 16 else by8 x (i / 2) / 16) else if i = 16 then lkZ x 8 % 16 else lkZ x 8 / 16 := ⟨_, fun _ _ => rfl⟩
noncomputable def dgt : BitVec 64 → Nat → Int := Classical.choose dgt_ex
theorem dgt_eq (x : BitVec 64) (i : Nat) : dgt x i = if i < 16 then (if i % 2 = 0 then by8 x (i / 2) % 16 else by8 x (i / 2) / 16) else if i = 16 then lkZ x 8 % 16 else lkZ x 8 / 16 := Classical.choose_spec dgt_ex x i
theorem dgt_bd (x : BitVec 64) (i : Nat) : 0 ≤ dgt x i ∧ dgt x i ≤ 15 := by
  have h := lkZ_bd x 8
  have b := by8_bd x (i / 2)
  rw [dgt_eq]
  (repeat' split) <;> omega
theorem dgt_lo (x : BitVec 64) (k : Nat) (h : k < 8) : by8 x k % 16 = dgt x (2 * k) := by
  rw [dgt_eq, if_pos (by omega), if_pos (by omega), show 2 * k / 2 = k by omega]
theorem dgt_hi (x : BitVec 64) (k : Nat) (h : k < 8) : by8 x k / 16 = dgt x (2 * k + 1) := by
  rw [dgt_eq, if_pos (by omega), if_neg (by omega), show (2 * k + 1) / 2 = k by omega]
theorem dgt_16 (x : BitVec 64) : lkZ x 8 % 16 = dgt x 16 := by rw [dgt_eq]; simp
theorem dgt_17 (x : BitVec 64) : lkZ x 8 / 16 = dgt x 17 := by rw [dgt_eq]; simp
/-- The first digits, laid into eighteen cells. -/
noncomputable def dgArr (x : BitVec 64) (k : Nat) : Array Value := ((List.range 18).map fun i => if i < 2 * k then Value.int .i64 (dgt x i) else .int .i64 0).toArray
theorem dgArr_size (x : BitVec 64) (k : Nat) : (dgArr x k).size = 18 := by simp [dgArr]
theorem dgArr_get (x : BitVec 64) (k i : Nat) (h : i < 18) : (dgArr x k)[i]? = some (if i < 2 * k then Value.int .i64 (dgt x i) else .int .i64 0) := by simp [dgArr, h]
theorem dgArr_0 (x : BitVec 64) : dgArr x 0 = #[.int .i64 0, .int .i64 0, .int .i64 0, .int .i64 0, .int .i64 0, .int .i64 0, .int .i64 0, .int .i64 0, .int .i64 0, .int .i64 0, .int .i64 0, .int .i64 0, .int .i64 0, .int .i64 0, .int .i64 0, .int .i64 0, .int .i64 0, .int .i64 0] := by
  simp [dgArr, List.range_succ]
theorem dgArr_8 (x : BitVec 64) : dgArr x 8 = #[.int .i64 (dgt x 0), .int .i64 (dgt x 1), .int .i64 (dgt x 2), .int .i64 (dgt x 3), .int .i64 (dgt x 4), .int .i64 (dgt x 5), .int .i64 (dgt x 6), .int .i64 (dgt x 7), .int .i64 (dgt x 8), .int .i64 (dgt x 9), .int .i64 (dgt x 10), .int .i64 (dgt x 11), .int .i64 (dgt x 12), .int .i64 (dgt x 13), .int .i64 (dgt x 14), .int .i64 (dgt x 15), .int .i64 0, .int .i64 0] := by
  simp [dgArr, List.range_succ]
theorem dgArr_step (x : BitVec 64) (k : Nat) (h : k < 8) : ((dgArr x k).setIfInBounds (2 * k) (.int .i64 (by8 x k % 16))).setIfInBounds (2 * k + 1) (.int .i64 (by8 x k / 16)) = dgArr x (k + 1) := by
  rw [dgt_lo x k h, dgt_hi x k h]
  apply Array.ext_getElem?
  intro i
  simp only [Array.getElem?_setIfInBounds, Array.size_setIfInBounds, dgArr_size]
  by_cases hi : i < 18
  · rw [dgArr_get x k i hi, dgArr_get x (k + 1) i hi]
    by_cases h1 : 2 * k + 1 = i
    · subst h1; rw [if_pos rfl, if_pos hi, if_pos (by omega)]
    · rw [if_neg h1]
      by_cases h2 : 2 * k = i
      · subst h2; rw [if_pos rfl, if_pos hi, if_pos (by omega)]
      · rw [if_neg h2]
        by_cases h3 : i < 2 * k
        · rw [if_pos h3, if_pos (by omega)]
        · rw [if_neg h3, if_neg (by omega)]
  · rw [if_neg (by omega), if_neg (by omega), Array.getElem?_eq_none (by rw [dgArr_size]; omega), Array.getElem?_eq_none (by rw [dgArr_size]; omega)]
theorem dgc_at (x : BitVec 64) (j : Nat) (hj : j < 8) : (#[.int .u8 (by8 x 0), .int .u8 (by8 x 1), .int .u8 (by8 x 2), .int .u8 (by8 x 3), .int .u8 (by8 x 4), .int .u8 (by8 x 5), .int .u8 (by8 x 6), .int .u8 (by8 x 7)] : Array Value)[j]? = some (.int .u8 (by8 x j)) := by
  match j, hj with
  | 0, _ | 1, _ | 2, _ | 3, _ | 4, _ | 5, _ | 6, _ | 7, _ => rfl

/-- All digits of a message. -/
noncomputable def dgA (x : BitVec 64) : Array Value := ((List.range 18).map fun i => Value.int .i64 (dgt x i)).toArray
theorem dgA_size (x : BitVec 64) : (dgA x).size = 18 := by simp [dgA]
theorem dgA_get (x : BitVec 64) (i : Nat) (h : i < 18) : (dgA x)[i]? = some (.int .i64 (dgt x i)) := by simp [dgA, h]
theorem dgA_one (x : BitVec 64) : ∀ v ∈ (dgA x).toList, v.oneCell' = true := by
  intro v hv
  simp only [dgA, List.toList_toArray, List.mem_map] at hv
  obtain ⟨i, _, rfl⟩ := hv
  rfl
theorem dgA_of (x : BitVec 64) : ((dgArr x 8).setIfInBounds 16 (.int .i64 (lkZ x 8 % 16))).setIfInBounds 17 (.int .i64 (lkZ x 8 / 16)) = dgA x := by
  rw [dgt_16, dgt_17]
  apply Array.ext_getElem?
  intro i
  simp only [Array.getElem?_setIfInBounds, Array.size_setIfInBounds, dgArr_size]
  by_cases hi : i < 18
  · rw [dgArr_get x 8 i hi, dgA_get x i hi]
    by_cases h1 : 17 = i
    · subst h1; simp
    · rw [if_neg h1]
      by_cases h2 : 16 = i
      · subst h2; simp
      · rw [if_neg h2, if_pos (by omega)]
  · rw [if_neg (by omega), if_neg (by omega), Array.getElem?_eq_none (by rw [dgArr_size]; omega), Array.getElem?_eq_none (by rw [dgA_size]; omega)]
theorem size_18 (x : BitVec 64) : (Try.prog.info? 31).map (·.size) = some (dgA x).size := by rw [dgA_size]; kernel_rfl
theorem size_18' (x : BitVec 64) (k : Nat) : (Try.prog.info? 31).map (·.size) = some (dgArr x k).size := by rw [dgArr_size]; kernel_rfl

set_option maxRecDepth 100000 in
set_option maxHeartbeats 2000000 in
theorem reach_any (x : BitVec 64) (w : World) :
    Calls Try.prog 25 #[.agg #[.int .u8 (by8 x 0), .int .u8 (by8 x 1), .int .u8 (by8 x 2), .int .u8 (by8 x 3), .int .u8 (by8 x 4), .int .u8 (by8 x 5), .int .u8 (by8 x 6), .int .u8 (by8 x 7)]] w fun e w' => e = .returned (.agg (dgA x)) ∧ Below w.heap.size w w' := by
  go_enter Try.func25, Try.ntmps25
  go_wp2
  obtain ⟨cx, hcx⟩ : ∃ c : Array Value, c = #[.int .u8 (by8 x 0), .int .u8 (by8 x 1), .int .u8 (by8 x 2), .int .u8 (by8 x 3), .int .u8 (by8 x 4), .int .u8 (by8 x 5), .int .u8 (by8 x 6), .int .u8 (by8 x 7)] := ⟨_, rfl⟩
  have HCX : Hid (∀ j, j < 8 → cx[j]? = some (.int .u8 (by8 x j))) := fun j hj => by rw [hcx]; exact dgc_at x j hj
  rw [← hcx, ← dgArr_0 x]
  clear hcx
  have M0 := (((Mem.start w).key cx 24 w.heap.size rfl).key (dgArr x 0) 31 (w.heap.size + 1) (by simp)).key (dgArr x 0) 31 (w.heap.size + 1 + 1) (by simp)
  go_loopw [4, 10] (fun l i wr => ∃ k : Nat, k ≤ 8 ∧ i = .int .i64 k ∧ l = .int .i64 (lkZ x k) ∧ Mem wr w ([] ++ [⟨w.heap.size + 1 + 1, 31, dgArr x k⟩, ⟨w.heap.size + 1, 31, dgArr x 0⟩, ⟨w.heap.size, 24, cx⟩])) (fun _ i _ => 8 - (intOf i).toNat)
  case atStart => exact ⟨0, by omega, rfl, rfl, M0⟩
  case round =>
    clear M0
    obtain ⟨k, hk, rfl, rfl, M⟩ := hrel
    by_cases hlt : k < 8
    · have c := HCX.out k hlt
      have b := by8_bd x k
      have lb := lkZ_bd x k
      have q0 : wr.cell? ⟨w.heap.size + 1 + 1, 2 * k, none⟩ = some (.int .i64 0) := by rw [M.cell0, dgArr_get x k _ (by omega), if_neg (by omega)]
      have q1 : wr.cell? ⟨w.heap.size + 1 + 1, 2 * k + 1, none⟩ = some (.int .i64 0) := by rw [M.cell0, dgArr_get x k _ (by omega), if_neg (by omega)]
      have fb := M.frozen0
      have HST := Lib.hid (dgArr_step x k hlt)
      have HL : Hid (lkZ x (k + 1) = lkZ x k + (30 - by8 x k % 16 - by8 x k / 16)) := rfl
      go_wp2
      go_roundw
      case rel => exact ⟨k + 1, by omega, by go_num, by rw [HL.out], by rw [← HST.out]; exact (M.set0 _ _).set0 _ _⟩
      case measure => simp [intOf]; omega
    · obtain rfl : k = 8 := by omega
      have lb := lkZ_bd x 8
      have q0 : wr.cell? ⟨w.heap.size + 1 + 1, 16, none⟩ = some (.int .i64 0) := by rw [M.cell0, dgArr_get x 8 _ (by omega), if_neg (by omega)]
      have q1 : wr.cell? ⟨w.heap.size + 1 + 1, 17, none⟩ = some (.int .i64 0) := by rw [M.cell0, dgArr_get x 8 _ (by omega), if_neg (by omega)]
      have fb := M.frozen0
      have M2 := (M.set0 16 (.int .i64 (lkZ x 8 % 16))).set0 17 (.int .i64 (lkZ x 8 / 16))
      rw [dgA_of] at M2
      have HM := Lib.hid M2
      clear M2
      go_wp2_with (first
        | (refine wpList_load_row rfl 31 (.tmp 3) rfl _ (by rfl) _ _ _ _ HM.out.blk0 Try.underlying31 rfl (size_18 x) ?_)
        | (refine wpList_store_blk rfl 31 (.tmp 2) (.tmp 42) rfl (B := [_]) HM.out (by rfl) _ (by rfl) (size_18' x 0) (by rw [dgA_size, dgArr_size]) (dgA_one x) ?_; intro w3 M3))
      refine bodyPost_ret (v := .agg (dgA x)) (results_cell_row Try.results25 _ _ _ _ _ _ _ (by rfl) M3.blk0 Try.underlying31 rfl (size_18 x)) rfl ⟨rfl, M3.below (New.cons (by simp; omega) (New.cons (by simp) (New.cons (by simp) (New.nil _))))⟩

set_option maxRecDepth 100000 in
set_option maxHeartbeats 2000000 in
theorem digits_any (x : BitVec 64) (w : World) :
    Calls Try.prog 26 #[.agg #[.int .u8 (by8 x 0), .int .u8 (by8 x 1), .int .u8 (by8 x 2), .int .u8 (by8 x 3), .int .u8 (by8 x 4), .int .u8 (by8 x 5), .int .u8 (by8 x 6), .int .u8 (by8 x 7)]] w fun e w' => e = .returned (.agg (dgA x)) ∧ Below w.heap.size w w' := by
  go_enter Try.func26, Try.ntmps26
  go_wp2
  obtain ⟨cx, hcx⟩ : ∃ c : Array Value, c = #[.int .u8 (by8 x 0), .int .u8 (by8 x 1), .int .u8 (by8 x 2), .int .u8 (by8 x 3), .int .u8 (by8 x 4), .int .u8 (by8 x 5), .int .u8 (by8 x 6), .int .u8 (by8 x 7)] := ⟨_, rfl⟩
  have HCX : Hid (∀ j, j < 8 → cx[j]? = some (.int .u8 (by8 x j))) := fun j hj => by rw [hcx]; exact dgc_at x j hj
  rw [← hcx, ← dgArr_0 x]
  clear hcx
  have M0 := (((Mem.start w).key cx 22 w.heap.size rfl).key (dgArr x 0) 31 (w.heap.size + 1) (by simp)).key (dgArr x 0) 31 (w.heap.size + 1 + 1) (by simp)
  go_loopw [4, 5] (fun l i wr => ∃ k : Nat, k ≤ 8 ∧ i = .int .i64 k ∧ l = .int .i64 (lkZ x k) ∧ Mem wr w ([] ++ [⟨w.heap.size + 1 + 1, 31, dgArr x k⟩, ⟨w.heap.size + 1, 31, dgArr x 0⟩, ⟨w.heap.size, 22, cx⟩])) (fun _ i _ => 8 - (intOf i).toNat)
  case atStart => exact ⟨0, by omega, rfl, rfl, M0⟩
  case round =>
    clear M0
    obtain ⟨k, hk, rfl, rfl, M⟩ := hrel
    by_cases hlt : k < 8
    · have c : wr.cell? ⟨w.heap.size, k, none⟩ = some (.int .u8 (by8 x k)) := by rw [M.cell2, HCX.out k hlt]
      have b := by8_bd x k
      have lb := lkZ_bd x k
      have q0 : wr.cell? ⟨w.heap.size + 1 + 1, 2 * k, none⟩ = some (.int .i64 0) := by rw [M.cell0, dgArr_get x k _ (by omega), if_neg (by omega)]
      have q1 : wr.cell? ⟨w.heap.size + 1 + 1, 2 * k + 1, none⟩ = some (.int .i64 0) := by rw [M.cell0, dgArr_get x k _ (by omega), if_neg (by omega)]
      have fb := M.frozen0
      have HST := Lib.hid (dgArr_step x k hlt)
      have HL : Hid (lkZ x (k + 1) = lkZ x k + (30 - by8 x k % 16 - by8 x k / 16)) := rfl
      have M1 := (M.set0 (2 * k) (.int .i64 (by8 x k % 16))).set0 (2 * k + 1) (.int .i64 (by8 x k / 16))
      rw [HST.out] at M1
      have HM1 := Lib.hid M1
      have HM := Lib.hid M
      clear M M1
      go_wp2
      obtain ⟨w1, hw1⟩ : ∃ w1, w1 = (wr.setCell ⟨w.heap.size + 1 + 1, 2 * k, none⟩ (.int .i64 (by8 x k % 16))).setCell ⟨w.heap.size + 1 + 1, 2 * k + 1, none⟩ (.int .i64 (by8 x k / 16)) := ⟨_, rfl⟩
      rw [← hw1]
      have M2 := HM1.out
      rw [← hw1] at M2
      clear hw1 q0 q1 c fb
      have q0 : w1.cell? ⟨w.heap.size + 1 + 1, 2 * k, none⟩ = some (.int .i64 (by8 x k % 16)) := by rw [M2.cell0, dgArr_get x (k + 1) _ (by omega), if_pos (by omega), ← dgt_lo x k hlt]
      have q1 : w1.cell? ⟨w.heap.size + 1 + 1, 2 * k + 1, none⟩ = some (.int .i64 (by8 x k / 16)) := by rw [M2.cell0, dgArr_get x (k + 1) _ (by omega), if_pos (by omega), ← dgt_hi x k hlt]
      have l1 := M2.lt0
      refine wp_region_rq (by kernel_rfl) (by kernel_rfl) (by kernel_rfl) ?_
      repeat (first
        | (refine B_skip ?_ ?_; (· rfl); (try simp only [Act.put, List.setIfInBounds_toArray, List.set_cons_zero, List.set_cons_succ]))
        | (refine B_move rfl ?_ ?_; (· rfl); (try simp only [Act.eval, Act.put, Array.getD_eq_getD_getElem?, List.getElem?_toArray, List.getElem?_cons_succ, List.getElem?_cons_zero, Option.getD_some, List.setIfInBounds_toArray, List.set_cons_zero, List.set_cons_succ]))
        | (refine B_plain ?_ ?_; (· rfl); intro K hK; go_big_quiet_op; with_reducible refine hK _ ?_; clear hK K)
        | (fail))
      refine B_nil ?_ rfl ?_ ?_
      · kernel_rfl
      · rfl
      rintro _ ⟨⟨g1, d1⟩, rfl⟩
      simp only [fin, Act.put, List.setIfInBounds_toArray, List.set_cons_zero, List.set_cons_succ]
      go_wp2
      go_roundw
      case rel => exact ⟨k + 1, by omega, by go_num, by rw [HL.out]; congr 1; omega, M2.plus g1 d1⟩
      case measure => simp [intOf]; omega
    · obtain rfl : k = 8 := by omega
      have lb := lkZ_bd x 8
      have q0 : wr.cell? ⟨w.heap.size + 1 + 1, 16, none⟩ = some (.int .i64 0) := by rw [M.cell0, dgArr_get x 8 _ (by omega), if_neg (by omega)]
      have q1 : wr.cell? ⟨w.heap.size + 1 + 1, 17, none⟩ = some (.int .i64 0) := by rw [M.cell0, dgArr_get x 8 _ (by omega), if_neg (by omega)]
      have fb := M.frozen0
      have M2 := (M.set0 16 (.int .i64 (lkZ x 8 % 16))).set0 17 (.int .i64 (lkZ x 8 / 16))
      rw [dgA_of] at M2
      have HM := Lib.hid M2
      clear M2
      go_wp2_with (first
        | (refine wpList_load_row rfl 31 (.tmp 3) rfl _ (by rfl) _ _ _ _ HM.out.blk0 Try.underlying31 rfl (size_18 x) ?_)
        | (refine wpList_store_blk rfl 31 (.tmp 2) (.tmp 46) rfl (B := [_]) HM.out (by rfl) _ (by rfl) (size_18' x 0) (by rw [dgA_size, dgArr_size]) (dgA_one x) ?_; intro w3 M3))
      refine bodyPost_ret (v := .agg (dgA x)) (results_cell_row Try.results26 _ _ _ _ _ _ _ (by rfl) M3.blk0 Try.underlying31 rfl (size_18 x)) rfl ⟨rfl, M3.below (New.cons (by simp; omega) (New.cons (by simp) (New.cons (by simp) (New.nil _))))⟩

end Go.Proofs.Ythdcfdfpfagamaa
