/- The law OnceDigits: its walk. -/
import Derived.Test.YthdcfdfpfagamaaK5
namespace Go.Proofs.Ythdcfdfpfagamaa
set_option linter.unusedSimpArgs false
set_option linter.unusedVariables false
open Go.RowKit

/-- The sum of a message's first digits. -/
noncomputable def smDg (m : BitVec 64) : Nat → Int
  | 0 => 0
  | k + 1 => smDg m k + dgt m k
theorem smDg_bd (m : BitVec 64) (k : Nat) : 0 ≤ smDg m k ∧ smDg m k ≤ 15 * k := by
  induction k with
  | zero => simp [smDg]
  | succ k ih =>
    have := dgt_bd m k
    unfold smDg; omega
theorem smDg_lk (m : BitVec 64) (k : Nat) (hk : k ≤ 8) : smDg m (2 * k) + lkZ m k = 30 * k := by
  induction k with
  | zero => simp [smDg, lkZ]
  | succ k ih =>
    have h1 := dgt_lo m k (by omega)
    have h2 := dgt_hi m k (by omega)
    have h3 := ih (by omega)
    show smDg m (2 * k) + dgt m (2 * k) + dgt m (2 * k + 1) + (lkZ m k + (30 - by8 m k % 16 - by8 m k / 16)) = _
    rw [h1, h2]; omega
theorem smDg_all (m : BitVec 64) : smDg m 16 + dgt m 16 + 16 * dgt m 17 = 240 := by
  have h := smDg_lk m 8 (by omega)
  have h1 := dgt_16 m
  have h2 := dgt_17 m
  simp at h
  omega
theorem by8_dgt (m : BitVec 64) (k : Nat) (h : k < 8) : dgt m (2 * k) + 16 * dgt m (2 * k + 1) = by8 m k := by
  have h1 := dgt_lo m k h
  have h2 := dgt_hi m k h
  omega

set_option maxRecDepth 100000 in
set_option maxHeartbeats 4000000 in
theorem onceDigits_any (m : BitVec 64) (w : World) :
    Calls Try.prog 5 #[.agg #[.int .u8 (by8 m 0), .int .u8 (by8 m 1), .int .u8 (by8 m 2), .int .u8 (by8 m 3), .int .u8 (by8 m 4), .int .u8 (by8 m 5), .int .u8 (by8 m 6), .int .u8 (by8 m 7)]] w fun e w' => e = .returned (.bool true) ∧ Below w.heap.size w w' := by
  go_enter Try.func5, Try.ntmps5
  go_wp2_with (first
    | (go_at_call 25; refine (reach_any m _).mono ?_; rintro e w1 ⟨rfl, hb1⟩; obtain ⟨g1, d1, rfl⟩ := plus_of_below hb1; clear hb1)
    | (refine wpList_store_blk rfl 31 (.tmp 3) (.tmp 9) rfl (B := []) (L := [⟨w.heap.size, 22, #[.int .u8 (by8 m 0), .int .u8 (by8 m 1), .int .u8 (by8 m 2), .int .u8 (by8 m 3), .int .u8 (by8 m 4), .int .u8 (by8 m 5), .int .u8 (by8 m 6), .int .u8 (by8 m 7)]⟩]) (w0 := w) (Mem.key (Mem.plus (Mem.key (Mem.start w) _ _ _ (by simp)) _ _) _ _ (w.heap.size + 1 + g1.size) (by simp)) (by rfl) (dgA m) (by rfl) (by kernel_rfl) (by rw [dgA_size]; rfl) (dgA_one m) ?_; intro w3 M3))
  obtain ⟨bd, Hbd⟩ : ∃ bd, bd = w.heap.size + 1 + g1.size := ⟨_, rfl⟩
  rw [← Hbd] at M3 ⊢
  have hbd : w.heap.size ≤ bd := by omega
  have HD := Lib.hid (fun (i : Nat) (hi : i < 18) => show w3.cell? ⟨bd, i, none⟩ = some (.int .i64 (dgt m i)) by rw [M3.cell0, dgA_get m i hi])
  have HM3 := Lib.hid M3
  clear Hbd M3
  go_loop [4, 5] (fun s c => ∃ k : Nat, k ≤ 16 ∧ c = .int .i64 k ∧ s = .int .i64 (smDg m k)) (fun _ c => 16 - (intOf c).toNat)
  case atStart => exact ⟨0, by omega, rfl, rfl⟩
  case round =>
    obtain ⟨k, hk, rfl, rfl⟩ := hrel
    have hs := smDg_bd m k
    by_cases hlt : k < 16
    · have q := HD.out k (by omega)
      have db := dgt_bd m k
      have HS : Hid (smDg m (k + 1) = smDg m k + dgt m k) := rfl
      go_wp2
      go_round
      case rel => exact ⟨k + 1, by omega, by go_num, by rw [HS.out]⟩
      case measure => simp [intOf]; omega
    · obtain rfl : k = 16 := by omega
      have l3 := HM3.out.lt1
      have l4 := HM3.out.lt0
      go_wp2
      have M0 := (show Mem (w3.alloc (.cells #[.int .u8 0, .int .u8 0, .int .u8 0, .int .u8 0, .int .u8 0, .int .u8 0, .int .u8 0, .int .u8 0] 22)) w ([⟨w3.heap.size, 22, #[.int .u8 0, .int .u8 0, .int .u8 0, .int .u8 0, .int .u8 0, .int .u8 0, .int .u8 0, .int .u8 0]⟩] ++ [⟨bd, 31, dgA m⟩, ⟨w.heap.size, 22, #[.int .u8 (by8 m 0), .int .u8 (by8 m 1), .int .u8 (by8 m 2), .int .u8 (by8 m 3), .int .u8 (by8 m 4), .int .u8 (by8 m 5), .int .u8 (by8 m 6), .int .u8 (by8 m 7)]⟩]) from HM3.out.key _ _ _ rfl)
      go_loopw [7] (fun i wr => ∃ (k : Nat) (cs : Array Value), k ≤ 8 ∧ i = .int .i64 k ∧ cs.size = 8 ∧ (∀ j, j < k → cs[j]? = some (.int .u8 (by8 m j))) ∧ Mem wr w ([] ++ [⟨w3.heap.size, 22, cs⟩, ⟨bd, 31, dgA m⟩, ⟨w.heap.size, 22, #[.int .u8 (by8 m 0), .int .u8 (by8 m 1), .int .u8 (by8 m 2), .int .u8 (by8 m 3), .int .u8 (by8 m 4), .int .u8 (by8 m 5), .int .u8 (by8 m 6), .int .u8 (by8 m 7)]⟩])) (fun i _ => 8 - (intOf i).toNat)
      case atStart => exact ⟨0, _, by omega, rfl, rfl, fun j hj => absurd hj (by omega), M0⟩
      case round =>
        clear M0
        obtain ⟨k, cs, hk, rfl, hcs, hc, M⟩ := hrel
        have lt0 := M.lt0
        have lt1 := M.lt1
        by_cases hlt : k < 8
        · have q0 : wr.cell? ⟨bd, 2 * k, none⟩ = some (.int .i64 (dgt m (2 * k))) := by rw [M.cell1, dgA_get m _ (by omega)]
          have q1 : wr.cell? ⟨bd, 2 * k + 1, none⟩ = some (.int .i64 (dgt m (2 * k + 1))) := by rw [M.cell1, dgA_get m _ (by omega)]
          obtain ⟨u, hu⟩ : ∃ u, cs[k]? = some u := ⟨cs[k], Array.getElem?_eq_getElem (by omega)⟩
          have q2 : wr.cell? ⟨w3.heap.size, k, none⟩ = some u := by rw [M.cell0]; exact hu
          have f2 := M.frozen0
          have d0 := dgt_bd m (2 * k)
          have d1 := dgt_bd m (2 * k + 1)
          have db : 0 ≤ dgt m (2 * k) + 16 * dgt m (2 * k + 1) ∧ dgt m (2 * k) + 16 * dgt m (2 * k + 1) ≤ 255 := by omega
          have HB := Lib.hid (by8_dgt m k hlt)
          have HC := Lib.hid hc
          have HS := Lib.hid hcs
          have HM := Lib.hid M
          clear hc hu M hcs
          go_wp2
          refine wp_region_rc 14 1 (by kernel_rfl) (by kernel_rfl) (by kernel_rfl) (by kernel_rfl) ?_
          simp only [List.take_succ_cons, List.take_zero]
          repeat (first
            | (refine B_skip ?_ ?_; (· rfl); (try simp only [Act.put, List.setIfInBounds_toArray, List.set_cons_zero, List.set_cons_succ]))
            | (refine B_move rfl ?_ ?_; (· rfl); (try simp only [Act.eval, Act.put, Array.getD_eq_getD_getElem?, List.getElem?_toArray, List.getElem?_cons_succ, List.getElem?_cons_zero, Option.getD_some, List.setIfInBounds_toArray, List.set_cons_zero, List.set_cons_succ]))
            | (refine B_plain ?_ ?_; (· rfl); intro K hK; go_big_quiet_op; with_reducible refine hK _ ?_; clear hK K)
            | (fail))
          refine B_nil ?_ rfl ?_ ?_
          · kernel_rfl
          · rfl
          rintro _ ⟨⟨g5, d5⟩, rfl⟩
          simp only [fin, Act.put, List.setIfInBounds_toArray, List.set_cons_zero, List.set_cons_succ]
          refine last_one (k := 14) (by kernel_rfl) (by kernel_rfl) (by rfl) ?_ ?_
          · rfl
          intro K hK
          go_simp
          refine hK _ _ ?_
          clear hK K
          go_wp2
          rw [HB.out]
          go_roundw
          case rel =>
            refine ⟨k + 1, cs.setIfInBounds k (.int .u8 (by8 m k)), by omega, by go_num, by simp [HS.out], fun j hj => ?_, (HM.out.set0 _ _).plus _ _⟩
            rw [Array.getElem?_setIfInBounds]
            by_cases hjk : k = j
            · subst hjk; rw [if_pos rfl, if_pos (by rw [HS.out]; omega)]
            · rw [if_neg hjk]; exact HC.out j (by omega)
          case measure => simp [intOf]; omega
        · obtain rfl : k = 8 := by omega
          obtain rfl := dgc_ext m cs hcs hc
          have q16 : wr.cell? ⟨bd, 16, none⟩ = some (.int .i64 (dgt m 16)) := by rw [M.cell1, dgA_get m _ (by omega)]
          have q17 : wr.cell? ⟨bd, 17, none⟩ = some (.int .i64 (dgt m 17)) := by rw [M.cell1, dgA_get m _ (by omega)]
          have q1 := M.cell0
          have q2 := M.cell2
          have lt2 := M.lt2
          have d16 := dgt_bd m 16
          have d17 := dgt_bd m 17
          have hd16 : dgt m 16 < 16 := by omega
          have hall : ((smDg m 16 + dgt m 16 + 16 * dgt m 17) == 240) = true := by rw [smDg_all]; rfl
          have HB := Lib.hid (M.below (New.cons (x := ⟨w3.heap.size, 22, #[.int .u8 (by8 m 0), .int .u8 (by8 m 1), .int .u8 (by8 m 2), .int .u8 (by8 m 3), .int .u8 (by8 m 4), .int .u8 (by8 m 5), .int .u8 (by8 m 6), .int .u8 (by8 m 7)]⟩) (by have := HM3.out.size; exact this) (New.cons (x := ⟨bd, 31, dgA m⟩) hbd (New.cons (by simp) (New.nil _)))))
          clear M hc hcs
          go_wp2_with (go_at_call 19; refine (known05_any _).mono ?_; rintro e w7 ⟨rfl, hb7⟩; obtain ⟨g7, d7, rfl⟩ := plus_of_below hb7; clear hb7)
          go_ret
          exact ⟨rfl, bplus HB.out _ _⟩

end Go.Proofs.Ythdcfdfpfagamaa
