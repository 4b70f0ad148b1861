/- The law OnceMixes: its walk. -/
import Derived.Test.YthdcfdfpfagamaaK5
namespace Go.Proofs.Ythdcfdfpfagamaa
set_option linter.unusedSimpArgs false
set_option linter.unusedVariables false
open Go.RowKit

/-- Eight bytes out of a slice, as an append takes them. -/
theorem mix_facts {w : World} {v : Value} {l : List UInt8} (h : BSl w v l) (k : Nat) (hk : 8 * k + 8 ≤ l.length) : ∃ (x : BitVec 64) (b o cap : Nat), v = .slice (some ⟨b, o, none⟩) l.length cap ∧ l.length ≤ cap ∧
    ∀ ad, some (⟨b, o + 8 * k, none⟩ : Addr) = some ad → ∀ j u, (dcs x)[j]? = some u → w.cell? (ad.add j) = some u := by
  obtain ⟨b, o, cap, rfl, h1, hb, hc⟩ := bsl_cells8 h k hk
  refine ⟨wordAt l k, b, o, cap, rfl, h1, fun ad had j u hj => ?_⟩
  cases had
  have hadd : (⟨b, o + 8 * k, none⟩ : Addr).add j = ⟨b, o + k * 8 + j, none⟩ := by
    unfold Addr.add
    split
    · rename_i h0; subst h0; simp [Nat.mul_comm]
    · simp [Nat.mul_comm, Nat.add_assoc]
  have hlt : j < 8 := by
    have := (List.getElem?_eq_some_iff.1 hj).1
    rwa [dcs_len] at this
  rw [dcs_get _ j hlt] at hj
  rw [hadd, hc j hlt]; exact hj

set_option maxRecDepth 100000 in
set_option maxHeartbeats 4000000 in
theorem onceMixes_any (s a b m : BitVec 64) (q : Int) (w : World) (hq : 0 ≤ q ∧ q ≤ 4294967295) :
    Calls Try.prog 6 #[.agg #[.int .u8 (by8 s 0), .int .u8 (by8 s 1), .int .u8 (by8 s 2), .int .u8 (by8 s 3), .int .u8 (by8 s 4), .int .u8 (by8 s 5), .int .u8 (by8 s 6), .int .u8 (by8 s 7)], .agg #[.int .u8 (by8 a 0), .int .u8 (by8 a 1), .int .u8 (by8 a 2), .int .u8 (by8 a 3), .int .u8 (by8 a 4), .int .u8 (by8 a 5), .int .u8 (by8 a 6), .int .u8 (by8 a 7)], .agg #[.int .u8 (by8 b 0), .int .u8 (by8 b 1), .int .u8 (by8 b 2), .int .u8 (by8 b 3), .int .u8 (by8 b 4), .int .u8 (by8 b 5), .int .u8 (by8 b 6), .int .u8 (by8 b 7)], .agg #[.int .u8 (by8 m 0), .int .u8 (by8 m 1), .int .u8 (by8 m 2), .int .u8 (by8 m 3), .int .u8 (by8 m 4), .int .u8 (by8 m 5), .int .u8 (by8 m 6), .int .u8 (by8 m 7)], .int .u32 q] w fun e w' => e = .returned (.bool true) ∧ Below w.heap.size w w' := by
  obtain ⟨p, HP⟩ : ∃ p, Hid (publicF s = p) := ⟨_, rfl⟩
  obtain ⟨la, HLA⟩ : ∃ l, Hid (signB s a = l) := ⟨_, rfl⟩
  obtain ⟨lb, HLB⟩ : ∃ l, Hid (signB s b = l) := ⟨_, rfl⟩
  have hla : la.length = 144 := by rw [← HLA.out]; exact signB_len _ _
  have hlb : lb.length = 144 := by rw [← HLB.out]; exact signB_len _ _
  have HA := Lib.hid hla
  have HB := Lib.hid hlb
  have S1 := Lib.hid (fun W => HLA.out ▸ sign_to s a W)
  have S2 := Lib.hid (fun W => HLB.out ▸ sign_to s b W)
  clear hla hlb
  go_enter Try.func6, Try.ntmps6
  go_wp2
  refine wp_region_rq (by kernel_rfl) (by kernel_rfl) (by kernel_rfl) ?_
  repeat (first
    | (refine B_skip ?_ ?_; (· rfl); (try simp only [Act.put, List.setIfInBounds_toArray, List.set_cons_zero, List.set_cons_succ]))
    | (refine B_move rfl ?_ ?_; (· rfl); (try simp only [Act.eval, Act.put, Array.getD_eq_getD_getElem?, List.getElem?_toArray, List.getElem?_cons_succ, List.getElem?_cons_zero, Option.getD_some, List.setIfInBounds_toArray, List.set_cons_zero, List.set_cons_succ]))
    | (refine B_plain ?_ ?_; (· rfl); intro K hK; go_big_quiet_op; with_reducible refine hK _ ?_; clear hK K)
    | (refine B_callR ((fun v w => BSl w v la)) ((stays_bsl _)) (f := 23) rfl rfl (by kernel_rfl) ?_ (fun xq => ?_) ?_; (· rfl); (· ((simp only [List.map_toArray, List.map_cons, List.map_nil, Act.eval, Array.getD_eq_getD_getElem?, List.getElem?_toArray, List.getElem?_cons_succ, List.getElem?_cons_zero, Option.getD_some]); (with_reducible apply retR); with_reducible exact S1.out _)))
    | (refine B_callR ((fun v w => BSl w v lb)) ((stays_bsl _)) (f := 23) rfl rfl (by kernel_rfl) ?_ (fun xq => ?_) ?_; (· rfl); (· ((simp only [List.map_toArray, List.map_cons, List.map_nil, Act.eval, Array.getD_eq_getD_getElem?, List.getElem?_toArray, List.getElem?_cons_succ, List.getElem?_cons_zero, Option.getD_some]); (with_reducible apply retR); with_reducible exact S2.out _)))
    | (refine B_moveR _ ?_ rfl (Or.inr rfl) rfl ?_ ?_; (· exact stays_bsl _); (· rfl)))
  refine B_nil ?_ rfl ?_ ?_
  · kernel_rfl
  · rfl
  rintro _ ⟨⟨g1, d1⟩, rfl⟩
  simp only [fin, Act.put, List.setIfInBounds_toArray, List.set_cons_zero, List.set_cons_succ]
  rintro v12 h12 v11 h11 v25 - v22 -
  obtain ⟨ao1, cap1, rfl, ca1, cb1, -⟩ := h11.open_
  obtain ⟨ao2, cap2, rfl, ca2, cb2, -⟩ := h12.open_
  rw [HA.out] at h11 ca1 ⊢
  rw [HB.out] at h12 ca2 ⊢
  have H11 := Lib.hid h11
  have H12 := Lib.hid h12
  clear h11 h12 cb1 cb2
  go_wp2
  obtain ⟨w1, hw1⟩ : ∃ w1, w1 = plus ((((w.alloc (.cells #[.int .u8 (by8 s 0), .int .u8 (by8 s 1), .int .u8 (by8 s 2), .int .u8 (by8 s 3), .int .u8 (by8 s 4), .int .u8 (by8 s 5), .int .u8 (by8 s 6), .int .u8 (by8 s 7)] 22)).alloc (.cells #[.int .u8 (by8 a 0), .int .u8 (by8 a 1), .int .u8 (by8 a 2), .int .u8 (by8 a 3), .int .u8 (by8 a 4), .int .u8 (by8 a 5), .int .u8 (by8 a 6), .int .u8 (by8 a 7)] 22)).alloc (.cells #[.int .u8 (by8 b 0), .int .u8 (by8 b 1), .int .u8 (by8 b 2), .int .u8 (by8 b 3), .int .u8 (by8 b 4), .int .u8 (by8 b 5), .int .u8 (by8 b 6), .int .u8 (by8 b 7)] 22)).alloc (.cells #[.int .u8 (by8 m 0), .int .u8 (by8 m 1), .int .u8 (by8 m 2), .int .u8 (by8 m 3), .int .u8 (by8 m 4), .int .u8 (by8 m 5), .int .u8 (by8 m 6), .int .u8 (by8 m 7)] 22)) g1 d1 := ⟨_, rfl⟩
  have HB1 : Hid (Below w.heap.size w w1) := by rw [hw1]; show Below _ _ _; (repeat' (first | (with_reducible exact Below.refl _ _) | (with_reducible refine bplus ?_ _ _) | (with_reducible refine balloc ?_ _) | (with_reducible refine Below.drew ?_) | (with_reducible refine bdrewN ?_ _) | (with_reducible refine Below.setCell ?_ (by go_size) _)))
  have HS : Hid (HasBlk w1 w.heap.size 22 #[.int .u8 (by8 s 0), .int .u8 (by8 s 1), .int .u8 (by8 s 2), .int .u8 (by8 s 3), .int .u8 (by8 s 4), .int .u8 (by8 s 5), .int .u8 (by8 s 6), .int .u8 (by8 s 7)]) := by rw [hw1]; exact (((((HasBlk.new w _ _ _ rfl).alloc _).alloc _).alloc _).plus _ _)
  have HM : Hid (HasBlk w1 (w.heap.size + 1 + 1 + 1) 22 #[.int .u8 (by8 m 0), .int .u8 (by8 m 1), .int .u8 (by8 m 2), .int .u8 (by8 m 3), .int .u8 (by8 m 4), .int .u8 (by8 m 5), .int .u8 (by8 m 6), .int .u8 (by8 m 7)]) := by rw [hw1]; exact ((HasBlk.new (((w.alloc (.cells #[.int .u8 (by8 s 0), .int .u8 (by8 s 1), .int .u8 (by8 s 2), .int .u8 (by8 s 3), .int .u8 (by8 s 4), .int .u8 (by8 s 5), .int .u8 (by8 s 6), .int .u8 (by8 s 7)] 22)).alloc (.cells #[.int .u8 (by8 a 0), .int .u8 (by8 a 1), .int .u8 (by8 a 2), .int .u8 (by8 a 3), .int .u8 (by8 a 4), .int .u8 (by8 a 5), .int .u8 (by8 a 6), .int .u8 (by8 a 7)] 22)).alloc (.cells #[.int .u8 (by8 b 0), .int .u8 (by8 b 1), .int .u8 (by8 b 2), .int .u8 (by8 b 3), .int .u8 (by8 b 4), .int .u8 (by8 b 5), .int .u8 (by8 b 6), .int .u8 (by8 b 7)] 22)) _ _ _ (by simp)).plus _ _)
  rw [← hw1] at H11 H12 ⊢
  clear hw1
  go_loopw [4, 13, 14] (fun qv v i wr => ∃ (k cap : Nat) (ao : Option Addr) (B : List Blk) (ys : List (BitVec 64)) (q : Int), k ≤ 18 ∧ ys.length = k ∧ 0 ≤ q ∧ q ≤ 4294967295 ∧ qv = .int .u32 q ∧ v = .slice ao (8 * k) cap ∧ i = .int .i64 k ∧ Row 5 1 (.slice ao (8 * k) cap) (8 * k) (dall ys) B ∧ New w1 B ∧ Mem wr w1 (B ++ [])) (fun _ _ i _ => 18 - (intOf i).toNat)
  case atStart => exact ⟨0, 0, none, [], [], q, by omega, rfl, hq.1, hq.2, rfl, rfl, rfl, Row.void, New.nil _, Mem.start _⟩
  case round =>
    obtain ⟨k, cap, ao, B, ys, q, hk, hys, hq0, hq1, rfl, rfl, rfl, R, hB, M⟩ := hrel
    have HN := Lib.hid (hB.app (New.nil w1))
    have HR := Lib.hid R
    have HMM := Lib.hid M
    have HYS := Lib.hid hys
    by_cases hlt : k < 18
    · have F1 := Lib.hid (mix_facts (H11.out.below (M.below HN.out)) k (by rw [HA.out]; omega))
      have F2 := Lib.hid (mix_facts (H12.out.below (M.below HN.out)) k (by rw [HB.out]; omega))
      obtain ⟨x1, b1, o1, c1, e1, k1, hc1⟩ := F1.out
      obtain ⟨x2, b2, o2, c2, e2, k2, hc2⟩ := F2.out
      rw [HA.out] at e1 k1
      rw [HB.out] at e2 k2
      cases e1
      cases e2
      have N1 := Lib.hid hc1
      have N2 := Lib.hid hc2
      have hsl1 := fun W => Lib.run_slice_window (P := Try.prog) W 28 5 Try.underlying28 size_u8 b1 o1 144 cap1 (8 * k) (8 * k + 8) (by omega) (by omega)
      have hsl2 := fun W => Lib.run_slice_window (P := Try.prog) W 28 5 Try.underlying28 size_u8 b2 o2 144 cap2 (8 * k) (8 * k + 8) (by omega) (by omega)
      have e8 : 8 * k + 8 - 8 * k = 8 := by omega
      have h8 : ((8 : Nat) : Int) = 8 := rfl
      simp only [e8, Int.natCast_mul, Int.natCast_add, h8] at hsl1 hsl2
      clear M R F1 F2 hc1 hc2 e8 h8 hys
      go_wp2_with (at_builtin; refine wpList_append_row rfl (.tmp 45) (.tmp 52) 28 rfl elt_u8 HMM.out hB _ _ _ (by rfl) HR.out _ _ _ (dcs _) (by rfl) (by rfl) (by simp) (by first | exact N1.out | exact N2.out) (dcs_one _) (by unfold maxLen; omega) (by omega) (8 * (k + 1)) (by omega) _ rfl (fun ao' cap' B' w' R' M' hB' => ?_))
      all_goals
        go_roundw
        case rel => exact ⟨k + 1, cap', ao', B', ys ++ [_], _, by omega, by simp [HYS.out], by omega, by omega, rfl, rfl, by go_num, by rw [dall_app, dall_one]; exact R', hB', M'⟩
        case measure => simp [intOf]; omega
    · obtain rfl : k = 18 := by omega
      have HL : Hid ((bysL ys).length = 144) := by show _ = _; rw [bysL_len, HYS.out]
      have HV : Hid (BSl wr (.slice ao 144 cap) (bysL ys)) := by
        have h : Row 5 1 (.slice ao 144 cap) 144 (bcs (bysL ys)) B := by rw [bcs_bysL]; exact R
        exact h.bsl M
      have cs := (HS.out.below (M.below HN.out)).cell
      have cm := (HM.out.below (M.below HN.out)).cell
      have ls := (HS.out.below (M.below HN.out)).lt
      have lm := (HM.out.below (M.below HN.out)).lt
      have HBW := Lib.hid (HB1.out.trans ((M.below HN.out).mono (by have := HB1.out.size; omega)))
      obtain ⟨z, HZ⟩ : ∃ z, Hid (toldF m (bysL ys) = z) := ⟨_, rfl⟩
      obtain ⟨kk, HKK⟩ : ∃ kk : Bool, Hid ((z == p) = kk) := ⟨_, rfl⟩
      clear M R hys
      go_wp2_with (first
        | (go_at_call 27; refine (told_yes m _ (bysL ys) HL.out _ HV.out z HZ.out).mono ?_; rintro e w5 ⟨rfl, hb5⟩; obtain ⟨g5, d5, rfl⟩ := plus_of_below hb5; clear hb5)
        | (go_at_call 29; refine (refTold_yes m _ (bysL ys) HL.out _ ((HV.out.plus _ _).alloc _) z HZ.out).mono ?_; rintro e w6 ⟨rfl, hb6⟩; obtain ⟨g6, d6, rfl⟩ := plus_of_below hb6; clear hb6))
      have HV4 : Hid (∀ o o' g d, BSl ((plus ((plus wr g5 d5).alloc o) g d).alloc o') (.slice ao 144 cap) (bysL ys)) := fun o o' g d => (((HV.out.plus _ _).alloc _).plus _ _).alloc _
      refine wp_region_rq (by kernel_rfl) (by kernel_rfl) (by kernel_rfl) ?_
      repeat (first
        | (refine B_skip ?_ ?_; (· rfl); (try simp only [Act.put, List.setIfInBounds_toArray, List.set_cons_zero, List.set_cons_succ]))
        | (refine B_move rfl ?_ ?_; (· rfl); (try simp only [Act.eval, Act.put, Array.getD_eq_getD_getElem?, List.getElem?_toArray, List.getElem?_cons_succ, List.getElem?_cons_zero, Option.getD_some, List.setIfInBounds_toArray, List.set_cons_zero, List.set_cons_succ]))
        | (refine B_plain ?_ ?_; (· rfl); intro K hK; go_big_quiet_op; with_reducible refine hK _ ?_; clear hK K)
        | (refine B_callX (v := ?_) (f := 19) rfl (by kernel_rfl) ?_ (fun xq => ?_) ?_; rotate_left; (· rfl); (· ((simp only [List.map_toArray, List.map_cons, List.map_nil, Act.eval, Array.getD_eq_getD_getElem?, List.getElem?_toArray, List.getElem?_cons_succ, List.getElem?_cons_zero, Option.getD_some]); with_reducible apply retB; with_reducible exact (known05_any _))); (try simp only [Act.put, List.setIfInBounds_toArray, List.set_cons_zero, List.set_cons_succ]))
        | (refine B_callX (v := ?_) (f := 20) rfl (by kernel_rfl) ?_ (fun xq => ?_) ?_; rotate_left; (· rfl); (· ((simp only [List.map_toArray, List.map_cons, List.map_nil, Act.eval, Array.getD_eq_getD_getElem?, List.getElem?_toArray, List.getElem?_cons_succ, List.getElem?_cons_zero, Option.getD_some]); with_reducible apply retB; with_reducible exact (public_to s p HP.out _))); (try simp only [Act.put, List.setIfInBounds_toArray, List.set_cons_zero, List.set_cons_succ]))
        | (refine B_callX (v := ?_) (f := 21) rfl (by kernel_rfl) ?_ (fun xq => ?_) ?_; rotate_left; (· rfl); (· ((simp only [List.map_toArray, List.map_cons, List.map_nil, Act.eval, Array.getD_eq_getD_getElem?, List.getElem?_toArray, List.getElem?_cons_succ, List.getElem?_cons_zero, Option.getD_some]); with_reducible apply retB; with_reducible exact (refPublic_to s p HP.out _))); (try simp only [Act.put, List.setIfInBounds_toArray, List.set_cons_zero, List.set_cons_succ]))
        | (refine B_callX (v := ?_) (f := 28) rfl (by kernel_rfl) ?_ (fun xq => ?_) ?_; rotate_left; (· rfl); (· ((simp only [List.map_toArray, List.map_cons, List.map_nil, Act.eval, Array.getD_eq_getD_getElem?, List.getElem?_toArray, List.getElem?_cons_succ, List.getElem?_cons_zero, Option.getD_some]); with_reducible apply retB; with_reducible exact (verify_yes p m _ (bysL ys) HL.out _ ((HV4.out _ _ _ _).plus _ _) z HZ.out kk HKK.out))); (try simp only [Act.put, List.setIfInBounds_toArray, List.set_cons_zero, List.set_cons_succ]))
        | (refine B_callX (v := ?_) (f := 30) rfl (by kernel_rfl) ?_ (fun xq => ?_) ?_; rotate_left; (· rfl); (· ((simp only [List.map_toArray, List.map_cons, List.map_nil, Act.eval, Array.getD_eq_getD_getElem?, List.getElem?_toArray, List.getElem?_cons_succ, List.getElem?_cons_zero, Option.getD_some]); with_reducible apply retB; with_reducible exact (refVerify_yes p m _ (bysL ys) HL.out _ ((HV4.out _ _ _ _).plus _ _) z HZ.out kk HKK.out))); (try simp only [Act.put, List.setIfInBounds_toArray, List.set_cons_zero, List.set_cons_succ])))
      refine B_nil ?_ rfl ?_ ?_
      · kernel_rfl
      · rfl
      rintro _ ⟨⟨g7, d7⟩, rfl⟩
      simp only [fin, Act.put, List.setIfInBounds_toArray, List.set_cons_zero, List.set_cons_succ]
      go_wp2
      go_ret
      exact ⟨rfl, by (repeat' (first | exact HBW.out | (with_reducible refine bplus ?_ _ _) | (with_reducible refine balloc ?_ _)))⟩

end Go.Proofs.Ythdcfdfpfagamaa
