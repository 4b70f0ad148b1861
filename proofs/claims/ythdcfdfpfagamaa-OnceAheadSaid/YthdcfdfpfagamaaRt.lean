/- once: contracts of the reference's Told, of both Verify, of Shown and of both Sign. -/
import Derived.Test.YthdcfdfpfagamaaRk
import Derived.Test.YthdcfdfpfagamaaTl2
namespace Go.Proofs.Ythdcfdfpfagamaa
set_option linter.unusedSimpArgs false
set_option linter.unusedVariables false
open Go.RowKit

set_option maxRecDepth 100000 in
set_option maxHeartbeats 1000000 in
theorem refTold_no (m : BitVec 64) (ao : Option Addr) (n cap : Nat) (hn : n ≠ 144) (w : World) :
    Calls Try.prog 29 #[.agg #[.int .u8 (by8 m 0), .int .u8 (by8 m 1), .int .u8 (by8 m 2), .int .u8 (by8 m 3), .int .u8 (by8 m 4), .int .u8 (by8 m 5), .int .u8 (by8 m 6), .int .u8 (by8 m 7)], .slice ao n cap] w fun e w' => e = .returned (.tuple #[.agg #[.int .u8 (by8 (0#64) 0), .int .u8 (by8 (0#64) 1), .int .u8 (by8 (0#64) 2), .int .u8 (by8 (0#64) 3), .int .u8 (by8 (0#64) 4), .int .u8 (by8 (0#64) 5), .int .u8 (by8 (0#64) 6), .int .u8 (by8 (0#64) 7)], .bool false]) ∧ Below w.heap.size w w' := by
  have hb : (((n : Int)) != 144) = true := by rw [bne_iff_ne]; omega
  have hz := Lib.hid dg_zero
  go_enter Try.func29, Try.ntmps29
  go_wp2
  refine bodyPost_ret (v := .tuple #[.agg #[.int .u8 0, .int .u8 0, .int .u8 0, .int .u8 0, .int .u8 0, .int .u8 0, .int .u8 0, .int .u8 0], .bool false]) (by simp [results, Try.results29, go_sem]) rfl ⟨by rw [hz.out], by (repeat' (first | (with_reducible exact Below.refl _ _) | (with_reducible refine bplus ?_ _ _) | (with_reducible refine balloc ?_ _) | (with_reducible refine Below.drew ?_) | (with_reducible refine bdrewN ?_ _) | (with_reducible refine Below.setCell ?_ (by go_size) _)))⟩

noncomputable def toldD (m : BitVec 64) (l : List UInt8) (c : Nat) : BitVec 64 := chainF (wordAt l c) (15 - (dgt m c).toNat)

set_option maxRecDepth 100000 in
set_option maxHeartbeats 2000000 in
theorem refTold_yes (m : BitVec 64) (v : Value) (l : List UInt8) (hl : l.length = 144) (w : World) (hv : BSl w v l) (z : BitVec 64) (hz : toldF m l = z) :
    Calls Try.prog 29 #[.agg #[.int .u8 (by8 m 0), .int .u8 (by8 m 1), .int .u8 (by8 m 2), .int .u8 (by8 m 3), .int .u8 (by8 m 4), .int .u8 (by8 m 5), .int .u8 (by8 m 6), .int .u8 (by8 m 7)], v] w fun e w' => e = .returned (.tuple #[.agg #[.int .u8 (by8 z 0), .int .u8 (by8 z 1), .int .u8 (by8 z 2), .int .u8 (by8 z 3), .int .u8 (by8 z 4), .int .u8 (by8 z 5), .int .u8 (by8 z 6), .int .u8 (by8 z 7)], .bool true]) ∧ Below w.heap.size w w' := by
  have HV := Lib.hid hv
  obtain ⟨ao0, cap0, rfl, h1, h2, h3⟩ := hv.open_
  rw [hl] at HV ⊢
  have HZ : Hid (manyF ((List.range 18).map fun c => toldD m l c) = z) := hz
  have HL := Lib.hid hl
  clear hz h1 h2 h3 hv hl
  go_enter Try.func29, Try.ntmps29
  go_wp2_with (first
    | (go_at_call 26; refine (digits_any m _).mono ?_; rintro e w1 ⟨rfl, hb1⟩; obtain ⟨g1, d1, rfl⟩ := plus_of_below hb1; clear hb1)
    | (refine wpList_store_blk rfl 31 (.tmp 6) (.tmp 14) rfl (B := []) (L := [⟨w.heap.size + 1, 22, #[.int .u8 0, .int .u8 0, .int .u8 0, .int .u8 0, .int .u8 0, .int .u8 0, .int .u8 0, .int .u8 0]⟩]) (w0 := w) (Mem.key (Mem.plus (Mem.key (Mem.alloc (Mem.start w) _) _ _ _ (by simp)) _ _) _ _ (w.heap.size + 1 + 1 + g1.size) (by simp)) (by rfl) (dgA m) (by rfl) (by kernel_rfl) (by rw [dgA_size]; rfl) (dgA_one m) ?_; intro w3 M3))
  obtain ⟨bd, Hbd⟩ : ∃ bd, bd = w.heap.size + 1 + 1 + g1.size := ⟨_, rfl⟩
  rw [← Hbd] at M3 ⊢
  have hbd : w.heap.size ≤ bd := by omega
  clear Hbd
  go_loopw [7, 8] (fun v i wr => ∃ (k cap : Nat) (ao : Option Addr) (B : List Blk), k ≤ 18 ∧ v = .slice ao k cap ∧ i = .int .i64 k ∧ Row 22 8 (.slice ao k cap) k (dall ((List.range k).map fun c => toldD m l c)) B ∧ New w B ∧ Mem wr w (B ++ [⟨bd, 31, dgA m⟩, ⟨w.heap.size + 1, 22, #[.int .u8 0, .int .u8 0, .int .u8 0, .int .u8 0, .int .u8 0, .int .u8 0, .int .u8 0, .int .u8 0]⟩])) (fun _ i _ => 18 - (intOf i).toNat)
  case atStart => exact ⟨0, 0, none, [], by omega, rfl, rfl, Row.void, New.nil _, M3⟩
  case round =>
    clear M3
    obtain ⟨k, cap, ao, B, hk, rfl, rfl, R, hB, M⟩ := hrel
    have HM := Lib.hid M
    have HR := Lib.hid R
    have hN := hB.app (New.cons (x := ⟨bd, 31, dgA m⟩) hbd (New.cons (x := ⟨w.heap.size + 1, 22, #[.int .u8 0, .int .u8 0, .int .u8 0, .int .u8 0, .int .u8 0, .int .u8 0, .int .u8 0, .int .u8 0]⟩) (by simp) (New.nil _)))
    by_cases hlt : k < 18
    · obtain ⟨y, HY⟩ : ∃ y, Hid (wordAt l k = y) := ⟨_, rfl⟩
      obtain ⟨x, HX⟩ : ∃ x, Hid (chainF y (15 - (dgt m k).toNat) = x) := ⟨_, rfl⟩
      have HS : Hid (dall ((List.range k).map fun c => toldD m l c) ++ dcs x = dall ((List.range (k + 1)).map fun c => toldD m l c)) := by
        show _ = _
        rw [List.range_succ, List.map_append, dall_app, ← HX.out, ← HY.out]; simp [dall_one, toldD]
      have q : wr.cell? ⟨bd, k, none⟩ = some (.int .i64 (dgt m k)) := by rw [M.cell0, dgA_get m k hlt]
      have lq := M.lt0
      have db := dgt_bd m k
      have HV2 := Lib.hid (HV.out.below (M.below hN))
      have HK : Hid (15 - dgt m k = ((15 - (dgt m k).toNat : Nat) : Int)) := by show _ = _; omega
      have h8 : Hid (8 * k + 8 ≤ l.length) := by show _ ≤ _; have := HL.out; omega
      have h9 : Hid (l.length ≤ 1000000) := by show _ ≤ _; have := HL.out; omega
      have h10 : Hid (15 - (dgt m k).toNat ≤ 1048576) := by show _ ≤ _; omega
      clear M R
      go_wp2
      refine wp_region_rc 10 2 (by kernel_rfl) (by kernel_rfl) (by kernel_rfl) (by kernel_rfl) ?_
      simp only [List.take_succ_cons, List.take_zero]
      repeat (first
        | (refine B_skip ?_ ?_; (· rfl); (try simp only [Act.put, List.setIfInBounds_toArray, List.set_cons_zero, List.set_cons_succ]))
        | (refine B_move rfl ?_ ?_; (· rfl); (try simp only [Act.eval, Act.put, Array.getD_eq_getD_getElem?, List.getElem?_toArray, List.getElem?_cons_succ, List.getElem?_cons_zero, Option.getD_some, List.setIfInBounds_toArray, List.set_cons_zero, List.set_cons_succ]))
        | (refine B_plain ?_ ?_; (· rfl); intro K hK; go_big_quiet_op; with_reducible refine hK _ ?_; clear hK K)
        | (refine B_callX (v := ?_) (f := 32) rfl (by kernel_rfl) ?_ (fun xq => ?_) ?_; rotate_left; (· rfl); (· ((simp only [List.map_toArray, List.map_cons, List.map_nil, Act.eval, Array.getD_eq_getD_getElem?, List.getElem?_toArray, List.getElem?_cons_succ, List.getElem?_cons_zero, Option.getD_some]); with_reducible apply retB; with_reducible exact (refShown_to _ l k h8.out h9.out y HY.out _ (HV2.out.plus _ _)))); (try simp only [Act.put, List.setIfInBounds_toArray, List.set_cons_zero, List.set_cons_succ]))
        | (refine B_callX (v := ?_) (f := 48) rfl (by kernel_rfl) ?_ (fun xq => ?_) ?_; rotate_left; (· rfl); (· ((simp only [List.map_toArray, List.map_cons, List.map_nil, Act.eval, Array.getD_eq_getD_getElem?, List.getElem?_toArray, List.getElem?_cons_succ, List.getElem?_cons_zero, Option.getD_some]); with_reducible apply retB; with_reducible exact (refChain_int y x _ _ HK.out h10.out HX.out _))); (try simp only [Act.put, List.setIfInBounds_toArray, List.set_cons_zero, List.set_cons_succ]))
        | (refine B_newsl elt_arr rfl rfl _ rfl _ rfl (by rfl) (by omega) ?_ ?_; (· rfl)))
      refine B_nil ?_ rfl ?_ ?_
      · kernel_rfl
      · rfl
      rintro _ ⟨⟨g1, d1⟩, rfl⟩
      simp only [fin, Act.put, List.setIfInBounds_toArray, List.set_cons_zero, List.set_cons_succ]
      rintro _ ⟨bs, rfl, hbs, hh⟩
      refine step_one (n := 1) (k := 10) (by kernel_rfl) (by rfl) (by rfl) ?_
      intro K hK
      refine wp_append_row (.tmp 19) (.tmp 28) 73 (by rfl) elt_arr (HM.out.plus _ _) hB _ _ _ (by rfl) HR.out _ _ _ (dcs x) (by rfl) (by rfl) (by simp) (blk_news hh) (dcs_one x) ?c1 ?c2 (k + 1) (by omega) _ HS.out (fun ao' cap' B' w' R' M' hB' => hK _ _ ?_)
      case c1 => unfold maxLen; omega
      case c2 => omega
      clear hK K
      refine last_one (k := 11) (by kernel_rfl) (by kernel_rfl) (by rfl) ?_ ?_
      · rfl
      intro K hK
      go_simp
      refine hK _ _ ?_
      clear hK K
      go_wp2
      go_roundw
      case rel => exact ⟨k + 1, cap', ao', B', by omega, rfl, by go_num, R', hB', M'⟩
      case measure => simp [intOf]; omega
    · obtain rfl : k = 18 := by omega
      have HD := Lib.hid (R.dsl M)
      have hl6 : ((List.range 18).map fun c => toldD m l c).length ≤ 1000000 := by simp
      have HL6 := Lib.hid hl6
      have q := M.cell1
      have f := M.frozen1
      have lq := M.lt1
      clear M R hl6
      go_wp2_with (first
        | (go_at_call 50; refine (refMany_any _ _ _ HD.out HL6.out z HZ.out).mono ?_; rintro e w2 ⟨rfl, hb2⟩; obtain ⟨g2, d2, rfl⟩ := plus_of_below hb2; clear hb2)
        | (refine wpList_store_blk rfl 22 (.tmp 4) (.tmp 31) rfl (B := B ++ [_]) (by simpa using (HM.out.plus _ _)) (by rfl) #[.int .u8 (by8 z 0), .int .u8 (by8 z 1), .int .u8 (by8 z 2), .int .u8 (by8 z 3), .int .u8 (by8 z 4), .int .u8 (by8 z 5), .int .u8 (by8 z 6), .int .u8 (by8 z 7)] (by rfl) (by kernel_rfl) (by rfl) (dcs_one z) ?_; intro w5 M5))
      have c3 := M5.cell0
      refine bodyPost_ret (v := .tuple #[.agg #[.int .u8 (by8 z 0), .int .u8 (by8 z 1), .int .u8 (by8 z 2), .int .u8 (by8 z 3), .int .u8 (by8 z 4), .int .u8 (by8 z 5), .int .u8 (by8 z 6), .int .u8 (by8 z 7)], .bool true]) (by simp [results, Try.results29, go_sem, c3]) rfl ⟨rfl, M5.below ((hB.app (New.cons hbd (New.nil _))).app (New.cons (by simp) (New.nil _)))⟩

end Go.Proofs.Ythdcfdfpfagamaa
