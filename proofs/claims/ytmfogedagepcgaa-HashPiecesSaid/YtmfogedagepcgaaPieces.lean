/- The law HashPieces: its walk. -/
import Derived.Test.YtmfogedagepcgaaWw
import Derived.Test.YtmfogedagepcgaaKnown
import Derived.Test.YtmfogedagepcgaaOrw
namespace Go.Proofs.Ytmfogedagepcgaa
set_option linter.unusedSimpArgs false
set_option linter.unusedVariables false
open Go.RowKit

set_option maxRecDepth 100000 in
set_option maxHeartbeats 1000000 in
theorem hashPieces_long (ao : Option Addr) (n cap : Nat) (w : World) (hn : 60 < n) (hr : n ≤ 9223372036854775807) :
    Calls Try.prog 13 #[.slice ao n cap] w fun e w' => e = .returned (.bool true) ∧ Below w.heap.size w w' := by
  go_enter Try.func13, Try.ntmps13
  go_wp2_with (go_at_call 30; refine (known02_any _).mono ?_; rintro e w1 ⟨rfl, hb1⟩; obtain ⟨g1, d1, rfl⟩ := plus_of_below hb1; clear hb1)
  go_ret
  exact ⟨rfl, by (repeat' (first | (with_reducible exact Below.refl _ _) | (with_reducible refine bplus ?_ _ _) | (with_reducible refine balloc ?_ _) | (with_reducible refine Below.drew ?_) | (with_reducible refine bdrewN ?_ _) | (with_reducible refine Below.setCell ?_ (by go_size) _)))⟩

theorem bssBelow {w W : World} {n : Nat} {F : Nat → Value × List UInt8} (hF : ∀ i, i < n → BSl w (F i).1 (F i).2 ∧ (F i).2.length ≤ 140737488351232) (h : Below w.heap.size w W) (i : Nat) (hi : i < n) : BSl W (F i).1 (F i).2 := (hF i hi).1.below h

set_option maxRecDepth 100000 in
set_option maxHeartbeats 4000000 in
theorem hashPieces_yes (n : Nat) (F : Nat → Value × List UInt8) (v : Value) (w : World) (hn : n ≤ 60) (hv : VSl w v n (fun i => (F i).1)) (hF : ∀ i, i < n → BSl w (F i).1 (F i).2 ∧ (F i).2.length ≤ 140737488351232) :
    Calls Try.prog 13 #[v] w fun e w' => e = .returned (.bool true) ∧ Below w.heap.size w w' := by
  obtain ⟨ao, cap, rfl, hno, hx⟩ := hv
  have HX := Lib.hid hx
  have HFF := Lib.hid hF
  clear hx hF hno
  obtain ⟨s0, HS0⟩ : ∃ s, Hid (stF [] = s) := ⟨_, rfl⟩
  go_enter Try.func13, Try.ntmps13
  go_wp2_with (first
    | (go_at_call 30; refine (known02_any _).mono ?_; rintro e w1 ⟨rfl, hb1⟩; obtain ⟨g1, d1, rfl⟩ := plus_of_below hb1; clear hb1)
    | (go_at_call 48; refine (writer_mem _ w [] ((Mem.start w).plus _ _) s0 HS0.out).mono ?_; rintro e w2 ⟨p, rfl, hp, hM0⟩; (have HM0 := Lib.hid hM0); (have hp0 : w.heap.size ≤ p := by simp at hp; omega); clear hM0 hp))
  go_loopw [4, 20] (fun v i wr => ∃ (k : Nat) (l : List UInt8) (s : St) (ao1 ao2 : Option Addr) (cap1 cap2 : Nat) (A B : List Blk), v = .slice ao1 l.length cap1 ∧ i = .int .i64 k ∧ k ≤ n ∧ l.length ≤ 1000 ∧ stF l = s ∧ Row 5 1 (.slice ao1 l.length cap1) l.length (bcs l) A ∧ New w A ∧ Row 5 1 (.slice ao2 l.length cap2) l.length (bcs l) B ∧ New w B ∧ Mem wr w (B ++ ⟨p, 119, wcs (.slice ao2 l.length cap2) s⟩ :: A)) (fun _ i _ => n - (intOf i).toNat)
  case atStart => exact ⟨0, [], s0, none, none, 0, 0, [], [], rfl, rfl, by omega, by simp, HS0.out, .void, New.nil _, .void, New.nil _, HM0.out⟩
  case round =>
    obtain ⟨k, l, s, ao1, ao2, cap1, cap2, A, B, rfl, rfl, hk, hl, hs, RA, hA, RB, hB, M⟩ := hrel
    have HNew : Hid (New w (B ++ ⟨p, 119, wcs (.slice ao2 l.length cap2) s⟩ :: A)) := New.app hB (New.cons hp0 hA)
    by_cases hlt : k < n
    · obtain ⟨b, o, rfl, hb, hc⟩ : ∃ b o, ao = some ⟨b, o, none⟩ ∧ b < w.heap.size ∧ ∀ i, i < n → w.cell? ⟨b, o + i, none⟩ = some (F i).1 := by
        rcases HX.out with rfl | h
        · omega
        · exact h
      have hx0 := (HFF.out k hlt).1
      have hxl := (HFF.out k hlt).2
      have c0 : wr.cell? ⟨b, o + k, none⟩ = some (F k).1 := (M.oldcell HNew.out hb _).trans (hc k hlt)
      generalize (F k).1 = xv at hx0 c0
      generalize (F k).2 = x at hx0 hxl
      obtain ⟨ao3, cap3, rfl, hcap3, hno3, -⟩ := hx0.open_
      have HXW := Lib.hid hx0
      have HXR := Lib.hid (hx0.below (M.below HNew.out))
      have HRA := Lib.hid RA
      have HRB := Lib.hid RB
      have HM := Lib.hid M.turn
      have HS := Lib.hid hs
      obtain ⟨y, HY⟩ : ∃ y, Hid (l ++ x = y) := ⟨_, rfl⟩
      have hyl : l.length + x.length = y.length := by rw [← HY.out]; simp
      have HYB : Hid (bcs l ++ bcs x = bcs y) := by show _ = _; rw [← HY.out]; exact (bcs_app l x).symm
      clear hc hx0 RA RB M hs
      have hbr := Lib.hid (show b < wr.heap.size by have := HM.out.size; omega)
      go_wp2_with (at_builtin; refine wpList_append_row rfl (.tmp 24) (.tmp 25) 60 rfl elt_u8 HM.out hA _ _ _ (by rfl) HRA.out _ _ _ (bcs x) (by rfl) (by rw [bcs_len]; simp) (by simpa using hno3) HXR.out.cells.2.2 (bcs_one x) (by unfold maxLen; omega) (by omega) y.length hyl _ HYB.out (fun ao4 cap4 A4 w4 R4 M4 hA4 => ?_); (have HR4 := Lib.hid R4); (have HM4 := Lib.hid M4.turn); (have HA4 := Lib.hid hA4); clear R4 M4 hA4)
      · go_ret
        exact ⟨rfl, HM4.out.below (New.app hB (New.cons hp0 HA4.out))⟩
      have hy1 : y.length ≤ 1000 := by omega
      obtain ⟨t, HT⟩ : ∃ t, Hid (stF y = t) := ⟨_, rfl⟩
      obtain ⟨z, HZ⟩ : ∃ z, Hid (ofF y = z) := ⟨_, rfl⟩
      refine (write_mem p cap2 ao2 l x y HY.out (.slice ao3 x.length cap3) w4 w B A4 (by omega) s t HS.out HT.out HRB.out hB HM4.out (fun W hW => HXW.out.below (hW.below HA4.out)) hp0).mono ?_
      rintro e w5 ⟨rfl, ao5, cap5, B5, R5, hB5, M5⟩
      have HR5 := Lib.hid R5
      have HM5 := Lib.hid M5
      have HK := Lib.hid (show HasBlk w5 p 119 (wcs (.slice ao5 y.length cap5) t) from M5.blk0)
      have HV5 := Lib.hid (R5.bsl M5)
      have HV4 := Lib.hid (HR4.out.bsl M5.turn)
      clear R5 M5 HM4 HM c0
      go_wp2_with fail
      refine (sum_to p _ y (by omega) t HT.out z HZ.out _ HK.out HV5.out).mono ?_
      rintro e w6 ⟨rfl, hb6⟩; obtain ⟨g6, d6, rfl⟩ := plus_of_below hb6; clear hb6
      go_wp2_with fail
      refine (of_bytes _ y _ (HV4.out.plus _ _) (by omega) z HZ.out).mono ?_
      rintro e w7 ⟨rfl, hb7⟩; obtain ⟨g7, d7, rfl⟩ := plus_of_below hb7; clear hb7
      go_wp2_with fail
      refine (sum_to p _ y (by omega) t HT.out z HZ.out _ (HK.out.plus _ _) (HV5.out.plus _ _)).mono ?_
      rintro e w8 ⟨rfl, hb8⟩; obtain ⟨g8, d8, rfl⟩ := plus_of_below hb8; clear hb8
      go_wp2_with fail
      refine (sum_to p _ y (by omega) t HT.out z HZ.out _ (HK.out.plus _ _) (HV5.out.plus _ _)).mono ?_
      rintro e w9 ⟨rfl, hb9⟩; obtain ⟨g9, d9, rfl⟩ := plus_of_below hb9; clear hb9
      go_wp2
      go_roundw
      case rel => exact ⟨k + 1, y, t, ao4, ao5, cap4, cap5, A4, B5, rfl, by go_num, by omega, hy1, HT.out, HR4.out, HA4.out, HR5.out, hB5, HM5.out.plus _ _⟩
      case measure => simp [intOf]; omega
    · obtain rfl : k = n := by omega
      obtain ⟨z, HZ⟩ : ∃ z, Hid (ofF l = z) := ⟨_, rfl⟩
      have HM := Lib.hid M
      have HS := Lib.hid hs
      have HK := Lib.hid (show HasBlk wr p 119 (wcs (.slice ao2 l.length cap2) s) from M.blk0)
      have HV5 := Lib.hid (RB.bsl M)
      have HV4 := Lib.hid (RA.bsl M.turn)
      have HBW := Lib.hid (M.below HNew.out)
      clear M hs RA RB
      go_wp2_with fail
      refine (sum_to p _ l (by omega) s HS.out z HZ.out _ HK.out HV5.out).mono ?_
      rintro e w6 ⟨rfl, hb6⟩; obtain ⟨g6, d6, rfl⟩ := plus_of_below hb6; clear hb6
      go_wp2_with fail
      refine (of_bytes _ l _ (HV4.out.plus _ _) (by omega) z HZ.out).mono ?_
      rintro e w7 ⟨rfl, hb7⟩; obtain ⟨g7, d7, rfl⟩ := plus_of_below hb7; clear hb7
      go_wp2
      go_ret
      exact ⟨rfl, bplus HBW.out _ _⟩

end Go.Proofs.Ytmfogedagepcgaa
