/- The law HashSame: its walk. -/
import Derived.Test.YtmfogedagepcgaaWs
import Derived.Test.YtmfogedagepcgaaKnown
import Derived.Test.YtmfogedagepcgaaTk
import Derived.Test.YtmfogedagepcgaaOrw
namespace Go.Proofs.Ytmfogedagepcgaa
set_option linter.unusedSimpArgs false
set_option linter.unusedVariables false
open Go.RowKit

set_option maxRecDepth 100000 in
set_option maxHeartbeats 1000000 in
theorem hashSame_long1 (a1 a2 a3 : Option Addr) (n1 n2 n3 c1 c2 c3 : Nat) (k : Int) (w : World) (h : 400 < n1) :
    Calls Try.prog 14 #[.slice a1 n1 c1, .slice a2 n2 c2, .int .u16 k, .slice a3 n3 c3] w fun e w' => e = .returned (.bool true) ∧ Below w.heap.size w w' := by
  go_enter Try.func14, Try.ntmps14
  go_wp2_with (go_at_call 30; refine (known02_any _).mono ?_; rintro e w1 ⟨rfl, hb1⟩; obtain ⟨g1, d1, rfl⟩ := plus_of_below hb1; clear hb1)
  go_ret
  exact ⟨rfl, by (repeat' (first | (with_reducible exact Below.refl _ _) | (with_reducible refine bplus ?_ _ _) | (with_reducible refine balloc ?_ _) | (with_reducible refine Below.drew ?_) | (with_reducible refine bdrewN ?_ _) | (with_reducible refine Below.setCell ?_ (by go_size) _)))⟩
set_option maxRecDepth 100000 in
set_option maxHeartbeats 1000000 in
theorem hashSame_long2 (a1 a2 a3 : Option Addr) (n1 n2 n3 c1 c2 c3 : Nat) (k : Int) (w : World) (h0 : n1 ≤ 400) (h : 400 < n2) :
    Calls Try.prog 14 #[.slice a1 n1 c1, .slice a2 n2 c2, .int .u16 k, .slice a3 n3 c3] w fun e w' => e = .returned (.bool true) ∧ Below w.heap.size w w' := by
  go_enter Try.func14, Try.ntmps14
  go_wp2_with (go_at_call 30; refine (known02_any _).mono ?_; rintro e w1 ⟨rfl, hb1⟩; obtain ⟨g1, d1, rfl⟩ := plus_of_below hb1; clear hb1)
  go_ret
  exact ⟨rfl, by (repeat' (first | (with_reducible exact Below.refl _ _) | (with_reducible refine bplus ?_ _ _) | (with_reducible refine balloc ?_ _) | (with_reducible refine Below.drew ?_) | (with_reducible refine bdrewN ?_ _) | (with_reducible refine Below.setCell ?_ (by go_size) _)))⟩
set_option maxRecDepth 100000 in
set_option maxHeartbeats 1000000 in
theorem hashSame_long3 (a1 a2 a3 : Option Addr) (n1 n2 n3 c1 c2 c3 : Nat) (k : Int) (w : World) (h0 : n1 ≤ 400) (h1 : n2 ≤ 400) (h : 400 < n3) :
    Calls Try.prog 14 #[.slice a1 n1 c1, .slice a2 n2 c2, .int .u16 k, .slice a3 n3 c3] w fun e w' => e = .returned (.bool true) ∧ Below w.heap.size w w' := by
  go_enter Try.func14, Try.ntmps14
  go_wp2_with (go_at_call 30; refine (known02_any _).mono ?_; rintro e w1 ⟨rfl, hb1⟩; obtain ⟨g1, d1, rfl⟩ := plus_of_below hb1; clear hb1)
  go_ret
  exact ⟨rfl, by (repeat' (first | (with_reducible exact Below.refl _ _) | (with_reducible refine bplus ?_ _ _) | (with_reducible refine balloc ?_ _) | (with_reducible refine Below.drew ?_) | (with_reducible refine bdrewN ?_ _) | (with_reducible refine Below.setCell ?_ (by go_size) _)))⟩

set_option maxRecDepth 100000 in
set_option maxHeartbeats 4000000 in
theorem hashSame_yes (va vb vx : Value) (a b x : List UInt8) (c : Nat) (hc : c ≤ 65535) (w : World) (la : a.length ≤ 400) (lb : b.length ≤ 400) (lx : x.length ≤ 400) (ha : BSl w va a) (hb : BSl w vb b) (hx : BSl w vx x) :
    Calls Try.prog 14 #[va, vb, .int .u16 c, vx] w fun e w' => e = .returned (.bool true) ∧ Below w.heap.size w w' := by
  obtain ⟨k, HK⟩ : ∃ k, Hid (c % (a.length + 1) = k) := ⟨_, rfl⟩
  have hk : k ≤ a.length := by have := Nat.mod_lt c (show a.length + 1 > 0 by omega); rw [HK.out] at this; omega
  have hkr : (c : Int).tmod ((a.length : Int) + 1) = k := by
    rw [← HK.out, Int.tmod_eq_emod_of_nonneg (by omega)]; push_cast; rfl
  obtain ⟨ao, acap, rfl, ha1, ha2, -⟩ := ha.open_
  obtain ⟨bo, bcap, rfl, hb1, hb2, -⟩ := hb.open_
  obtain ⟨xo, xcap, rfl, hx1, hx2, -⟩ := hx.open_
  have HA := Lib.hid ha
  have HB := Lib.hid hb
  have HX := Lib.hid hx
  have HA1 := Lib.hid (bsl_take ha k hk)
  have hd := ha.drop k hk
  simp only [Nat.mul_one] at hd
  obtain ⟨E1, hE1⟩ : ∃ E, (if acap = k then ao else Option.map (fun x => x.add k) ao) = E := ⟨_, rfl⟩
  rw [hE1] at hd
  have HA2 := Lib.hid hd
  have l1 : (a.take k).length = k := by simp [hk]
  have l2 : (a.drop k).length = a.length - k := by simp
  have HY : Hid (a.take k ++ a.drop k = a) := List.take_append_drop _ _
  obtain ⟨a1, HT1⟩ : ∃ a1, Hid (a.take k = a1) := ⟨_, rfl⟩
  obtain ⟨a2, HT2⟩ : ∃ a2, Hid (a.drop k = a2) := ⟨_, rfl⟩
  rw [HT1.out] at HA1 HY l1
  rw [HT2.out] at HA2 HY l2
  obtain ⟨s0, HS0⟩ : ∃ s, Hid (stF [] = s) := ⟨_, rfl⟩
  obtain ⟨s1, HS1⟩ : ∃ s, Hid (stF a1 = s) := ⟨_, rfl⟩
  obtain ⟨sa, HSA⟩ : ∃ s, Hid (stF a = s) := ⟨_, rfl⟩
  obtain ⟨sb, HSB⟩ : ∃ s, Hid (stF b = s) := ⟨_, rfl⟩
  obtain ⟨y, HYX⟩ : ∃ y, Hid (a ++ x = y) := ⟨_, rfl⟩
  obtain ⟨sy, HSY⟩ : ∃ s, Hid (stF y = s) := ⟨_, rfl⟩
  obtain ⟨za, HZA⟩ : ∃ z, Hid (ofF a = z) := ⟨_, rfl⟩
  obtain ⟨zy, HZY⟩ : ∃ z, Hid (ofF y = z) := ⟨_, rfl⟩
  obtain ⟨q, HQ⟩ : ∃ q, Hid ((a == b) = q) := ⟨_, rfl⟩
  have HQ2 : Hid ((b == a) = q) := by show _ = _; rw [← HQ.out]; exact Bool.beq_comm
  have HQA : Hid ((a == a) = true) := by show _ = _; simp
  have hyl : a.length + x.length = y.length := by rw [← HYX.out]; simp
  clear ha hb hx hd HK
  go_enter Try.func14, Try.ntmps14
  go_wp2_with (go_at_call 30; refine (known02_any _).mono ?_; rintro e w1 ⟨rfl, hb1⟩; obtain ⟨g1, d1, rfl⟩ := plus_of_below hb1; clear hb1)
  refine (writer_mem _ w [] ((Mem.start w).plus _ _) s0 HS0.out).mono ?_
  rintro e w2 ⟨p, rfl, hp, hM0⟩
  have HM0 := Lib.hid hM0
  have hp0 : w.heap.size ≤ p := by simp at hp; omega
  have hpl : p < w2.heap.size := hM0.lt (x := ⟨p, 119, wcs (.slice none 0 0) s0⟩) (by simp)
  clear hM0 hp
  go_wp2_with fail
  refine (writer_mem _ w _ HM0.out s0 HS0.out).mono ?_
  rintro e w3 ⟨r, rfl, hr, hM1⟩
  have hr0 : w.heap.size ≤ r := by have := HM0.out.size; omega
  have hpr : p ≠ r := by omega
  have HM1 := Lib.hid (show Mem w3 w ([] ++ ⟨p, 119, wcs (.slice none 0 0) s0⟩ :: [⟨r, 119, wcs (.slice none 0 0) s0⟩]) from hM1.perm (List.Perm.swap ..))
  clear hM1 hr HM0 hpl
  go_wp2_with fail
  refine (write_mem p 0 none [] a1 a1 rfl _ w3 w [] [⟨r, 119, wcs (.slice none 0 0) s0⟩] (by simp; omega) s0 s1 HS0.out HS1.out .void (New.nil _) HM1.out (fun W hW => HA1.out.below (hW.below (New.cons hr0 (New.nil _)))) hp0).mono ?_
  rintro e w4 ⟨rfl, ao4, cap4, B4, R4, hB4, M4⟩
  have HR4 := Lib.hid R4
  have HM4 := Lib.hid M4
  clear R4 M4 HM1
  go_wp2_with fail
  refine (write_mem p cap4 ao4 a1 a2 a HY.out _ w4 w B4 [⟨r, 119, wcs (.slice none 0 0) s0⟩] (by omega) s1 sa HS1.out HSA.out HR4.out hB4 HM4.out (fun W hW => HA2.out.below (hW.below (New.cons hr0 (New.nil _)))) hp0).mono ?_
  rintro e w5 ⟨rfl, ao5, cap5, B5, R5, hB5, M5⟩
  have HR5 := Lib.hid R5
  have HM5 := Lib.hid (show Mem w5 w ([] ++ ⟨r, 119, wcs (.slice none 0 0) s0⟩ :: (⟨p, 119, wcs (.slice ao5 a.length cap5) sa⟩ :: B5)) from M5.turn)
  clear R5 M5 HM4 HR4
  clear hE1
  go_wp2_with fail
  have HN5 : Hid (New w (⟨p, 119, wcs (.slice ao5 a.length cap5) sa⟩ :: B5)) := New.cons hp0 hB5
  refine (write_mem r 0 none [] b b rfl _ w5 w [] (⟨p, 119, wcs (.slice ao5 a.length cap5) sa⟩ :: B5) (by simp; omega) s0 sb HS0.out HSB.out .void (New.nil _) HM5.out (fun W hW => HB.out.below (hW.below HN5.out)) hr0).mono ?_
  rintro e w6 ⟨rfl, ao6, cap6, B6, R6, hB6, M6⟩
  have HN6 : Hid (New w (B6 ++ ⟨r, 119, wcs (.slice ao6 b.length cap6) sb⟩ :: (⟨p, 119, wcs (.slice ao5 a.length cap5) sa⟩ :: B5))) := New.app hB6 (New.cons hr0 HN5.out)
  have HM6 := Lib.hid M6
  have HKp := Lib.hid (show HasBlk w6 p 119 (wcs (.slice ao5 a.length cap5) sa) from M6.has ⟨p, 119, wcs (.slice ao5 a.length cap5) sa⟩ (by simp))
  have HKr := Lib.hid (show HasBlk w6 r 119 (wcs (.slice ao6 b.length cap6) sb) from M6.has ⟨r, 119, wcs (.slice ao6 b.length cap6) sb⟩ (by simp))
  have HVp := Lib.hid (HR5.out.bslH (w := w6) (fun x hx => M6.has x (by simp [hx])))
  have HVr := Lib.hid (R6.bslH (w := w6) (fun x hx => M6.has x (by simp [hx])))
  have HA6 := Lib.hid (HA.out.below (M6.below HN6.out))
  have HB6 := Lib.hid (HB.out.below (M6.below HN6.out))
  clear R6 M6 HM5
  go_wp2_with fail
  refine (wsame_to p r _ _ a b sa sb HSA.out HSB.out q HQ.out (by omega) (by omega) _ HKp.out HKr.out HVp.out HVr.out).mono ?_
  rintro e w7 ⟨rfl, hb7⟩; obtain ⟨g7, d7, rfl⟩ := plus_of_below hb7; clear hb7
  go_wp2_with fail
  refine (same_any _ _ a b _ (HA6.out.plus _ _) (HB6.out.plus _ _)).mono ?_
  rintro e w8 ⟨rfl, rfl⟩
  rw [HQ.out]
  go_wp2_with fail
  refine (wsame_to r p _ _ b a sb sa HSB.out HSA.out q HQ2.out (by omega) (by omega) _ (HKr.out.plus _ _) (HKp.out.plus _ _) (HVr.out.plus _ _) (HVp.out.plus _ _)).mono ?_
  rintro e w9 ⟨rfl, hb9⟩; obtain ⟨g9, d9, rfl⟩ := plus_of_below hb9; clear hb9
  go_wp2_with fail
  refine (same_any _ _ a b _ (HA6.out.plus _ _) (HB6.out.plus _ _)).mono ?_
  rintro e w10 ⟨rfl, rfl⟩
  rw [HQ.out]
  go_wp2_with fail
  refine (wsame_to p p _ _ a a sa sa HSA.out HSA.out true HQA.out (by omega) (by omega) _ (HKp.out.plus _ _) (HKp.out.plus _ _) (HVp.out.plus _ _) (HVp.out.plus _ _)).mono ?_
  rintro e w11 ⟨rfl, hb11⟩; obtain ⟨g11, d11, rfl⟩ := plus_of_below hb11; clear hb11
  go_wp2_with fail
  refine (wsame_pn p _).mono ?_
  rintro e w12 ⟨rfl, hb12⟩; obtain ⟨g12, d12, rfl⟩ := plus_of_below hb12; clear hb12
  go_wp2_with fail
  refine (wclone_mem p cap5 ao5 a sa (by omega) _ w _ (HM6.out.plus _ _) (HKp.out.plus _ _) (HVp.out.plus _ _)).mono ?_
  rintro e w13 ⟨p3, ao7, cap7, B7, rfl, R7, hp3, hB7, M7⟩
  have HM7 := Lib.hid M7
  have HR7 := Lib.hid R7
  have HB7 := Lib.hid hB7
  have HK3 := Lib.hid (show HasBlk w13 p3 119 (wcs (.slice ao7 a.length cap7) sa) from M7.has ⟨p3, 119, wcs (.slice ao7 a.length cap7) sa⟩ (by simp))
  have HKp3 := Lib.hid (show HasBlk w13 p 119 (wcs (.slice ao5 a.length cap5) sa) from M7.has ⟨p, 119, wcs (.slice ao5 a.length cap5) sa⟩ (by simp))
  have HV3 := Lib.hid (R7.bslH (w := w13) (fun x hx => M7.has x (by simp [hx])))
  have HVp3 := Lib.hid (HR5.out.bslH (w := w13) (fun x hx => M7.has x (by simp [hx])))
  clear R7 M7 hB7 HKp HKr HVp HVr HA6 HB6 HM6
  go_wp2_with fail
  refine (wsame_to p3 p _ _ a a sa sa HSA.out HSA.out true HQA.out (by omega) (by omega) _ HK3.out HKp3.out HV3.out HVp3.out).mono ?_
  rintro e w14 ⟨rfl, hb14⟩; obtain ⟨g14, d14, rfl⟩ := plus_of_below hb14; clear hb14
  go_wp2_with fail
  refine (write_mem p3 cap7 ao7 a x y HYX.out _ _ w B7 (B6 ++ ⟨r, 119, wcs (.slice ao6 b.length cap6) sb⟩ :: (⟨p, 119, wcs (.slice ao5 a.length cap5) sa⟩ :: B5)) (by omega) sa sy HSA.out HSY.out HR7.out HB7.out (HM7.out.plus _ _) (fun W hW => HX.out.below (hW.below HN6.out)) hp3).mono ?_
  rintro e w15 ⟨rfl, ao8, cap8, B8, R8, hB8, M8⟩
  have HN8 : Hid (New w (B8 ++ ⟨p3, 119, wcs (.slice ao8 y.length cap8) sy⟩ :: (B6 ++ ⟨r, 119, wcs (.slice ao6 b.length cap6) sb⟩ :: (⟨p, 119, wcs (.slice ao5 a.length cap5) sa⟩ :: B5)))) := New.app hB8 (New.cons hp3 HN6.out)
  have HM8 := Lib.hid M8
  have HK8 := Lib.hid (show HasBlk w15 p3 119 (wcs (.slice ao8 y.length cap8) sy) from M8.has ⟨p3, 119, wcs (.slice ao8 y.length cap8) sy⟩ (by simp))
  have HKp8 := Lib.hid (show HasBlk w15 p 119 (wcs (.slice ao5 a.length cap5) sa) from M8.has ⟨p, 119, wcs (.slice ao5 a.length cap5) sa⟩ (by simp))
  have HV8 := Lib.hid (R8.bslH (w := w15) (fun x hx => M8.has x (by simp [hx])))
  have HVp8 := Lib.hid (HR5.out.bslH (w := w15) (fun x hx => M8.has x (by simp [hx])))
  have HA8 := Lib.hid (HA.out.below (M8.below HN8.out))
  have HX8 := Lib.hid (HX.out.below (M8.below HN8.out))
  clear R8 M8 hB8 HKp3 HK3 HV3 HVp3 HM7 HR7 HB7
  obtain ⟨q2, HQ3, hq2⟩ : ∃ q2, Hid ((y == a) = q2) ∧ ((x.length : Int) == 0) = q2 := by
    refine ⟨_, rfl, ?_⟩
    rw [← HYX.out, Bool.eq_iff_iff]
    simp only [beq_iff_eq]
    constructor
    · intro h
      obtain rfl : x = [] := List.eq_nil_of_length_eq_zero (by omega)
      simp
    · intro h
      have := congrArg List.length h
      rw [List.length_append] at this
      omega
  go_wp2_with fail
  refine (wsame_to p3 p _ _ y a sy sa HSY.out HSA.out q2 HQ3.out (by omega) (by omega) _ HK8.out HKp8.out HV8.out HVp8.out).mono ?_
  rintro e w16 ⟨rfl, hb16⟩; obtain ⟨g16, d16, rfl⟩ := plus_of_below hb16; clear hb16
  go_wp2_with fail
  refine (sum_to p _ a (by omega) sa HSA.out za HZA.out _ (HKp8.out.plus _ _) (HVp8.out.plus _ _)).mono ?_
  rintro e w17 ⟨rfl, hb17⟩; obtain ⟨g17, d17, rfl⟩ := plus_of_below hb17; clear hb17
  go_wp2_with fail
  refine (of_bytes _ a _ (HA8.out.plus _ _) (by omega) za HZA.out).mono ?_
  rintro e w18 ⟨rfl, hb18⟩; obtain ⟨g18, d18, rfl⟩ := plus_of_below hb18; clear hb18
  go_wp2_with fail
  refine (sum_to p3 _ y (by omega) sy HSY.out zy HZY.out _ (HK8.out.plus _ _) (HV8.out.plus _ _)).mono ?_
  rintro e w19 ⟨rfl, hb19⟩; obtain ⟨g19, d19, rfl⟩ := plus_of_below hb19; clear hb19
  obtain ⟨W, hW⟩ : ∃ W, W = plus (plus w15 (g16 ++ (g17 ++ g18)) d18) g19 d19 := ⟨_, rfl⟩
  rw [← hW]
  have HM9 := Lib.hid (show Mem (W.alloc (.cells #[] 5)) w ([⟨W.heap.size, 5, #[]⟩] ++ (B8 ++ ⟨p3, 119, wcs (.slice ao8 y.length cap8) sy⟩ :: (B6 ++ ⟨r, 119, wcs (.slice ao6 b.length cap6) sb⟩ :: (⟨p, 119, wcs (.slice ao5 a.length cap5) sa⟩ :: B5)))) from (by rw [hW]; exact (HM8.out.plus _ _).plus _ _ : Mem W w (B8 ++ ⟨p3, 119, wcs (.slice ao8 y.length cap8) sy⟩ :: (B6 ++ ⟨r, 119, wcs (.slice ao6 b.length cap6) sb⟩ :: (⟨p, 119, wcs (.slice ao5 a.length cap5) sa⟩ :: B5)))).key #[] 5 W.heap.size rfl)
  have HA9 := Lib.hid (show BSl (W.alloc (.cells #[] 5)) (.slice ao a.length acap) a from (by rw [hW]; exact (HA8.out.plus _ _).plus _ _ : BSl W (.slice ao a.length acap) a).alloc _)
  have HE9 := Lib.hid (Row.empty 5 1 W.heap.size)
  have hws : w.heap.size ≤ W.heap.size := by have := HM8.out.size; rw [hW]; simp; omega
  have HN9 : Hid (New w [⟨W.heap.size, 5, #[]⟩]) := New.cons hws (New.nil _)
  have HYB : Hid (bcs a ++ bcs x = bcs y) := by show _ = _; rw [← HYX.out]; exact (bcs_app a x).symm
  clear hW HM8 HK8 HKp8 HV8 HVp8 HA8 HX8
  go_wp2_with (first
    | (at_builtin; refine wpList_append_want (by rfl) (.tmp 114) (.tmp 115) 60 rfl elt_u8 HM9.out HN9.out _ _ _ (by rfl) HE9.out _ _ _ (bcs a) (by rfl) (by rw [bcs_len]; simp) (by simpa using ha2) HA9.out.cells.2.2 (bcs_one a) (by unfold maxLen; omega) (by omega) a.length (by simp) (bcs a) (by simp) (fun ao' cap' B' w' R' M' hB' => ?_); (have HR10 := Lib.hid R'); (have HM10 := Lib.hid M'); (have HB10 := Lib.hid hB'); (have HX10 := Lib.hid (HX.out.below (M'.below (New.app hB' HN8.out)))); clear R' M' hB')
    | (at_builtin; refine wpList_append_want (by rfl) (.tmp 116) (.tmp 117) 60 rfl elt_u8 HM10.out HB10.out _ _ _ (by rfl) HR10.out _ _ _ (bcs x) (by rfl) (by rw [bcs_len]; simp) (by simpa using hx2) HX10.out.cells.2.2 (bcs_one x) (by unfold maxLen; omega) (by omega) y.length (by omega) (bcs y) HYB.out (fun ao' cap' B' w' R' M' hB' => ?_); (have HV11 := Lib.hid (R'.bsl M')); (have HW11 := Lib.hid (M'.below (New.app hB' HN8.out))); clear R' M' hB'))
  refine (of_bytes _ y _ HV11.out (by omega) zy HZY.out).mono ?_
  rintro e w21 ⟨rfl, hb21⟩; obtain ⟨g21, d21, rfl⟩ := plus_of_below hb21; clear hb21
  go_wp2
  go_ret
  exact ⟨rfl, bplus HW11.out _ _⟩

end Go.Proofs.Ytmfogedagepcgaa
