/- The law TalkAll: its walk. -/
import Derived.Test.YtgjodjkmefdilaaTpy
namespace Go.Proofs.Ytgjodjkmefdilaa
set_option linter.unusedSimpArgs false
set_option linter.unusedVariables false
open Go.RowKit

theorem half_tw {T U : TS} {s0 s1 b now i : Nat} {g0 g1 : List (List UInt8)} {e e' : Nat} (ab : Dir e T U s0 g1) (ba : Dir e' U T s1 g0) (hl : T.waits.length ≤ 64) (hT : TW b T) (hU : TW b U) (hn : now ≤ 4611686018427387904) : TW (b + 64) (half T U now).1 ∧ TW (b + 64) (half T U now).2 := by
  unfold half
  split
  · have k := ab.send hl
    refine ⟨(hT.tick now hn).mono (by omega), hU.afterHear _ _ _ ?_ k.len k.small⟩
    have := k.he; have := ba.hle; have := ba.said; omega
  · exact ⟨hT.mono (by omega), hU.mono (by omega)⟩

set_option maxRecDepth 100000 in
set_option maxHeartbeats 16000000 in
theorem talkAll_any (x y : Int) (v2 : Value) (n0 : Nat) (F : Nat → Int × Int) (w : World) (hn0 : n0 ≤ maxLen) (hv2 : Rws w v2 n0 2 (fun i => [.int .i64 (F i).1, .int .i64 (F i).2])) :
    Calls Try.prog 5 #[.agg #[.int .i64 x, .int .i64 y], v2] w fun e w' => e = .returned (.bool true) ∧ Below w.heap.size w w' := by
  obtain ⟨ao, cap, rfl, hcap, hnil⟩ := hv2.slice
  have HV := Lib.hid hv2
  have HN := Lib.hid hn0
  have HS := Lib.hid ((Ow.start w).alloc (.cells #[.int .i64 x, .int .i64 y] 22))
  clear hv2 hn0
  go_enter Try.func5, Try.ntmps5
  go_wp2_with fail
  refine (play_to x y _ n0 F _ w HN.out HS.out HV.out).mono ?_
  rintro e w1 ⟨p, q, c12, c13, T, U, s0, s1, gv0, gv1, wv, g0, g1, pk, n, E, rfl, hn, hPS, hPI, hgT, hgU⟩
  obtain ⟨X0, Bw, B0, B1, us0, us1, hS, hRw, hMw, hR0, hM0, hR1, hM1⟩ := hPS
  have hn1 := hPI.n0
  have hn2 := hPI.n1
  have hg0 : g0.length ≤ 1000000 := by
    have h1 := hPI.ba.got
    have h2 := hPI.ba.hle
    have h4 : (g0 ++ T.got).length = T.heard := by rw [h1, wds_len]
    simp at h4
    omega
  have hg1 : g1.length ≤ 1000000 := by
    have h1 := hPI.ab.got
    have h2 := hPI.ab.hle
    have h4 : (g1 ++ U.got).length = U.heard := by rw [h1, wds_len]
    simp at h4
    omega
  obtain ⟨e0, f0, rfl⟩ := hR0.slice
  obtain ⟨e1, f1, rfl⟩ := hR1.slice
  have HRd0 : Hid (Round 0 T U s0 s1 g0 g1) := ⟨hPI.ab, hPI.ba, hPI.fT.mono (by omega), hPI.fU.mono (by omega), hPI.tT.w64, hPI.tU.w64, ⟨fun h => by omega, fun h => by omega, fun h => by omega, fun h => by omega, fun h => by omega⟩⟩
  have HWT0 : Hid (TW 10000 T) := hPI.tT.mono (by omega)
  have HWU0 : Hid (TW 10000 U) := hPI.tU.mono (by omega)
  obtain ⟨fb, hfb⟩ : ∃ fb : List Blk, fb = ⟨c12, 22, #[.int .i64 s0, .int .i64 s1]⟩ :: (⟨c13, 41, #[.slice e0 g0.length f0, .slice e1 g1.length f1]⟩ :: E) := ⟨_, rfl⟩
  have hS' : S2C w1 w (fb ++ (Bw ++ (B0 ++ B1))) X0 p T q U := by rw [hfb]; exact hS
  have HS1 := Lib.hid ((hS'.park (cs := #[.int .i64 s0, .int .i64 s1]) (t := 22) (b := w1.heap.size) rfl).park (cs := #[.slice e0 g0.length f0, .slice e1 g1.length f1]) (t := 41) (b := w1.heap.size + 1) (by simp))
  have HR0 := Lib.hid hR0
  have HM0 := Lib.hid hM0
  have HR1 := Lib.hid hR1
  have HM1 := Lib.hid hM1
  clear hS hS' hRw hMw hR0 hM0 hR1 hM1 hPI hgT hgU HS HV hfb
  go_wp2_with fail
  refine (told_to _).mono ?_
  rintro e w2 ⟨rfl, hb2⟩
  have HS2 := Lib.hid (HS1.out.of_below hb2)
  clear hb2 HS1
  obtain ⟨b12, hb12⟩ : ∃ b12, b12 = w1.heap.size := ⟨_, rfl⟩
  rw [← hb12] at HS2
  simp only [← hb12]
  obtain ⟨b13, hb13⟩ : ∃ b13, b13 = b12 + 1 := ⟨_, rfl⟩
  rw [← hb13] at HS2
  simp only [← hb13]
  clear hb12 hb13
  go_wp2_with fail
  go_loopw [9] (fun vi wr => ∃ (i : Nat) (T' U' : TS) (Xa : List Blk), vi = .int .i64 i ∧ i ≤ 3 ∧ S2C wr w (⟨b12, 22, #[.int .i64 s0, .int .i64 s1]⟩ :: (⟨b13, 41, #[.slice e0 g0.length f0, .slice e1 g1.length f1]⟩ :: (fb ++ (Bw ++ (B0 ++ B1))))) Xa p T' q U' ∧ Sub X0 Xa ∧ Round i T' U' s0 s1 g0 g1 ∧ TW (10000 + 128 * i) T' ∧ TW (10000 + 128 * i) U') (fun i _ => 3 - (intOf i).toNat)
  case atStart =>
    exact ⟨0, T, U, X0, rfl, by omega, HS2.out.permC (List.Perm.swap _ _ _), Sub.refl _, HRd0.out, HWT0.out, HWU0.out⟩
  case round =>
    obtain ⟨i, T', U', Xa, rfl, hi, hS, hX, hR, hWT, hWU⟩ := hrel
    have HSr := Lib.hid hS
    have HXr := Lib.hid hX
    have HRd := Lib.hid hR
    have HWT := Lib.hid hWT
    have HWU := Lib.hid hWU
    have e3 : T'.said = s0 := hR.ab.said
    have e4 : U'.said = s1 := hR.ba.said
    clear HS2 HRd0 HWT0 HWU0
    clear hS hX hWT hWU
    by_cases hlt : i < 3
    · obtain ⟨now, hnow⟩ : ∃ now, now = 2000 * (i + 1) := ⟨_, rfl⟩
      have HRN := hR.next
      rw [← hnow] at HRN
      have HRN := Lib.hid HRN
      clear hR
      have hd1 : decide ((i : Int) < 3) = true := decide_eq_true (by omega)
      have HNW : Hid (2000 * ((i : Int) + 1) = (now : Int)) := by show _ = _; omega
      go_wp2_with fail
      simp only [HNW.out]
      cases hdue1 : dueT T' now with
      | false =>
        have he1 : half T' U' now = (T', U') := by unfold half; rw [if_neg (by rw [hdue1]; simp)]
        refine (HSr.out.tickNo now (by omega) (HWT.out.mono (by omega)) hdue1).mono ?_
        rintro e w10 ⟨rfl, s10⟩
        have HS10 := Lib.hid (s10.alloc (.cells #[.int .i64 0, .slice none 0 0, .int .i64 0] 36))
        have Hs10 : Hid (Sub X0 Xa) := Lib.hid HXr.out
        clear s10
        have A := half_ok (now := now) HRd.out.ab HRd.out.ba HRd.out.fT HRd.out.fU (by omega) HRd.out.tl HRd.out.ul
        have HTW2 := half_tw (i := 0) HRd.out.ab HRd.out.ba HRd.out.tl HWT.out HWU.out (by omega : now ≤ 4611686018427387904)
        have HN' := HRN.out
        rw [he1] at A HTW2 HN'
        simp only at A HTW2 HN'
        have HSw := Lib.hid HS10.out.swap
        go_wp2_with fail
        simp only [HNW.out]
        cases hdue2 : dueT U' now with
        | false =>
          have he2 : half U' T' now = (U', T') := by unfold half; rw [if_neg (by rw [hdue2]; simp)]
          refine (HSw.out.tickNo now (by omega) (HTW2.2.mono (by omega)) hdue2).mono ?_
          rintro e w20 ⟨rfl, s20⟩
          have HS20 := Lib.hid (s20.alloc (.cells #[.int .i64 0, .slice none 0 0, .int .i64 0] 36))
          have Hs20 : Hid (Sub X0 Xa) := Lib.hid Hs10.out
          clear s20
          rw [he2] at HN'
          have HTW3 := half_tw (i := 0) A.ba A.ab A.ul HTW2.2 HTW2.1 (by omega : now ≤ 4611686018427387904)
          rw [he2] at HTW3
          clear A
          go_wp2_with fail
          exact ⟨⟨i + 1, T', U', Xa, by simp, by omega, HS20.out.swap, Hs20.out, HN', HTW3.2.mono (by omega), HTW3.1.mono (by omega)⟩, by simp [intOf]; omega⟩
        | true =>
          obtain ⟨ms2, HMS2⟩ : ∃ ms, Hid (U'.waits = ms) := ⟨_, rfl⟩
          obtain ⟨fi2, HFI2⟩ : ∃ fi, Hid (U'.said - U'.waits.length = fi) := ⟨_, rfl⟩
          obtain ⟨hd2, HHD2⟩ : ∃ hd, Hid (U'.heard = hd) := ⟨_, rfl⟩
          obtain ⟨T2, HT2⟩ : ∃ tz, Hid (tickT U' now = tz) := ⟨_, rfl⟩
          obtain ⟨U2, HU2⟩ : ∃ uz, Hid (hearT T' fi2 ms2 hd2 = uz) := ⟨_, rfl⟩
          have he2 : half U' T' now = (T2, U2) := by
            unfold half
            rw [if_pos hdue2, HT2.out, HFI2.out, HMS2.out, HHD2.out, HU2.out]
          have hkk2 := A.ba.send A.ul
          have hrt2 := hkk2.right A.ab
          have hst2 := hkk2.stop
          rw [HFI2.out] at hkk2 hrt2 hst2
          rw [HMS2.out] at hkk2 hrt2 hst2
          rw [HHD2.out] at hkk2 hrt2
          have HR2 := Lib.hid hrt2
          have hfi2 : fi2 ≤ 1000 := by omega
          clear hkk2 hrt2 hst2
          refine (HSw.out.tickYes now (by omega) (HTW2.2.mono (by omega)) hdue2 fi2 hd2 HFI2.out HHD2.out ms2 HMS2.out T2 HT2.out).mono ?_
          rintro e w20 ⟨u2, X20, rfl, hs20, s20, m20⟩
          obtain ⟨au2, cu2, rfl⟩ := m20.slice
          have HS20 := Lib.hid (s20.alloc (.cells #[.int .i64 fi2, .slice au2 ms2.length cu2, .int .i64 hd2] 36))
          have Hm20 := Lib.hid m20
          have Hs20 := Lib.hid hs20
          clear s20 m20 hs20
          go_wp2_with fail
          refine (HS20.out.swap.hear fi2 hd2 _ ms2 Hm20.out (by omega) (HTW2.1.mono (by omega)) HR2.out U2 HU2.out).mono ?_
          rintro e w21 ⟨c2, X21, rfl, hs21, s21⟩
          have HS21 := Lib.hid s21.swap
          have Hs21 : Hid (Sub X0 X21) := Lib.hid ((Hs10.out.trans Hs20.out).trans hs21)
          clear s21 hs21
          rw [he2] at HN'
          have HTW3 := half_tw (i := 0) A.ba A.ab A.ul HTW2.2 HTW2.1 (by omega : now ≤ 4611686018427387904)
          rw [he2] at HTW3
          clear A
          go_wp2_with fail
          exact ⟨⟨i + 1, U2, T2, X21, by simp, by omega, HS21.out.swap, Hs21.out, HN', HTW3.2.mono (by omega), HTW3.1.mono (by omega)⟩, by simp [intOf]; omega⟩
      | true =>
        obtain ⟨ms1, HMS1⟩ : ∃ ms, Hid (T'.waits = ms) := ⟨_, rfl⟩
        obtain ⟨fi1, HFI1⟩ : ∃ fi, Hid (T'.said - T'.waits.length = fi) := ⟨_, rfl⟩
        obtain ⟨hd1, HHD1⟩ : ∃ hd, Hid (T'.heard = hd) := ⟨_, rfl⟩
        obtain ⟨T1, HT1⟩ : ∃ tz, Hid (tickT T' now = tz) := ⟨_, rfl⟩
        obtain ⟨U1, HU1⟩ : ∃ uz, Hid (hearT U' fi1 ms1 hd1 = uz) := ⟨_, rfl⟩
        have he1 : half T' U' now = (T1, U1) := by
          unfold half
          rw [if_pos hdue1, HT1.out, HFI1.out, HMS1.out, HHD1.out, HU1.out]
        have hkk1 := HRd.out.ab.send HRd.out.tl
        have hrt1 := hkk1.right HRd.out.ba
        have hst1 := hkk1.stop
        rw [HFI1.out] at hkk1 hrt1 hst1
        rw [HMS1.out] at hkk1 hrt1 hst1
        rw [HHD1.out] at hkk1 hrt1
        have HR1 := Lib.hid hrt1
        have hfi1 : fi1 ≤ 1000 := by omega
        clear hkk1 hrt1 hst1
        refine (HSr.out.tickYes now (by omega) (HWT.out.mono (by omega)) hdue1 fi1 hd1 HFI1.out HHD1.out ms1 HMS1.out T1 HT1.out).mono ?_
        rintro e w10 ⟨u1, X10, rfl, hs10, s10, m10⟩
        obtain ⟨au1, cu1, rfl⟩ := m10.slice
        have HS10 := Lib.hid (s10.alloc (.cells #[.int .i64 fi1, .slice au1 ms1.length cu1, .int .i64 hd1] 36))
        have Hm10 := Lib.hid m10
        have Hs10 := Lib.hid hs10
        clear s10 m10 hs10
        go_wp2_with fail
        refine (HS10.out.swap.hear fi1 hd1 _ ms1 Hm10.out (by omega) (HWU.out.mono (by omega)) HR1.out U1 HU1.out).mono ?_
        rintro e w11 ⟨c1, X11, rfl, hs11, s11⟩
        have HS11 := Lib.hid s11.swap
        have Hs11 : Hid (Sub X0 X11) := Lib.hid ((HXr.out.trans Hs10.out).trans hs11)
        clear s11 hs11
        have A := half_ok (now := now) HRd.out.ab HRd.out.ba HRd.out.fT HRd.out.fU (by omega) HRd.out.tl HRd.out.ul
        have HTW2 := half_tw (i := 0) HRd.out.ab HRd.out.ba HRd.out.tl HWT.out HWU.out (by omega : now ≤ 4611686018427387904)
        have HN' := HRN.out
        rw [he1] at A HTW2 HN'
        simp only at A HTW2 HN'
        have HSw := Lib.hid HS11.out.swap
        go_wp2_with fail
        simp only [HNW.out]
        cases hdue2 : dueT U1 now with
        | false =>
          have he2 : half U1 T1 now = (U1, T1) := by unfold half; rw [if_neg (by rw [hdue2]; simp)]
          refine (HSw.out.tickNo now (by omega) (HTW2.2.mono (by omega)) hdue2).mono ?_
          rintro e w20 ⟨rfl, s20⟩
          have HS20 := Lib.hid (s20.alloc (.cells #[.int .i64 0, .slice none 0 0, .int .i64 0] 36))
          have Hs20 : Hid (Sub X0 X11) := Lib.hid Hs11.out
          clear s20
          rw [he2] at HN'
          have HTW3 := half_tw (i := 0) A.ba A.ab A.ul HTW2.2 HTW2.1 (by omega : now ≤ 4611686018427387904)
          rw [he2] at HTW3
          clear A
          go_wp2_with fail
          exact ⟨⟨i + 1, T1, U1, X11, by simp, by omega, HS20.out.swap, Hs20.out, HN', HTW3.2.mono (by omega), HTW3.1.mono (by omega)⟩, by simp [intOf]; omega⟩
        | true =>
          obtain ⟨ms2, HMS2⟩ : ∃ ms, Hid (U1.waits = ms) := ⟨_, rfl⟩
          obtain ⟨fi2, HFI2⟩ : ∃ fi, Hid (U1.said - U1.waits.length = fi) := ⟨_, rfl⟩
          obtain ⟨hd2, HHD2⟩ : ∃ hd, Hid (U1.heard = hd) := ⟨_, rfl⟩
          obtain ⟨T2, HT2⟩ : ∃ tz, Hid (tickT U1 now = tz) := ⟨_, rfl⟩
          obtain ⟨U2, HU2⟩ : ∃ uz, Hid (hearT T1 fi2 ms2 hd2 = uz) := ⟨_, rfl⟩
          have he2 : half U1 T1 now = (T2, U2) := by
            unfold half
            rw [if_pos hdue2, HT2.out, HFI2.out, HMS2.out, HHD2.out, HU2.out]
          have hkk2 := A.ba.send A.ul
          have hrt2 := hkk2.right A.ab
          have hst2 := hkk2.stop
          rw [HFI2.out] at hkk2 hrt2 hst2
          rw [HMS2.out] at hkk2 hrt2 hst2
          rw [HHD2.out] at hkk2 hrt2
          have HR2 := Lib.hid hrt2
          have hfi2 : fi2 ≤ 1000 := by omega
          clear hkk2 hrt2 hst2
          refine (HSw.out.tickYes now (by omega) (HTW2.2.mono (by omega)) hdue2 fi2 hd2 HFI2.out HHD2.out ms2 HMS2.out T2 HT2.out).mono ?_
          rintro e w20 ⟨u2, X20, rfl, hs20, s20, m20⟩
          obtain ⟨au2, cu2, rfl⟩ := m20.slice
          have HS20 := Lib.hid (s20.alloc (.cells #[.int .i64 fi2, .slice au2 ms2.length cu2, .int .i64 hd2] 36))
          have Hm20 := Lib.hid m20
          have Hs20 := Lib.hid hs20
          clear s20 m20 hs20
          go_wp2_with fail
          refine (HS20.out.swap.hear fi2 hd2 _ ms2 Hm20.out (by omega) (HTW2.1.mono (by omega)) HR2.out U2 HU2.out).mono ?_
          rintro e w21 ⟨c2, X21, rfl, hs21, s21⟩
          have HS21 := Lib.hid s21.swap
          have Hs21 : Hid (Sub X0 X21) := Lib.hid ((Hs11.out.trans Hs20.out).trans hs21)
          clear s21 hs21
          rw [he2] at HN'
          have HTW3 := half_tw (i := 0) A.ba A.ab A.ul HTW2.2 HTW2.1 (by omega : now ≤ 4611686018427387904)
          rw [he2] at HTW3
          clear A
          go_wp2_with fail
          exact ⟨⟨i + 1, U2, T2, X21, by simp, by omega, HS21.out.swap, Hs21.out, HN', HTW3.2.mono (by omega), HTW3.1.mono (by omega)⟩, by simp [intOf]; omega⟩
    · obtain rfl : i = 3 := by omega
      have eg0 : g0 ++ T'.got = wds 1 s1 := by rw [hR.ba.got, hR.st.th (by omega)]
      have eg1 : g1 ++ U'.got = wds 0 s0 := by rw [hR.ab.got, hR.st.uh (by omega)]
      have el0 : g0.length + T'.got.length = s1 := by have := congrArg List.length eg0; simpa [wds_len] using this
      have el1 : g1.length + U'.got.length = s0 := by have := congrArg List.length eg1; simpa [wds_len] using this
      have HI0 : Hid ((T'.waits.length == 0) = true) := by have := hR.st.tw (by omega); rw [this]; rfl
      have HI1 : Hid ((U'.waits.length == 0) = true) := by have := hR.st.uw (by omega); rw [this]; rfl
      have EG0 := Lib.hid eg0
      have EG1 := Lib.hid eg1
      have EL0 := Lib.hid el0
      have EL1 := Lib.hid el1
      have HSc := HSr
      clear hR HSr eg0 eg1 el0 el1 e3 e4
      have HM0' := Lib.hid (HM0.out.mono HXr.out)
      have HM1' := Lib.hid (HM1.out.mono HXr.out)
      clear HM0 HM1
      have HM0 := HM0'
      have HM1 := HM1'
      clear HM0' HM1'
      go_wp2_with fail
      refine wp_region_ov (fun L (x : Value × Value) => [(L 0, 60, .pointer (some ⟨b13, 0, none⟩)), (L 1, 61, .slice e0 g0.length f0), (L 2, 62, ptr p), (L 3, 63, x.1), (L 4, 64, x.2), (L 5, 65, .pointer (some ⟨b13, 0, none⟩))])
        (fun L x W => (L 3 = false → S2C W w (⟨b12, 22, #[.int .i64 s0, .int .i64 s1]⟩ :: (⟨b13, 41, #[.slice e0 g0.length f0, .slice e1 g1.length f1]⟩ :: (fb ++ (Bw ++ (B0 ++ B1))))) Xa p T' q U') ∧ (L 3 = true → L 4 = false → ∃ X', Sub Xa X' ∧ S2C W w (⟨b12, 22, #[.int .i64 s0, .int .i64 s1]⟩ :: (⟨b13, 41, #[.slice e0 g0.length f0, .slice e1 g1.length f1]⟩ :: (fb ++ (Bw ++ (B0 ++ B1))))) X' p (gotT T') q U' ∧ MsgL w X' x.1 T'.got) ∧ (L 4 = true → ∃ X' B' us', Sub Xa X' ∧ (∃ ax cx, x.2 = .slice ax (g0.length + T'.got.length) cx) ∧ Row 34 1 x.2 (g0.length + T'.got.length) us' B' ∧ Msgs w X' us' (g0 ++ T'.got) ∧ S2C W w (⟨b12, 22, #[.int .i64 s0, .int .i64 s1]⟩ :: (⟨b13, 41, #[bif L 6 then x.2 else .slice e0 g0.length f0, .slice e1 g1.length f1]⟩ :: (fb ++ (Bw ++ (B' ++ B1))))) X' p (gotT T') q U')) (undef, undef) (by kernel_rfl) (by kernel_rfl) (by rfl) ⟨fun _ => HSc.out.drew, fun h => by simp at h, fun h => by simp at h⟩ ?_ ⟨?_, ?_, ?_, ?_, ?_, ?_, ?_, trivial⟩
      rotate_left
      · (intro L x W hW hC hL hd K hK; (try simp [depsB, Region.binds] at hd); (try simp only [Nat.reduceAdd] at hK hL); simp only [ovl, Array.getD_eq_getD_getElem?, List.getElem?_toArray, List.getElem?_cons_succ, List.getElem?_cons_zero, Option.getD_some, List.setIfInBounds_toArray, List.set_cons_zero, List.set_cons_succ]; (try simp only [hd, cond_true, cond_false]); go_simp; (have h := hK x W hW); simp only [ovl, Array.getD_eq_getD_getElem?, List.getElem?_toArray, List.getElem?_cons_succ, List.getElem?_cons_zero, Option.getD_some, List.setIfInBounds_toArray, List.set_cons_zero, List.set_cons_succ] at h; (try simp (decide := true) only [upd, hd, cond_true, cond_false, Bool.true_or, Bool.false_or, decide_true, decide_false] at h); exact h)
      · intro L x W hW hC hL hd K hK; (try simp [depsB, Region.binds] at hd); (try simp only [Nat.reduceAdd] at hK hL)
        (have h4 : L 4 = false := by cases hl : L 4 with | false => rfl | true => have hx := hC 4 _ rfl hl; simp [depsB, Region.binds, hL, hd] at hx); (replace hd := And.intro hd h4)
        simp only [ovl, Array.getD_eq_getD_getElem?, List.getElem?_toArray, List.getElem?_cons_succ, List.getElem?_cons_zero, Option.getD_some, List.setIfInBounds_toArray, List.set_cons_zero, List.set_cons_succ]; (try simp only [hd, cond_true, cond_false])
        have hb : HasBlk W b13 41 #[.slice e0 g0.length f0, .slice e1 g1.length f1] := by
          cases h3 : L 3 with
          | false => exact (hW.1 h3).has (List.mem_cons_of_mem _ (List.mem_cons_self ..))
          | true => obtain ⟨X', -, s', -⟩ := hW.2.1 h3 h4; exact s'.has (List.mem_cons_of_mem _ (List.mem_cons_self ..))
        have c0 := hb.cell 0
        have l0 := hb.lt
        clear hb
        go_simp
        (have h := hK x W hW); simp only [ovl, Array.getD_eq_getD_getElem?, List.getElem?_toArray, List.getElem?_cons_succ, List.getElem?_cons_zero, Option.getD_some, List.setIfInBounds_toArray, List.set_cons_zero, List.set_cons_succ] at h; (try simp (decide := true) only [upd, hd, cond_true, cond_false, Bool.true_or, Bool.false_or, decide_true, decide_false] at h); exact h
      · (intro L x W hW hC hL hd K hK; (try simp [depsB, Region.binds] at hd); (try simp only [Nat.reduceAdd] at hK hL); simp only [ovl, Array.getD_eq_getD_getElem?, List.getElem?_toArray, List.getElem?_cons_succ, List.getElem?_cons_zero, Option.getD_some, List.setIfInBounds_toArray, List.set_cons_zero, List.set_cons_succ]; (try simp only [hd, cond_true, cond_false]); go_simp; (have h := hK x W hW); simp only [ovl, Array.getD_eq_getD_getElem?, List.getElem?_toArray, List.getElem?_cons_succ, List.getElem?_cons_zero, Option.getD_some, List.setIfInBounds_toArray, List.set_cons_zero, List.set_cons_succ] at h; (try simp (decide := true) only [upd, hd, cond_true, cond_false, Bool.true_or, Bool.false_or, decide_true, decide_false] at h); exact h)
      · intro L x W hW hC hL hd K hK; (try simp [depsB, Region.binds] at hd); (try simp only [Nat.reduceAdd] at hK hL)
        (have h4 : L 4 = false := by cases hl : L 4 with | false => rfl | true => have hx := hC 4 _ rfl hl; simp [depsB, Region.binds, hL, hd] at hx); (replace hd := And.intro hd h4)
        simp only [ovl, Array.getD_eq_getD_getElem?, List.getElem?_toArray, List.getElem?_cons_succ, List.getElem?_cons_zero, Option.getD_some, List.setIfInBounds_toArray, List.set_cons_zero, List.set_cons_succ]; (try simp only [hd, cond_true, cond_false])
        refine wp_call_in 21 (by rfl) (by kernel_rfl) #[ptr p] (by (simp only [List.map_toArray, List.map_cons, List.map_nil, Act.eval, Array.getD_eq_getD_getElem?, List.getElem?_toArray, List.getElem?_cons_succ, List.getElem?_cons_zero, Option.getD_some])) (((hW.1 hL).got T'.got rfl).mono ?_)
        rintro e W4 ⟨v, X5, rfl, hs5, s5, m5⟩
        refine ⟨_, rfl, ?_⟩
        (have h := hK (v, x.2) W4 ⟨fun h => by simp [upd] at h, fun _ _ => ⟨X5, hs5, s5, m5⟩, fun h => by simp [upd, h4] at h⟩); simp only [ovl, Array.getD_eq_getD_getElem?, List.getElem?_toArray, List.getElem?_cons_succ, List.getElem?_cons_zero, Option.getD_some, List.setIfInBounds_toArray, List.set_cons_zero, List.set_cons_succ] at h; (try simp (decide := true) only [upd, hd, cond_true, cond_false, Bool.true_or, Bool.false_or, decide_true, decide_false] at h); exact h
      · intro L x W hW hC hL hd K hK; (try simp [depsB, Region.binds] at hd); (try simp only [Nat.reduceAdd] at hK hL)
        have h3 : L 3 = true := by simp only [hd]
        obtain ⟨xv, xr⟩ := x
        have hW3 := hW.2.1 h3 hL
        clear hW
        simp only at hW3
        simp only [ovl, Array.getD_eq_getD_getElem?, List.getElem?_toArray, List.getElem?_cons_succ, List.getElem?_cons_zero, Option.getD_some, List.setIfInBounds_toArray, List.set_cons_zero, List.set_cons_succ]; (try simp only [hd, cond_true, cond_false])
        obtain ⟨X5, hs5, s5, m5⟩ := hW3
        obtain ⟨av, cv, rfl⟩ := m5.slice
        obtain ⟨Y5, O5, hX5, -⟩ := s5.ow
        obtain ⟨us5, hl5, hm5, hc5⟩ := m5.open_ O5 hX5
        have hgl : T'.got.length ≤ 1000000 := by have := HWT.out.got; omega
        have s6 : S2C W w (B0 ++ (⟨b12, 22, #[.int .i64 s0, .int .i64 s1]⟩ :: (⟨b13, 41, #[.slice e0 g0.length f0, .slice e1 g1.length f1]⟩ :: (fb ++ (Bw ++ B1))))) X5 p (gotT T') q U' := s5.permC (perm_cnt fun x => by simp only [cnt_append, cnt_cons, cnt_nil] <;> omega)
        refine s6.appendK (.tmp 61) (.tmp 63) 25 (by rfl) elt_msg (by rfl) HR0.out av _ cv us5 (by rfl) (by rw [hl5]; omega) m5.cap.2 hc5 hm5.one (by unfold maxLen; omega) (by omega) (g0.length + T'.got.length) rfl (us0 ++ us5) rfl (fun ao' cap' B' W7 R7 s7 => ?_)
        have h6 : L 6 = false := by
          cases h6 : L 6 with
          | false => rfl
          | true => have hx := hC 6 _ rfl h6; simp [depsB, Region.binds, hL] at hx
        have s8 : S2C W7 w (⟨b12, 22, #[.int .i64 s0, .int .i64 s1]⟩ :: (⟨b13, 41, #[.slice e0 g0.length f0, .slice e1 g1.length f1]⟩ :: (fb ++ (Bw ++ (B' ++ B1))))) X5 p (gotT T') q U' := s7.permC (perm_cnt fun x => by simp only [cnt_append, cnt_cons, cnt_nil] <;> omega)
        (have h := hK (.slice av T'.got.length cv, .slice ao' (g0.length + T'.got.length) cap') W7 ⟨fun h => by simp [upd, h3] at h, fun _ h => by simp [upd] at h, fun _ => ⟨X5, B', _, hs5, ⟨_, _, rfl⟩, R7, (HM0.out.mono hs5).app hm5, by simpa [upd, h6] using s8⟩⟩); simp only [ovl, Array.getD_eq_getD_getElem?, List.getElem?_toArray, List.getElem?_cons_succ, List.getElem?_cons_zero, Option.getD_some, List.setIfInBounds_toArray, List.set_cons_zero, List.set_cons_succ] at h; (try simp (decide := true) only [upd, hd, cond_true, cond_false, Bool.true_or, Bool.false_or, decide_true, decide_false] at h); exact h
      · (intro L x W hW hC hL hd K hK; (try simp [depsB, Region.binds] at hd); (try simp only [Nat.reduceAdd] at hK hL); simp only [ovl, Array.getD_eq_getD_getElem?, List.getElem?_toArray, List.getElem?_cons_succ, List.getElem?_cons_zero, Option.getD_some, List.setIfInBounds_toArray, List.set_cons_zero, List.set_cons_succ]; (try simp only [hd, cond_true, cond_false]); go_simp; (have h := hK x W hW); simp only [ovl, Array.getD_eq_getD_getElem?, List.getElem?_toArray, List.getElem?_cons_succ, List.getElem?_cons_zero, Option.getD_some, List.setIfInBounds_toArray, List.set_cons_zero, List.set_cons_succ] at h; (try simp (decide := true) only [upd, hd, cond_true, cond_false, Bool.true_or, Bool.false_or, decide_true, decide_false] at h); exact h)
      · intro L x W hW hC hL hd K hK; (try simp [depsB, Region.binds] at hd); (try simp only [Nat.reduceAdd] at hK hL)
        have h4 : L 4 = true := by simp only [hd]
        obtain ⟨xv, xr⟩ := x
        have hW4 := hW.2.2 h4
        clear hW
        simp only [hL, cond_false] at hW4
        simp only [ovl, Array.getD_eq_getD_getElem?, List.getElem?_toArray, List.getElem?_cons_succ, List.getElem?_cons_zero, Option.getD_some, List.setIfInBounds_toArray, List.set_cons_zero, List.set_cons_succ]; (try simp only [hd, cond_true, cond_false])
        obtain ⟨X5, B5, us5, hs5, ⟨ax, cx, rfl⟩, R5, M5, s5⟩ := hW4
        have hb := s5.has (b := b13) (t := 41) (cs := #[.slice e0 g0.length f0, .slice e1 g1.length f1]) (List.mem_cons_of_mem _ (List.mem_cons_self ..))
        have c0 := hb.cell 0
        have fz := hb.frozen 0
        have l0 := hb.lt
        clear hb
        have s6 : S2C W w (⟨b13, 41, #[.slice e0 g0.length f0, .slice e1 g1.length f1]⟩ :: (⟨b12, 22, #[.int .i64 s0, .int .i64 s1]⟩ :: (fb ++ (Bw ++ (B5 ++ B1))))) X5 p (gotT T') q U' := s5.permC (perm_cnt fun x => by simp only [cnt_append, cnt_cons, cnt_nil] <;> omega)
        have s7 := s6.set 0 (.slice ax (g0.length + T'.got.length) cx)
        have s8 : S2C (W.setCell ⟨b13, 0, none⟩ (.slice ax (g0.length + T'.got.length) cx)) w (⟨b12, 22, #[.int .i64 s0, .int .i64 s1]⟩ :: (⟨b13, 41, #[.slice ax (g0.length + T'.got.length) cx, .slice e1 g1.length f1]⟩ :: (fb ++ (Bw ++ (B5 ++ B1))))) X5 p (gotT T') q U' := by
          refine S2C.permC (C := (⟨b13, 41, #[.slice ax (g0.length + T'.got.length) cx, .slice e1 g1.length f1]⟩ :: (⟨b12, 22, #[.int .i64 s0, .int .i64 s1]⟩ :: (fb ++ (Bw ++ (B5 ++ B1)))))) ?_ (perm_cnt fun x => by simp only [cnt_append, cnt_cons, cnt_nil] <;> omega)
          simpa using s7
        clear s5 s6 s7
        go_simp
        (have h := hK (xv, .slice ax (g0.length + T'.got.length) cx) _ ⟨fun h => by simp [upd, hd] at h, fun _ h => by simp [upd, hd] at h, fun _ => ⟨X5, B5, us5, hs5, ⟨_, _, rfl⟩, R5, M5, by simpa [upd] using s8⟩⟩); simp only [ovl, Array.getD_eq_getD_getElem?, List.getElem?_toArray, List.getElem?_cons_succ, List.getElem?_cons_zero, Option.getD_some, List.setIfInBounds_toArray, List.set_cons_zero, List.set_cons_succ] at h; (try simp (decide := true) only [upd, hd, cond_true, cond_false, Bool.true_or, Bool.false_or, decide_true, decide_false] at h); exact h
      intro x W9 hW9
      simp only [ovl, cond_true, Array.getD_eq_getD_getElem?, List.getElem?_toArray, List.getElem?_cons_succ, List.getElem?_cons_zero, Option.getD_some, List.setIfInBounds_toArray, List.set_cons_zero, List.set_cons_succ]
      obtain ⟨xv, xr⟩ := x
      simp only [cond_true] at hW9
      obtain ⟨X7, BN0, un0, hs7, ⟨ax0, cx0, rfl⟩, RN0, MN0, sN0⟩ := hW9.2.2 trivial
      have HM0' := Lib.hid (MN0)
      clear HSc
      have HSc := Lib.hid sN0
      have HM1' := Lib.hid (HM1.out.mono hs7)
      clear HM1 sN0 hW9 MN0
      have HM1 := HM1'
      clear HM1'
      have HRN0 := Lib.hid RN0
      clear RN0
      go_wp2_with fail
      refine wp_region_ov (fun L (x : Value × Value) => [(L 0, 66, .pointer (some ⟨b13, 1, none⟩)), (L 1, 67, .slice e1 g1.length f1), (L 2, 68, ptr q), (L 3, 69, x.1), (L 4, 70, x.2), (L 5, 71, .pointer (some ⟨b13, 1, none⟩))])
        (fun L x W => (L 3 = false → S2C W w (⟨b12, 22, #[.int .i64 s0, .int .i64 s1]⟩ :: (⟨b13, 41, #[.slice ax0 (g0.length + T'.got.length) cx0, .slice e1 g1.length f1]⟩ :: (fb ++ (Bw ++ (BN0 ++ B1))))) X7 p (gotT T') q U') ∧ (L 3 = true → L 4 = false → ∃ X', Sub X7 X' ∧ S2C W w (⟨b12, 22, #[.int .i64 s0, .int .i64 s1]⟩ :: (⟨b13, 41, #[.slice ax0 (g0.length + T'.got.length) cx0, .slice e1 g1.length f1]⟩ :: (fb ++ (Bw ++ (BN0 ++ B1))))) X' p (gotT T') q (gotT U') ∧ MsgL w X' x.1 U'.got) ∧ (L 4 = true → ∃ X' B' us', Sub X7 X' ∧ (∃ ax cx, x.2 = .slice ax (g1.length + U'.got.length) cx) ∧ Row 34 1 x.2 (g1.length + U'.got.length) us' B' ∧ Msgs w X' us' (g1 ++ U'.got) ∧ S2C W w (⟨b12, 22, #[.int .i64 s0, .int .i64 s1]⟩ :: (⟨b13, 41, #[.slice ax0 (g0.length + T'.got.length) cx0, bif L 6 then x.2 else .slice e1 g1.length f1]⟩ :: (fb ++ (Bw ++ (BN0 ++ B'))))) X' p (gotT T') q (gotT U'))) (undef, undef) (by kernel_rfl) (by kernel_rfl) (by rfl) ⟨fun _ => HSc.out.drew, fun h => by simp at h, fun h => by simp at h⟩ ?_ ⟨?_, ?_, ?_, ?_, ?_, ?_, ?_, trivial⟩
      rotate_left
      · (intro L x W hW hC hL hd K hK; (try simp [depsB, Region.binds] at hd); (try simp only [Nat.reduceAdd] at hK hL); simp only [ovl, Array.getD_eq_getD_getElem?, List.getElem?_toArray, List.getElem?_cons_succ, List.getElem?_cons_zero, Option.getD_some, List.setIfInBounds_toArray, List.set_cons_zero, List.set_cons_succ]; (try simp only [hd, cond_true, cond_false]); go_simp; (have h := hK x W hW); simp only [ovl, Array.getD_eq_getD_getElem?, List.getElem?_toArray, List.getElem?_cons_succ, List.getElem?_cons_zero, Option.getD_some, List.setIfInBounds_toArray, List.set_cons_zero, List.set_cons_succ] at h; (try simp (decide := true) only [upd, hd, cond_true, cond_false, Bool.true_or, Bool.false_or, decide_true, decide_false] at h); exact h)
      · intro L x W hW hC hL hd K hK; (try simp [depsB, Region.binds] at hd); (try simp only [Nat.reduceAdd] at hK hL)
        (have h4 : L 4 = false := by cases hl : L 4 with | false => rfl | true => have hx := hC 4 _ rfl hl; simp [depsB, Region.binds, hL, hd] at hx); (replace hd := And.intro hd h4)
        simp only [ovl, Array.getD_eq_getD_getElem?, List.getElem?_toArray, List.getElem?_cons_succ, List.getElem?_cons_zero, Option.getD_some, List.setIfInBounds_toArray, List.set_cons_zero, List.set_cons_succ]; (try simp only [hd, cond_true, cond_false])
        have hb : HasBlk W b13 41 #[.slice ax0 (g0.length + T'.got.length) cx0, .slice e1 g1.length f1] := by
          cases h3 : L 3 with
          | false => exact (hW.1 h3).has (List.mem_cons_of_mem _ (List.mem_cons_self ..))
          | true => obtain ⟨X', -, s', -⟩ := hW.2.1 h3 h4; exact s'.has (List.mem_cons_of_mem _ (List.mem_cons_self ..))
        have c0 := hb.cell 1
        have l0 := hb.lt
        clear hb
        go_simp
        (have h := hK x W hW); simp only [ovl, Array.getD_eq_getD_getElem?, List.getElem?_toArray, List.getElem?_cons_succ, List.getElem?_cons_zero, Option.getD_some, List.setIfInBounds_toArray, List.set_cons_zero, List.set_cons_succ] at h; (try simp (decide := true) only [upd, hd, cond_true, cond_false, Bool.true_or, Bool.false_or, decide_true, decide_false] at h); exact h
      · (intro L x W hW hC hL hd K hK; (try simp [depsB, Region.binds] at hd); (try simp only [Nat.reduceAdd] at hK hL); simp only [ovl, Array.getD_eq_getD_getElem?, List.getElem?_toArray, List.getElem?_cons_succ, List.getElem?_cons_zero, Option.getD_some, List.setIfInBounds_toArray, List.set_cons_zero, List.set_cons_succ]; (try simp only [hd, cond_true, cond_false]); go_simp; (have h := hK x W hW); simp only [ovl, Array.getD_eq_getD_getElem?, List.getElem?_toArray, List.getElem?_cons_succ, List.getElem?_cons_zero, Option.getD_some, List.setIfInBounds_toArray, List.set_cons_zero, List.set_cons_succ] at h; (try simp (decide := true) only [upd, hd, cond_true, cond_false, Bool.true_or, Bool.false_or, decide_true, decide_false] at h); exact h)
      · intro L x W hW hC hL hd K hK; (try simp [depsB, Region.binds] at hd); (try simp only [Nat.reduceAdd] at hK hL)
        (have h4 : L 4 = false := by cases hl : L 4 with | false => rfl | true => have hx := hC 4 _ rfl hl; simp [depsB, Region.binds, hL, hd] at hx); (replace hd := And.intro hd h4)
        simp only [ovl, Array.getD_eq_getD_getElem?, List.getElem?_toArray, List.getElem?_cons_succ, List.getElem?_cons_zero, Option.getD_some, List.setIfInBounds_toArray, List.set_cons_zero, List.set_cons_succ]; (try simp only [hd, cond_true, cond_false])
        refine wp_call_in 21 (by rfl) (by kernel_rfl) #[ptr q] (by (simp only [List.map_toArray, List.map_cons, List.map_nil, Act.eval, Array.getD_eq_getD_getElem?, List.getElem?_toArray, List.getElem?_cons_succ, List.getElem?_cons_zero, Option.getD_some])) (((hW.1 hL).swap.got U'.got rfl).mono ?_)
        rintro e W4 ⟨v, X5, rfl, hs5, s5, m5⟩
        refine ⟨_, rfl, ?_⟩
        (have h := hK (v, x.2) W4 ⟨fun h => by simp [upd] at h, fun _ _ => ⟨X5, hs5, s5.swap, m5⟩, fun h => by simp [upd, h4] at h⟩); simp only [ovl, Array.getD_eq_getD_getElem?, List.getElem?_toArray, List.getElem?_cons_succ, List.getElem?_cons_zero, Option.getD_some, List.setIfInBounds_toArray, List.set_cons_zero, List.set_cons_succ] at h; (try simp (decide := true) only [upd, hd, cond_true, cond_false, Bool.true_or, Bool.false_or, decide_true, decide_false] at h); exact h
      · intro L x W hW hC hL hd K hK; (try simp [depsB, Region.binds] at hd); (try simp only [Nat.reduceAdd] at hK hL)
        have h3 : L 3 = true := by simp only [hd]
        obtain ⟨xv, xr⟩ := x
        have hW3 := hW.2.1 h3 hL
        clear hW
        simp only at hW3
        simp only [ovl, Array.getD_eq_getD_getElem?, List.getElem?_toArray, List.getElem?_cons_succ, List.getElem?_cons_zero, Option.getD_some, List.setIfInBounds_toArray, List.set_cons_zero, List.set_cons_succ]; (try simp only [hd, cond_true, cond_false])
        obtain ⟨X5, hs5, s5, m5⟩ := hW3
        obtain ⟨av, cv, rfl⟩ := m5.slice
        obtain ⟨Y5, O5, hX5, -⟩ := s5.ow
        obtain ⟨us5, hl5, hm5, hc5⟩ := m5.open_ O5 hX5
        have hgl : U'.got.length ≤ 1000000 := by have := HWU.out.got; omega
        have s6 : S2C W w (B1 ++ (⟨b12, 22, #[.int .i64 s0, .int .i64 s1]⟩ :: (⟨b13, 41, #[.slice ax0 (g0.length + T'.got.length) cx0, .slice e1 g1.length f1]⟩ :: (fb ++ (Bw ++ BN0))))) X5 p (gotT T') q (gotT U') := s5.permC (perm_cnt fun x => by simp only [cnt_append, cnt_cons, cnt_nil] <;> omega)
        refine s6.appendK (.tmp 67) (.tmp 69) 25 (by rfl) elt_msg (by rfl) HR1.out av _ cv us5 (by rfl) (by rw [hl5]; omega) m5.cap.2 hc5 hm5.one (by unfold maxLen; omega) (by omega) (g1.length + U'.got.length) rfl (us1 ++ us5) rfl (fun ao' cap' B' W7 R7 s7 => ?_)
        have h6 : L 6 = false := by
          cases h6 : L 6 with
          | false => rfl
          | true => have hx := hC 6 _ rfl h6; simp [depsB, Region.binds, hL] at hx
        have s8 : S2C W7 w (⟨b12, 22, #[.int .i64 s0, .int .i64 s1]⟩ :: (⟨b13, 41, #[.slice ax0 (g0.length + T'.got.length) cx0, .slice e1 g1.length f1]⟩ :: (fb ++ (Bw ++ (BN0 ++ B'))))) X5 p (gotT T') q (gotT U') := s7.permC (perm_cnt fun x => by simp only [cnt_append, cnt_cons, cnt_nil] <;> omega)
        (have h := hK (.slice av U'.got.length cv, .slice ao' (g1.length + U'.got.length) cap') W7 ⟨fun h => by simp [upd, h3] at h, fun _ h => by simp [upd] at h, fun _ => ⟨X5, B', _, hs5, ⟨_, _, rfl⟩, R7, (HM1.out.mono hs5).app hm5, by simpa [upd, h6] using s8⟩⟩); simp only [ovl, Array.getD_eq_getD_getElem?, List.getElem?_toArray, List.getElem?_cons_succ, List.getElem?_cons_zero, Option.getD_some, List.setIfInBounds_toArray, List.set_cons_zero, List.set_cons_succ] at h; (try simp (decide := true) only [upd, hd, cond_true, cond_false, Bool.true_or, Bool.false_or, decide_true, decide_false] at h); exact h
      · (intro L x W hW hC hL hd K hK; (try simp [depsB, Region.binds] at hd); (try simp only [Nat.reduceAdd] at hK hL); simp only [ovl, Array.getD_eq_getD_getElem?, List.getElem?_toArray, List.getElem?_cons_succ, List.getElem?_cons_zero, Option.getD_some, List.setIfInBounds_toArray, List.set_cons_zero, List.set_cons_succ]; (try simp only [hd, cond_true, cond_false]); go_simp; (have h := hK x W hW); simp only [ovl, Array.getD_eq_getD_getElem?, List.getElem?_toArray, List.getElem?_cons_succ, List.getElem?_cons_zero, Option.getD_some, List.setIfInBounds_toArray, List.set_cons_zero, List.set_cons_succ] at h; (try simp (decide := true) only [upd, hd, cond_true, cond_false, Bool.true_or, Bool.false_or, decide_true, decide_false] at h); exact h)
      · intro L x W hW hC hL hd K hK; (try simp [depsB, Region.binds] at hd); (try simp only [Nat.reduceAdd] at hK hL)
        have h4 : L 4 = true := by simp only [hd]
        obtain ⟨xv, xr⟩ := x
        have hW4 := hW.2.2 h4
        clear hW
        simp only [hL, cond_false] at hW4
        simp only [ovl, Array.getD_eq_getD_getElem?, List.getElem?_toArray, List.getElem?_cons_succ, List.getElem?_cons_zero, Option.getD_some, List.setIfInBounds_toArray, List.set_cons_zero, List.set_cons_succ]; (try simp only [hd, cond_true, cond_false])
        obtain ⟨X5, B5, us5, hs5, ⟨ax, cx, rfl⟩, R5, M5, s5⟩ := hW4
        have hb := s5.has (b := b13) (t := 41) (cs := #[.slice ax0 (g0.length + T'.got.length) cx0, .slice e1 g1.length f1]) (List.mem_cons_of_mem _ (List.mem_cons_self ..))
        have c0 := hb.cell 1
        have fz := hb.frozen 1
        have l0 := hb.lt
        clear hb
        have s6 : S2C W w (⟨b13, 41, #[.slice ax0 (g0.length + T'.got.length) cx0, .slice e1 g1.length f1]⟩ :: (⟨b12, 22, #[.int .i64 s0, .int .i64 s1]⟩ :: (fb ++ (Bw ++ (BN0 ++ B5))))) X5 p (gotT T') q (gotT U') := s5.permC (perm_cnt fun x => by simp only [cnt_append, cnt_cons, cnt_nil] <;> omega)
        have s7 := s6.set 1 (.slice ax (g1.length + U'.got.length) cx)
        have s8 : S2C (W.setCell ⟨b13, 1, none⟩ (.slice ax (g1.length + U'.got.length) cx)) w (⟨b12, 22, #[.int .i64 s0, .int .i64 s1]⟩ :: (⟨b13, 41, #[.slice ax0 (g0.length + T'.got.length) cx0, .slice ax (g1.length + U'.got.length) cx]⟩ :: (fb ++ (Bw ++ (BN0 ++ B5))))) X5 p (gotT T') q (gotT U') := by
          refine S2C.permC (C := (⟨b13, 41, #[.slice ax0 (g0.length + T'.got.length) cx0, .slice ax (g1.length + U'.got.length) cx]⟩ :: (⟨b12, 22, #[.int .i64 s0, .int .i64 s1]⟩ :: (fb ++ (Bw ++ (BN0 ++ B5)))))) ?_ (perm_cnt fun x => by simp only [cnt_append, cnt_cons, cnt_nil] <;> omega)
          simpa using s7
        clear s5 s6 s7
        go_simp
        (have h := hK (xv, .slice ax (g1.length + U'.got.length) cx) _ ⟨fun h => by simp [upd, hd] at h, fun _ h => by simp [upd, hd] at h, fun _ => ⟨X5, B5, us5, hs5, ⟨_, _, rfl⟩, R5, M5, by simpa [upd] using s8⟩⟩); simp only [ovl, Array.getD_eq_getD_getElem?, List.getElem?_toArray, List.getElem?_cons_succ, List.getElem?_cons_zero, Option.getD_some, List.setIfInBounds_toArray, List.set_cons_zero, List.set_cons_succ] at h; (try simp (decide := true) only [upd, hd, cond_true, cond_false, Bool.true_or, Bool.false_or, decide_true, decide_false] at h); exact h
      intro x W9 hW9
      simp only [ovl, cond_true, Array.getD_eq_getD_getElem?, List.getElem?_toArray, List.getElem?_cons_succ, List.getElem?_cons_zero, Option.getD_some, List.setIfInBounds_toArray, List.set_cons_zero, List.set_cons_succ]
      obtain ⟨xv, xr⟩ := x
      simp only [cond_true] at hW9
      obtain ⟨X8, BN1, un1, hs8, ⟨ax1, cx1, rfl⟩, RN1, MN1, sN1⟩ := hW9.2.2 trivial
      rw [EL0.out, EL1.out] at sN1
      simp only [EL0.out, EL1.out]
      have r0 := HRN0.out
      rw [EL0.out] at r0
      rw [EL1.out] at RN1
      have q0 : MsgL w (BN0 ++ X8) (.slice ax0 s1 cx0) (wds 1 s1) := by
        have h := HM0'.out.mono hs8
        rw [EG0.out] at h
        exact Row.msgl (by rw [wds_len]; exact r0) h
      have q1 : MsgL w (BN1 ++ X8) (.slice ax1 s0 cx1) (wds 0 s0) := by
        have h := MN1
        rw [EG1.out] at h
        exact Row.msgl (by rw [wds_len]; exact RN1) h
      have HIa : Hid (∀ g d, Calls Try.prog 15 #[ptr p] (plus W9 g d) fun e w' => e = .returned (.bool true) ∧ w' = plus W9 g d) := fun g d => (sN1.of_below (bplus (Below.refl _ _) g d)).idle true HI0.out
      have HIb : Hid (∀ g d, Calls Try.prog 15 #[ptr q] (plus W9 g d) fun e w' => e = .returned (.bool true) ∧ w' = plus W9 g d) := fun g d => (sN1.of_below (bplus (Below.refl _ _) g d)).swap.idle true HI1.out
      obtain ⟨Y9, O9, hX9, hC9⟩ := sN1.ow
      have hbi := O9.has (b := b12) (t := 22) (cs := #[.int .i64 s0, .int .i64 s1]) (hC9 _ (by simp))
      have hbm := O9.has (b := b13) (t := 41) (cs := #[.slice ax0 s1 cx0, .slice ax1 s0 cx1]) (hC9 _ (by simp))
      have k0 := hbi.cell 0
      have k1 := hbi.cell 1
      have l1 := hbi.lt
      have j0 := hbm.cell 0
      have j1 := hbm.cell 1
      have l2 := hbm.lt
      have HQ0 : Hid (MsgL W9 [] (.slice ax0 s1 cx0) (wds 1 s1)) := q0.here O9 (fun z hz => by
        rcases List.mem_append.1 hz with hz | hz
        · exact hC9 z (by simp [hz])
        · exact hX9 z hz)
      have HQ1 : Hid (MsgL W9 [] (.slice ax1 s0 cx1) (wds 0 s0)) := q1.here O9 (fun z hz => by
        rcases List.mem_append.1 hz with hz | hz
        · exact hC9 z (by simp [hz])
        · exact hX9 z hz)
      have HB2 := Lib.hid O9
      clear O9 hbi hbm sN1 q0 q1 r0 RN1 MN1 hs7 hs8 hW9 HSc HM1 HRN0 HM0' hX9 hC9
      have L1 : Hid (∀ g d, Calls Try.prog 18 #[.int .u8 1, .int .i64 s1] (plus W9 g d) fun x w' => ∃ u, x = .returned u ∧ Below (plus W9 g d).heap.size (plus W9 g d) w' ∧ CloL W9.heap.size (wds 1 s1) u w') := fun g d =>
        (lists_to 1 s1 (by omega) (by omega) (plus W9 g d)).mono (by
          rintro x w' ⟨u, h1, h2, h3⟩
          exact ⟨u, h1, h2, h3.base (by simp)⟩)
      have S1 : Hid (∀ u g d, CloL W9.heap.size (wds 1 s1) u (plus W9 g d) → Calls Try.prog 17 #[.slice ax0 s1 cx0, u] (plus W9 g d) fun x w' => x = .returned (.bool true) ∧ Below (plus W9 g d).heap.size (plus W9 g d) w') := fun u g d hu => by
        obtain ⟨us, B5, N5, O5, R5, M5⟩ := hu.found (Ow.start W9) ⟨⟨g, d⟩, rfl⟩
        have hl : (wds 1 s1).length ≤ 1000000 := by rw [wds_len]; omega
        exact (same_to _ _ (wds 1 s1) (wds 1 s1) _ (by omega) (by omega) (HQ0.out.here ((Ow.start W9).plus g d) sub_nil) ((R5.msgl (M5 W9)).here O5 (by intro x hx; rcases List.mem_append.1 hx with hx | hx <;> simp [hx])) true (by simp)).mono fun e w' hh => ⟨hh.1, hh.2.below⟩
      have L2 : Hid (∀ g d, Calls Try.prog 18 #[.int .u8 0, .int .i64 s0] (plus W9 g d) fun x w' => ∃ u, x = .returned u ∧ Below (plus W9 g d).heap.size (plus W9 g d) w' ∧ CloL W9.heap.size (wds 0 s0) u w') := fun g d =>
        (lists_to 0 s0 (by omega) (by omega) (plus W9 g d)).mono (by
          rintro x w' ⟨u, h1, h2, h3⟩
          exact ⟨u, h1, h2, h3.base (by simp)⟩)
      have S2 : Hid (∀ u g d, CloL W9.heap.size (wds 0 s0) u (plus W9 g d) → Calls Try.prog 17 #[.slice ax1 s0 cx1, u] (plus W9 g d) fun x w' => x = .returned (.bool true) ∧ Below (plus W9 g d).heap.size (plus W9 g d) w') := fun u g d hu => by
        obtain ⟨us, B5, N5, O5, R5, M5⟩ := hu.found (Ow.start W9) ⟨⟨g, d⟩, rfl⟩
        have hl : (wds 0 s0).length ≤ 1000000 := by rw [wds_len]; omega
        exact (same_to _ _ (wds 0 s0) (wds 0 s0) _ (by omega) (by omega) (HQ1.out.here ((Ow.start W9).plus g d) sub_nil) ((R5.msgl (M5 W9)).here O5 (by intro x hx; rcases List.mem_append.1 hx with hx | hx <;> simp [hx])) true (by simp)).mono fun e w' hh => ⟨hh.1, hh.2.below⟩
      go_wp2_with fail
      refine wp_region_rq (by kernel_rfl) (by kernel_rfl) (by kernel_rfl) ?_
      repeat (first
        | (refine B_skip ?_ ?_; (· rfl); (try simp only [Act.put, List.setIfInBounds_toArray, List.set_cons_zero, List.set_cons_succ]))
        | (refine B_move rfl ?_ ?_; (· rfl); (try simp only [Act.eval, Act.put, Array.getD_eq_getD_getElem?, List.getElem?_toArray, List.getElem?_cons_succ, List.getElem?_cons_zero, Option.getD_some, List.setIfInBounds_toArray, List.set_cons_zero, List.set_cons_succ]))
        | (refine B_plain ?_ ?_; (· rfl); intro K hK; go_big_quiet_op; with_reducible refine hK _ ?_; clear hK K)
        | (refine B_callR (CloL W9.heap.size (wds 1 s1)) (stays_cloL _ _) (f := 18) rfl rfl (by kernel_rfl) ?_ (fun xq => ?_) ?_; (· rfl); (· ((simp only [List.map_toArray, List.map_cons, List.map_nil, Act.eval, Array.getD_eq_getD_getElem?, List.getElem?_toArray, List.getElem?_cons_succ, List.getElem?_cons_zero, Option.getD_some]); (with_reducible apply retR); with_reducible exact L1.out _ _)))
        | (refine B_callR (CloL W9.heap.size (wds 0 s0)) (stays_cloL _ _) (f := 18) rfl rfl (by kernel_rfl) ?_ (fun xq => ?_) ?_; (· rfl); (· ((simp only [List.map_toArray, List.map_cons, List.map_nil, Act.eval, Array.getD_eq_getD_getElem?, List.getElem?_toArray, List.getElem?_cons_succ, List.getElem?_cons_zero, Option.getD_some]); (with_reducible apply retR); with_reducible exact L2.out _ _)))
        | (refine B_callRX (v := .bool true) (f := 17) rfl (by kernel_rfl) ?_ (fun xq vs hvs => ?_) ?_; (· rfl); (· (obtain ⟨a1, _, rfl, e1, a2, _, rfl, e2, e3⟩ := hvs; cases e3; obtain rfl : a1 = .slice ax0 s1 cx0 := e1; (with_reducible apply retB); exact S1.out a2 _ _ e2)); (try simp only [Act.put, List.setIfInBounds_toArray, List.set_cons_zero, List.set_cons_succ]))
        | (refine B_callRX (v := .bool true) (f := 17) rfl (by kernel_rfl) ?_ (fun xq vs hvs => ?_) ?_; (· rfl); (· (obtain ⟨a1, _, rfl, e1, a2, _, rfl, e2, e3⟩ := hvs; cases e3; obtain rfl : a1 = .slice ax1 s0 cx1 := e1; (with_reducible apply retB); exact S2.out a2 _ _ e2)); (try simp only [Act.put, List.setIfInBounds_toArray, List.set_cons_zero, List.set_cons_succ]))
        | (refine B_callX (v := ?_) (f := 15) rfl (by kernel_rfl) ?_ (fun xq => ?_) ?_; rotate_left; (· rfl); (· ((simp only [List.map_toArray, List.map_cons, List.map_nil, Act.eval, Array.getD_eq_getD_getElem?, List.getElem?_toArray, List.getElem?_cons_succ, List.getElem?_cons_zero, Option.getD_some]); with_reducible apply retB_same; with_reducible exact (HIa.out _ _))); (try simp only [Act.put, List.setIfInBounds_toArray, List.set_cons_zero, List.set_cons_succ]))
        | (refine B_callX (v := ?_) (f := 15) rfl (by kernel_rfl) ?_ (fun xq => ?_) ?_; rotate_left; (· rfl); (· ((simp only [List.map_toArray, List.map_cons, List.map_nil, Act.eval, Array.getD_eq_getD_getElem?, List.getElem?_toArray, List.getElem?_cons_succ, List.getElem?_cons_zero, Option.getD_some]); with_reducible apply retB_same; with_reducible exact (HIb.out _ _))); (try simp only [Act.put, List.setIfInBounds_toArray, List.set_cons_zero, List.set_cons_succ])))
      refine B_nil ?_ rfl ?_ ?_
      · kernel_rfl
      · rfl
      rintro _ ⟨⟨g16, d16⟩, rfl⟩
      simp only [fin, Act.put, List.setIfInBounds_toArray, List.set_cons_zero, List.set_cons_succ]
      intros
      go_wp2
      go_ret
      exact ⟨rfl, (HB2.out.plus _ _).below⟩

end Go.Proofs.Ytgjodjkmefdilaa
