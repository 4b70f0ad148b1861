/- The law GuardKeeps: its walk. -/
import Derived.Test.YtghaiplhakeahaaWj
import Derived.Deep.CutRange
import Derived.Deep.CutBlock
import Derived.Deep.DeepCutAuto
namespace Go.Proofs.Ytghaiplhakeahaa
set_option linter.unusedSimpArgs false
set_option linter.unusedVariables false
open Go.RowKit Go.WideMaps Go.ChangeMaps Go.Maps

theorem few_toK (ao : Option Addr) (n cap m : Nat) (hm : min n 200 = m) (hc : n ≤ cap) (w : World) :
    Calls Try.prog 54 #[.slice ao n cap] w fun e w' => e = .returned (.slice ao m cap) ∧ w' = w := by
  have hmi : min (n : Int) 200 = (m : Int) := by omega
  have hmc : m ≤ cap := by omega
  clear hm
  go_enter Try.func54, Try.ntmps54
  go_wp2
  go_ret
  exact ⟨rfl, rfl⟩
theorem bsl_few {w : World} {ao : Option Addr} {cap : Nat} {l : List UInt8} (h : BSl w (.slice ao l.length cap) l) : BSl w (.slice ao (min l.length 200) cap) (l.take 200) := by
  obtain ⟨ao', cap', e, h2, h3⟩ := h
  cases e
  have hl : (l.take 200).length = min l.length 200 := by rw [List.length_take, Nat.min_comm]
  refine ⟨ao, cap, by rw [hl], ⟨by rw [hl]; have := h2.1; omega, fun h => by rw [hl]; have := h2.2 h; omega⟩, ?_⟩
  rw [hl]
  rcases h3 with h3 | ⟨r, o, h4, h5, h6⟩
  · left; omega
  · refine .inr ⟨r, o, h4, h5, fun i hi => ?_⟩
    rw [h6 i (by omega)]
    simp [List.getD_eq_getElem?_getD, List.getElem?_take, show i < 200 by omega]
theorem dueL_get (G : GS) (j : Nat) (hj : j < (dueL G).length) : ∃ d : Nat, (dueL G)[j]? = some (d : Int) ∧ d < G.towers := by
  unfold dueL at hj ⊢
  split at hj
  · rename_i h
    rw [if_pos h]
    unfold duK at hj ⊢
    rw [List.length_map] at hj
    refine ⟨((List.range G.towers).filter fun i => decide (G.said i ≠ G.num))[j], by rw [List.getElem?_map, List.getElem?_eq_getElem hj]; rfl, ?_⟩
    have := List.getElem_mem hj
    rw [List.mem_filter] at this
    simpa using this.1
  · simp at hj
set_option maxRecDepth 100000 in
set_option maxHeartbeats 16000000 in
theorem guardKeeps_any (x y : Int) (vc : Value) (ms : List (List UInt8)) (hml : ms.length ≤ maxLen) (f0 f1 : Value) (m0 m1 : Nat) (b0 b1 : Nat → Bool) (hm0 : m0 ≤ maxLen) (hm1 : m1 ≤ maxLen) (w : World) (hc : CSl w vc ms) (h0 : Rws w f0 m0 1 (fun i => [.bool (b0 i)])) (h1 : Rws w f1 m1 1 (fun i => [.bool (b1 i)])) (hlen : ∀ i, i < ms.length → (ms.getD i []).length ≤ maxLen) :
    Calls Try.prog 14 #[.agg #[.int .i64 x, .int .i64 y], vc, .agg #[f0, f1]] w fun e w' => e = .returned (.bool true) ∧ Below w.heap.size w w' := by
  obtain ⟨n, HNn⟩ : ∃ n, Hid (1 + cutN x 16 = n) := ⟨_, rfl⟩
  obtain ⟨k, HKk⟩ : ∃ k, Hid (1 + cutN y n = k) := ⟨_, rfl⟩
  have hn1 : 1 ≤ n := by have := HNn.out; omega
  have hn16 : n ≤ 16 := by have := HNn.out; have := Nat.mod_lt (x % 18446744073709551616).toNat (show 16 > 0 by omega); unfold cutN at *; omega
  have hk1 : 1 ≤ k := by have := HKk.out; omega
  have hkn : k ≤ n := by have := HKk.out; have := Nat.mod_lt (y % 18446744073709551616).toNat (show n > 0 by omega); unfold cutN at *; omega
  have hml9 : ms.length ≤ 9223372036854775807 := by unfold maxLen at hml; omega
  have hm09 : m0 ≤ 9223372036854775807 := by unfold maxLen at hm0; omega
  have hm19 : m1 ≤ 9223372036854775807 := by unfold maxLen at hm1; omega
  have HLEN : Hid (∀ i, i < ms.length → (ms.getD i []).length ≤ 9223372036854775807) := fun i hi => by have := hlen i hi; unfold maxLen at this; omega
  obtain ⟨ac, cc, rfl, hcc⟩ := hc.slice
  obtain ⟨a0, c0, rfl, hc0, -⟩ := h0.slice
  obtain ⟨a1, c1, rfl, hc1, -⟩ := h1.slice
  have HC := Lib.hid hc
  have HF0 := Lib.hid h0
  have HF1 := Lib.hid h1
  have HO := Lib.hid (((Ow.start w).key #[.int .i64 x, .int .i64 y] 57 w.heap.size rfl).key #[.slice a0 m0 c0, .slice a1 m1 c1] 110 (w.heap.size + 1) (by simp))
  clear hc h0 h1 hml hm0 hm1 hlen
  go_enter Try.func14, Try.ntmps14
  obtain ⟨b3, hb3⟩ : ∃ b, b = w.heap.size := ⟨_, rfl⟩
  go_wp2_with fail
  obtain ⟨b5, hb5⟩ : ∃ b, b = w.heap.size + 1 := ⟨_, rfl⟩
  simp only [← hb5] at HO ⊢
  simp only [← hb3] at HO ⊢
  clear hb3 hb5
  refine (begin_to x y _ w _ HO.out n k HNn.out HKk.out).mono ?_
  rintro e w1 ⟨p, hv, rfl, NB, O1, R1⟩
  obtain ⟨ah, ch, rfl⟩ := R1.slice
  have HK1 : Hid (KS w1 w [⟨b5, 110, #[.slice a0 m0 c0, .slice a1 m1 c1]⟩] [] p (newG nonceX n k) []) := ⟨.slice none 0 0, [], [], ⟨Ow.drop (B := NB ++ [⟨b3, 57, #[.int .i64 x, .int .i64 y]⟩]) (O1.perm (perm_cnt fun x => by simp only [cnt_append, cnt_cons, cnt_nil] <;> omega)), by simp, by simp, by simp, .nil⟩, ⟨rfl, rfl⟩, (show Msg w [] (.slice none 0 0) (newG nonceX n k).box from Sl.nil w [])⟩
  have HK2 := Lib.hid (HK1.out.park (cs := #[.int .i64 n, .int .i64 k, .int .i64 (-1), .string ByteArray.empty, .slice ah n ch, .bool false, .int .i64 0, .int .i64 0]) (t := 61) (b := w1.heap.size) rfl)
  clear O1 R1 HO HK1
  go_wp2_with fail
  refine (told_to _).mono ?_
  rintro e w2 ⟨rfl, hb2⟩
  have HK3 := Lib.hid (HK2.out.of_below hb2)
  clear hb2 HK2
  obtain ⟨b8, hb8⟩ : ∃ b, b = w1.heap.size := ⟨_, rfl⟩
  rw [← hb8] at HK3
  simp only [← hb8]
  clear hb8
  go_wp2_with fail
  go_loopw [9, 10] (fun v9 vi wr => ∃ (i : Nat) (ts : List (Nat × TWS)) (RB : List Blk), vi = .int .i64 i ∧ i ≤ n ∧ ts.length = i ∧ (∀ j, j < i → (ts.getD j dT).2 = ⟨3, []⟩) ∧ Row 40 1 v9 i (pts ts) RB ∧ KS wr w (RB ++ [⟨b8, 61, #[.int .i64 n, .int .i64 k, .int .i64 (-1), .string ByteArray.empty, .slice ah n ch, .bool false, .int .i64 0, .int .i64 0]⟩, ⟨b5, 110, #[.slice a0 m0 c0, .slice a1 m1 c1]⟩]) [] p (newG nonceX n k) ts) (fun _ vi _ => n - (intOf vi).toNat)
  case atStart => exact ⟨0, [], [], rfl, by omega, rfl, fun j hj => by omega, .void, HK3.out⟩
  case round =>
    clear HK3
    obtain ⟨i, ts, RB, rfl, hi, hl, hall, hR, hK⟩ := hrel
    obtain ⟨ar, cr, rfl⟩ := hR.slice
    have HR := Lib.hid hR
    have HK := Lib.hid hK
    have HA := Lib.hid hall
    (have hq := hK.has (b := b8) (t := 61) (cs := #[.int .i64 n, .int .i64 k, .int .i64 (-1), .string ByteArray.empty, .slice ah n ch, .bool false, .int .i64 0, .int .i64 0]) (by simp)); (have q0 := hq.cell 0); (have q1 := hq.cell 1); (have lq := hq.lt); (simp only [List.getElem?_toArray, List.getElem?_cons_succ, List.getElem?_cons_zero] at q0 q1); clear hq
    by_cases hlt : i < n
    · clear hR hK hall
      go_wp2_with fail
      refine (knew_to HK.out).mono ?_
      rintro e w4 ⟨q, rfl, h4⟩
      have HK4 := Lib.hid h4
      clear h4 HK q0 q1 lq
      go_wp2_with (at_builtin; refine HK4.out.appendNew rfl (.tmp 51) (.tmp 53) 111 rfl elt_tptr (by rfl) HR.out #[tptr q] _ _ 1 1 (by rfl) (by simp) (by rfl) (by simp [Value.oneCell']) (by unfold maxLen; omega) (by omega) (i + 1) rfl (pts (ts ++ [(q, ⟨3, []⟩)])) (by simp [pts]) (fun ao' cap' B' w7 R7 K7 => ?_); (have HR7 := Lib.hid R7); (have HK7 := Lib.hid K7); clear R7 K7)
      refine ⟨⟨i + 1, _, B', by simp, by omega, by simp [hl], fun j hj => ?_, HR7.out, HK7.out⟩, by simp [intOf]; omega⟩
      rw [List.getD_eq_getElem?_getD]
      by_cases e : j < i
      · rw [List.getElem?_append_left (by omega), ← List.getD_eq_getElem?_getD]; exact HA.out j e
      · obtain rfl : j = i := by omega
        rw [List.getElem?_append_right (by omega), hl]; simp
    · obtain rfl : n = i := by omega
      have HRel : Hid (KRel n k (newG nonceX n k) ts 0 []) := KRel.start n k ts hl hall
      obtain ⟨ps, hps⟩ : ∃ ps, pts ts = ps := ⟨_, rfl⟩
      have HPS := Lib.hid hps
      rw [hps] at HR
      clear hR hK hall hps
      go_upto_block 2 with fail
      clear hi hlt hl q0 q1 lq HA
      go_cut [13, 14] from 15 to 140 (fun vn vl wc => ∃ (kk : Nat) (G : GS) (ts : List (Nat × TWS)) (X : List Blk) (lc : List UInt8), vn = .int .i64 kk ∧ vl = .string ⟨lc.toArray⟩ ∧ kk ≤ 6 ∧ KRel n k G ts kk lc ∧ pts ts = ps ∧ KS wc w (RB ++ [⟨b8, 61, #[.int .i64 n, .int .i64 k, .int .i64 (-1), .string ByteArray.empty, .slice ah n ch, .bool false, .int .i64 0, .int .i64 0]⟩, ⟨b5, 110, #[.slice a0 m0 c0, .slice a1 m1 c1]⟩]) X p G ts)
      case first =>
        go_wp2_with fail
        go_loopw [13, 14, 15] (fun vn vl vk wc => ∃ (kk : Nat) (G : GS) (ts : List (Nat × TWS)) (X : List Blk) (lc : List UInt8), vk = .int .i64 kk ∧ vn = .int .i64 kk ∧ vl = .string ⟨lc.toArray⟩ ∧ kk ≤ ms.length ∧ kk ≤ 6 ∧ KRel n k G ts kk lc ∧ pts ts = ps ∧ KS wc w (RB ++ [⟨b8, 61, #[.int .i64 n, .int .i64 k, .int .i64 (-1), .string ByteArray.empty, .slice ah n ch, .bool false, .int .i64 0, .int .i64 0]⟩, ⟨b5, 110, #[.slice a0 m0 c0, .slice a1 m1 c1]⟩]) X p G ts) (fun _ _ vk _ => 6 - (intOf vk).toNat)
        case atStart => exact ⟨0, _, ts, [], [], rfl, rfl, rfl, by omega, by omega, HRel.out, HPS.out, HK.out⟩
        case round =>
          clear HRel HPS HK
          obtain ⟨kk, G, ts, X, lc, rfl, rfl, rfl, hkm, hk6, hRel, hP, hK⟩ := hrel
          have HRel := Lib.hid hRel
          have HP := Lib.hid hP
          have HK := Lib.hid hK
          clear hRel hP
          by_cases hlt : kk < ms.length
          · by_cases hl6 : kk < 6
            · obtain ⟨r, o, u, hac, hr, hcell, hbs⟩ := HC.out.elem hlt
              subst hac
              have hll := HLEN.out kk hlt
              obtain ⟨l, hl⟩ : ∃ l, ms.getD kk [] = l := ⟨_, rfl⟩
              rw [hl] at hbs hll
              have cu : wr.cell? ⟨r, o + kk, none⟩ = some u := by rw [← hcell]; exact World.cell?_of_block (a := ⟨r, _, none⟩) (hK.below.block _ hr)
              have lr : r < wr.heap.size := Nat.lt_of_lt_of_le hr hK.below.size
              obtain ⟨au, cau, hu, hcl, -⟩ := id hbs
              subst hu
              have hcap := hcl.1
              obtain ⟨m, hm⟩ : ∃ m, min l.length 200 = m := ⟨_, rfl⟩
              have hm2 : m ≤ 200 := by omega
              have hml : (l.take 200).length = m := by rw [List.length_take, ← hm, Nat.min_comm]
              have hbs2 := bsl_few (hbs.below hK.below)
              rw [hm] at hbs2
              have HB2 := Lib.hid (hbs2.alloc (.cells #[.int .u8 kk] 5))
              obtain ⟨l2, hl2⟩ : ∃ l2, l.take 200 = l2 := ⟨_, rfl⟩
              rw [hl2] at hml HB2
              obtain ⟨c, hcc9⟩ : ∃ c, UInt8.ofNat kk :: l2 = c := ⟨_, rfl⟩
              have HCC : Hid ([.int .u8 (kk : Int)] ++ bcs l2 = bcs c) := by
                show _ = _
                rw [← hcc9]
                have : (UInt8.ofNat kk).toNat = kk := by rw [UInt8.toNat_ofNat']; omega
                simp [bcs, this]
              have hcn : 1 + m = c.length := by rw [← hcc9, ← hml]; simp; omega
              have HML := Lib.hid hml
              have HCN := Lib.hid hcn
              have HK2 := Lib.hid (hK.park (cs := #[.int .u8 kk]) (t := 5) (b := wr.heap.size) rfl)
              have hw8 : IntKind.u8.wrap (kk : Int) = (kk : Int) := by simp [IntKind.wrap, IntKind.bits, IntKind.signed]; omega
              obtain ⟨nn, hnn⟩ : ∃ nn : Nat, (kk : Int) + 1 = (nn : Int) := ⟨kk + 1, by push_cast; rfl⟩
              have HNK : Hid (nn = kk + 1) := by show _ = _; omega
              have hnn7 : nn ≤ 6 := by omega
              have HNP : Hid (0 < nn) := by show 0 < nn; omega
              clear hK hcell hbs hbs2 hl hl2 hcc9 hml hcn hr HK hcl
              go_wp2_with fail
              refine (few_toK _ l.length _ m hm hcap _).mono ?_
              rintro e w5 ⟨rfl, rfl⟩
              go_wp2_with (at_builtin; refine KS.appendRow (B := [⟨wr.heap.size, 5, #[.int .u8 kk]⟩]) (C := (RB ++ [⟨b8, 61, #[.int .i64 n, .int .i64 k, .int .i64 (-1), .string ByteArray.empty, .slice ah n ch, .bool false, .int .i64 0, .int .i64 0]⟩, ⟨b5, 110, #[.slice a0 m0 c0, .slice a1 m1 c1]⟩])) HK2.out rfl (.tmp 67) (.tmp 72) 26 rfl elt_byte (by rfl) (row_one _ _ _) _ m _ (bcs l2) (by rfl) (by rw [bcs_len, HML.out]; simp) (fun h => by have := HB2.out.cells.2.1 h; rw [HML.out] at this; exact this) HB2.out.cells.2.2 (bcs_one l2) (by unfold maxLen; omega) (by omega) c.length HCN.out (bcs c) HCC.out (fun ao' cap' B' w7 R7 K7 => ?_); (have HR7 := Lib.hid R7); (have HK7 := Lib.hid K7); clear R7 K7 HK2 HB2 cu lr)
              have hlc : c.length ≤ 201 := by have := HCN.out; omega
              have HCB : Hid (BSl w7 (.slice ao' c.length cap') c) := by
                obtain ⟨L, M⟩ := HK7.out.mem (B := B') (D := (RB ++ [⟨b8, 61, #[.int .i64 n, .int .i64 k, .int .i64 (-1), .string ByteArray.empty, .slice ah n ch, .bool false, .int .i64 0, .int .i64 0]⟩, ⟨b5, 110, #[.slice a0 m0 c0, .slice a1 m1 c1]⟩])) (.refl _)
                exact HR7.out.bsl M
              obtain ⟨G2, HG2⟩ : ∃ G2, Hid (notedG G (nn : Int) c = G2) := ⟨_, rfl⟩
              have HRel2 : Hid (KRel n k G2 ts nn c) := by
                show KRel n k G2 ts nn c
                have h := HRel.out.note c hlc
                rw [← HNK.out, HG2.out] at h
                exact h
              have hold : ¬(G.noted = true ∧ (nn : Int) ≤ G.num) := by have h := HRel.out.old; rw [← HNK.out] at h; exact h
              have hnum : isNum (nn : Int) = true := by simp [isNum]; omega
              refine (knote_to HK7.out (nn : Int) _ c hnum hold (by omega) HCB.out G2 HG2.out).mono ?_
              rintro e w8 ⟨rfl, N8, h8⟩
              have HK8 := Lib.hid h8
              have hcb8 : BSl w8 (.slice ao' c.length cap') c := by
                obtain ⟨L, M⟩ := h8.mem (B := B') (D := (RB ++ [⟨b8, 61, #[.int .i64 n, .int .i64 k, .int .i64 (-1), .string ByteArray.empty, .slice ah n ch, .bool false, .int .i64 0, .int .i64 0]⟩, ⟨b5, 110, #[.slice a0 m0 c0, .slice a1 m1 c1]⟩])) (.refl _)
                exact HR7.out.bsl M
              have hcv : (convert 26 9 (.slice ao' c.length cap')).run Try.prog w8 = .ok (.string { data := c.toArray }) w8 := run_str w8 _ _ _ _ c Try.underlying26 Try.underlying5 Try.underlying9 hcb8
              obtain ⟨dl, HDL⟩ : ∃ dl, Hid (dueL G2 = dl) := ⟨_, rfl⟩
              clear h8 hcb8 HK7 HCB HRel hold hnum HG2 hm hm2 HCN HML HCC
              go_wp2_with fail
              refine (kdue_to HK8.out (by rw [HRel2.out.tow]; omega) dl HDL.out).mono ?_
              rintro e w9 ⟨u9, rfl, hb9, ad, cd, N9, rfl, RD, hN9⟩
              have HK9 : Hid (KS w9 w (N9 ++ (RB ++ [⟨b8, 61, #[.int .i64 n, .int .i64 k, .int .i64 (-1), .string ByteArray.empty, .slice ah n ch, .bool false, .int .i64 0, .int .i64 0]⟩, ⟨b5, 110, #[.slice a0 m0 c0, .slice a1 m1 c1]⟩])) (N8 ++ X) p G2 ts) := KS.dropC (D := B') ((HK8.out.found (Ext.of_below hb9) RD.apart hN9).permC (perm_cnt fun x => by simp only [cnt_append, cnt_cons, cnt_nil] <;> omega))
              have HRD := Lib.hid RD
              have hdl : dl.length ≤ n := by rw [← HDL.out, ← HRel2.out.tow]; exact dueL_len G2
              have HDE : Hid (∀ j, j < dl.length → ∃ d : Nat, dl[j]? = some (d : Int) ∧ d < n) := by
                show ∀ j, _
                intro j hj
                rw [← HDL.out] at hj ⊢
                rw [← HRel2.out.tow]
                exact dueL_get G2 j hj
              clear hb9 RD hN9 HK8 HDL HR7 hcv
              go_wp2_with fail
              go_loopw [18] (fun vj wc => ∃ (j : Nat) (G : GS) (ts : List (Nat × TWS)) (X : List Blk), vj = .int .i64 j ∧ j ≤ dl.length ∧ KRel n k G ts nn c ∧ pts ts = ps ∧ KS wc w (N9 ++ (RB ++ [⟨b8, 61, #[.int .i64 n, .int .i64 k, .int .i64 (-1), .string ByteArray.empty, .slice ah n ch, .bool false, .int .i64 0, .int .i64 0]⟩, ⟨b5, 110, #[.slice a0 m0 c0, .slice a1 m1 c1]⟩])) X p G ts) (fun vj _ => dl.length - (intOf vj).toNat)
              case atStart => exact ⟨0, G2, ts, _, rfl, by omega, HRel2.out, HP.out, HK9.out⟩
              case round =>
                clear HRel2 HP HK9
                obtain ⟨j, G, ts, X, rfl, hj, hRel, hP, hK⟩ := hrel
                have HRel := Lib.hid hRel
                have HP := Lib.hid hP
                have HK := Lib.hid hK
                by_cases hjd : j < dl.length
                · obtain ⟨d, hdj, hdn⟩ := HDE.out j hjd
                  have HDJ : Hid ((ics dl)[j]? = some (.int .i64 (d : Int))) := by show _ = _; simp [ics, hdj]
                  have HJD : Hid (j < dl.length) := hjd
                  have HDN : Hid (d < n) := hdn
                  obtain ⟨LM, hM⟩ := hK.mem (B := N9) (D := (RB ++ [⟨b8, 61, #[.int .i64 n, .int .i64 k, .int .i64 (-1), .string ByteArray.empty, .slice ah n ch, .bool false, .int .i64 0, .int .i64 0]⟩, ⟨b5, 110, #[.slice a0 m0 c0, .slice a1 m1 c1]⟩])) (.refl _)
                  obtain ⟨rd, cd9, e9, -, lrd, hcd⟩ := HRD.out.openP hM (by omega)
                  cases e9
                  have cdj := hcd j _ HDJ.out
                  clear hM hcd
                  obtain ⟨LM, hM⟩ := hK.mem (B := RB) (D := N9 ++ [⟨b8, 61, #[.int .i64 n, .int .i64 k, .int .i64 (-1), .string ByteArray.empty, .slice ah n ch, .bool false, .int .i64 0, .int .i64 0]⟩, ⟨b5, 110, #[.slice a0 m0 c0, .slice a1 m1 c1]⟩]) (perm_cnt fun x => by simp only [cnt_append, cnt_cons, cnt_nil] <;> omega)
                  obtain ⟨rp, cp9, e9, -, lrp, hcp⟩ := HR.out.openP hM (by omega)
                  cases e9
                  clear hM hcp
                  obtain ⟨q, T, hqT⟩ : ∃ q T, ts.getD d dT = (q, T) := ⟨_, _, rfl⟩
                  have HTI : Hid (ts[d]? = some (q, T)) := by have h := hRel.get hdn; rw [hqT] at h; exact h
                  have HTT : Hid (TOk T) := by have h := hRel.tok hdn; rw [hqT] at h; exact h
                  have HPQ : Hid (ps[d]? = some (tptr q)) := by have h := pts_get ts (i := d) (by rw [hRel.len]; exact hdn); rw [hqT, hP] at h; exact h
                  obtain ⟨y1, y2, y3, y4⟩ := hRel.yes HNP.out
                  have hbl : G.box.length ≤ 1000000 := by rw [y4, box_len]; have := hRel.lcl; omega
                  have hd16 : d ≤ 16 := by omega
                  obtain ⟨at_, hat⟩ : ∃ z : Nat, (kk : Int) * 16 + (d : Int) = (z : Int) := ⟨kk * 16 + d, by push_cast; rfl⟩
                  have hat9 : at_ ≤ 1000 := by omega
                  clear hP hK hqT hdj
                  go_wp2_with fail
                  refine (knewest_to HK.out y1 hbl).mono ?_
                  rintro e w10 ⟨u10, rfl, hb10, au, cu, NB, rfl, RN, hNB⟩
                  have HMB : Hid (Msg w NB (.slice au G.box.length cu) G.box) := RN.msg w
                  have HK11 := Lib.hid ((HK.out.found (Ext.of_below hb10) RN.apart hNB).park (cs := #[.int .u8 (by8 G.hint 0), .int .u8 (by8 G.hint 1), .int .u8 (by8 G.hint 2), .int .u8 (by8 G.hint 3), .int .u8 (by8 G.hint 4), .int .u8 (by8 G.hint 5), .int .u8 (by8 G.hint 6), .int .u8 (by8 G.hint 7), .int .i64 G.num, .slice au G.box.length cu]) (t := 29) (b := w10.heap.size) rfl)
                  obtain ⟨LM, hM⟩ := HK11.out.mem (B := N9) (D := ⟨w10.heap.size, 29, #[.int .u8 (by8 G.hint 0), .int .u8 (by8 G.hint 1), .int .u8 (by8 G.hint 2), .int .u8 (by8 G.hint 3), .int .u8 (by8 G.hint 4), .int .u8 (by8 G.hint 5), .int .u8 (by8 G.hint 6), .int .u8 (by8 G.hint 7), .int .i64 G.num, .slice au G.box.length cu]⟩ :: (NB ++ (RB ++ [⟨b8, 61, #[.int .i64 n, .int .i64 k, .int .i64 (-1), .string ByteArray.empty, .slice ah n ch, .bool false, .int .i64 0, .int .i64 0]⟩, ⟨b5, 110, #[.slice a0 m0 c0, .slice a1 m1 c1]⟩]))) (perm_cnt fun x => by simp only [cnt_append, cnt_cons, cnt_nil] <;> omega)
                  obtain ⟨rd9, cd9, e9, -, lrd2, hcd2⟩ := HRD.out.openP hM (by omega)
                  cases e9
                  have cdj2 := hcd2 j _ HDJ.out
                  clear hM hcd2
                  (have hq := HK11.out.has (b := b5) (t := 110) (cs := #[.slice a0 m0 c0, .slice a1 m1 c1]) (by simp)); (have f50 := hq.cell 0); (have lf5 := hq.lt); (simp only [List.getElem?_toArray, List.getElem?_cons_succ, List.getElem?_cons_zero] at f50); clear hq
                  clear hb10 RN hNB cdj lrd y1 y2 y3 y4 hRel
                  by_cases hsk : at_ < m0
                  · obtain ⟨rf, of_, hf0, hlf, hcf⟩ : ∃ r o, a0 = some ⟨r, o, none⟩ ∧ r < w.heap.size ∧ w.cell? ⟨r, o + at_, none⟩ = some (.bool (b0 at_)) := by
                      obtain ⟨ao2, cap2, e2, -, h3⟩ := HF0.out
                      cases e2
                      rcases h3 with h3 | ⟨r, o, e, hlt', hc⟩
                      · omega
                      · refine ⟨r, o, e, hlt', ?_⟩
                        have := hc at_ hsk 0 _ rfl
                        simpa using this
                    subst hf0
                    have cf : (w10.alloc (.cells #[.int .u8 (by8 G.hint 0), .int .u8 (by8 G.hint 1), .int .u8 (by8 G.hint 2), .int .u8 (by8 G.hint 3), .int .u8 (by8 G.hint 4), .int .u8 (by8 G.hint 5), .int .u8 (by8 G.hint 6), .int .u8 (by8 G.hint 7), .int .i64 G.num, .slice au G.box.length cu] 29)).cell? ⟨rf, of_ + at_, none⟩ = some (.bool (b0 at_)) := by rw [← hcf]; exact World.cell?_of_block (a := ⟨rf, _, none⟩) (HK11.out.below.block _ hlf)
                    have lf : rf < (w10.alloc (.cells #[.int .u8 (by8 G.hint 0), .int .u8 (by8 G.hint 1), .int .u8 (by8 G.hint 2), .int .u8 (by8 G.hint 3), .int .u8 (by8 G.hint 4), .int .u8 (by8 G.hint 5), .int .u8 (by8 G.hint 6), .int .u8 (by8 G.hint 7), .int .i64 G.num, .slice au G.box.length cu] 29)).heap.size := Nat.lt_of_lt_of_le hlf HK11.out.below.size
                    cases hb0 : b0 at_ with
                    | true =>
                      rw [hb0] at cf
                      go_wp2
                      exact ⟨⟨j + 1, G, ts, X, by simp, by omega, HRel.out, HP.out, KS.dropC (D := ⟨w10.heap.size, 29, #[.int .u8 (by8 G.hint 0), .int .u8 (by8 G.hint 1), .int .u8 (by8 G.hint 2), .int .u8 (by8 G.hint 3), .int .u8 (by8 G.hint 4), .int .u8 (by8 G.hint 5), .int .u8 (by8 G.hint 6), .int .u8 (by8 G.hint 7), .int .i64 G.num, .slice au G.box.length cu]⟩ :: NB) HK11.out⟩, by simp [intOf]; omega⟩
                    | false =>
                      rw [hb0] at cf
                      go_wp2_with fail
                      obtain ⟨b19, hb19⟩ : ∃ b, b = w10.heap.size := ⟨_, rfl⟩
                      simp only [← hb19] at HK11 ⊢
                      clear hb19
                      have HK7 := HK11
                      have HRP := HR
                      rcases HRel.out.take HNP.out hnn7 HDN.out HTI.out with ⟨hs1, hE, hT, hse⟩ | ⟨hs1, hE, T', hT, hR3⟩
                      · have HE := Lib.hid hE
                        have HT' := Lib.hid hT
                        have HSE := Lib.hid hse
                        clear hs1 hE hT hse
                        refine wp_region_o2 [120, 121, 122, 123, 124, 125, 126, 127, 128, 129, 130, 131, 132, 133, 134, 135, 136, 137, 138, 139, 140] (fun L (_ : Unit) => [(L 0, 120, .slice (some ⟨rp, 0, none⟩) n cr), (L 1, 121, .slice (some ⟨rd, 0, none⟩) dl.length cd), (L 2, 122, .int .i64 j), (L 3, 123, .pointer (some ⟨rd, j, none⟩)), (L 4, 124, .int .i64 d), (L 5, 125, .pointer (some ⟨rp, d, none⟩)), (L 6, 126, tptr q), (L 7, 127, .agg #[.int .u8 (by8 G.hint 0), .int .u8 (by8 G.hint 1), .int .u8 (by8 G.hint 2), .int .u8 (by8 G.hint 3), .int .u8 (by8 G.hint 4), .int .u8 (by8 G.hint 5), .int .u8 (by8 G.hint 6), .int .u8 (by8 G.hint 7), .int .i64 G.num, .slice au G.box.length cu]), (L 8, 128, .int .i64 18), (L 9, 129, .bool false), (L 10, 130, .bool false), (L 11, 131, undef), (L 12, 132, undef), (L 13, 133, undef), (L 14, 134, undef), (L 15, 135, undef), (L 16, 136, undef), (L 17, 137, undef), (L 18, 138, undef), (L 19, 139, undef), (L 20, 140, .bool false)])
                          (fun L _ W => ∃ N : List Blk, KS W w (⟨b19, 29, #[.int .u8 (by8 G.hint 0), .int .u8 (by8 G.hint 1), .int .u8 (by8 G.hint 2), .int .u8 (by8 G.hint 3), .int .u8 (by8 G.hint 4), .int .u8 (by8 G.hint 5), .int .u8 (by8 G.hint 6), .int .u8 (by8 G.hint 7), .int .i64 G.num, .slice au G.box.length cu]⟩ :: (NB ++ (N9 ++ (RB ++ [⟨b8, 61, #[.int .i64 n, .int .i64 k, .int .i64 (-1), .string ByteArray.empty, .slice ah n ch, .bool false, .int .i64 0, .int .i64 0]⟩, ⟨b5, 110, #[.slice (some ⟨rf, of_, none⟩) m0 c0, .slice a1 m1 c1]⟩])))) (N ++ X) p G ts) () (by kernel_rfl) (by kernel_rfl) 215 (by rfl) (fun _ _ => rfl) (by kernel_rfl) (by kernel_rfl) (by kernel_rfl) (by rfl) ⟨[], by simpa using HK7.out.drew⟩ ?_ ⟨?_, ?_, ?_, ?_, ?_, ?_, ?_, ?_, ?_, ?_, ?_, ?_, ?_, ?_, ?_, ?_, ?_, ?_, ?_, ?_, ?_, trivial⟩
                        rotate_left
                        · (intro L x W hW hC hL hd B K hB hK; (try simp [depsB, Region.binds] at hd); (try simp only [Nat.reduceAdd] at hK hL); (have e9 := hB.out 9); (simp (decide := true) only [look, if_true, if_false, hd, cond_true, cond_false, Array.getD_eq_getD_getElem?, List.getElem?_toArray, List.getElem?_cons_succ, List.getElem?_cons_zero, Option.getD_some] at e9); go_simp; exact hK.out (.slice (some ⟨rp, 0, none⟩) n cr) () W (by simp (decide := true) [putO, setF, upd]) hW)
                        · (intro L x W hW hC hL hd B K hB hK; (try simp [depsB, Region.binds] at hd); (try simp only [Nat.reduceAdd] at hK hL); (have e17 := hB.out 17); (simp (decide := true) only [look, if_true, if_false, hd, cond_true, cond_false, Array.getD_eq_getD_getElem?, List.getElem?_toArray, List.getElem?_cons_succ, List.getElem?_cons_zero, Option.getD_some] at e17); go_simp; exact hK.out (.slice (some ⟨rd, 0, none⟩) dl.length cd) () W (by simp (decide := true) [putO, setF, upd]) hW)
                        · (intro L x W hW hC hL hd B K hB hK; (try simp [depsB, Region.binds] at hd); (try simp only [Nat.reduceAdd] at hK hL); (have e18 := hB.out 18); (simp (decide := true) only [look, if_true, if_false, hd, cond_true, cond_false, Array.getD_eq_getD_getElem?, List.getElem?_toArray, List.getElem?_cons_succ, List.getElem?_cons_zero, Option.getD_some] at e18); go_simp; exact hK.out (.int .i64 j) () W (by simp (decide := true) [putO, setF, upd]) hW)
                        · (intro L x W hW hC hL hd B K hB hK; (try simp [depsB, Region.binds] at hd); (try simp only [Nat.reduceAdd] at hK hL); (have e121 := hB.out 121); (simp (decide := true) only [look, if_true, if_false, hd, cond_true, cond_false, Array.getD_eq_getD_getElem?, List.getElem?_toArray, List.getElem?_cons_succ, List.getElem?_cons_zero, Option.getD_some] at e121); (have e122 := hB.out 122); (simp (decide := true) only [look, if_true, if_false, hd, cond_true, cond_false, Array.getD_eq_getD_getElem?, List.getElem?_toArray, List.getElem?_cons_succ, List.getElem?_cons_zero, Option.getD_some] at e122); (have hjd := HJD.out); go_simp; exact hK.out (.pointer (some ⟨rd, j, none⟩)) () W (by simp (decide := true) [putO, setF, upd]) hW)
                        · (intro L x W hW hC hL hd B K hB hK; (try simp [depsB, Region.binds] at hd); (try simp only [Nat.reduceAdd] at hK hL); (have e123 := hB.out 123); (simp (decide := true) only [look, if_true, if_false, hd, cond_true, cond_false, Array.getD_eq_getD_getElem?, List.getElem?_toArray, List.getElem?_cons_succ, List.getElem?_cons_zero, Option.getD_some] at e123); (have hjd := HJD.out); (have hW0 := hW); (obtain ⟨N, hN⟩ := hW0); (obtain ⟨LM, hM⟩ := hN.mem (B := N9) (D := ⟨b19, 29, #[.int .u8 (by8 G.hint 0), .int .u8 (by8 G.hint 1), .int .u8 (by8 G.hint 2), .int .u8 (by8 G.hint 3), .int .u8 (by8 G.hint 4), .int .u8 (by8 G.hint 5), .int .u8 (by8 G.hint 6), .int .u8 (by8 G.hint 7), .int .i64 G.num, .slice au G.box.length cu]⟩ :: (NB ++ (RB ++ [⟨b8, 61, #[.int .i64 n, .int .i64 k, .int .i64 (-1), .string ByteArray.empty, .slice ah n ch, .bool false, .int .i64 0, .int .i64 0]⟩, ⟨b5, 110, #[.slice (some ⟨rf, of_, none⟩) m0 c0, .slice a1 m1 c1]⟩]))) (perm_cnt fun x => by simp only [cnt_append, cnt_cons, cnt_nil] <;> omega)); (obtain ⟨r9, c9, e9, -, lt9, hc9⟩ := HRD.out.openP hM (by omega)); (cases e9); (have cd9 := hc9 j _ HDJ.out); clear hM hc9 hN; go_simp; exact hK.out (.int .i64 d) () W (by simp (decide := true) [putO, setF, upd]) hW)
                        · (intro L x W hW hC hL hd B K hB hK; (try simp [depsB, Region.binds] at hd); (try simp only [Nat.reduceAdd] at hK hL); (have e120 := hB.out 120); (simp (decide := true) only [look, if_true, if_false, hd, cond_true, cond_false, Array.getD_eq_getD_getElem?, List.getElem?_toArray, List.getElem?_cons_succ, List.getElem?_cons_zero, Option.getD_some] at e120); (have e124 := hB.out 124); (simp (decide := true) only [look, if_true, if_false, hd, cond_true, cond_false, Array.getD_eq_getD_getElem?, List.getElem?_toArray, List.getElem?_cons_succ, List.getElem?_cons_zero, Option.getD_some] at e124); (have hdn := HDN.out); go_simp; exact hK.out (.pointer (some ⟨rp, d, none⟩)) () W (by simp (decide := true) [putO, setF, upd]) hW)
                        · (intro L x W hW hC hL hd B K hB hK; (try simp [depsB, Region.binds] at hd); (try simp only [Nat.reduceAdd] at hK hL); (have e125 := hB.out 125); (simp (decide := true) only [look, if_true, if_false, hd, cond_true, cond_false, Array.getD_eq_getD_getElem?, List.getElem?_toArray, List.getElem?_cons_succ, List.getElem?_cons_zero, Option.getD_some] at e125); (have hjd := HJD.out); (have hW0 := hW); (obtain ⟨N, hN⟩ := hW0); (obtain ⟨LM, hM⟩ := hN.mem (B := RB) (D := ⟨b19, 29, #[.int .u8 (by8 G.hint 0), .int .u8 (by8 G.hint 1), .int .u8 (by8 G.hint 2), .int .u8 (by8 G.hint 3), .int .u8 (by8 G.hint 4), .int .u8 (by8 G.hint 5), .int .u8 (by8 G.hint 6), .int .u8 (by8 G.hint 7), .int .i64 G.num, .slice au G.box.length cu]⟩ :: (NB ++ (N9 ++ [⟨b8, 61, #[.int .i64 n, .int .i64 k, .int .i64 (-1), .string ByteArray.empty, .slice ah n ch, .bool false, .int .i64 0, .int .i64 0]⟩, ⟨b5, 110, #[.slice (some ⟨rf, of_, none⟩) m0 c0, .slice a1 m1 c1]⟩]))) (perm_cnt fun x => by simp only [cnt_append, cnt_cons, cnt_nil] <;> omega)); (obtain ⟨r9, c9, e9, -, lt9, hc9⟩ := HRP.out.openP hM (by omega)); (cases e9); (have cp9 := hc9 d _ HPQ.out); clear hM hc9 hN; go_simp; exact hK.out (tptr q) () W (by simp (decide := true) [putO, setF, upd]) hW)
                        · (intro L x W hW hC hL hd B K hB hK; (try simp [depsB, Region.binds] at hd); (try simp only [Nat.reduceAdd] at hK hL); (have e19 := hB.out 19); (simp (decide := true) only [look, if_true, if_false, hd, cond_true, cond_false, Array.getD_eq_getD_getElem?, List.getElem?_toArray, List.getElem?_cons_succ, List.getElem?_cons_zero, Option.getD_some] at e19); (have hW0 := hW); (obtain ⟨N, hN⟩ := hW0); (have hq := hN.has (b := b19) (t := 29) (cs := #[.int .u8 (by8 G.hint 0), .int .u8 (by8 G.hint 1), .int .u8 (by8 G.hint 2), .int .u8 (by8 G.hint 3), .int .u8 (by8 G.hint 4), .int .u8 (by8 G.hint 5), .int .u8 (by8 G.hint 6), .int .u8 (by8 G.hint 7), .int .i64 G.num, .slice au G.box.length cu]) (by simp)); (have q0 := hq.cell 0); (have q1 := hq.cell 1); (have q2 := hq.cell 2); (have q3 := hq.cell 3); (have q4 := hq.cell 4); (have q5 := hq.cell 5); (have q6 := hq.cell 6); (have q7 := hq.cell 7); (have q8 := hq.cell 8); (have q9 := hq.cell 9); (have lq := hq.lt); (simp only [List.getElem?_toArray, List.getElem?_cons_succ, List.getElem?_cons_zero] at q0 q1 q2 q3 q4 q5 q6 q7 q8 q9); clear hq hN; go_simp; exact hK.out (.agg #[.int .u8 (by8 G.hint 0), .int .u8 (by8 G.hint 1), .int .u8 (by8 G.hint 2), .int .u8 (by8 G.hint 3), .int .u8 (by8 G.hint 4), .int .u8 (by8 G.hint 5), .int .u8 (by8 G.hint 6), .int .u8 (by8 G.hint 7), .int .i64 G.num, .slice au G.box.length cu]) () W (by simp (decide := true) [putO, setF, upd]) hW)
                        · intro L x W hW hC hL hd B K hB hK; (try simp [depsB, Region.binds] at hd); (try simp only [Nat.reduceAdd] at hK hL)
                          (have e126 := hB.out 126); (simp (decide := true) only [look, if_true, if_false, hd, cond_true, cond_false, Array.getD_eq_getD_getElem?, List.getElem?_toArray, List.getElem?_cons_succ, List.getElem?_cons_zero, Option.getD_some] at e126); (have e127 := hB.out 127); (simp (decide := true) only [look, if_true, if_false, hd, cond_true, cond_false, Array.getD_eq_getD_getElem?, List.getElem?_toArray, List.getElem?_cons_succ, List.getElem?_cons_zero, Option.getD_some] at e127)
                          obtain ⟨N, hN⟩ := hW
                          have hbs : BSl W (.slice au G.box.length cu) G.box := by
                            obtain ⟨_, _, _, hO, _, _⟩ := hN
                            exact HMB.out.bsl hO.ow (by intro z hz; simp [hz])
                          refine wp_call_in 21 (by rfl) (by kernel_rfl) #[tptr q, .agg #[.int .u8 (by8 G.hint 0), .int .u8 (by8 G.hint 1), .int .u8 (by8 G.hint 2), .int .u8 (by8 G.hint 3), .int .u8 (by8 G.hint 4), .int .u8 (by8 G.hint 5), .int .u8 (by8 G.hint 6), .int .u8 (by8 G.hint 7), .int .i64 G.num, .slice au G.box.length cu]] (by simp [Act.eval, e126, e127]) ((ktake_to hN HTI.out HTT.out G.hint G.num _ G.box hbs 18 HE.out T HT'.out).mono ?_)
                          rintro e W4 ⟨rfl, N4, h4⟩
                          refine ⟨_, rfl, ?_⟩
                          rw [HSE.out] at h4
                          exact hK.out (.int .i64 18) () W4 (by simp (decide := true) [putO, setF, upd]) ⟨N4 ++ N, by simpa using h4⟩
                        · (intro L x W hW hC hL hd B K hB hK; (try simp [depsB, Region.binds] at hd); (try simp only [Nat.reduceAdd] at hK hL); (have e128 := hB.out 128); (simp (decide := true) only [look, if_true, if_false, hd, cond_true, cond_false, Array.getD_eq_getD_getElem?, List.getElem?_toArray, List.getElem?_cons_succ, List.getElem?_cons_zero, Option.getD_some] at e128); go_simp; exact hK.out (.bool false) () W (by simp (decide := true) [putO, setF, upd]) hW)
                        · (intro L x W hW hC hL hd B K hB hK; (try simp [depsB, Region.binds] at hd); (try simp only [Nat.reduceAdd] at hK hL); (have e129 := hB.out 129); (simp (decide := true) only [look, if_true, if_false, hd, cond_true, cond_false, Array.getD_eq_getD_getElem?, List.getElem?_toArray, List.getElem?_cons_succ, List.getElem?_cons_zero, Option.getD_some] at e129); go_simp; exact hK.out (.bool false) () W (by simp (decide := true) [putO, setF, upd]) hW)
                        · (intro L x W hW hC hL hd B K hB hK; (try simp [depsB, Region.binds] at hd); (try simp only [Nat.reduceAdd] at hK hL); (have e130 := hB.out 130); (simp (decide := true) only [look, if_true, if_false, hd, cond_true, cond_false] at e130); (try dsimp only); rw [if_neg (by rw [wanted_B rfl rfl e130]; decide)]; exact hK.out (undef) () W (by simp (decide := true) [putO, setF, upd]) hW)
                        · (intro L x W hW hC hL hd B K hB hK; (try simp [depsB, Region.binds] at hd); (try simp only [Nat.reduceAdd] at hK hL); (have e130 := hB.out 130); (simp (decide := true) only [look, if_true, if_false, hd, cond_true, cond_false] at e130); (try dsimp only); rw [if_neg (by rw [wanted_B rfl rfl e130]; decide)]; exact hK.out (undef) () W (by simp (decide := true) [putO, setF, upd]) hW)
                        · (intro L x W hW hC hL hd B K hB hK; (try simp [depsB, Region.binds] at hd); (try simp only [Nat.reduceAdd] at hK hL); (have e130 := hB.out 130); (simp (decide := true) only [look, if_true, if_false, hd, cond_true, cond_false] at e130); (try dsimp only); rw [if_neg (by rw [wanted_B rfl rfl e130]; decide)]; exact hK.out (undef) () W (by simp (decide := true) [putO, setF, upd]) hW)
                        · (intro L x W hW hC hL hd B K hB hK; (try simp [depsB, Region.binds] at hd); (try simp only [Nat.reduceAdd] at hK hL); (have e130 := hB.out 130); (simp (decide := true) only [look, if_true, if_false, hd, cond_true, cond_false] at e130); (try dsimp only); rw [if_neg (by rw [wanted_B rfl rfl e130]; decide)]; exact hK.out (undef) () W (by simp (decide := true) [putO, setF, upd]) hW)
                        · (intro L x W hW hC hL hd B K hB hK; (try simp [depsB, Region.binds] at hd); (try simp only [Nat.reduceAdd] at hK hL); (have e130 := hB.out 130); (simp (decide := true) only [look, if_true, if_false, hd, cond_true, cond_false] at e130); (try dsimp only); rw [if_neg (by rw [wanted_B rfl rfl e130]; decide)]; exact hK.out (undef) () W (by simp (decide := true) [putO, setF, upd]) hW)
                        · (intro L x W hW hC hL hd B K hB hK; (try simp [depsB, Region.binds] at hd); (try simp only [Nat.reduceAdd] at hK hL); (have e130 := hB.out 130); (simp (decide := true) only [look, if_true, if_false, hd, cond_true, cond_false] at e130); (try dsimp only); rw [if_neg (by rw [wanted_B rfl rfl e130]; decide)]; exact hK.out (undef) () W (by simp (decide := true) [putO, setF, upd]) hW)
                        · (intro L x W hW hC hL hd B K hB hK; (try simp [depsB, Region.binds] at hd); (try simp only [Nat.reduceAdd] at hK hL); (have e130 := hB.out 130); (simp (decide := true) only [look, if_true, if_false, hd, cond_true, cond_false] at e130); (try dsimp only); rw [if_neg (by rw [wanted_B rfl rfl e130]; decide)]; exact hK.out (undef) () W (by simp (decide := true) [putO, setF, upd]) hW)
                        · (intro L x W hW hC hL hd B K hB hK; (try simp [depsB, Region.binds] at hd); (try simp only [Nat.reduceAdd] at hK hL); (have e130 := hB.out 130); (simp (decide := true) only [look, if_true, if_false, hd, cond_true, cond_false] at e130); (try dsimp only); rw [if_neg (by rw [wanted_B rfl rfl e130]; decide)]; exact hK.out (undef) () W (by simp (decide := true) [putO, setF, upd]) hW)
                        · (intro L x W hW hC hL hd B K hB hK; (try simp [depsB, Region.binds] at hd); (try simp only [Nat.reduceAdd] at hK hL); (have e130 := hB.out 130); (simp (decide := true) only [look, if_true, if_false, hd, cond_true, cond_false] at e130); (try dsimp only); rw [if_neg (by rw [wanted_B rfl rfl e130]; decide)]; exact hK.out (undef) () W (by simp (decide := true) [putO, setF, upd]) hW)
                        · (intro L x W hW hC hL hd B K hB hK; (try simp [depsB, Region.binds] at hd); (try simp only [Nat.reduceAdd] at hK hL); (have e130 := hB.out 130); (simp (decide := true) only [look, if_true, if_false, hd, cond_true, cond_false, Array.getD_eq_getD_getElem?, List.getElem?_toArray, List.getElem?_cons_succ, List.getElem?_cons_zero, Option.getD_some] at e130); (have e139 := hB.out 139); (simp (decide := true) only [look, if_true, if_false, hd, cond_true, cond_false, Array.getD_eq_getD_getElem?, List.getElem?_toArray, List.getElem?_cons_succ, List.getElem?_cons_zero, Option.getD_some] at e139); go_simp; exact hK.out (.bool false) () W (by simp (decide := true) [putO, setF, upd]) hW)
                        intro _ W9 hW9
                        simp only [ovl, cond_true, Array.getD_eq_getD_getElem?, List.getElem?_toArray, List.getElem?_cons_succ, List.getElem?_cons_zero, Option.getD_some, List.setIfInBounds_toArray, List.set_cons_zero, List.set_cons_succ]
                        (try simp only [cond_true] at hW9)
                        obtain ⟨N27, h27⟩ := hW9
                        have HK27 := Lib.hid h27
                        clear h27
                        go_wp2
                        exact ⟨⟨j + 1, G, ts, _, by simp, by omega, HRel.out, HP.out, KS.dropC (D := ⟨b19, 29, #[.int .u8 (by8 G.hint 0), .int .u8 (by8 G.hint 1), .int .u8 (by8 G.hint 2), .int .u8 (by8 G.hint 3), .int .u8 (by8 G.hint 4), .int .u8 (by8 G.hint 5), .int .u8 (by8 G.hint 6), .int .u8 (by8 G.hint 7), .int .i64 G.num, .slice au G.box.length cu]⟩ :: NB) HK27.out⟩, by simp [intOf]; omega⟩
                      · have HE := Lib.hid hE
                        have HT' := Lib.hid hT
                        have HSD := Lib.hid hs1
                        have HR3 := Lib.hid hR3
                        clear hs1 hE hT hR3
                        refine wp_region_o2 [120, 121, 122, 123, 124, 125, 126, 127, 128, 129, 130, 131, 132, 133, 134, 135, 136, 137, 138, 139, 140] (fun L (_ : Unit) => [(L 0, 120, .slice (some ⟨rp, 0, none⟩) n cr), (L 1, 121, .slice (some ⟨rd, 0, none⟩) dl.length cd), (L 2, 122, .int .i64 j), (L 3, 123, .pointer (some ⟨rd, j, none⟩)), (L 4, 124, .int .i64 d), (L 5, 125, .pointer (some ⟨rp, d, none⟩)), (L 6, 126, tptr q), (L 7, 127, .agg #[.int .u8 (by8 G.hint 0), .int .u8 (by8 G.hint 1), .int .u8 (by8 G.hint 2), .int .u8 (by8 G.hint 3), .int .u8 (by8 G.hint 4), .int .u8 (by8 G.hint 5), .int .u8 (by8 G.hint 6), .int .u8 (by8 G.hint 7), .int .i64 G.num, .slice au G.box.length cu]), (L 8, 128, .int .i64 0), (L 9, 129, .bool true), (L 10, 130, .bool true), (L 11, 131, ptr p), (L 12, 132, .slice (some ⟨rd, 0, none⟩) dl.length cd), (L 13, 133, .int .i64 j), (L 14, 134, .pointer (some ⟨rd, j, none⟩)), (L 15, 135, .int .i64 d), (L 16, 136, .pointer (some ⟨b19, 8, none⟩)), (L 17, 137, .int .i64 G.num), (L 18, 138, .int .i64 0), (L 19, 139, .bool false), (L 20, 140, .bool false)])
                          (fun L _ W => ∃ N : List Blk, KS W w (⟨b19, 29, #[.int .u8 (by8 G.hint 0), .int .u8 (by8 G.hint 1), .int .u8 (by8 G.hint 2), .int .u8 (by8 G.hint 3), .int .u8 (by8 G.hint 4), .int .u8 (by8 G.hint 5), .int .u8 (by8 G.hint 6), .int .u8 (by8 G.hint 7), .int .i64 G.num, .slice au G.box.length cu]⟩ :: (NB ++ (N9 ++ (RB ++ [⟨b8, 61, #[.int .i64 n, .int .i64 k, .int .i64 (-1), .string ByteArray.empty, .slice ah n ch, .bool false, .int .i64 0, .int .i64 0]⟩, ⟨b5, 110, #[.slice (some ⟨rf, of_, none⟩) m0 c0, .slice a1 m1 c1]⟩])))) (N ++ X) p (bif L 18 then G.say d G.num else G) (bif L 8 then ts.set d (q, T') else ts)) () (by kernel_rfl) (by kernel_rfl) 215 (by rfl) (fun _ _ => rfl) (by kernel_rfl) (by kernel_rfl) (by kernel_rfl) (by rfl) ⟨[], by simpa using HK7.out.drew⟩ ?_ ⟨?_, ?_, ?_, ?_, ?_, ?_, ?_, ?_, ?_, ?_, ?_, ?_, ?_, ?_, ?_, ?_, ?_, ?_, ?_, ?_, ?_, trivial⟩
                        rotate_left
                        · (intro L x W hW hC hL hd B K hB hK; (try simp [depsB, Region.binds] at hd); (try simp only [Nat.reduceAdd] at hK hL); (have e9 := hB.out 9); (simp (decide := true) only [look, if_true, if_false, hd, cond_true, cond_false, Array.getD_eq_getD_getElem?, List.getElem?_toArray, List.getElem?_cons_succ, List.getElem?_cons_zero, Option.getD_some] at e9); go_simp; exact hK.out (.slice (some ⟨rp, 0, none⟩) n cr) () W (by simp (decide := true) [putO, setF, upd]) hW)
                        · (intro L x W hW hC hL hd B K hB hK; (try simp [depsB, Region.binds] at hd); (try simp only [Nat.reduceAdd] at hK hL); (have e17 := hB.out 17); (simp (decide := true) only [look, if_true, if_false, hd, cond_true, cond_false, Array.getD_eq_getD_getElem?, List.getElem?_toArray, List.getElem?_cons_succ, List.getElem?_cons_zero, Option.getD_some] at e17); go_simp; exact hK.out (.slice (some ⟨rd, 0, none⟩) dl.length cd) () W (by simp (decide := true) [putO, setF, upd]) hW)
                        · (intro L x W hW hC hL hd B K hB hK; (try simp [depsB, Region.binds] at hd); (try simp only [Nat.reduceAdd] at hK hL); (have e18 := hB.out 18); (simp (decide := true) only [look, if_true, if_false, hd, cond_true, cond_false, Array.getD_eq_getD_getElem?, List.getElem?_toArray, List.getElem?_cons_succ, List.getElem?_cons_zero, Option.getD_some] at e18); go_simp; exact hK.out (.int .i64 j) () W (by simp (decide := true) [putO, setF, upd]) hW)
                        · (intro L x W hW hC hL hd B K hB hK; (try simp [depsB, Region.binds] at hd); (try simp only [Nat.reduceAdd] at hK hL); (have e121 := hB.out 121); (simp (decide := true) only [look, if_true, if_false, hd, cond_true, cond_false, Array.getD_eq_getD_getElem?, List.getElem?_toArray, List.getElem?_cons_succ, List.getElem?_cons_zero, Option.getD_some] at e121); (have e122 := hB.out 122); (simp (decide := true) only [look, if_true, if_false, hd, cond_true, cond_false, Array.getD_eq_getD_getElem?, List.getElem?_toArray, List.getElem?_cons_succ, List.getElem?_cons_zero, Option.getD_some] at e122); (have hjd := HJD.out); go_simp; exact hK.out (.pointer (some ⟨rd, j, none⟩)) () W (by simp (decide := true) [putO, setF, upd]) hW)
                        · (intro L x W hW hC hL hd B K hB hK; (try simp [depsB, Region.binds] at hd); (try simp only [Nat.reduceAdd] at hK hL); (have e123 := hB.out 123); (simp (decide := true) only [look, if_true, if_false, hd, cond_true, cond_false, Array.getD_eq_getD_getElem?, List.getElem?_toArray, List.getElem?_cons_succ, List.getElem?_cons_zero, Option.getD_some] at e123); (have hjd := HJD.out); (have hW0 := hW); (obtain ⟨N, hN⟩ := hW0); (obtain ⟨LM, hM⟩ := hN.mem (B := N9) (D := ⟨b19, 29, #[.int .u8 (by8 G.hint 0), .int .u8 (by8 G.hint 1), .int .u8 (by8 G.hint 2), .int .u8 (by8 G.hint 3), .int .u8 (by8 G.hint 4), .int .u8 (by8 G.hint 5), .int .u8 (by8 G.hint 6), .int .u8 (by8 G.hint 7), .int .i64 G.num, .slice au G.box.length cu]⟩ :: (NB ++ (RB ++ [⟨b8, 61, #[.int .i64 n, .int .i64 k, .int .i64 (-1), .string ByteArray.empty, .slice ah n ch, .bool false, .int .i64 0, .int .i64 0]⟩, ⟨b5, 110, #[.slice (some ⟨rf, of_, none⟩) m0 c0, .slice a1 m1 c1]⟩]))) (perm_cnt fun x => by simp only [cnt_append, cnt_cons, cnt_nil] <;> omega)); (obtain ⟨r9, c9, e9, -, lt9, hc9⟩ := HRD.out.openP hM (by omega)); (cases e9); (have cd9 := hc9 j _ HDJ.out); clear hM hc9 hN; go_simp; exact hK.out (.int .i64 d) () W (by simp (decide := true) [putO, setF, upd]) hW)
                        · (intro L x W hW hC hL hd B K hB hK; (try simp [depsB, Region.binds] at hd); (try simp only [Nat.reduceAdd] at hK hL); (have e120 := hB.out 120); (simp (decide := true) only [look, if_true, if_false, hd, cond_true, cond_false, Array.getD_eq_getD_getElem?, List.getElem?_toArray, List.getElem?_cons_succ, List.getElem?_cons_zero, Option.getD_some] at e120); (have e124 := hB.out 124); (simp (decide := true) only [look, if_true, if_false, hd, cond_true, cond_false, Array.getD_eq_getD_getElem?, List.getElem?_toArray, List.getElem?_cons_succ, List.getElem?_cons_zero, Option.getD_some] at e124); (have hdn := HDN.out); go_simp; exact hK.out (.pointer (some ⟨rp, d, none⟩)) () W (by simp (decide := true) [putO, setF, upd]) hW)
                        · (intro L x W hW hC hL hd B K hB hK; (try simp [depsB, Region.binds] at hd); (try simp only [Nat.reduceAdd] at hK hL); (have e125 := hB.out 125); (simp (decide := true) only [look, if_true, if_false, hd, cond_true, cond_false, Array.getD_eq_getD_getElem?, List.getElem?_toArray, List.getElem?_cons_succ, List.getElem?_cons_zero, Option.getD_some] at e125); (have hjd := HJD.out); (have hW0 := hW); (obtain ⟨N, hN⟩ := hW0); (obtain ⟨LM, hM⟩ := hN.mem (B := RB) (D := ⟨b19, 29, #[.int .u8 (by8 G.hint 0), .int .u8 (by8 G.hint 1), .int .u8 (by8 G.hint 2), .int .u8 (by8 G.hint 3), .int .u8 (by8 G.hint 4), .int .u8 (by8 G.hint 5), .int .u8 (by8 G.hint 6), .int .u8 (by8 G.hint 7), .int .i64 G.num, .slice au G.box.length cu]⟩ :: (NB ++ (N9 ++ [⟨b8, 61, #[.int .i64 n, .int .i64 k, .int .i64 (-1), .string ByteArray.empty, .slice ah n ch, .bool false, .int .i64 0, .int .i64 0]⟩, ⟨b5, 110, #[.slice (some ⟨rf, of_, none⟩) m0 c0, .slice a1 m1 c1]⟩]))) (perm_cnt fun x => by simp only [cnt_append, cnt_cons, cnt_nil] <;> omega)); (obtain ⟨r9, c9, e9, -, lt9, hc9⟩ := HRP.out.openP hM (by omega)); (cases e9); (have cp9 := hc9 d _ HPQ.out); clear hM hc9 hN; go_simp; exact hK.out (tptr q) () W (by simp (decide := true) [putO, setF, upd]) hW)
                        · (intro L x W hW hC hL hd B K hB hK; (try simp [depsB, Region.binds] at hd); (try simp only [Nat.reduceAdd] at hK hL); (have e19 := hB.out 19); (simp (decide := true) only [look, if_true, if_false, hd, cond_true, cond_false, Array.getD_eq_getD_getElem?, List.getElem?_toArray, List.getElem?_cons_succ, List.getElem?_cons_zero, Option.getD_some] at e19); (have hW0 := hW); (obtain ⟨N, hN⟩ := hW0); (have hq := hN.has (b := b19) (t := 29) (cs := #[.int .u8 (by8 G.hint 0), .int .u8 (by8 G.hint 1), .int .u8 (by8 G.hint 2), .int .u8 (by8 G.hint 3), .int .u8 (by8 G.hint 4), .int .u8 (by8 G.hint 5), .int .u8 (by8 G.hint 6), .int .u8 (by8 G.hint 7), .int .i64 G.num, .slice au G.box.length cu]) (by simp)); (have q0 := hq.cell 0); (have q1 := hq.cell 1); (have q2 := hq.cell 2); (have q3 := hq.cell 3); (have q4 := hq.cell 4); (have q5 := hq.cell 5); (have q6 := hq.cell 6); (have q7 := hq.cell 7); (have q8 := hq.cell 8); (have q9 := hq.cell 9); (have lq := hq.lt); (simp only [List.getElem?_toArray, List.getElem?_cons_succ, List.getElem?_cons_zero] at q0 q1 q2 q3 q4 q5 q6 q7 q8 q9); clear hq hN; go_simp; exact hK.out (.agg #[.int .u8 (by8 G.hint 0), .int .u8 (by8 G.hint 1), .int .u8 (by8 G.hint 2), .int .u8 (by8 G.hint 3), .int .u8 (by8 G.hint 4), .int .u8 (by8 G.hint 5), .int .u8 (by8 G.hint 6), .int .u8 (by8 G.hint 7), .int .i64 G.num, .slice au G.box.length cu]) () W (by simp (decide := true) [putO, setF, upd]) hW)
                        · intro L x W hW hC hL hd B K hB hK; (try simp [depsB, Region.binds] at hd); (try simp only [Nat.reduceAdd] at hK hL)
                          (have e126 := hB.out 126); (simp (decide := true) only [look, if_true, if_false, hd, cond_true, cond_false, Array.getD_eq_getD_getElem?, List.getElem?_toArray, List.getElem?_cons_succ, List.getElem?_cons_zero, Option.getD_some] at e126); (have e127 := hB.out 127); (simp (decide := true) only [look, if_true, if_false, hd, cond_true, cond_false, Array.getD_eq_getD_getElem?, List.getElem?_toArray, List.getElem?_cons_succ, List.getElem?_cons_zero, Option.getD_some] at e127)
                          have h18 : L 18 = false := by cases hl : L 18 with | false => rfl | true => have hx := hC 18 _ rfl hl; simp [depsB, Region.binds] at hx; have hy := hC 10 _ rfl (by simp only [hx]); simp [depsB, Region.binds] at hy; have hz := hC 9 _ rfl (by simp only [hy]); simp [depsB, Region.binds, hL] at hz
                          obtain ⟨N, hN⟩ := hW
                          simp only [hL, h18, cond_false] at hN
                          have hbs : BSl W (.slice au G.box.length cu) G.box := by
                            obtain ⟨_, _, _, hO, _, _⟩ := hN
                            exact HMB.out.bsl hO.ow (by intro z hz; simp [hz])
                          refine wp_call_in 21 (by rfl) (by kernel_rfl) #[tptr q, .agg #[.int .u8 (by8 G.hint 0), .int .u8 (by8 G.hint 1), .int .u8 (by8 G.hint 2), .int .u8 (by8 G.hint 3), .int .u8 (by8 G.hint 4), .int .u8 (by8 G.hint 5), .int .u8 (by8 G.hint 6), .int .u8 (by8 G.hint 7), .int .i64 G.num, .slice au G.box.length cu]] (by simp [Act.eval, e126, e127]) ((ktake_to hN HTI.out HTT.out G.hint G.num _ G.box hbs 0 HE.out T' HT'.out).mono ?_)
                          rintro e W4 ⟨rfl, N4, h4⟩
                          refine ⟨_, rfl, ?_⟩
                          exact hK.out (.int .i64 0) () W4 (by simp (decide := true) [putO, setF, upd]) ⟨N4 ++ N, by simpa [upd, h18] using h4⟩
                        · (intro L x W hW hC hL hd B K hB hK; (try simp [depsB, Region.binds] at hd); (try simp only [Nat.reduceAdd] at hK hL); (have e128 := hB.out 128); (simp (decide := true) only [look, if_true, if_false, hd, cond_true, cond_false, Array.getD_eq_getD_getElem?, List.getElem?_toArray, List.getElem?_cons_succ, List.getElem?_cons_zero, Option.getD_some] at e128); go_simp; exact hK.out (.bool true) () W (by simp (decide := true) [putO, setF, upd]) hW)
                        · (intro L x W hW hC hL hd B K hB hK; (try simp [depsB, Region.binds] at hd); (try simp only [Nat.reduceAdd] at hK hL); (have e129 := hB.out 129); (simp (decide := true) only [look, if_true, if_false, hd, cond_true, cond_false, Array.getD_eq_getD_getElem?, List.getElem?_toArray, List.getElem?_cons_succ, List.getElem?_cons_zero, Option.getD_some] at e129); go_simp; exact hK.out (.bool true) () W (by simp (decide := true) [putO, setF, upd]) hW)
                        · (intro L x W hW hC hL hd B K hB hK; (try simp [depsB, Region.binds] at hd); (try simp only [Nat.reduceAdd] at hK hL); (have e130 := hB.out 130); (simp (decide := true) only [look, if_true, if_false, hd, cond_true, cond_false] at e130); (try dsimp only); rw [if_pos (by rw [wanted_B rfl rfl e130]; rfl)]; (have e7 := hB.out 7); (simp (decide := true) only [look, if_true, if_false, hd, cond_true, cond_false, Array.getD_eq_getD_getElem?, List.getElem?_toArray, List.getElem?_cons_succ, List.getElem?_cons_zero, Option.getD_some] at e7); go_simp; exact hK.out (ptr p) () W (by simp (decide := true) [putO, setF, upd]) hW)
                        · (intro L x W hW hC hL hd B K hB hK; (try simp [depsB, Region.binds] at hd); (try simp only [Nat.reduceAdd] at hK hL); (have e130 := hB.out 130); (simp (decide := true) only [look, if_true, if_false, hd, cond_true, cond_false] at e130); (try dsimp only); rw [if_pos (by rw [wanted_B rfl rfl e130]; rfl)]; (have e17 := hB.out 17); (simp (decide := true) only [look, if_true, if_false, hd, cond_true, cond_false, Array.getD_eq_getD_getElem?, List.getElem?_toArray, List.getElem?_cons_succ, List.getElem?_cons_zero, Option.getD_some] at e17); go_simp; exact hK.out (.slice (some ⟨rd, 0, none⟩) dl.length cd) () W (by simp (decide := true) [putO, setF, upd]) hW)
                        · (intro L x W hW hC hL hd B K hB hK; (try simp [depsB, Region.binds] at hd); (try simp only [Nat.reduceAdd] at hK hL); (have e130 := hB.out 130); (simp (decide := true) only [look, if_true, if_false, hd, cond_true, cond_false] at e130); (try dsimp only); rw [if_pos (by rw [wanted_B rfl rfl e130]; rfl)]; (have e18 := hB.out 18); (simp (decide := true) only [look, if_true, if_false, hd, cond_true, cond_false, Array.getD_eq_getD_getElem?, List.getElem?_toArray, List.getElem?_cons_succ, List.getElem?_cons_zero, Option.getD_some] at e18); go_simp; exact hK.out (.int .i64 j) () W (by simp (decide := true) [putO, setF, upd]) hW)
                        · (intro L x W hW hC hL hd B K hB hK; (try simp [depsB, Region.binds] at hd); (try simp only [Nat.reduceAdd] at hK hL); (have e130 := hB.out 130); (simp (decide := true) only [look, if_true, if_false, hd, cond_true, cond_false] at e130); (try dsimp only); rw [if_pos (by rw [wanted_B rfl rfl e130]; rfl)]; (have e132 := hB.out 132); (simp (decide := true) only [look, if_true, if_false, hd, cond_true, cond_false, Array.getD_eq_getD_getElem?, List.getElem?_toArray, List.getElem?_cons_succ, List.getElem?_cons_zero, Option.getD_some] at e132); (have e133 := hB.out 133); (simp (decide := true) only [look, if_true, if_false, hd, cond_true, cond_false, Array.getD_eq_getD_getElem?, List.getElem?_toArray, List.getElem?_cons_succ, List.getElem?_cons_zero, Option.getD_some] at e133); (have hjd := HJD.out); go_simp; exact hK.out (.pointer (some ⟨rd, j, none⟩)) () W (by simp (decide := true) [putO, setF, upd]) hW)
                        · (intro L x W hW hC hL hd B K hB hK; (try simp [depsB, Region.binds] at hd); (try simp only [Nat.reduceAdd] at hK hL); (have e130 := hB.out 130); (simp (decide := true) only [look, if_true, if_false, hd, cond_true, cond_false] at e130); (try dsimp only); rw [if_pos (by rw [wanted_B rfl rfl e130]; rfl)]; (have e134 := hB.out 134); (simp (decide := true) only [look, if_true, if_false, hd, cond_true, cond_false, Array.getD_eq_getD_getElem?, List.getElem?_toArray, List.getElem?_cons_succ, List.getElem?_cons_zero, Option.getD_some] at e134); (have hjd := HJD.out); (have hW0 := hW); (obtain ⟨N, hN⟩ := hW0); (obtain ⟨LM, hM⟩ := hN.mem (B := N9) (D := ⟨b19, 29, #[.int .u8 (by8 G.hint 0), .int .u8 (by8 G.hint 1), .int .u8 (by8 G.hint 2), .int .u8 (by8 G.hint 3), .int .u8 (by8 G.hint 4), .int .u8 (by8 G.hint 5), .int .u8 (by8 G.hint 6), .int .u8 (by8 G.hint 7), .int .i64 G.num, .slice au G.box.length cu]⟩ :: (NB ++ (RB ++ [⟨b8, 61, #[.int .i64 n, .int .i64 k, .int .i64 (-1), .string ByteArray.empty, .slice ah n ch, .bool false, .int .i64 0, .int .i64 0]⟩, ⟨b5, 110, #[.slice (some ⟨rf, of_, none⟩) m0 c0, .slice a1 m1 c1]⟩]))) (perm_cnt fun x => by simp only [cnt_append, cnt_cons, cnt_nil] <;> omega)); (obtain ⟨r9, c9, e9, -, lt9, hc9⟩ := HRD.out.openP hM (by omega)); (cases e9); (have cd9 := hc9 j _ HDJ.out); clear hM hc9 hN; go_simp; exact hK.out (.int .i64 d) () W (by simp (decide := true) [putO, setF, upd]) hW)
                        · (intro L x W hW hC hL hd B K hB hK; (try simp [depsB, Region.binds] at hd); (try simp only [Nat.reduceAdd] at hK hL); (have e130 := hB.out 130); (simp (decide := true) only [look, if_true, if_false, hd, cond_true, cond_false] at e130); (try dsimp only); rw [if_pos (by rw [wanted_B rfl rfl e130]; rfl)]; (have e19 := hB.out 19); (simp (decide := true) only [look, if_true, if_false, hd, cond_true, cond_false, Array.getD_eq_getD_getElem?, List.getElem?_toArray, List.getElem?_cons_succ, List.getElem?_cons_zero, Option.getD_some] at e19); go_simp; exact hK.out (.pointer (some ⟨b19, 8, none⟩)) () W (by simp (decide := true) [putO, setF, upd]) hW)
                        · (intro L x W hW hC hL hd B K hB hK; (try simp [depsB, Region.binds] at hd); (try simp only [Nat.reduceAdd] at hK hL); (have e130 := hB.out 130); (simp (decide := true) only [look, if_true, if_false, hd, cond_true, cond_false] at e130); (try dsimp only); rw [if_pos (by rw [wanted_B rfl rfl e130]; rfl)]; (have e136 := hB.out 136); (simp (decide := true) only [look, if_true, if_false, hd, cond_true, cond_false, Array.getD_eq_getD_getElem?, List.getElem?_toArray, List.getElem?_cons_succ, List.getElem?_cons_zero, Option.getD_some] at e136); (have hW0 := hW); (obtain ⟨N, hN⟩ := hW0); (have hq := hN.has (b := b19) (t := 29) (cs := #[.int .u8 (by8 G.hint 0), .int .u8 (by8 G.hint 1), .int .u8 (by8 G.hint 2), .int .u8 (by8 G.hint 3), .int .u8 (by8 G.hint 4), .int .u8 (by8 G.hint 5), .int .u8 (by8 G.hint 6), .int .u8 (by8 G.hint 7), .int .i64 G.num, .slice au G.box.length cu]) (by simp)); (have q0 := hq.cell 0); (have q1 := hq.cell 1); (have q2 := hq.cell 2); (have q3 := hq.cell 3); (have q4 := hq.cell 4); (have q5 := hq.cell 5); (have q6 := hq.cell 6); (have q7 := hq.cell 7); (have q8 := hq.cell 8); (have q9 := hq.cell 9); (have lq := hq.lt); (simp only [List.getElem?_toArray, List.getElem?_cons_succ, List.getElem?_cons_zero] at q0 q1 q2 q3 q4 q5 q6 q7 q8 q9); clear hq hN; go_simp; exact hK.out (.int .i64 G.num) () W (by simp (decide := true) [putO, setF, upd]) hW)
                        · intro L x W hW hC hL hd B K hB hK; (try simp [depsB, Region.binds] at hd); (try simp only [Nat.reduceAdd] at hK hL)
                          (have e130 := hB.out 130); (simp (decide := true) only [look, if_true, if_false, hd, cond_true, cond_false] at e130); (try dsimp only); rw [if_pos (by rw [wanted_B rfl rfl e130]; rfl)]
                          (have e131 := hB.out 131); (simp (decide := true) only [look, if_true, if_false, hd, cond_true, cond_false, Array.getD_eq_getD_getElem?, List.getElem?_toArray, List.getElem?_cons_succ, List.getElem?_cons_zero, Option.getD_some] at e131); (have e135 := hB.out 135); (simp (decide := true) only [look, if_true, if_false, hd, cond_true, cond_false, Array.getD_eq_getD_getElem?, List.getElem?_toArray, List.getElem?_cons_succ, List.getElem?_cons_zero, Option.getD_some] at e135); (have e137 := hB.out 137); (simp (decide := true) only [look, if_true, if_false, hd, cond_true, cond_false, Array.getD_eq_getD_getElem?, List.getElem?_toArray, List.getElem?_cons_succ, List.getElem?_cons_zero, Option.getD_some] at e137)
                          have g10 := hC 10 _ rfl (by simp only [hd])
                          simp [depsB, Region.binds] at g10
                          have g9 := hC 9 _ rfl (by simp only [g10])
                          simp [depsB, Region.binds] at g9
                          have h8 : L 8 = true := by simp only [g9]
                          obtain ⟨N, hN⟩ := hW
                          simp only [hL, h8, cond_true, cond_false] at hN
                          refine wp_call_in 30 (by rfl) (by kernel_rfl) #[ptr p, .int .i64 d, .int .i64 G.num] (by simp [Act.eval, e131, e135, e137]) ((kack_to hN d G.num (by rw [HRel.out.tow]; omega) (by rw [HRel.out.tow]; exact HDN.out) (HRel.out.yes HNP.out).1 (Int.le_refl _) HSD.out).mono ?_)
                          rintro e W4 ⟨rfl, h4⟩
                          refine ⟨_, rfl, ?_⟩
                          exact hK.out (.int .i64 0) () W4 (by simp (decide := true) [putO, setF, upd]) ⟨N, by simpa [upd, h8] using h4⟩
                        · (intro L x W hW hC hL hd B K hB hK; (try simp [depsB, Region.binds] at hd); (try simp only [Nat.reduceAdd] at hK hL); (have e130 := hB.out 130); (simp (decide := true) only [look, if_true, if_false, hd, cond_true, cond_false] at e130); (try dsimp only); rw [if_pos (by rw [wanted_B rfl rfl e130]; rfl)]; (have e138 := hB.out 138); (simp (decide := true) only [look, if_true, if_false, hd, cond_true, cond_false, Array.getD_eq_getD_getElem?, List.getElem?_toArray, List.getElem?_cons_succ, List.getElem?_cons_zero, Option.getD_some] at e138); go_simp; exact hK.out (.bool false) () W (by simp (decide := true) [putO, setF, upd]) hW)
                        · (intro L x W hW hC hL hd B K hB hK; (try simp [depsB, Region.binds] at hd); (try simp only [Nat.reduceAdd] at hK hL); (have e130 := hB.out 130); (simp (decide := true) only [look, if_true, if_false, hd, cond_true, cond_false, Array.getD_eq_getD_getElem?, List.getElem?_toArray, List.getElem?_cons_succ, List.getElem?_cons_zero, Option.getD_some] at e130); (have e139 := hB.out 139); (simp (decide := true) only [look, if_true, if_false, hd, cond_true, cond_false, Array.getD_eq_getD_getElem?, List.getElem?_toArray, List.getElem?_cons_succ, List.getElem?_cons_zero, Option.getD_some] at e139); go_simp; exact hK.out (.bool false) () W (by simp (decide := true) [putO, setF, upd]) hW)
                        intro _ W9 hW9
                        simp only [ovl, cond_true, Array.getD_eq_getD_getElem?, List.getElem?_toArray, List.getElem?_cons_succ, List.getElem?_cons_zero, Option.getD_some, List.setIfInBounds_toArray, List.set_cons_zero, List.set_cons_succ]
                        (try simp only [cond_true] at hW9)
                        obtain ⟨N27, h27⟩ := hW9
                        have HK27 := Lib.hid h27
                        clear h27
                        go_wp2
                        exact ⟨⟨j + 1, _, _, _, by simp, by omega, HR3.out, (pts_set ts HTI.out).trans HP.out, KS.dropC (D := ⟨b19, 29, #[.int .u8 (by8 G.hint 0), .int .u8 (by8 G.hint 1), .int .u8 (by8 G.hint 2), .int .u8 (by8 G.hint 3), .int .u8 (by8 G.hint 4), .int .u8 (by8 G.hint 5), .int .u8 (by8 G.hint 6), .int .u8 (by8 G.hint 7), .int .i64 G.num, .slice au G.box.length cu]⟩ :: NB) HK27.out⟩, by simp [intOf]; omega⟩
                  · go_wp2_with fail
                    obtain ⟨b19, hb19⟩ : ∃ b, b = w10.heap.size := ⟨_, rfl⟩
                    simp only [← hb19] at HK11 ⊢
                    clear hb19
                    have HK7 := HK11
                    have HRP := HR
                    rcases HRel.out.take HNP.out hnn7 HDN.out HTI.out with ⟨hs1, hE, hT, hse⟩ | ⟨hs1, hE, T', hT, hR3⟩
                    · have HE := Lib.hid hE
                      have HT' := Lib.hid hT
                      have HSE := Lib.hid hse
                      clear hs1 hE hT hse
                      refine wp_region_o2 [120, 121, 122, 123, 124, 125, 126, 127, 128, 129, 130, 131, 132, 133, 134, 135, 136, 137, 138, 139, 140] (fun L (_ : Unit) => [(L 0, 120, .slice (some ⟨rp, 0, none⟩) n cr), (L 1, 121, .slice (some ⟨rd, 0, none⟩) dl.length cd), (L 2, 122, .int .i64 j), (L 3, 123, .pointer (some ⟨rd, j, none⟩)), (L 4, 124, .int .i64 d), (L 5, 125, .pointer (some ⟨rp, d, none⟩)), (L 6, 126, tptr q), (L 7, 127, .agg #[.int .u8 (by8 G.hint 0), .int .u8 (by8 G.hint 1), .int .u8 (by8 G.hint 2), .int .u8 (by8 G.hint 3), .int .u8 (by8 G.hint 4), .int .u8 (by8 G.hint 5), .int .u8 (by8 G.hint 6), .int .u8 (by8 G.hint 7), .int .i64 G.num, .slice au G.box.length cu]), (L 8, 128, .int .i64 18), (L 9, 129, .bool false), (L 10, 130, .bool false), (L 11, 131, undef), (L 12, 132, undef), (L 13, 133, undef), (L 14, 134, undef), (L 15, 135, undef), (L 16, 136, undef), (L 17, 137, undef), (L 18, 138, undef), (L 19, 139, undef), (L 20, 140, .bool false)])
                        (fun L _ W => ∃ N : List Blk, KS W w (⟨b19, 29, #[.int .u8 (by8 G.hint 0), .int .u8 (by8 G.hint 1), .int .u8 (by8 G.hint 2), .int .u8 (by8 G.hint 3), .int .u8 (by8 G.hint 4), .int .u8 (by8 G.hint 5), .int .u8 (by8 G.hint 6), .int .u8 (by8 G.hint 7), .int .i64 G.num, .slice au G.box.length cu]⟩ :: (NB ++ (N9 ++ (RB ++ [⟨b8, 61, #[.int .i64 n, .int .i64 k, .int .i64 (-1), .string ByteArray.empty, .slice ah n ch, .bool false, .int .i64 0, .int .i64 0]⟩, ⟨b5, 110, #[.slice a0 m0 c0, .slice a1 m1 c1]⟩])))) (N ++ X) p G ts) () (by kernel_rfl) (by kernel_rfl) 215 (by rfl) (fun _ _ => rfl) (by kernel_rfl) (by kernel_rfl) (by kernel_rfl) (by rfl) ⟨[], by simpa using HK7.out.drew⟩ ?_ ⟨?_, ?_, ?_, ?_, ?_, ?_, ?_, ?_, ?_, ?_, ?_, ?_, ?_, ?_, ?_, ?_, ?_, ?_, ?_, ?_, ?_, trivial⟩
                      rotate_left
                      · (intro L x W hW hC hL hd B K hB hK; (try simp [depsB, Region.binds] at hd); (try simp only [Nat.reduceAdd] at hK hL); (have e9 := hB.out 9); (simp (decide := true) only [look, if_true, if_false, hd, cond_true, cond_false, Array.getD_eq_getD_getElem?, List.getElem?_toArray, List.getElem?_cons_succ, List.getElem?_cons_zero, Option.getD_some] at e9); go_simp; exact hK.out (.slice (some ⟨rp, 0, none⟩) n cr) () W (by simp (decide := true) [putO, setF, upd]) hW)
                      · (intro L x W hW hC hL hd B K hB hK; (try simp [depsB, Region.binds] at hd); (try simp only [Nat.reduceAdd] at hK hL); (have e17 := hB.out 17); (simp (decide := true) only [look, if_true, if_false, hd, cond_true, cond_false, Array.getD_eq_getD_getElem?, List.getElem?_toArray, List.getElem?_cons_succ, List.getElem?_cons_zero, Option.getD_some] at e17); go_simp; exact hK.out (.slice (some ⟨rd, 0, none⟩) dl.length cd) () W (by simp (decide := true) [putO, setF, upd]) hW)
                      · (intro L x W hW hC hL hd B K hB hK; (try simp [depsB, Region.binds] at hd); (try simp only [Nat.reduceAdd] at hK hL); (have e18 := hB.out 18); (simp (decide := true) only [look, if_true, if_false, hd, cond_true, cond_false, Array.getD_eq_getD_getElem?, List.getElem?_toArray, List.getElem?_cons_succ, List.getElem?_cons_zero, Option.getD_some] at e18); go_simp; exact hK.out (.int .i64 j) () W (by simp (decide := true) [putO, setF, upd]) hW)
                      · (intro L x W hW hC hL hd B K hB hK; (try simp [depsB, Region.binds] at hd); (try simp only [Nat.reduceAdd] at hK hL); (have e121 := hB.out 121); (simp (decide := true) only [look, if_true, if_false, hd, cond_true, cond_false, Array.getD_eq_getD_getElem?, List.getElem?_toArray, List.getElem?_cons_succ, List.getElem?_cons_zero, Option.getD_some] at e121); (have e122 := hB.out 122); (simp (decide := true) only [look, if_true, if_false, hd, cond_true, cond_false, Array.getD_eq_getD_getElem?, List.getElem?_toArray, List.getElem?_cons_succ, List.getElem?_cons_zero, Option.getD_some] at e122); (have hjd := HJD.out); go_simp; exact hK.out (.pointer (some ⟨rd, j, none⟩)) () W (by simp (decide := true) [putO, setF, upd]) hW)
                      · (intro L x W hW hC hL hd B K hB hK; (try simp [depsB, Region.binds] at hd); (try simp only [Nat.reduceAdd] at hK hL); (have e123 := hB.out 123); (simp (decide := true) only [look, if_true, if_false, hd, cond_true, cond_false, Array.getD_eq_getD_getElem?, List.getElem?_toArray, List.getElem?_cons_succ, List.getElem?_cons_zero, Option.getD_some] at e123); (have hjd := HJD.out); (have hW0 := hW); (obtain ⟨N, hN⟩ := hW0); (obtain ⟨LM, hM⟩ := hN.mem (B := N9) (D := ⟨b19, 29, #[.int .u8 (by8 G.hint 0), .int .u8 (by8 G.hint 1), .int .u8 (by8 G.hint 2), .int .u8 (by8 G.hint 3), .int .u8 (by8 G.hint 4), .int .u8 (by8 G.hint 5), .int .u8 (by8 G.hint 6), .int .u8 (by8 G.hint 7), .int .i64 G.num, .slice au G.box.length cu]⟩ :: (NB ++ (RB ++ [⟨b8, 61, #[.int .i64 n, .int .i64 k, .int .i64 (-1), .string ByteArray.empty, .slice ah n ch, .bool false, .int .i64 0, .int .i64 0]⟩, ⟨b5, 110, #[.slice a0 m0 c0, .slice a1 m1 c1]⟩]))) (perm_cnt fun x => by simp only [cnt_append, cnt_cons, cnt_nil] <;> omega)); (obtain ⟨r9, c9, e9, -, lt9, hc9⟩ := HRD.out.openP hM (by omega)); (cases e9); (have cd9 := hc9 j _ HDJ.out); clear hM hc9 hN; go_simp; exact hK.out (.int .i64 d) () W (by simp (decide := true) [putO, setF, upd]) hW)
                      · (intro L x W hW hC hL hd B K hB hK; (try simp [depsB, Region.binds] at hd); (try simp only [Nat.reduceAdd] at hK hL); (have e120 := hB.out 120); (simp (decide := true) only [look, if_true, if_false, hd, cond_true, cond_false, Array.getD_eq_getD_getElem?, List.getElem?_toArray, List.getElem?_cons_succ, List.getElem?_cons_zero, Option.getD_some] at e120); (have e124 := hB.out 124); (simp (decide := true) only [look, if_true, if_false, hd, cond_true, cond_false, Array.getD_eq_getD_getElem?, List.getElem?_toArray, List.getElem?_cons_succ, List.getElem?_cons_zero, Option.getD_some] at e124); (have hdn := HDN.out); go_simp; exact hK.out (.pointer (some ⟨rp, d, none⟩)) () W (by simp (decide := true) [putO, setF, upd]) hW)
                      · (intro L x W hW hC hL hd B K hB hK; (try simp [depsB, Region.binds] at hd); (try simp only [Nat.reduceAdd] at hK hL); (have e125 := hB.out 125); (simp (decide := true) only [look, if_true, if_false, hd, cond_true, cond_false, Array.getD_eq_getD_getElem?, List.getElem?_toArray, List.getElem?_cons_succ, List.getElem?_cons_zero, Option.getD_some] at e125); (have hjd := HJD.out); (have hW0 := hW); (obtain ⟨N, hN⟩ := hW0); (obtain ⟨LM, hM⟩ := hN.mem (B := RB) (D := ⟨b19, 29, #[.int .u8 (by8 G.hint 0), .int .u8 (by8 G.hint 1), .int .u8 (by8 G.hint 2), .int .u8 (by8 G.hint 3), .int .u8 (by8 G.hint 4), .int .u8 (by8 G.hint 5), .int .u8 (by8 G.hint 6), .int .u8 (by8 G.hint 7), .int .i64 G.num, .slice au G.box.length cu]⟩ :: (NB ++ (N9 ++ [⟨b8, 61, #[.int .i64 n, .int .i64 k, .int .i64 (-1), .string ByteArray.empty, .slice ah n ch, .bool false, .int .i64 0, .int .i64 0]⟩, ⟨b5, 110, #[.slice a0 m0 c0, .slice a1 m1 c1]⟩]))) (perm_cnt fun x => by simp only [cnt_append, cnt_cons, cnt_nil] <;> omega)); (obtain ⟨r9, c9, e9, -, lt9, hc9⟩ := HRP.out.openP hM (by omega)); (cases e9); (have cp9 := hc9 d _ HPQ.out); clear hM hc9 hN; go_simp; exact hK.out (tptr q) () W (by simp (decide := true) [putO, setF, upd]) hW)
                      · (intro L x W hW hC hL hd B K hB hK; (try simp [depsB, Region.binds] at hd); (try simp only [Nat.reduceAdd] at hK hL); (have e19 := hB.out 19); (simp (decide := true) only [look, if_true, if_false, hd, cond_true, cond_false, Array.getD_eq_getD_getElem?, List.getElem?_toArray, List.getElem?_cons_succ, List.getElem?_cons_zero, Option.getD_some] at e19); (have hW0 := hW); (obtain ⟨N, hN⟩ := hW0); (have hq := hN.has (b := b19) (t := 29) (cs := #[.int .u8 (by8 G.hint 0), .int .u8 (by8 G.hint 1), .int .u8 (by8 G.hint 2), .int .u8 (by8 G.hint 3), .int .u8 (by8 G.hint 4), .int .u8 (by8 G.hint 5), .int .u8 (by8 G.hint 6), .int .u8 (by8 G.hint 7), .int .i64 G.num, .slice au G.box.length cu]) (by simp)); (have q0 := hq.cell 0); (have q1 := hq.cell 1); (have q2 := hq.cell 2); (have q3 := hq.cell 3); (have q4 := hq.cell 4); (have q5 := hq.cell 5); (have q6 := hq.cell 6); (have q7 := hq.cell 7); (have q8 := hq.cell 8); (have q9 := hq.cell 9); (have lq := hq.lt); (simp only [List.getElem?_toArray, List.getElem?_cons_succ, List.getElem?_cons_zero] at q0 q1 q2 q3 q4 q5 q6 q7 q8 q9); clear hq hN; go_simp; exact hK.out (.agg #[.int .u8 (by8 G.hint 0), .int .u8 (by8 G.hint 1), .int .u8 (by8 G.hint 2), .int .u8 (by8 G.hint 3), .int .u8 (by8 G.hint 4), .int .u8 (by8 G.hint 5), .int .u8 (by8 G.hint 6), .int .u8 (by8 G.hint 7), .int .i64 G.num, .slice au G.box.length cu]) () W (by simp (decide := true) [putO, setF, upd]) hW)
                      · intro L x W hW hC hL hd B K hB hK; (try simp [depsB, Region.binds] at hd); (try simp only [Nat.reduceAdd] at hK hL)
                        (have e126 := hB.out 126); (simp (decide := true) only [look, if_true, if_false, hd, cond_true, cond_false, Array.getD_eq_getD_getElem?, List.getElem?_toArray, List.getElem?_cons_succ, List.getElem?_cons_zero, Option.getD_some] at e126); (have e127 := hB.out 127); (simp (decide := true) only [look, if_true, if_false, hd, cond_true, cond_false, Array.getD_eq_getD_getElem?, List.getElem?_toArray, List.getElem?_cons_succ, List.getElem?_cons_zero, Option.getD_some] at e127)
                        obtain ⟨N, hN⟩ := hW
                        have hbs : BSl W (.slice au G.box.length cu) G.box := by
                          obtain ⟨_, _, _, hO, _, _⟩ := hN
                          exact HMB.out.bsl hO.ow (by intro z hz; simp [hz])
                        refine wp_call_in 21 (by rfl) (by kernel_rfl) #[tptr q, .agg #[.int .u8 (by8 G.hint 0), .int .u8 (by8 G.hint 1), .int .u8 (by8 G.hint 2), .int .u8 (by8 G.hint 3), .int .u8 (by8 G.hint 4), .int .u8 (by8 G.hint 5), .int .u8 (by8 G.hint 6), .int .u8 (by8 G.hint 7), .int .i64 G.num, .slice au G.box.length cu]] (by simp [Act.eval, e126, e127]) ((ktake_to hN HTI.out HTT.out G.hint G.num _ G.box hbs 18 HE.out T HT'.out).mono ?_)
                        rintro e W4 ⟨rfl, N4, h4⟩
                        refine ⟨_, rfl, ?_⟩
                        rw [HSE.out] at h4
                        exact hK.out (.int .i64 18) () W4 (by simp (decide := true) [putO, setF, upd]) ⟨N4 ++ N, by simpa using h4⟩
                      · (intro L x W hW hC hL hd B K hB hK; (try simp [depsB, Region.binds] at hd); (try simp only [Nat.reduceAdd] at hK hL); (have e128 := hB.out 128); (simp (decide := true) only [look, if_true, if_false, hd, cond_true, cond_false, Array.getD_eq_getD_getElem?, List.getElem?_toArray, List.getElem?_cons_succ, List.getElem?_cons_zero, Option.getD_some] at e128); go_simp; exact hK.out (.bool false) () W (by simp (decide := true) [putO, setF, upd]) hW)
                      · (intro L x W hW hC hL hd B K hB hK; (try simp [depsB, Region.binds] at hd); (try simp only [Nat.reduceAdd] at hK hL); (have e129 := hB.out 129); (simp (decide := true) only [look, if_true, if_false, hd, cond_true, cond_false, Array.getD_eq_getD_getElem?, List.getElem?_toArray, List.getElem?_cons_succ, List.getElem?_cons_zero, Option.getD_some] at e129); go_simp; exact hK.out (.bool false) () W (by simp (decide := true) [putO, setF, upd]) hW)
                      · (intro L x W hW hC hL hd B K hB hK; (try simp [depsB, Region.binds] at hd); (try simp only [Nat.reduceAdd] at hK hL); (have e130 := hB.out 130); (simp (decide := true) only [look, if_true, if_false, hd, cond_true, cond_false] at e130); (try dsimp only); rw [if_neg (by rw [wanted_B rfl rfl e130]; decide)]; exact hK.out (undef) () W (by simp (decide := true) [putO, setF, upd]) hW)
                      · (intro L x W hW hC hL hd B K hB hK; (try simp [depsB, Region.binds] at hd); (try simp only [Nat.reduceAdd] at hK hL); (have e130 := hB.out 130); (simp (decide := true) only [look, if_true, if_false, hd, cond_true, cond_false] at e130); (try dsimp only); rw [if_neg (by rw [wanted_B rfl rfl e130]; decide)]; exact hK.out (undef) () W (by simp (decide := true) [putO, setF, upd]) hW)
                      · (intro L x W hW hC hL hd B K hB hK; (try simp [depsB, Region.binds] at hd); (try simp only [Nat.reduceAdd] at hK hL); (have e130 := hB.out 130); (simp (decide := true) only [look, if_true, if_false, hd, cond_true, cond_false] at e130); (try dsimp only); rw [if_neg (by rw [wanted_B rfl rfl e130]; decide)]; exact hK.out (undef) () W (by simp (decide := true) [putO, setF, upd]) hW)
                      · (intro L x W hW hC hL hd B K hB hK; (try simp [depsB, Region.binds] at hd); (try simp only [Nat.reduceAdd] at hK hL); (have e130 := hB.out 130); (simp (decide := true) only [look, if_true, if_false, hd, cond_true, cond_false] at e130); (try dsimp only); rw [if_neg (by rw [wanted_B rfl rfl e130]; decide)]; exact hK.out (undef) () W (by simp (decide := true) [putO, setF, upd]) hW)
                      · (intro L x W hW hC hL hd B K hB hK; (try simp [depsB, Region.binds] at hd); (try simp only [Nat.reduceAdd] at hK hL); (have e130 := hB.out 130); (simp (decide := true) only [look, if_true, if_false, hd, cond_true, cond_false] at e130); (try dsimp only); rw [if_neg (by rw [wanted_B rfl rfl e130]; decide)]; exact hK.out (undef) () W (by simp (decide := true) [putO, setF, upd]) hW)
                      · (intro L x W hW hC hL hd B K hB hK; (try simp [depsB, Region.binds] at hd); (try simp only [Nat.reduceAdd] at hK hL); (have e130 := hB.out 130); (simp (decide := true) only [look, if_true, if_false, hd, cond_true, cond_false] at e130); (try dsimp only); rw [if_neg (by rw [wanted_B rfl rfl e130]; decide)]; exact hK.out (undef) () W (by simp (decide := true) [putO, setF, upd]) hW)
                      · (intro L x W hW hC hL hd B K hB hK; (try simp [depsB, Region.binds] at hd); (try simp only [Nat.reduceAdd] at hK hL); (have e130 := hB.out 130); (simp (decide := true) only [look, if_true, if_false, hd, cond_true, cond_false] at e130); (try dsimp only); rw [if_neg (by rw [wanted_B rfl rfl e130]; decide)]; exact hK.out (undef) () W (by simp (decide := true) [putO, setF, upd]) hW)
                      · (intro L x W hW hC hL hd B K hB hK; (try simp [depsB, Region.binds] at hd); (try simp only [Nat.reduceAdd] at hK hL); (have e130 := hB.out 130); (simp (decide := true) only [look, if_true, if_false, hd, cond_true, cond_false] at e130); (try dsimp only); rw [if_neg (by rw [wanted_B rfl rfl e130]; decide)]; exact hK.out (undef) () W (by simp (decide := true) [putO, setF, upd]) hW)
                      · (intro L x W hW hC hL hd B K hB hK; (try simp [depsB, Region.binds] at hd); (try simp only [Nat.reduceAdd] at hK hL); (have e130 := hB.out 130); (simp (decide := true) only [look, if_true, if_false, hd, cond_true, cond_false] at e130); (try dsimp only); rw [if_neg (by rw [wanted_B rfl rfl e130]; decide)]; exact hK.out (undef) () W (by simp (decide := true) [putO, setF, upd]) hW)
                      · (intro L x W hW hC hL hd B K hB hK; (try simp [depsB, Region.binds] at hd); (try simp only [Nat.reduceAdd] at hK hL); (have e130 := hB.out 130); (simp (decide := true) only [look, if_true, if_false, hd, cond_true, cond_false, Array.getD_eq_getD_getElem?, List.getElem?_toArray, List.getElem?_cons_succ, List.getElem?_cons_zero, Option.getD_some] at e130); (have e139 := hB.out 139); (simp (decide := true) only [look, if_true, if_false, hd, cond_true, cond_false, Array.getD_eq_getD_getElem?, List.getElem?_toArray, List.getElem?_cons_succ, List.getElem?_cons_zero, Option.getD_some] at e139); go_simp; exact hK.out (.bool false) () W (by simp (decide := true) [putO, setF, upd]) hW)
                      intro _ W9 hW9
                      simp only [ovl, cond_true, Array.getD_eq_getD_getElem?, List.getElem?_toArray, List.getElem?_cons_succ, List.getElem?_cons_zero, Option.getD_some, List.setIfInBounds_toArray, List.set_cons_zero, List.set_cons_succ]
                      (try simp only [cond_true] at hW9)
                      obtain ⟨N27, h27⟩ := hW9
                      have HK27 := Lib.hid h27
                      clear h27
                      go_wp2
                      exact ⟨⟨j + 1, G, ts, _, by simp, by omega, HRel.out, HP.out, KS.dropC (D := ⟨b19, 29, #[.int .u8 (by8 G.hint 0), .int .u8 (by8 G.hint 1), .int .u8 (by8 G.hint 2), .int .u8 (by8 G.hint 3), .int .u8 (by8 G.hint 4), .int .u8 (by8 G.hint 5), .int .u8 (by8 G.hint 6), .int .u8 (by8 G.hint 7), .int .i64 G.num, .slice au G.box.length cu]⟩ :: NB) HK27.out⟩, by simp [intOf]; omega⟩
                    · have HE := Lib.hid hE
                      have HT' := Lib.hid hT
                      have HSD := Lib.hid hs1
                      have HR3 := Lib.hid hR3
                      clear hs1 hE hT hR3
                      refine wp_region_o2 [120, 121, 122, 123, 124, 125, 126, 127, 128, 129, 130, 131, 132, 133, 134, 135, 136, 137, 138, 139, 140] (fun L (_ : Unit) => [(L 0, 120, .slice (some ⟨rp, 0, none⟩) n cr), (L 1, 121, .slice (some ⟨rd, 0, none⟩) dl.length cd), (L 2, 122, .int .i64 j), (L 3, 123, .pointer (some ⟨rd, j, none⟩)), (L 4, 124, .int .i64 d), (L 5, 125, .pointer (some ⟨rp, d, none⟩)), (L 6, 126, tptr q), (L 7, 127, .agg #[.int .u8 (by8 G.hint 0), .int .u8 (by8 G.hint 1), .int .u8 (by8 G.hint 2), .int .u8 (by8 G.hint 3), .int .u8 (by8 G.hint 4), .int .u8 (by8 G.hint 5), .int .u8 (by8 G.hint 6), .int .u8 (by8 G.hint 7), .int .i64 G.num, .slice au G.box.length cu]), (L 8, 128, .int .i64 0), (L 9, 129, .bool true), (L 10, 130, .bool true), (L 11, 131, ptr p), (L 12, 132, .slice (some ⟨rd, 0, none⟩) dl.length cd), (L 13, 133, .int .i64 j), (L 14, 134, .pointer (some ⟨rd, j, none⟩)), (L 15, 135, .int .i64 d), (L 16, 136, .pointer (some ⟨b19, 8, none⟩)), (L 17, 137, .int .i64 G.num), (L 18, 138, .int .i64 0), (L 19, 139, .bool false), (L 20, 140, .bool false)])
                        (fun L _ W => ∃ N : List Blk, KS W w (⟨b19, 29, #[.int .u8 (by8 G.hint 0), .int .u8 (by8 G.hint 1), .int .u8 (by8 G.hint 2), .int .u8 (by8 G.hint 3), .int .u8 (by8 G.hint 4), .int .u8 (by8 G.hint 5), .int .u8 (by8 G.hint 6), .int .u8 (by8 G.hint 7), .int .i64 G.num, .slice au G.box.length cu]⟩ :: (NB ++ (N9 ++ (RB ++ [⟨b8, 61, #[.int .i64 n, .int .i64 k, .int .i64 (-1), .string ByteArray.empty, .slice ah n ch, .bool false, .int .i64 0, .int .i64 0]⟩, ⟨b5, 110, #[.slice a0 m0 c0, .slice a1 m1 c1]⟩])))) (N ++ X) p (bif L 18 then G.say d G.num else G) (bif L 8 then ts.set d (q, T') else ts)) () (by kernel_rfl) (by kernel_rfl) 215 (by rfl) (fun _ _ => rfl) (by kernel_rfl) (by kernel_rfl) (by kernel_rfl) (by rfl) ⟨[], by simpa using HK7.out.drew⟩ ?_ ⟨?_, ?_, ?_, ?_, ?_, ?_, ?_, ?_, ?_, ?_, ?_, ?_, ?_, ?_, ?_, ?_, ?_, ?_, ?_, ?_, ?_, trivial⟩
                      rotate_left
                      · (intro L x W hW hC hL hd B K hB hK; (try simp [depsB, Region.binds] at hd); (try simp only [Nat.reduceAdd] at hK hL); (have e9 := hB.out 9); (simp (decide := true) only [look, if_true, if_false, hd, cond_true, cond_false, Array.getD_eq_getD_getElem?, List.getElem?_toArray, List.getElem?_cons_succ, List.getElem?_cons_zero, Option.getD_some] at e9); go_simp; exact hK.out (.slice (some ⟨rp, 0, none⟩) n cr) () W (by simp (decide := true) [putO, setF, upd]) hW)
                      · (intro L x W hW hC hL hd B K hB hK; (try simp [depsB, Region.binds] at hd); (try simp only [Nat.reduceAdd] at hK hL); (have e17 := hB.out 17); (simp (decide := true) only [look, if_true, if_false, hd, cond_true, cond_false, Array.getD_eq_getD_getElem?, List.getElem?_toArray, List.getElem?_cons_succ, List.getElem?_cons_zero, Option.getD_some] at e17); go_simp; exact hK.out (.slice (some ⟨rd, 0, none⟩) dl.length cd) () W (by simp (decide := true) [putO, setF, upd]) hW)
                      · (intro L x W hW hC hL hd B K hB hK; (try simp [depsB, Region.binds] at hd); (try simp only [Nat.reduceAdd] at hK hL); (have e18 := hB.out 18); (simp (decide := true) only [look, if_true, if_false, hd, cond_true, cond_false, Array.getD_eq_getD_getElem?, List.getElem?_toArray, List.getElem?_cons_succ, List.getElem?_cons_zero, Option.getD_some] at e18); go_simp; exact hK.out (.int .i64 j) () W (by simp (decide := true) [putO, setF, upd]) hW)
                      · (intro L x W hW hC hL hd B K hB hK; (try simp [depsB, Region.binds] at hd); (try simp only [Nat.reduceAdd] at hK hL); (have e121 := hB.out 121); (simp (decide := true) only [look, if_true, if_false, hd, cond_true, cond_false, Array.getD_eq_getD_getElem?, List.getElem?_toArray, List.getElem?_cons_succ, List.getElem?_cons_zero, Option.getD_some] at e121); (have e122 := hB.out 122); (simp (decide := true) only [look, if_true, if_false, hd, cond_true, cond_false, Array.getD_eq_getD_getElem?, List.getElem?_toArray, List.getElem?_cons_succ, List.getElem?_cons_zero, Option.getD_some] at e122); (have hjd := HJD.out); go_simp; exact hK.out (.pointer (some ⟨rd, j, none⟩)) () W (by simp (decide := true) [putO, setF, upd]) hW)
                      · (intro L x W hW hC hL hd B K hB hK; (try simp [depsB, Region.binds] at hd); (try simp only [Nat.reduceAdd] at hK hL); (have e123 := hB.out 123); (simp (decide := true) only [look, if_true, if_false, hd, cond_true, cond_false, Array.getD_eq_getD_getElem?, List.getElem?_toArray, List.getElem?_cons_succ, List.getElem?_cons_zero, Option.getD_some] at e123); (have hjd := HJD.out); (have hW0 := hW); (obtain ⟨N, hN⟩ := hW0); (obtain ⟨LM, hM⟩ := hN.mem (B := N9) (D := ⟨b19, 29, #[.int .u8 (by8 G.hint 0), .int .u8 (by8 G.hint 1), .int .u8 (by8 G.hint 2), .int .u8 (by8 G.hint 3), .int .u8 (by8 G.hint 4), .int .u8 (by8 G.hint 5), .int .u8 (by8 G.hint 6), .int .u8 (by8 G.hint 7), .int .i64 G.num, .slice au G.box.length cu]⟩ :: (NB ++ (RB ++ [⟨b8, 61, #[.int .i64 n, .int .i64 k, .int .i64 (-1), .string ByteArray.empty, .slice ah n ch, .bool false, .int .i64 0, .int .i64 0]⟩, ⟨b5, 110, #[.slice a0 m0 c0, .slice a1 m1 c1]⟩]))) (perm_cnt fun x => by simp only [cnt_append, cnt_cons, cnt_nil] <;> omega)); (obtain ⟨r9, c9, e9, -, lt9, hc9⟩ := HRD.out.openP hM (by omega)); (cases e9); (have cd9 := hc9 j _ HDJ.out); clear hM hc9 hN; go_simp; exact hK.out (.int .i64 d) () W (by simp (decide := true) [putO, setF, upd]) hW)
                      · (intro L x W hW hC hL hd B K hB hK; (try simp [depsB, Region.binds] at hd); (try simp only [Nat.reduceAdd] at hK hL); (have e120 := hB.out 120); (simp (decide := true) only [look, if_true, if_false, hd, cond_true, cond_false, Array.getD_eq_getD_getElem?, List.getElem?_toArray, List.getElem?_cons_succ, List.getElem?_cons_zero, Option.getD_some] at e120); (have e124 := hB.out 124); (simp (decide := true) only [look, if_true, if_false, hd, cond_true, cond_false, Array.getD_eq_getD_getElem?, List.getElem?_toArray, List.getElem?_cons_succ, List.getElem?_cons_zero, Option.getD_some] at e124); (have hdn := HDN.out); go_simp; exact hK.out (.pointer (some ⟨rp, d, none⟩)) () W (by simp (decide := true) [putO, setF, upd]) hW)
                      · (intro L x W hW hC hL hd B K hB hK; (try simp [depsB, Region.binds] at hd); (try simp only [Nat.reduceAdd] at hK hL); (have e125 := hB.out 125); (simp (decide := true) only [look, if_true, if_false, hd, cond_true, cond_false, Array.getD_eq_getD_getElem?, List.getElem?_toArray, List.getElem?_cons_succ, List.getElem?_cons_zero, Option.getD_some] at e125); (have hjd := HJD.out); (have hW0 := hW); (obtain ⟨N, hN⟩ := hW0); (obtain ⟨LM, hM⟩ := hN.mem (B := RB) (D := ⟨b19, 29, #[.int .u8 (by8 G.hint 0), .int .u8 (by8 G.hint 1), .int .u8 (by8 G.hint 2), .int .u8 (by8 G.hint 3), .int .u8 (by8 G.hint 4), .int .u8 (by8 G.hint 5), .int .u8 (by8 G.hint 6), .int .u8 (by8 G.hint 7), .int .i64 G.num, .slice au G.box.length cu]⟩ :: (NB ++ (N9 ++ [⟨b8, 61, #[.int .i64 n, .int .i64 k, .int .i64 (-1), .string ByteArray.empty, .slice ah n ch, .bool false, .int .i64 0, .int .i64 0]⟩, ⟨b5, 110, #[.slice a0 m0 c0, .slice a1 m1 c1]⟩]))) (perm_cnt fun x => by simp only [cnt_append, cnt_cons, cnt_nil] <;> omega)); (obtain ⟨r9, c9, e9, -, lt9, hc9⟩ := HRP.out.openP hM (by omega)); (cases e9); (have cp9 := hc9 d _ HPQ.out); clear hM hc9 hN; go_simp; exact hK.out (tptr q) () W (by simp (decide := true) [putO, setF, upd]) hW)
                      · (intro L x W hW hC hL hd B K hB hK; (try simp [depsB, Region.binds] at hd); (try simp only [Nat.reduceAdd] at hK hL); (have e19 := hB.out 19); (simp (decide := true) only [look, if_true, if_false, hd, cond_true, cond_false, Array.getD_eq_getD_getElem?, List.getElem?_toArray, List.getElem?_cons_succ, List.getElem?_cons_zero, Option.getD_some] at e19); (have hW0 := hW); (obtain ⟨N, hN⟩ := hW0); (have hq := hN.has (b := b19) (t := 29) (cs := #[.int .u8 (by8 G.hint 0), .int .u8 (by8 G.hint 1), .int .u8 (by8 G.hint 2), .int .u8 (by8 G.hint 3), .int .u8 (by8 G.hint 4), .int .u8 (by8 G.hint 5), .int .u8 (by8 G.hint 6), .int .u8 (by8 G.hint 7), .int .i64 G.num, .slice au G.box.length cu]) (by simp)); (have q0 := hq.cell 0); (have q1 := hq.cell 1); (have q2 := hq.cell 2); (have q3 := hq.cell 3); (have q4 := hq.cell 4); (have q5 := hq.cell 5); (have q6 := hq.cell 6); (have q7 := hq.cell 7); (have q8 := hq.cell 8); (have q9 := hq.cell 9); (have lq := hq.lt); (simp only [List.getElem?_toArray, List.getElem?_cons_succ, List.getElem?_cons_zero] at q0 q1 q2 q3 q4 q5 q6 q7 q8 q9); clear hq hN; go_simp; exact hK.out (.agg #[.int .u8 (by8 G.hint 0), .int .u8 (by8 G.hint 1), .int .u8 (by8 G.hint 2), .int .u8 (by8 G.hint 3), .int .u8 (by8 G.hint 4), .int .u8 (by8 G.hint 5), .int .u8 (by8 G.hint 6), .int .u8 (by8 G.hint 7), .int .i64 G.num, .slice au G.box.length cu]) () W (by simp (decide := true) [putO, setF, upd]) hW)
                      · intro L x W hW hC hL hd B K hB hK; (try simp [depsB, Region.binds] at hd); (try simp only [Nat.reduceAdd] at hK hL)
                        (have e126 := hB.out 126); (simp (decide := true) only [look, if_true, if_false, hd, cond_true, cond_false, Array.getD_eq_getD_getElem?, List.getElem?_toArray, List.getElem?_cons_succ, List.getElem?_cons_zero, Option.getD_some] at e126); (have e127 := hB.out 127); (simp (decide := true) only [look, if_true, if_false, hd, cond_true, cond_false, Array.getD_eq_getD_getElem?, List.getElem?_toArray, List.getElem?_cons_succ, List.getElem?_cons_zero, Option.getD_some] at e127)
                        have h18 : L 18 = false := by cases hl : L 18 with | false => rfl | true => have hx := hC 18 _ rfl hl; simp [depsB, Region.binds] at hx; have hy := hC 10 _ rfl (by simp only [hx]); simp [depsB, Region.binds] at hy; have hz := hC 9 _ rfl (by simp only [hy]); simp [depsB, Region.binds, hL] at hz
                        obtain ⟨N, hN⟩ := hW
                        simp only [hL, h18, cond_false] at hN
                        have hbs : BSl W (.slice au G.box.length cu) G.box := by
                          obtain ⟨_, _, _, hO, _, _⟩ := hN
                          exact HMB.out.bsl hO.ow (by intro z hz; simp [hz])
                        refine wp_call_in 21 (by rfl) (by kernel_rfl) #[tptr q, .agg #[.int .u8 (by8 G.hint 0), .int .u8 (by8 G.hint 1), .int .u8 (by8 G.hint 2), .int .u8 (by8 G.hint 3), .int .u8 (by8 G.hint 4), .int .u8 (by8 G.hint 5), .int .u8 (by8 G.hint 6), .int .u8 (by8 G.hint 7), .int .i64 G.num, .slice au G.box.length cu]] (by simp [Act.eval, e126, e127]) ((ktake_to hN HTI.out HTT.out G.hint G.num _ G.box hbs 0 HE.out T' HT'.out).mono ?_)
                        rintro e W4 ⟨rfl, N4, h4⟩
                        refine ⟨_, rfl, ?_⟩
                        exact hK.out (.int .i64 0) () W4 (by simp (decide := true) [putO, setF, upd]) ⟨N4 ++ N, by simpa [upd, h18] using h4⟩
                      · (intro L x W hW hC hL hd B K hB hK; (try simp [depsB, Region.binds] at hd); (try simp only [Nat.reduceAdd] at hK hL); (have e128 := hB.out 128); (simp (decide := true) only [look, if_true, if_false, hd, cond_true, cond_false, Array.getD_eq_getD_getElem?, List.getElem?_toArray, List.getElem?_cons_succ, List.getElem?_cons_zero, Option.getD_some] at e128); go_simp; exact hK.out (.bool true) () W (by simp (decide := true) [putO, setF, upd]) hW)
                      · (intro L x W hW hC hL hd B K hB hK; (try simp [depsB, Region.binds] at hd); (try simp only [Nat.reduceAdd] at hK hL); (have e129 := hB.out 129); (simp (decide := true) only [look, if_true, if_false, hd, cond_true, cond_false, Array.getD_eq_getD_getElem?, List.getElem?_toArray, List.getElem?_cons_succ, List.getElem?_cons_zero, Option.getD_some] at e129); go_simp; exact hK.out (.bool true) () W (by simp (decide := true) [putO, setF, upd]) hW)
                      · (intro L x W hW hC hL hd B K hB hK; (try simp [depsB, Region.binds] at hd); (try simp only [Nat.reduceAdd] at hK hL); (have e130 := hB.out 130); (simp (decide := true) only [look, if_true, if_false, hd, cond_true, cond_false] at e130); (try dsimp only); rw [if_pos (by rw [wanted_B rfl rfl e130]; rfl)]; (have e7 := hB.out 7); (simp (decide := true) only [look, if_true, if_false, hd, cond_true, cond_false, Array.getD_eq_getD_getElem?, List.getElem?_toArray, List.getElem?_cons_succ, List.getElem?_cons_zero, Option.getD_some] at e7); go_simp; exact hK.out (ptr p) () W (by simp (decide := true) [putO, setF, upd]) hW)
                      · (intro L x W hW hC hL hd B K hB hK; (try simp [depsB, Region.binds] at hd); (try simp only [Nat.reduceAdd] at hK hL); (have e130 := hB.out 130); (simp (decide := true) only [look, if_true, if_false, hd, cond_true, cond_false] at e130); (try dsimp only); rw [if_pos (by rw [wanted_B rfl rfl e130]; rfl)]; (have e17 := hB.out 17); (simp (decide := true) only [look, if_true, if_false, hd, cond_true, cond_false, Array.getD_eq_getD_getElem?, List.getElem?_toArray, List.getElem?_cons_succ, List.getElem?_cons_zero, Option.getD_some] at e17); go_simp; exact hK.out (.slice (some ⟨rd, 0, none⟩) dl.length cd) () W (by simp (decide := true) [putO, setF, upd]) hW)
                      · (intro L x W hW hC hL hd B K hB hK; (try simp [depsB, Region.binds] at hd); (try simp only [Nat.reduceAdd] at hK hL); (have e130 := hB.out 130); (simp (decide := true) only [look, if_true, if_false, hd, cond_true, cond_false] at e130); (try dsimp only); rw [if_pos (by rw [wanted_B rfl rfl e130]; rfl)]; (have e18 := hB.out 18); (simp (decide := true) only [look, if_true, if_false, hd, cond_true, cond_false, Array.getD_eq_getD_getElem?, List.getElem?_toArray, List.getElem?_cons_succ, List.getElem?_cons_zero, Option.getD_some] at e18); go_simp; exact hK.out (.int .i64 j) () W (by simp (decide := true) [putO, setF, upd]) hW)
                      · (intro L x W hW hC hL hd B K hB hK; (try simp [depsB, Region.binds] at hd); (try simp only [Nat.reduceAdd] at hK hL); (have e130 := hB.out 130); (simp (decide := true) only [look, if_true, if_false, hd, cond_true, cond_false] at e130); (try dsimp only); rw [if_pos (by rw [wanted_B rfl rfl e130]; rfl)]; (have e132 := hB.out 132); (simp (decide := true) only [look, if_true, if_false, hd, cond_true, cond_false, Array.getD_eq_getD_getElem?, List.getElem?_toArray, List.getElem?_cons_succ, List.getElem?_cons_zero, Option.getD_some] at e132); (have e133 := hB.out 133); (simp (decide := true) only [look, if_true, if_false, hd, cond_true, cond_false, Array.getD_eq_getD_getElem?, List.getElem?_toArray, List.getElem?_cons_succ, List.getElem?_cons_zero, Option.getD_some] at e133); (have hjd := HJD.out); go_simp; exact hK.out (.pointer (some ⟨rd, j, none⟩)) () W (by simp (decide := true) [putO, setF, upd]) hW)
                      · (intro L x W hW hC hL hd B K hB hK; (try simp [depsB, Region.binds] at hd); (try simp only [Nat.reduceAdd] at hK hL); (have e130 := hB.out 130); (simp (decide := true) only [look, if_true, if_false, hd, cond_true, cond_false] at e130); (try dsimp only); rw [if_pos (by rw [wanted_B rfl rfl e130]; rfl)]; (have e134 := hB.out 134); (simp (decide := true) only [look, if_true, if_false, hd, cond_true, cond_false, Array.getD_eq_getD_getElem?, List.getElem?_toArray, List.getElem?_cons_succ, List.getElem?_cons_zero, Option.getD_some] at e134); (have hjd := HJD.out); (have hW0 := hW); (obtain ⟨N, hN⟩ := hW0); (obtain ⟨LM, hM⟩ := hN.mem (B := N9) (D := ⟨b19, 29, #[.int .u8 (by8 G.hint 0), .int .u8 (by8 G.hint 1), .int .u8 (by8 G.hint 2), .int .u8 (by8 G.hint 3), .int .u8 (by8 G.hint 4), .int .u8 (by8 G.hint 5), .int .u8 (by8 G.hint 6), .int .u8 (by8 G.hint 7), .int .i64 G.num, .slice au G.box.length cu]⟩ :: (NB ++ (RB ++ [⟨b8, 61, #[.int .i64 n, .int .i64 k, .int .i64 (-1), .string ByteArray.empty, .slice ah n ch, .bool false, .int .i64 0, .int .i64 0]⟩, ⟨b5, 110, #[.slice a0 m0 c0, .slice a1 m1 c1]⟩]))) (perm_cnt fun x => by simp only [cnt_append, cnt_cons, cnt_nil] <;> omega)); (obtain ⟨r9, c9, e9, -, lt9, hc9⟩ := HRD.out.openP hM (by omega)); (cases e9); (have cd9 := hc9 j _ HDJ.out); clear hM hc9 hN; go_simp; exact hK.out (.int .i64 d) () W (by simp (decide := true) [putO, setF, upd]) hW)
                      · (intro L x W hW hC hL hd B K hB hK; (try simp [depsB, Region.binds] at hd); (try simp only [Nat.reduceAdd] at hK hL); (have e130 := hB.out 130); (simp (decide := true) only [look, if_true, if_false, hd, cond_true, cond_false] at e130); (try dsimp only); rw [if_pos (by rw [wanted_B rfl rfl e130]; rfl)]; (have e19 := hB.out 19); (simp (decide := true) only [look, if_true, if_false, hd, cond_true, cond_false, Array.getD_eq_getD_getElem?, List.getElem?_toArray, List.getElem?_cons_succ, List.getElem?_cons_zero, Option.getD_some] at e19); go_simp; exact hK.out (.pointer (some ⟨b19, 8, none⟩)) () W (by simp (decide := true) [putO, setF, upd]) hW)
                      · (intro L x W hW hC hL hd B K hB hK; (try simp [depsB, Region.binds] at hd); (try simp only [Nat.reduceAdd] at hK hL); (have e130 := hB.out 130); (simp (decide := true) only [look, if_true, if_false, hd, cond_true, cond_false] at e130); (try dsimp only); rw [if_pos (by rw [wanted_B rfl rfl e130]; rfl)]; (have e136 := hB.out 136); (simp (decide := true) only [look, if_true, if_false, hd, cond_true, cond_false, Array.getD_eq_getD_getElem?, List.getElem?_toArray, List.getElem?_cons_succ, List.getElem?_cons_zero, Option.getD_some] at e136); (have hW0 := hW); (obtain ⟨N, hN⟩ := hW0); (have hq := hN.has (b := b19) (t := 29) (cs := #[.int .u8 (by8 G.hint 0), .int .u8 (by8 G.hint 1), .int .u8 (by8 G.hint 2), .int .u8 (by8 G.hint 3), .int .u8 (by8 G.hint 4), .int .u8 (by8 G.hint 5), .int .u8 (by8 G.hint 6), .int .u8 (by8 G.hint 7), .int .i64 G.num, .slice au G.box.length cu]) (by simp)); (have q0 := hq.cell 0); (have q1 := hq.cell 1); (have q2 := hq.cell 2); (have q3 := hq.cell 3); (have q4 := hq.cell 4); (have q5 := hq.cell 5); (have q6 := hq.cell 6); (have q7 := hq.cell 7); (have q8 := hq.cell 8); (have q9 := hq.cell 9); (have lq := hq.lt); (simp only [List.getElem?_toArray, List.getElem?_cons_succ, List.getElem?_cons_zero] at q0 q1 q2 q3 q4 q5 q6 q7 q8 q9); clear hq hN; go_simp; exact hK.out (.int .i64 G.num) () W (by simp (decide := true) [putO, setF, upd]) hW)
                      · intro L x W hW hC hL hd B K hB hK; (try simp [depsB, Region.binds] at hd); (try simp only [Nat.reduceAdd] at hK hL)
                        (have e130 := hB.out 130); (simp (decide := true) only [look, if_true, if_false, hd, cond_true, cond_false] at e130); (try dsimp only); rw [if_pos (by rw [wanted_B rfl rfl e130]; rfl)]
                        (have e131 := hB.out 131); (simp (decide := true) only [look, if_true, if_false, hd, cond_true, cond_false, Array.getD_eq_getD_getElem?, List.getElem?_toArray, List.getElem?_cons_succ, List.getElem?_cons_zero, Option.getD_some] at e131); (have e135 := hB.out 135); (simp (decide := true) only [look, if_true, if_false, hd, cond_true, cond_false, Array.getD_eq_getD_getElem?, List.getElem?_toArray, List.getElem?_cons_succ, List.getElem?_cons_zero, Option.getD_some] at e135); (have e137 := hB.out 137); (simp (decide := true) only [look, if_true, if_false, hd, cond_true, cond_false, Array.getD_eq_getD_getElem?, List.getElem?_toArray, List.getElem?_cons_succ, List.getElem?_cons_zero, Option.getD_some] at e137)
                        have g10 := hC 10 _ rfl (by simp only [hd])
                        simp [depsB, Region.binds] at g10
                        have g9 := hC 9 _ rfl (by simp only [g10])
                        simp [depsB, Region.binds] at g9
                        have h8 : L 8 = true := by simp only [g9]
                        obtain ⟨N, hN⟩ := hW
                        simp only [hL, h8, cond_true, cond_false] at hN
                        refine wp_call_in 30 (by rfl) (by kernel_rfl) #[ptr p, .int .i64 d, .int .i64 G.num] (by simp [Act.eval, e131, e135, e137]) ((kack_to hN d G.num (by rw [HRel.out.tow]; omega) (by rw [HRel.out.tow]; exact HDN.out) (HRel.out.yes HNP.out).1 (Int.le_refl _) HSD.out).mono ?_)
                        rintro e W4 ⟨rfl, h4⟩
                        refine ⟨_, rfl, ?_⟩
                        exact hK.out (.int .i64 0) () W4 (by simp (decide := true) [putO, setF, upd]) ⟨N, by simpa [upd, h8] using h4⟩
                      · (intro L x W hW hC hL hd B K hB hK; (try simp [depsB, Region.binds] at hd); (try simp only [Nat.reduceAdd] at hK hL); (have e130 := hB.out 130); (simp (decide := true) only [look, if_true, if_false, hd, cond_true, cond_false] at e130); (try dsimp only); rw [if_pos (by rw [wanted_B rfl rfl e130]; rfl)]; (have e138 := hB.out 138); (simp (decide := true) only [look, if_true, if_false, hd, cond_true, cond_false, Array.getD_eq_getD_getElem?, List.getElem?_toArray, List.getElem?_cons_succ, List.getElem?_cons_zero, Option.getD_some] at e138); go_simp; exact hK.out (.bool false) () W (by simp (decide := true) [putO, setF, upd]) hW)
                      · (intro L x W hW hC hL hd B K hB hK; (try simp [depsB, Region.binds] at hd); (try simp only [Nat.reduceAdd] at hK hL); (have e130 := hB.out 130); (simp (decide := true) only [look, if_true, if_false, hd, cond_true, cond_false, Array.getD_eq_getD_getElem?, List.getElem?_toArray, List.getElem?_cons_succ, List.getElem?_cons_zero, Option.getD_some] at e130); (have e139 := hB.out 139); (simp (decide := true) only [look, if_true, if_false, hd, cond_true, cond_false, Array.getD_eq_getD_getElem?, List.getElem?_toArray, List.getElem?_cons_succ, List.getElem?_cons_zero, Option.getD_some] at e139); go_simp; exact hK.out (.bool false) () W (by simp (decide := true) [putO, setF, upd]) hW)
                      intro _ W9 hW9
                      simp only [ovl, cond_true, Array.getD_eq_getD_getElem?, List.getElem?_toArray, List.getElem?_cons_succ, List.getElem?_cons_zero, Option.getD_some, List.setIfInBounds_toArray, List.set_cons_zero, List.set_cons_succ]
                      (try simp only [cond_true] at hW9)
                      obtain ⟨N27, h27⟩ := hW9
                      have HK27 := Lib.hid h27
                      clear h27
                      go_wp2
                      exact ⟨⟨j + 1, _, _, _, by simp, by omega, HR3.out, (pts_set ts HTI.out).trans HP.out, KS.dropC (D := ⟨b19, 29, #[.int .u8 (by8 G.hint 0), .int .u8 (by8 G.hint 1), .int .u8 (by8 G.hint 2), .int .u8 (by8 G.hint 3), .int .u8 (by8 G.hint 4), .int .u8 (by8 G.hint 5), .int .u8 (by8 G.hint 6), .int .u8 (by8 G.hint 7), .int .i64 G.num, .slice au G.box.length cu]⟩ :: NB) HK27.out⟩, by simp [intOf]; omega⟩
                · obtain rfl : j = dl.length := by omega
                  clear hRel hP hK
                  go_wp2
                  have hnk := HNK.out
                  exact ⟨⟨nn, G, ts, X, c, by simp, by simp, by simp, by omega, by omega, HRel.out, HP.out, KS.dropC (D := N9) HK.out⟩, by simp [intOf]; omega⟩
            · go_wp2_with fail
              go_meet
              exact ⟨kk, G, ts, X, lc, rfl, rfl, hk6, HRel.out, HP.out, HK.out⟩
          · go_wp2_with fail
            go_meet
            exact ⟨kk, G, ts, X, lc, rfl, rfl, hk6, HRel.out, HP.out, HK.out⟩
      case rest =>
        obtain ⟨kk, G, ts, X, lc, rfl, rfl, hk6, hRel, hP, hK⟩ := hcut
        have HRel := Lib.hid hRel
        have HP := Lib.hid hP
        have HK := Lib.hid hK
        obtain ⟨sb, HSB⟩ : ∃ sb, Hid (safeB G = sb) := ⟨_, rfl⟩
        clear hRel hP hK
        go_wp2_with fail
        refine (ksafe_to HK.out (by rw [HRel.out.tow]; omega) sb HSB.out).mono ?_
        rintro e w3 ⟨rfl, hb3⟩
        have HK3 := Lib.hid (HK.out.of_below hb3)
        clear hb3 HK
        cases sb with
        | false =>
          go_wp2
          go_ret
          exact ⟨rfl, HK3.out.below⟩
        | true =>
          by_cases h0 : kk = 0
          · have hz : ((kk : Int) == 0) = true := by simp [h0]
            go_wp2
            go_ret
            exact ⟨rfl, HK3.out.below⟩
          have hz : ((kk : Int) == 0) = false := by rw [beq_eq_false_iff_ne]; omega
          have HLRel := Lib.hid (HRel.out.safe (by omega) HSB.out)
          have HLC := Lib.hid HRel.out.lcl
          clear HRel
          go_upto_block 6 with fail
          go_cut [22] from 23 to 181 (fun v22 wc => ∃ (ts : List (Nat × TWS)) (X : List Blk), LRel n ts kk lc 1 ∧ pts ts = ps ∧ KS wc w (RB ++ [⟨b8, 61, #[.int .i64 n, .int .i64 k, .int .i64 (-1), .string ByteArray.empty, .slice ah n ch, .bool false, .int .i64 0, .int .i64 0]⟩, ⟨b5, 110, #[.slice a0 m0 c0, .slice a1 m1 c1]⟩]) X p G ts)
          case first =>
            go_wp2_with fail
            go_loopw [22, 23] (fun vl vi wc => ∃ (i lost : Nat) (ts : List (Nat × TWS)) (X : List Blk), vi = .int .i64 i ∧ vl = .int .i64 lost ∧ i ≤ n ∧ lost + 1 ≤ k ∧ LRel n ts kk lc (k - lost) ∧ pts ts = ps ∧ KS wc w (RB ++ [⟨b8, 61, #[.int .i64 n, .int .i64 k, .int .i64 (-1), .string ByteArray.empty, .slice ah n ch, .bool false, .int .i64 0, .int .i64 0]⟩, ⟨b5, 110, #[.slice a0 m0 c0, .slice a1 m1 c1]⟩]) X p G ts) (fun _ vi _ => n - (intOf vi).toNat)
            case atStart => exact ⟨0, 0, ts, X, rfl, rfl, by omega, by omega, HLRel.out, HP.out, HK3.out⟩
            case round =>
              clear HLRel HP HK3
              obtain ⟨i, lost, ts, X, rfl, rfl, hi, hlo, hL, hP, hK⟩ := hrel
              have HL := Lib.hid hL
              have HP := Lib.hid hP
              have HK := Lib.hid hK
              (have hq := hK.has (b := b5) (t := 110) (cs := #[.slice a0 m0 c0, .slice a1 m1 c1]) (by simp)); (have f0 := hq.cell 0); (have f1 := hq.cell 1); (have lf := hq.lt); (simp only [List.getElem?_toArray, List.getElem?_cons_succ, List.getElem?_cons_zero] at f0 f1); clear hq
              (have hq := hK.has (b := b8) (t := 61) (cs := #[.int .i64 n, .int .i64 k, .int .i64 (-1), .string ByteArray.empty, .slice ah n ch, .bool false, .int .i64 0, .int .i64 0]) (by simp)); (have g0 := hq.cell 0); (have g1 := hq.cell 1); (have lg := hq.lt); (simp only [List.getElem?_toArray, List.getElem?_cons_succ, List.getElem?_cons_zero] at g0 g1); clear hq
              by_cases hin : i < n
              · by_cases him : i < m1
                · obtain ⟨rf, of_, hf1, hlf, hcf⟩ : ∃ r o, a1 = some ⟨r, o, none⟩ ∧ r < w.heap.size ∧ w.cell? ⟨r, o + i, none⟩ = some (.bool (b1 i)) := by
                    obtain ⟨ao2, cap2, e2, -, h3⟩ := HF1.out
                    cases e2
                    rcases h3 with h3 | ⟨r, o, e, hlt', hc⟩
                    · omega
                    · refine ⟨r, o, e, hlt', ?_⟩
                      have := hc i him 0 _ rfl
                      simpa using this
                  subst hf1
                  have cf : wr.cell? ⟨rf, of_ + i, none⟩ = some (.bool (b1 i)) := by rw [← hcf]; exact World.cell?_of_block (a := ⟨rf, _, none⟩) (hK.below.block _ hlf)
                  have lf : rf < wr.heap.size := Nat.lt_of_lt_of_le hlf hK.below.size
                  clear hcf hlf
                  cases hb1 : b1 i with
                  | false =>
                    rw [hb1] at cf
                    clear hL hP hK
                    go_wp2
                    exact ⟨⟨i + 1, lost, ts, X, by simp, rfl, by omega, by omega, HL.out, HP.out, HK.out⟩, by simp [intOf]; omega⟩
                  | true =>
                    rw [hb1] at cf
                    by_cases hl1 : lost + 1 < k
                    · have hdl : decide ((lost : Int) < (k : Int) - 1) = true := decide_eq_true (by omega)
                      obtain ⟨LM, hM⟩ := hK.mem (B := RB) (D := [⟨b8, 61, #[.int .i64 n, .int .i64 k, .int .i64 (-1), .string ByteArray.empty, .slice ah n ch, .bool false, .int .i64 0, .int .i64 0]⟩, ⟨b5, 110, #[.slice a0 m0 c0, .slice (some ⟨rf, of_, none⟩) m1 c1]⟩]) (.refl _)
                      obtain ⟨rp, cp9, e9, -, lrp, hcp⟩ := HR.out.openP hM (by omega)
                      cases e9
                      clear hM hcp
                      obtain ⟨q, T, hqT⟩ : ∃ q T, ts.getD i dT = (q, T) := ⟨_, _, rfl⟩
                      have HTI : Hid (ts[i]? = some (q, T)) := by have h := hL.get hin; rw [hqT] at h; exact h
                      have HTT : Hid (TOk T) := hL.ok (q, T) (List.mem_of_getElem? HTI.out)
                      have HPQ : Hid (ps[i]? = some (tptr q)) := by have h := pts_get ts (i := i) (by rw [hL.len]; exact hin); rw [hqT, hP] at h; exact h
                      have HIN9 : Hid (i < n) := hin
                      obtain ⟨bb, HBB⟩ : ∃ bb, Hid (hadT T hN = bb) := ⟨_, rfl⟩
                      have HL2 : Hid (LRel n (ts.set i (q, dropT T hN)) kk lc (k - (lost + 1))) := LRel.drop (hL.less (by omega)) hin HTI.out
                      clear hL hP hK hqT
                      go_wp2_with fail
                      refine wp_region_o2 [173, 174, 175, 176, 177, 178, 179] (fun L (_ : Unit) => [(L 0, 173, .slice (some ⟨rp, 0, none⟩) n cr), (L 1, 174, .int .i64 i), (L 2, 175, .pointer (some ⟨rp, i, none⟩)), (L 3, 176, tptr q), (L 4, 177, .agg #[.int .u8 (by8 nonceX 0), .int .u8 (by8 nonceX 1), .int .u8 (by8 nonceX 2), .int .u8 (by8 nonceX 3), .int .u8 (by8 nonceX 4), .int .u8 (by8 nonceX 5), .int .u8 (by8 nonceX 6), .int .u8 (by8 nonceX 7)]), (L 5, 178, .agg #[.int .u8 (by8 hN 0), .int .u8 (by8 hN 1), .int .u8 (by8 hN 2), .int .u8 (by8 hN 3), .int .u8 (by8 hN 4), .int .u8 (by8 hN 5), .int .u8 (by8 hN 6), .int .u8 (by8 hN 7)]), (L 6, 179, .bool bb)])
                        (fun L _ W => KS W w (RB ++ [⟨b8, 61, #[.int .i64 n, .int .i64 k, .int .i64 (-1), .string ByteArray.empty, .slice ah n ch, .bool false, .int .i64 0, .int .i64 0]⟩, ⟨b5, 110, #[.slice a0 m0 c0, .slice (some ⟨rf, of_, none⟩) m1 c1]⟩]) X p G (bif L 6 then ts.set i (q, dropT T hN) else ts)) () (by kernel_rfl) (by kernel_rfl) 215 (by rfl) (fun _ _ => rfl) (by kernel_rfl) (by kernel_rfl) (by kernel_rfl) (by rfl) (by simpa using HK.out.drew) ?_ ⟨?_, ?_, ?_, ?_, ?_, ?_, ?_, trivial⟩
                      rotate_left
                      · (intro L x W hW hC hL hd B K hB hK; (try simp [depsB, Region.binds] at hd); (try simp only [Nat.reduceAdd] at hK hL); (have e9 := hB.out 9); (simp (decide := true) only [look, if_true, if_false, hd, cond_true, cond_false, Array.getD_eq_getD_getElem?, List.getElem?_toArray, List.getElem?_cons_succ, List.getElem?_cons_zero, Option.getD_some] at e9); go_simp; exact hK.out (.slice (some ⟨rp, 0, none⟩) n cr) () W (by simp (decide := true) [putO, setF, upd]) hW)
                      · (intro L x W hW hC hL hd B K hB hK; (try simp [depsB, Region.binds] at hd); (try simp only [Nat.reduceAdd] at hK hL); (have e23 := hB.out 23); (simp (decide := true) only [look, if_true, if_false, hd, cond_true, cond_false, Array.getD_eq_getD_getElem?, List.getElem?_toArray, List.getElem?_cons_succ, List.getElem?_cons_zero, Option.getD_some] at e23); go_simp; exact hK.out (.int .i64 i) () W (by simp (decide := true) [putO, setF, upd]) hW)
                      · (intro L x W hW hC hL hd B K hB hK; (try simp [depsB, Region.binds] at hd); (try simp only [Nat.reduceAdd] at hK hL); (have e173 := hB.out 173); (simp (decide := true) only [look, if_true, if_false, hd, cond_true, cond_false, Array.getD_eq_getD_getElem?, List.getElem?_toArray, List.getElem?_cons_succ, List.getElem?_cons_zero, Option.getD_some] at e173); (have e174 := hB.out 174); (simp (decide := true) only [look, if_true, if_false, hd, cond_true, cond_false, Array.getD_eq_getD_getElem?, List.getElem?_toArray, List.getElem?_cons_succ, List.getElem?_cons_zero, Option.getD_some] at e174); (have hin9 := HIN9.out); go_simp; exact hK.out (.pointer (some ⟨rp, i, none⟩)) () W (by simp (decide := true) [putO, setF, upd]) hW)
                      · (intro L x W hW hC hL hd B K hB hK; (try simp [depsB, Region.binds] at hd); (try simp only [Nat.reduceAdd] at hK hL); (have e175 := hB.out 175); (simp (decide := true) only [look, if_true, if_false, hd, cond_true, cond_false, Array.getD_eq_getD_getElem?, List.getElem?_toArray, List.getElem?_cons_succ, List.getElem?_cons_zero, Option.getD_some] at e175); (have hin9 := HIN9.out); (obtain ⟨LM, hM⟩ := hW.mem (B := RB) (D := [⟨b8, 61, #[.int .i64 n, .int .i64 k, .int .i64 (-1), .string ByteArray.empty, .slice ah n ch, .bool false, .int .i64 0, .int .i64 0]⟩, ⟨b5, 110, #[.slice a0 m0 c0, .slice (some ⟨rf, of_, none⟩) m1 c1]⟩]) (.refl _)); (obtain ⟨r9, c9, e9, -, lt9, hc9⟩ := HR.out.openP hM (by omega)); (cases e9); (have cp9 := hc9 i _ HPQ.out); clear hM hc9; go_simp; exact hK.out (tptr q) () W (by simp (decide := true) [putO, setF, upd]) hW)
                      · intro L x W hW hC hL hd B K hB hK; (try simp [depsB, Region.binds] at hd); (try simp only [Nat.reduceAdd] at hK hL)
                        refine wp_call_in 39 (by rfl) (by kernel_rfl) #[] (by simp [Act.eval]) ((nonce_to W).mono ?_)
                        rintro e W4 ⟨rfl, hb4⟩
                        refine ⟨_, rfl, ?_⟩
                        exact hK.out (.agg #[.int .u8 (by8 nonceX 0), .int .u8 (by8 nonceX 1), .int .u8 (by8 nonceX 2), .int .u8 (by8 nonceX 3), .int .u8 (by8 nonceX 4), .int .u8 (by8 nonceX 5), .int .u8 (by8 nonceX 6), .int .u8 (by8 nonceX 7)]) () W4 (by simp (decide := true) [putO, setF, upd]) (by simpa [upd] using hW.of_below hb4)
                      · intro L x W hW hC hL hd B K hB hK; (try simp [depsB, Region.binds] at hd); (try simp only [Nat.reduceAdd] at hK hL)
                        (have e177 := hB.out 177); (simp (decide := true) only [look, if_true, if_false, hd, cond_true, cond_false, Array.getD_eq_getD_getElem?, List.getElem?_toArray, List.getElem?_cons_succ, List.getElem?_cons_zero, Option.getD_some] at e177)
                        refine wp_call_in 18 (by rfl) (by kernel_rfl) #[.agg #[.int .u8 (by8 nonceX 0), .int .u8 (by8 nonceX 1), .int .u8 (by8 nonceX 2), .int .u8 (by8 nonceX 3), .int .u8 (by8 nonceX 4), .int .u8 (by8 nonceX 5), .int .u8 (by8 nonceX 6), .int .u8 (by8 nonceX 7)]] (by simp [Act.eval, e177]) ((hint_to nonceX hN rfl W).mono ?_)
                        rintro e W4 ⟨rfl, hb4⟩
                        refine ⟨_, rfl, ?_⟩
                        exact hK.out (.agg #[.int .u8 (by8 hN 0), .int .u8 (by8 hN 1), .int .u8 (by8 hN 2), .int .u8 (by8 hN 3), .int .u8 (by8 hN 4), .int .u8 (by8 hN 5), .int .u8 (by8 hN 6), .int .u8 (by8 hN 7)]) () W4 (by simp (decide := true) [putO, setF, upd]) (by simpa [upd] using hW.of_below hb4)
                      · intro L x W hW hC hL hd B K hB hK; (try simp [depsB, Region.binds] at hd); (try simp only [Nat.reduceAdd] at hK hL)
                        (have e176 := hB.out 176); (simp (decide := true) only [look, if_true, if_false, hd, cond_true, cond_false, Array.getD_eq_getD_getElem?, List.getElem?_toArray, List.getElem?_cons_succ, List.getElem?_cons_zero, Option.getD_some] at e176); (have e178 := hB.out 178); (simp (decide := true) only [look, if_true, if_false, hd, cond_true, cond_false, Array.getD_eq_getD_getElem?, List.getElem?_toArray, List.getElem?_cons_succ, List.getElem?_cons_zero, Option.getD_some] at e178)
                        simp only [hL, cond_false] at hW
                        refine wp_call_in 24 (by rfl) (by kernel_rfl) #[tptr q, .agg #[.int .u8 (by8 hN 0), .int .u8 (by8 hN 1), .int .u8 (by8 hN 2), .int .u8 (by8 hN 3), .int .u8 (by8 hN 4), .int .u8 (by8 hN 5), .int .u8 (by8 hN 6), .int .u8 (by8 hN 7)]] (by simp [Act.eval, e176, e178]) ((kdrop_to hW HTI.out HTT.out hN bb HBB.out _ rfl).mono ?_)
                        rintro e W4 ⟨rfl, h4⟩
                        refine ⟨_, rfl, ?_⟩
                        exact hK.out (.bool bb) () W4 (by simp (decide := true) [putO, setF, upd]) (by simpa [upd] using h4)
                      intro _ W9 hW9
                      simp only [ovl, cond_true, Array.getD_eq_getD_getElem?, List.getElem?_toArray, List.getElem?_cons_succ, List.getElem?_cons_zero, Option.getD_some, List.setIfInBounds_toArray, List.set_cons_zero, List.set_cons_succ]
                      (try simp only [cond_true] at hW9)
                      have HK9 := Lib.hid hW9
                      clear hW9
                      go_wp2
                      exact ⟨⟨i + 1, lost + 1, _, X, by simp, by simp, by omega, by omega, HL2.out, (pts_set ts HTI.out).trans HP.out, HK9.out⟩, by simp [intOf]; omega⟩
                    · have hdl : decide ((lost : Int) < (k : Int) - 1) = false := decide_eq_false (by omega)
                      clear hL hP hK
                      go_wp2
                      exact ⟨⟨i + 1, lost, ts, X, by simp, rfl, by omega, by omega, HL.out, HP.out, HK.out⟩, by simp [intOf]; omega⟩
                · go_wp2_with fail
                  go_meet
                  exact ⟨ts, X, HL.out.less (by omega), HP.out, HK.out⟩
              · go_wp2_with fail
                go_meet
                exact ⟨ts, X, HL.out.less (by omega), HP.out, HK.out⟩
          case rest =>
            clear HLRel HP HK3
            obtain ⟨ts, X, hL, hP, hK⟩ := hcut
            have HL := Lib.hid hL
            have HK := Lib.hid hK
            have hlen : ts.length = n := hL.len
            have HCLM : Hid (∀ (W : World) (base : Int), KS W w (RB ++ [⟨b8, 61, #[.int .i64 n, .int .i64 k, .int .i64 (-1), .string ByteArray.empty, .slice ah n ch, .bool false, .int .i64 0, .int .i64 0]⟩, ⟨b5, 110, #[.slice a0 m0 c0, .slice a1 m1 c1]⟩]) X p G ts → Calls Try.prog 55 #[.slice ar n cr, .agg #[.int .u8 (by8 nonceX 0), .int .u8 (by8 nonceX 1), .int .u8 (by8 nonceX 2), .int .u8 (by8 nonceX 3), .int .u8 (by8 nonceX 4), .int .u8 (by8 nonceX 5), .int .u8 (by8 nonceX 6), .int .u8 (by8 nonceX 7)], .int .i64 base] W fun e w' => ∃ u, e = .returned u ∧ Below W.heap.size W w' ∧ CSl w' u (claimsL ts nonceX base)) := fun W base h => by
              have hr : Row 40 1 (.slice ar n cr) ts.length (pts ts) RB := by rw [hP, hlen]; exact HR.out
              have hv := h.rws (B := RB) (.refl _) hr
              exact claims_to _ ts (by omega) hL.ok nonceX base W w _ X p G h hv
            clear hL hP hK
            go_wp2_with fail
            go_loopw [24] (fun vb wc => ∃ b : Nat, vb = .int .i64 b ∧ b ≤ kk ∧ KS wc w (RB ++ [⟨b8, 61, #[.int .i64 n, .int .i64 k, .int .i64 (-1), .string ByteArray.empty, .slice ah n ch, .bool false, .int .i64 0, .int .i64 0]⟩, ⟨b5, 110, #[.slice a0 m0 c0, .slice a1 m1 c1]⟩]) X p G ts) (fun vb _ => kk - (intOf vb).toNat)
            case atStart => exact ⟨0, rfl, by omega, HK.out⟩
            case round =>
              clear HK
              obtain ⟨b, rfl, hb, hK⟩ := hrel
              have HK := Lib.hid hK
              clear hK
              by_cases hbk : b < kk
              · obtain ⟨cl, HCL⟩ : ∃ cl, Hid (claimsL ts nonceX (b : Int) = cl) := ⟨_, rfl⟩
                have HIN : Hid (lc ∈ cl) := by show _ ∈ _; rw [← HCL.out]; exact HL.out.filed (by omega) HLC.out (b : Int) (by omega)
                have hcl16 : cl.length ≤ 16 := by rw [← HCL.out]; have := claimsK_len ts nonceX (b : Int) ts.length; unfold claimsL; omega
                go_wp2_with fail
                refine (nonce_to _).mono ?_
                rintro e w4 ⟨rfl, hb4⟩
                have HK4 := Lib.hid (HK.out.of_below hb4)
                clear hb4 HK
                go_wp2_with fail
                refine (HCLM.out _ (b : Int) HK4.out).mono ?_
                rintro e w5 ⟨u, rfl, hb5, hu⟩
                rw [HCL.out] at hu
                have HK5 := Lib.hid (HK4.out.of_below hb5)
                obtain ⟨au, cu, rfl, hcu⟩ := hu.slice
                have HU := Lib.hid hu
                clear hb5 hu HK4
                go_wp2_with fail
                go_loopw [26, 27] (fun vf vi wx => ∃ (i : Nat) (f : Bool), vi = .int .i64 i ∧ vf = .bool f ∧ i ≤ cl.length ∧ (f = true ↔ lc ∈ cl.take i) ∧ Below w5.heap.size w5 wx) (fun _ vi _ => cl.length - (intOf vi).toNat)
                case atStart => exact ⟨0, false, rfl, rfl, by omega, by simp, Below.refl _ _⟩
                case round =>
                  obtain ⟨i, f, rfl, rfl, hi, hf, hB⟩ := hrel
                  have HF := Lib.hid hf
                  have HB := Lib.hid hB
                  by_cases hil : i < cl.length
                  · obtain ⟨r, o, u, hau, hr, hc, hbs⟩ := (HU.out.below hB).elem hil
                    subst hau
                    obtain ⟨y, hy⟩ : ∃ y, cl.getD i [] = y := ⟨_, rfl⟩
                    rw [hy] at hbs
                    have HY := Lib.hid hy
                    have HTK : Hid (cl.take (i + 1) = cl.take i ++ [y]) := by
                      show _ = _
                      rw [List.take_succ_eq_append_getElem hil, ← hy, List.getD_eq_getElem?_getD, List.getElem?_eq_getElem hil]
                      rfl
                    have hcv : (convert 26 9 u).run Try.prog wr = .ok (.string { data := y.toArray }) wr := run_str wr _ _ _ u y Try.underlying26 Try.underlying5 Try.underlying9 hbs
                    obtain ⟨z, hz9⟩ : ∃ z, (y == lc) = z := ⟨_, rfl⟩
                    have hst := (str_eq' y lc).trans hz9
                    have HZ := Lib.hid hz9
                    obtain ⟨ub, cub, rfl, -, -⟩ := id hbs
                    clear hbs hy hf hB hz9
                    cases f with
                    | true =>
                      go_wp2
                      refine ⟨⟨i + 1, true, by simp, rfl, by omega, ?_, HB.out⟩, by simp [intOf]; omega⟩
                      rw [HTK.out]
                      have := HF.out.1 rfl
                      simp [this]
                    | false =>
                      go_wp2
                      refine ⟨⟨i + 1, z, by simp, by simp [HZ.out], by omega, ?_, HB.out⟩, by simp [intOf]; omega⟩
                      rw [HTK.out, ← HZ.out]
                      have hno : lc ∉ cl.take i := fun h => by have := HF.out.2 h; cases this
                      simp only [beq_iff_eq, List.mem_append, List.mem_singleton]
                      constructor
                      · intro h; exact .inr h.symm
                      · rintro (h | h)
                        · exact absurd h hno
                        · exact h.symm
                  · obtain rfl : i = cl.length := by omega
                    have hft : f = true := HF.out.2 (by rw [List.take_length]; exact HIN.out)
                    subst hft
                    clear hf hB
                    go_wp2
                    exact ⟨⟨b + 1, by simp, by omega, HK5.out.of_below HB.out⟩, by simp [intOf]; omega⟩
              · obtain rfl : b = kk := by omega
                have HC0 : Hid (claimsL ts nonceX (b : Int) = []) := HL.out.none
                go_wp2_with fail
                refine (nonce_to _).mono ?_
                rintro e w4 ⟨rfl, hb4⟩
                have HK4 := Lib.hid (HK.out.of_below hb4)
                clear hb4 HK
                go_wp2_with fail
                refine (HCLM.out _ (b : Int) HK4.out).mono ?_
                rintro e w5 ⟨u, rfl, hb5, hu⟩
                rw [HC0.out] at hu
                have HB5 := Lib.hid (HK4.out.of_below hb5).below
                obtain ⟨au, cu, rfl, hcu⟩ := hu.slice
                simp only [List.length_nil] at hcu ⊢
                clear hb5 hu HK4
                go_wp2
                go_ret
                exact ⟨rfl, HB5.out⟩

end Go.Proofs.Ytghaiplhakeahaa
