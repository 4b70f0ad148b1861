/- The law TalkOnce: its walk. -/
import Derived.Test.YtgjodjkmefdilaaTpy
namespace Go.Proofs.Ytgjodjkmefdilaa
set_option linter.unusedSimpArgs false
set_option linter.unusedVariables false
open Go.RowKit

set_option maxRecDepth 100000 in
set_option maxHeartbeats 8000000 in
theorem talkOnce_any (x y : Int) (v2 : Value) (n0 : Nat) (F : Nat → Int × Int) (w : World) (hn0 : n0 ≤ maxLen) (hv2 : Rws w v2 n0 2 (fun i => [.int .i64 (F i).1, .int .i64 (F i).2])) :
    Calls Try.prog 4 #[.agg #[.int .i64 x, .int .i64 y], v2] w fun e w' => e = .returned (.bool true) ∧ Below w.heap.size w w' := by
  obtain ⟨ao, cap, rfl, hcap, hnil⟩ := hv2.slice
  have HV := Lib.hid hv2
  have HN := Lib.hid hn0
  have HS := Lib.hid ((Ow.start w).alloc (.cells #[.int .i64 x, .int .i64 y] 22))
  clear hv2 hn0
  go_enter Try.func4, Try.ntmps4
  go_wp2_with fail
  refine (play_to x y _ n0 F _ w HN.out HS.out HV.out).mono ?_
  rintro e w1 ⟨p, q, b12, b13, T, U, s0, s1, gv0, gv1, wv, g0, g1, pk, n, E, rfl, hn, hPS, hPI, hgT, hgU⟩
  obtain ⟨X, Bw, B0, B1, us0, us1, hS, hRw, hMw, hR0, hM0, hR1, hM1⟩ := hPS
  have hg0 : g0 = wds 1 T.heard := by have := hPI.ba.got; rwa [hgT, List.append_nil] at this
  have hg1 : g1 = wds 0 U.heard := by have := hPI.ab.got; rwa [hgU, List.append_nil] at this
  have hh0 := hPI.ba.hle
  have hh1 := hPI.ab.hle
  have hn1 := hPI.n0
  have hn2 := hPI.n1
  obtain ⟨h0, eh0⟩ : ∃ h, T.heard = h := ⟨_, rfl⟩
  obtain ⟨h1, eh1⟩ : ∃ h, U.heard = h := ⟨_, rfl⟩
  rw [eh0] at hg0 hh0
  rw [eh1] at hg1 hh1
  subst hg0 hg1
  obtain ⟨Y1, O1, hX1, hC1⟩ := hS.ow
  have m0 : MsgL w Y1 gv0 (wds 1 h0) := (hR0.msgl hM0).mono (fun z hz => by
    rcases List.mem_append.1 hz with hz | hz
    · exact hC1 z (by simp [hz])
    · exact hX1 z hz)
  have m1 : MsgL w Y1 gv1 (wds 0 h1) := (hR1.msgl hM1).mono (fun z hz => by
    rcases List.mem_append.1 hz with hz | hz
    · exact hC1 z (by simp [hz])
    · exact hX1 z hz)
  rw [wds_len] at hR0 hR1
  obtain ⟨e0, f0, rfl⟩ := hR0.slice
  obtain ⟨e1, f1, rfl⟩ := hR1.slice
  have HO2 : Hid (Ow ((w1.alloc (.cells #[.int .i64 s0, .int .i64 s1] 22)).alloc (.cells #[.slice e0 h0 f0, .slice e1 h1 f1] 41)) w (⟨w1.heap.size + 1, 41, #[.slice e0 h0 f0, .slice e1 h1 f1]⟩ :: (⟨w1.heap.size, 22, #[.int .i64 s0, .int .i64 s1]⟩ :: Y1))) := (O1.key _ _ w1.heap.size rfl).key _ _ (w1.heap.size + 1) (by simp)
  have HM0 := Lib.hid m0
  have HM1 := Lib.hid m1
  clear hS hRw hMw hR0 hM0 hR1 hM1 hPI hgT hgU O1 hX1 hC1 m0 m1 HS HV
  go_wp2_with fail
  refine (told_to _).mono ?_
  rintro e w2 ⟨rfl, hb2⟩
  have O2 := HO2.out.of_below hb2
  have hbi := O2.has (b := w1.heap.size) (t := 22) (cs := #[.int .i64 s0, .int .i64 s1]) (by simp)
  have hbm := O2.has (b := w1.heap.size + 1) (t := 41) (cs := #[.slice e0 h0 f0, .slice e1 h1 f1]) (by simp)
  have k0 := hbi.cell 0
  have k1 := hbi.cell 1
  have l1 := hbi.lt
  have j0 := hbm.cell 0
  have j1 := hbm.cell 1
  have l2 := hbm.lt
  have HQ0 : Hid (MsgL w2 [] (.slice e0 h0 f0) (wds 1 h0)) := HM0.out.here O2 (fun z hz => by simp [hz])
  have HQ1 : Hid (MsgL w2 [] (.slice e1 h1 f1) (wds 0 h1)) := HM1.out.here O2 (fun z hz => by simp [hz])
  have HB2 := Lib.hid O2
  have hd1 : decide ((h0 : Int) ≤ (s1 : Int)) = true := decide_eq_true (by omega)
  have hd2 : decide ((h1 : Int) ≤ (s0 : Int)) = true := decide_eq_true (by omega)
  clear O2 hbi hbm hb2 HO2 HM0 HM1
  have L1 : Hid (∀ g d, Calls Try.prog 18 #[.int .u8 1, .int .i64 h0] (plus w2 g d) fun x w' => ∃ u, x = .returned u ∧ Below (plus w2 g d).heap.size (plus w2 g d) w' ∧ CloL w2.heap.size (wds 1 h0) u w') := fun g d =>
    (lists_to 1 h0 (by omega) (by omega) (plus w2 g d)).mono (by
      rintro x w' ⟨u, h1, h2, h3⟩
      exact ⟨u, h1, h2, h3.base (by simp)⟩)
  have S1 : Hid (∀ u g d, CloL w2.heap.size (wds 1 h0) u (plus w2 g d) → Calls Try.prog 17 #[.slice e0 h0 f0, u] (plus w2 g d) fun x w' => x = .returned (.bool true) ∧ Below (plus w2 g d).heap.size (plus w2 g d) w') := fun u g d hu => by
    obtain ⟨us, B5, N5, O5, R5, M5⟩ := hu.found (Ow.start w2) ⟨⟨g, d⟩, rfl⟩
    have hl : (wds 1 h0).length ≤ 1000000 := by rw [wds_len]; omega
    exact (same_to _ _ (wds 1 h0) (wds 1 h0) _ (by omega) (by omega) (HQ0.out.here ((Ow.start w2).plus g d) sub_nil) ((R5.msgl (M5 w2)).here O5 (by intro x hx; rcases List.mem_append.1 hx with hx | hx <;> simp [hx])) true (by simp)).mono fun e w' hh => ⟨hh.1, hh.2.below⟩
  have L2 : Hid (∀ g d, Calls Try.prog 18 #[.int .u8 0, .int .i64 h1] (plus w2 g d) fun x w' => ∃ u, x = .returned u ∧ Below (plus w2 g d).heap.size (plus w2 g d) w' ∧ CloL w2.heap.size (wds 0 h1) u w') := fun g d =>
    (lists_to 0 h1 (by omega) (by omega) (plus w2 g d)).mono (by
      rintro x w' ⟨u, h1, h2, h3⟩
      exact ⟨u, h1, h2, h3.base (by simp)⟩)
  have S2 : Hid (∀ u g d, CloL w2.heap.size (wds 0 h1) u (plus w2 g d) → Calls Try.prog 17 #[.slice e1 h1 f1, u] (plus w2 g d) fun x w' => x = .returned (.bool true) ∧ Below (plus w2 g d).heap.size (plus w2 g d) w') := fun u g d hu => by
    obtain ⟨us, B5, N5, O5, R5, M5⟩ := hu.found (Ow.start w2) ⟨⟨g, d⟩, rfl⟩
    have hl : (wds 0 h1).length ≤ 1000000 := by rw [wds_len]; omega
    exact (same_to _ _ (wds 0 h1) (wds 0 h1) _ (by omega) (by omega) (HQ1.out.here ((Ow.start w2).plus g d) sub_nil) ((R5.msgl (M5 w2)).here O5 (by intro x hx; rcases List.mem_append.1 hx with hx | hx <;> simp [hx])) true (by simp)).mono fun e w' hh => ⟨hh.1, hh.2.below⟩
  go_wp2_with fail
  refine wp_region_rq (by kernel_rfl) (by kernel_rfl) (by kernel_rfl) ?_
  repeat (first
    | (refine B_skip ?_ ?_; (· rfl); (try simp only [Act.put, List.setIfInBounds_toArray, List.set_cons_zero, List.set_cons_succ]))
    | (refine B_move rfl ?_ ?_; (· rfl); (try simp only [Act.eval, Act.put, Array.getD_eq_getD_getElem?, List.getElem?_toArray, List.getElem?_cons_succ, List.getElem?_cons_zero, Option.getD_some, List.setIfInBounds_toArray, List.set_cons_zero, List.set_cons_succ]))
    | (refine B_plain ?_ ?_; (· rfl); intro K hK; go_big_quiet_op; with_reducible refine hK _ ?_; clear hK K)
    | (refine B_callR (CloL w2.heap.size (wds 1 h0)) (stays_cloL _ _) (f := 18) rfl rfl (by kernel_rfl) ?_ (fun xq => ?_) ?_; (· rfl); (· ((simp only [List.map_toArray, List.map_cons, List.map_nil, Act.eval, Array.getD_eq_getD_getElem?, List.getElem?_toArray, List.getElem?_cons_succ, List.getElem?_cons_zero, Option.getD_some]); (with_reducible apply retR); with_reducible exact L1.out _ _)))
    | (refine B_callR (CloL w2.heap.size (wds 0 h1)) (stays_cloL _ _) (f := 18) rfl rfl (by kernel_rfl) ?_ (fun xq => ?_) ?_; (· rfl); (· ((simp only [List.map_toArray, List.map_cons, List.map_nil, Act.eval, Array.getD_eq_getD_getElem?, List.getElem?_toArray, List.getElem?_cons_succ, List.getElem?_cons_zero, Option.getD_some]); (with_reducible apply retR); with_reducible exact L2.out _ _)))
    | (refine B_callRX (v := .bool true) (f := 17) rfl (by kernel_rfl) ?_ (fun xq vs hvs => ?_) ?_; (· rfl); (· (obtain ⟨a1, _, rfl, q1, a2, _, rfl, q2, q3⟩ := hvs; cases q3; obtain rfl : a1 = .slice e0 h0 f0 := q1; (with_reducible apply retB); exact S1.out a2 _ _ q2)); (try simp only [Act.put, List.setIfInBounds_toArray, List.set_cons_zero, List.set_cons_succ]))
    | (refine B_callRX (v := .bool true) (f := 17) rfl (by kernel_rfl) ?_ (fun xq vs hvs => ?_) ?_; (· rfl); (· (obtain ⟨a1, _, rfl, q1, a2, _, rfl, q2, q3⟩ := hvs; cases q3; obtain rfl : a1 = .slice e1 h1 f1 := q1; (with_reducible apply retB); exact S2.out a2 _ _ q2)); (try simp only [Act.put, List.setIfInBounds_toArray, List.set_cons_zero, List.set_cons_succ])))
  refine B_nil ?_ rfl ?_ ?_
  · kernel_rfl
  · rfl
  rintro _ ⟨⟨g4, d4⟩, rfl⟩
  simp only [fin, Act.put, List.setIfInBounds_toArray, List.set_cons_zero, List.set_cons_succ]
  intros
  go_wp2
  go_ret
  exact ⟨rfl, (HB2.out.plus _ _).below⟩

end Go.Proofs.Ytgjodjkmefdilaa
