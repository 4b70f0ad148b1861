/- The law VeilTurned: its walk. -/
import Derived.Test.YthdcfdfpfagamaaVc
namespace Go.Proofs.Ythdcfdfpfagamaa
set_option linter.unusedSimpArgs false
set_option linter.unusedVariables false
open Go.RowKit

/-! ### VeilTurned -/
set_option maxRecDepth 100000 in
set_option maxHeartbeats 4000000 in
theorem veilTurned_any (k : BitVec 64) (v : Value) (l : List UInt8) (a b : Int) (w : World) (hv : BSl w v l) :
    Calls Try.prog 15 #[.agg #[.int .u8 (by8 k 0), .int .u8 (by8 k 1), .int .u8 (by8 k 2), .int .u8 (by8 k 3), .int .u8 (by8 k 4), .int .u8 (by8 k 5), .int .u8 (by8 k 6), .int .u8 (by8 k 7)], v, .agg #[.int .i64 a, .int .i64 b]] w fun e w' => e = .returned (.bool true) ∧ Below w.heap.size w w' := by
  obtain ⟨x, HX⟩ : ∃ x, Hid (l.take 300 = x) := ⟨_, rfl⟩
  have hxl : x.length ≤ 65536 := by rw [← HX.out]; simp; omega
  obtain ⟨y, HY⟩ : ∃ y, Hid (sealF k x = y) := ⟨_, rfl⟩
  have hyl : 8 + x.length = y.length := by rw [← HY.out, sealF_len]
  have hy8 : ¬ ((y.length : Int) < 8) := by omega
  obtain ⟨bb, hbb⟩ : ∃ bb : UInt8, b % 256 = (bb.toNat : Int) := ⟨UInt8.ofNat (b % 256).toNat, by rw [UInt8.toNat_ofNat']; omega⟩
  obtain ⟨q, HQ⟩ : ∃ q : Nat, Hid (((a % 18446744073709551616).toNat) % y.length = q) := ⟨_, rfl⟩
  have hq : q < y.length := by rw [← HQ.out]; exact Nat.mod_lt _ (by omega)
  obtain ⟨ao, cap, rfl, hcap, -⟩ := hv.open_
  have HV := Lib.hid (((few_bsl HX.out hv).alloc (.cells #[.int .u8 (by8 k 0), .int .u8 (by8 k 1), .int .u8 (by8 k 2), .int .u8 (by8 k 3), .int .u8 (by8 k 4), .int .u8 (by8 k 5), .int .u8 (by8 k 6), .int .u8 (by8 k 7)] 24)).alloc (.cells #[.int .i64 a, .int .i64 b] 65))
  clear hv
  have T0 := Lib.hid (fun W => few_eq ao cap l x HX.out hcap W)
  go_enter Try.func15, Try.ntmps15
  go_wp2
  refine wp_region_rq (by kernel_rfl) (by kernel_rfl) (by kernel_rfl) ?_
  repeat (first
    | (refine B_skip ?_ ?_; (· rfl); (try simp only [Act.put, List.setIfInBounds_toArray, List.set_cons_zero, List.set_cons_succ]))
    | (refine B_move rfl ?_ ?_; (· rfl); (try simp only [Act.eval, Act.put, Array.getD_eq_getD_getElem?, List.getElem?_toArray, List.getElem?_cons_succ, List.getElem?_cons_zero, Option.getD_some, List.setIfInBounds_toArray, List.set_cons_zero, List.set_cons_succ]))
    | (refine B_plain ?_ ?_; (· rfl); intro K hK; go_big_quiet_op; with_reducible refine hK _ ?_; clear hK K)
    | (fail))
  refine B_nil ?_ rfl ?_ ?_
  · kernel_rfl
  · rfl
  rintro _ ⟨⟨g1, d1⟩, rfl⟩
  simp only [fin, Act.put, List.setIfInBounds_toArray, List.set_cons_zero, List.set_cons_succ]
  go_wp2_with fail
  refine wp_mem (fun W => Mem W w [(⟨w.heap.size + 1, 65, #[.int .i64 a, .int .i64 b]⟩ : Blk), (⟨w.heap.size, 24, #[.int .u8 (by8 k 0), .int .u8 (by8 k 1), .int .u8 (by8 k 2), .int .u8 (by8 k 3), .int .u8 (by8 k 4), .int .u8 (by8 k 5), .int .u8 (by8 k 6), .int .u8 (by8 k 7)]⟩ : Blk)] ∧ BSl W (.slice ao x.length cap) x) ⟨(((Mem.start w).key #[.int .u8 (by8 k 0), .int .u8 (by8 k 1), .int .u8 (by8 k 2), .int .u8 (by8 k 3), .int .u8 (by8 k 4), .int .u8 (by8 k 5), .int .u8 (by8 k 6), .int .u8 (by8 k 7)] 24 w.heap.size rfl).key #[.int .i64 a, .int .i64 b] 65 (w.heap.size + 1) (by simp)).plus _ _, HV.out.plus _ _⟩ ?_
  rintro W2 ⟨M2, hV2⟩
  have HN2 : Hid (New w [(⟨w.heap.size + 1, 65, #[.int .i64 a, .int .i64 b]⟩ : Blk), (⟨w.heap.size, 24, #[.int .u8 (by8 k 0), .int .u8 (by8 k 1), .int .u8 (by8 k 2), .int .u8 (by8 k 3), .int .u8 (by8 k 4), .int .u8 (by8 k 5), .int .u8 (by8 k 6), .int .u8 (by8 k 7)]⟩ : Blk)]) := New.cons (Nat.le_succ _) (New.cons (Nat.le_refl _) (New.nil _))
  have cK2 := M2.cell (b := w.heap.size) (t := 24) (cs := #[.int .u8 (by8 k 0), .int .u8 (by8 k 1), .int .u8 (by8 k 2), .int .u8 (by8 k 3), .int .u8 (by8 k 4), .int .u8 (by8 k 5), .int .u8 (by8 k 6), .int .u8 (by8 k 7)]) (by simp)
  have lK2 : w.heap.size < W2.heap.size := M2.lt (x := (⟨w.heap.size, 24, #[.int .u8 (by8 k 0), .int .u8 (by8 k 1), .int .u8 (by8 k 2), .int .u8 (by8 k 3), .int .u8 (by8 k 4), .int .u8 (by8 k 5), .int .u8 (by8 k 6), .int .u8 (by8 k 7)]⟩ : Blk)) (by simp)
  have T1 : Hid (∀ g d, Calls Try.prog 39 #[.agg #[.int .u8 (by8 k 0), .int .u8 (by8 k 1), .int .u8 (by8 k 2), .int .u8 (by8 k 3), .int .u8 (by8 k 4), .int .u8 (by8 k 5), .int .u8 (by8 k 6), .int .u8 (by8 k 7)], .slice ao x.length cap] (plus W2 g d) fun e w' => ∃ u, e = .returned u ∧ Below (plus W2 g d).heap.size (plus W2 g d) w' ∧ Ans W2.heap.size y u w') := fun g d => by
    refine (seal_to k _ x hxl y HY.out _ (hV2.plus g d)).mono ?_
    rintro e w' ⟨u, h1, h2, h3⟩
    exact ⟨u, h1, h2, h3.base (by simp)⟩
  have HM2 := Lib.hid M2
  clear M2 hV2
  refine wp_region_rq (by kernel_rfl) (by kernel_rfl) (by kernel_rfl) ?_
  repeat (first
    | (refine B_skip ?_ ?_; (· rfl); (try simp only [Act.put, List.setIfInBounds_toArray, List.set_cons_zero, List.set_cons_succ]))
    | (refine B_move rfl ?_ ?_; (· rfl); (try simp only [Act.eval, Act.put, Array.getD_eq_getD_getElem?, List.getElem?_toArray, List.getElem?_cons_succ, List.getElem?_cons_zero, Option.getD_some, List.setIfInBounds_toArray, List.set_cons_zero, List.set_cons_succ]))
    | (refine B_plain ?_ ?_; (· rfl); intro K hK; go_big_quiet_op; with_reducible refine hK _ ?_; clear hK K)
    | (refine B_callX (v := ?_) (f := 34) rfl (by kernel_rfl) ?_ (fun xq => ?_) ?_; rotate_left; (· rfl); (· ((simp only [List.map_toArray, List.map_cons, List.map_nil, Act.eval, Array.getD_eq_getD_getElem?, List.getElem?_toArray, List.getElem?_cons_succ, List.getElem?_cons_zero, Option.getD_some]); with_reducible apply retB_same; with_reducible exact (T0.out _))); (try simp only [Act.put, List.setIfInBounds_toArray, List.set_cons_zero, List.set_cons_succ]))
    | (refine B_callR (Ans W2.heap.size y) (stays_ans _ _) (f := 39) rfl rfl (by kernel_rfl) ?_ (fun xq => ?_) ?_; (· rfl); (· ((simp only [List.map_toArray, List.map_cons, List.map_nil, Act.eval, Array.getD_eq_getD_getElem?, List.getElem?_toArray, List.getElem?_cons_succ, List.getElem?_cons_zero, Option.getD_some]); (with_reducible apply retR); with_reducible exact T1.out _ _)))
    | (refine B_moveR _ ?_ rfl (Or.inr rfl) rfl ?_ ?_; (· exact stays_ans _ _); (· rfl)))
  refine B_nil ?_ rfl ?_ ?_
  · kernel_rfl
  · rfl
  rintro _ ⟨⟨g2, d2⟩, rfl⟩
  simp only [fin, Act.put, List.setIfInBounds_toArray, List.set_cons_zero, List.set_cons_succ]
  intro u9 A9 u23 _
  obtain ⟨bo, bcap, S, rfl, ⟨hbc, -⟩, hBy, hNS, -, M3⟩ := A9.mem (HM2.out.plus g2 d2) (fun y hy => HM2.out.lt hy) HM2.out.size
  obtain ⟨r, t, cur, rfl, rfl, hcur⟩ : ∃ r t cur, bo = some ⟨r, 0, none⟩ ∧ S = [⟨r, t, cur⟩] ∧ ∀ j, j < y.length → cur[j]? = some (.int .u8 ((y.getD j 0).toNat : Int)) := by
    rcases hBy with ⟨h, -⟩ | h
    · rw [h] at hyl; simp at hyl
    · exact h
  have HNR : Hid (w.heap.size ≤ r) := hNS _ (List.mem_singleton.2 rfl)
  refine wp_opqK (fun W => Mem W w [⟨r, t, cur⟩, (⟨w.heap.size + 1, 65, #[.int .i64 a, .int .i64 b]⟩ : Blk), (⟨w.heap.size, 24, #[.int .u8 (by8 k 0), .int .u8 (by8 k 1), .int .u8 (by8 k 2), .int .u8 (by8 k 3), .int .u8 (by8 k 4), .int .u8 (by8 k 5), .int .u8 (by8 k 6), .int .u8 (by8 k 7)]⟩ : Blk)]) M3 ?_
  intro W3 M3'
  have c0 : W3.cell? ⟨r, q, none⟩ = some (.int .u8 ((y.getD q 0).toNat : Int)) := (M3'.cell (b := r) (t := t) (cs := cur) (by simp) q).trans (hcur q hq)
  have f0 : W3.frozen? ⟨r, q, none⟩ = false := M3'.frozen (b := r) (t := t) (cs := cur) (by simp) q
  have l0 : r < W3.heap.size := M3'.lt (x := ⟨r, t, cur⟩) (by simp)
  have cK3 := M3'.cell (b := w.heap.size) (t := 24) (cs := #[.int .u8 (by8 k 0), .int .u8 (by8 k 1), .int .u8 (by8 k 2), .int .u8 (by8 k 3), .int .u8 (by8 k 4), .int .u8 (by8 k 5), .int .u8 (by8 k 6), .int .u8 (by8 k 7)]) (by simp)
  have lK3 : w.heap.size < W3.heap.size := M3'.lt (x := (⟨w.heap.size, 24, #[.int .u8 (by8 k 0), .int .u8 (by8 k 1), .int .u8 (by8 k 2), .int .u8 (by8 k 3), .int .u8 (by8 k 4), .int .u8 (by8 k 5), .int .u8 (by8 k 6), .int .u8 (by8 k 7)]⟩ : Blk)) (by simp)
  have hrk : r ≠ w.heap.size := by
    have := M3'.apart
    simp at this
    omega
  have HM3 := Lib.hid M3'
  have HC := Lib.hid hcur
  clear M3 M3' A9 hBy hNS hcur HM2 T1 cK2 lK2
  obtain ⟨y2, HY2⟩ : ∃ y2, Hid (y.set q (y.getD q 0 + bb) = y2) := ⟨_, rfl⟩
  have hy2l : y2.length = y.length := by rw [← HY2.out]; simp
  obtain ⟨nb, HNB⟩ : ∃ nb : Int, Hid (nb = ((y.getD q 0 + bb).toNat : Int)) := ⟨_, rfl⟩
  have HC2 : Hid (∀ j, j < y2.length → (cur.setIfInBounds q (.int .u8 nb))[j]? = some (.int .u8 ((y2.getD j 0).toNat : Int))) := fun j hj => by
    rw [Array.getElem?_setIfInBounds, ← HY2.out, HNB.out]
    have hs := (Array.getElem?_eq_some_iff.1 (HC.out q hq)).1
    by_cases he : q = j
    · subst he
      rw [if_pos rfl, if_pos hs]
      simp [List.getD_eq_getElem?_getD, hq]
    · rw [if_neg he, HC.out j (by omega)]
      simp [List.getD_eq_getElem?_getD, List.getElem?_set_ne he]
  have hnb : (((y.getD q 0).toNat : Int) + (bb.toNat : Int)) % 256 = nb := by
    rw [HNB.out, UInt8.toNat_add]
    omega
  obtain ⟨z, er, HO⟩ : ∃ z er, Hid (openF k y2 = (z, er)) := ⟨_, _, rfl⟩
  have HSM : Hid ((bb.toNat : Int) = 0 → er = 0) := fun h => by
    have hb0 : bb = 0 := by
      apply UInt8.toNat_inj.1
      show bb.toNat = 0
      omega
    have h1 := HO.out
    have h2 : y2 = y := by
      rw [← HY2.out, hb0]
      apply List.ext_getElem?
      intro j
      by_cases he : q = j
      · subst he; simp [hq, List.getD_eq_getElem?_getD]
      · rw [List.getElem?_set_ne he]
    rw [h2, ← HY.out, open_sealF k x hxl] at h1
    cases h1; rfl
  obtain ⟨A, hA⟩ : ∃ A : Nat, a % 18446744073709551616 = (A : Int) := ⟨(a % 18446744073709551616).toNat, by omega⟩
  have hA1 : A < 18446744073709551616 := by omega
  have hAw : IntKind.u64.wrap a = (A : Int) := by rw [IntKind.wrap_u64]; exact hA
  have hrem : (A : Int).tmod (y.length : Int) = (q : Int) := by
    rw [← HQ.out, Int.tmod_eq_emod_of_nonneg (by omega), hA]
    show _ = ((A % y.length : Nat) : Int)
    push_cast; rfl
  generalize ((y.getD q 0).toNat : Int) = cY at c0 hnb
  generalize (bb.toNat : Int) = cB at hbb hnb HSM
  have hwq : wrap64 (q : Int) = q := by simp only [wrap64]; omega
  have hbz := beq_str z
  have hz2 : y2.length ≤ 9223372036854775807 := by omega
  go_wp2_with fail
  refine (told_any _).mono ?_
  rintro e w4 ⟨rfl, hb4⟩; obtain ⟨g4, d4, rfl⟩ := plus_of_below hb4; clear hb4
  go_wp2_with fail
  refine calls_mem (fun W => Mem W w [⟨r, t, cur.setIfInBounds q (.int .u8 nb)⟩, (⟨w.heap.size + 1, 65, #[.int .i64 a, .int .i64 b]⟩ : Blk), (⟨w.heap.size, 24, #[.int .u8 (by8 k 0), .int .u8 (by8 k 1), .int .u8 (by8 k 2), .int .u8 (by8 k 3), .int .u8 (by8 k 4), .int .u8 (by8 k 5), .int .u8 (by8 k 6), .int .u8 (by8 k 7)]⟩ : Blk)]) ((HM3.out.set (B := []) q _).plus _ _) ?_
  intro W5 M5
  have hvb5 := bsl_block (l := y2) (cap := bcap) (show HasBlk W5 r t _ from M5.has ⟨r, t, cur.setIfInBounds q (.int .u8 nb)⟩ (by simp)) (by omega) HC2.out
  rw [hy2l] at hvb5
  have cK5 := M5.cell (b := w.heap.size) (t := 24) (cs := #[.int .u8 (by8 k 0), .int .u8 (by8 k 1), .int .u8 (by8 k 2), .int .u8 (by8 k 3), .int .u8 (by8 k 4), .int .u8 (by8 k 5), .int .u8 (by8 k 6), .int .u8 (by8 k 7)]) (by simp)
  have lK5 : w.heap.size < W5.heap.size := M5.lt (x := (⟨w.heap.size, 24, #[.int .u8 (by8 k 0), .int .u8 (by8 k 1), .int .u8 (by8 k 2), .int .u8 (by8 k 3), .int .u8 (by8 k 4), .int .u8 (by8 k 5), .int .u8 (by8 k 6), .int .u8 (by8 k 7)]⟩ : Blk)) (by simp)
  have HM5 := Lib.hid M5
  have HV5 := Lib.hid hvb5
  clear M5 hvb5 HM3 c0 f0 l0 cK3 lK3 hA hA1 hAw hrem hwq hnb hbc HC HC2 HNB hq hy2l
  refine (open_any k _ y2 hz2 z er HO.out W5 HV5.out).mono ?_
  rintro e W6 ⟨p, rfl, hB6, A6⟩
  have M6 := HM5.out.of_below hB6
  have cK6 := M6.cell (b := w.heap.size) (t := 24) (cs := #[.int .u8 (by8 k 0), .int .u8 (by8 k 1), .int .u8 (by8 k 2), .int .u8 (by8 k 3), .int .u8 (by8 k 4), .int .u8 (by8 k 5), .int .u8 (by8 k 6), .int .u8 (by8 k 7)]) (by simp)
  have lK6 : w.heap.size < W6.heap.size := M6.lt (x := (⟨w.heap.size, 24, #[.int .u8 (by8 k 0), .int .u8 (by8 k 1), .int .u8 (by8 k 2), .int .u8 (by8 k 3), .int .u8 (by8 k 4), .int .u8 (by8 k 5), .int .u8 (by8 k 6), .int .u8 (by8 k 7)]⟩ : Blk)) (by simp)
  have HM6 := Lib.hid M6
  have HV6 := Lib.hid (HV5.out.below hB6)
  have HP6 := Lib.hid A6.bsl
  clear M6 hB6 A6 HM5 HV5 cK5 lK5
  go_wp2_with fail
  refine (refOpen_any k _ y2 hz2 z er HO.out W6 HV6.out).mono ?_
  rintro e W7 ⟨p2, rfl, hB7, A7⟩
  have hs1 := run_str' W7 p z (HP6.out.below hB7)
  have hs2 := run_str' W7 p2 z A7.bsl
  have HBW := Lib.hid ((HM6.out.of_below hB7).below (New.cons HNR.out HN2.out))
  clear hB7 A7 HM6 HV6 HP6 cK6 lK6
  by_cases hb0 : cB = 0
  · obtain rfl := HSM.out hb0
    subst hb0
    go_wp2
    go_ret
    exact ⟨rfl, HBW.out⟩
  · have hb1 : (cB == 0) = false := by simpa using hb0
    go_wp2
    go_ret
    exact ⟨rfl, HBW.out⟩

end Go.Proofs.Ythdcfdfpfagamaa
