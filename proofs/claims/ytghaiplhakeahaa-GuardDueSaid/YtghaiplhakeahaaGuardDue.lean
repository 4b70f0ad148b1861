/- The law GuardDue: its walk. -/
import Derived.Test.YtghaiplhakeahaaGb
namespace Go.Proofs.Ytghaiplhakeahaa
set_option linter.unusedSimpArgs false
set_option linter.unusedVariables false
open Go.RowKit

/-- A guard of which the first i towers have said n, if they are among those that say so. -/
def ackedG (G : GS) (who : Nat → Bool) (n : Int) (i : Nat) : GS := { G with said := fun j => if j < i then (if who j = true then n else -1) else -1 }
def lackL (who : Nat → Bool) (i : Nat) : List Int := ((List.range i).filter fun j => !who j).map fun j : Nat => (j : Int)
theorem lackL_len (who : Nat → Bool) (i : Nat) : (lackL who i).length ≤ i := by
  unfold lackL
  rw [List.length_map]
  exact Nat.le_trans (List.length_filter_le _ _) (by simp)
theorem lackL_yes (who : Nat → Bool) (i : Nat) (h : who i = false) : lackL who (i + 1) = lackL who i ++ [(i : Int)] := by
  unfold lackL
  rw [List.range_succ, List.filter_append, List.map_append]
  simp [h]
theorem lackL_no (who : Nat → Bool) (i : Nat) (h : who i = true) : lackL who (i + 1) = lackL who i := by
  unfold lackL
  rw [List.range_succ, List.filter_append, List.map_append]
  simp [h]
theorem acked_no (G : GS) (who : Nat → Bool) (n : Int) (i : Nat) (h : who i = false) : ackedG G who n (i + 1) = ackedG G who n i := by
  unfold ackedG
  congr 1
  funext j
  by_cases h1 : j < i
  · rw [if_pos h1, if_pos (by omega)]
  · rw [if_neg h1]
    by_cases h2 : j = i
    · subst h2; rw [if_pos (by omega), h]; rfl
    · rw [if_neg (by omega)]
theorem acked_yes (G : GS) (who : Nat → Bool) (n : Int) (i : Nat) (h : who i = true) : (ackedG G who n i).say i n = ackedG G who n (i + 1) := by
  unfold ackedG GS.say
  congr 1
  funext j
  simp only
  by_cases h2 : j = i
  · subst h2; rw [if_pos rfl, if_pos (by omega), if_pos h]
  · rw [if_neg h2]
    by_cases h1 : j < i
    · simp only [if_pos h1, if_pos (show j < i + 1 by omega)]
    · simp only [if_neg h1, if_neg (show ¬ j < i + 1 by omega)]
theorem acked_duK (G : GS) (who : Nat → Bool) (n : Int) (hn : 1 ≤ n) (hg : G.num = n) (N : Nat) : ∀ i, i ≤ N → duK (ackedG G who n N) i = lackL who i
  | 0, _ => rfl
  | i + 1, h => by
    have ih := acked_duK G who n hn hg N i (by omega)
    have hs : (ackedG G who n N).said i = if who i = true then n else -1 := by
      show (if i < N then (if who i = true then n else -1) else -1) = _
      rw [if_pos (by omega)]
    have hm : (ackedG G who n N).num = n := hg
    cases hw : who i with
    | true =>
      rw [duK_no _ _ (by rw [hs, hm, hw]; rfl), ih, lackL_no _ _ hw]
    | false =>
      rw [duK_yes _ _ (by rw [hs, hm, hw]; simp; omega), ih, lackL_yes _ _ hw]
theorem duK_all (G : GS) (h : ∀ j, j < 16 → G.said j ≠ G.num) : ∀ i, i ≤ 16 → (duK G i).length = i
  | 0, _ => rfl
  | i + 1, hi => by
    rw [duK_yes G i (h i (by omega)), List.length_append, duK_all G h i (by omega)]
    rfl
theorem acked_end (G : GS) (hs : G.said = fun _ => -1) (who : Nat → Bool) (n : Int) : ackedG G who n 0 = G := by
  unfold ackedG
  cases G
  simp only at hs
  subst hs
  simp

set_option maxRecDepth 100000 in
set_option maxHeartbeats 1000000 in
theorem guardDue_any (x y : Int) (v : Value) (m : Nat) (who : Nat → Bool) (num : Int) (w : World) (hm : m ≤ maxLen) (hv : VSl w v m (fun i => .bool (who i))) :
    Calls Try.prog 7 #[.agg #[.int .i64 x, .int .i64 y], v, .int .i64 num] w fun e w' => e = .returned (.bool true) ∧ Below w.heap.size w w' := by
  obtain ⟨ao, cap, rfl, -, hvc⟩ := id hv
  have HV := Lib.hid hv
  have HVC := Lib.hid hvc
  obtain ⟨W, HW⟩ : ∃ W : Nat → Bool, Hid (∀ j, W j = (decide (j < m) && who j)) := ⟨_, fun j => rfl⟩
  obtain ⟨N, HN⟩ : ∃ N, Hid (1 + cutN x 16 = N) := ⟨_, rfl⟩
  obtain ⟨K, HK⟩ : ∃ K, Hid (1 + cutN y N = K) := ⟨_, rfl⟩
  have hN1 : 1 ≤ N := by rw [← HN.out]; omega
  have hN2 : N ≤ 16 := by rw [← HN.out]; have : cutN x 16 < 16 := Nat.mod_lt _ (by omega); omega
  have hK1 : 1 ≤ K := by rw [← HK.out]; omega
  have hK2 : K ≤ N := by rw [← HK.out]; have : cutN y N < N := Nat.mod_lt _ (by omega); omega
  have HS := Lib.hid ((Ow.start w).alloc (.cells #[.int .i64 x, .int .i64 y] 57))
  have hmm : m ≤ 9223372036854775807 := by unfold maxLen at hm; omega
  clear hv hvc hm
  go_enter Try.func7, Try.ntmps7
  go_wp2_with fail
  refine (begin_to x y _ w [] HS.out N K HN.out HK.out).mono ?_
  rintro e w1 ⟨p, hv, rfl, NB, O1, R1⟩
  obtain ⟨ah, ch, rfl⟩ := R1.slice
  have h1 : Gu w1 w [] NB p (newG nonceX N K) := ⟨.slice none 0 0, O1.perm (perm_cnt fun x => by simp only [cnt_append, cnt_cons, cnt_nil] <;> omega), (show Msg w NB (.slice none 0 0) (newG nonceX N K).box from Sl.nil w NB)⟩
  have H2 := Lib.hid (h1.park (cs := #[.int .i64 N, .int .i64 K, .int .i64 (-1), .string ByteArray.empty, .slice ah N ch, .bool false, .int .i64 0, .int .i64 0]) (t := 61) (b := w1.heap.size) rfl)
  clear O1 R1 h1 HS
  go_wp2_with fail
  refine (told_to _).mono ?_
  rintro e w2 ⟨rfl, hb2⟩
  have H3 := Lib.hid (H2.out.of_below hb2)
  clear hb2 H2
  obtain ⟨b8, hb8⟩ : ∃ b, b = w1.heap.size := ⟨_, rfl⟩
  rw [← hb8] at H3
  simp only [← hb8]
  clear hb8
  have en := cut_eq num 1000 (by omega) (by omega)
  have hn3 : cutN num 1000 < 1000 := Nat.mod_lt _ (by omega)
  generalize cutN num 1000 = cn at en hn3
  have en' : wrap64 ((IntKind.u64.wrap num).tmod 1000) = (cn : Int) := en
  clear en
  have H4 := Lib.hid (H3.out.alloc (.cells #[.int .u8 1] 5))
  have HB1 : Hid (BSl (w2.alloc (.cells #[.int .u8 1] 5)) (.slice (some ⟨w2.heap.size, 0, none⟩) 1 1) [1]) := ⟨_, 1, rfl, ⟨Nat.le_refl _, fun h => by cases h⟩, .inr ⟨_, 0, rfl, by simp, fun i hi => by
    rw [Nat.zero_add, (HasBlk.new w2 5 #[.int .u8 1] w2.heap.size rfl).cell]
    match i, hi with
    | 0, _ => rfl⟩⟩
  clear H3
  obtain ⟨n, hnn⟩ : ∃ n : Nat, (1 : Int) + (cn : Int) = (n : Int) := ⟨1 + cn, by omega⟩
  have hn1 : 1 ≤ n := by omega
  have hn2 : n ≤ 1000 := by omega
  clear hn3
  go_wp2_with fail
  have hE1 : noteE (newG nonceX N K) (n : Int) [1] = 0 := by
    have : isNum (n : Int) = true := by simp [isNum]; omega
    simp [noteE, this, newG]
  obtain ⟨G1, hG1⟩ : ∃ G1, noteG (newG nonceX N K) (n : Int) [1] = G1 := ⟨_, rfl⟩
  have eG1 : G1 = notedG (newG nonceX N K) (n : Int) [1] := by rw [← hG1]; unfold noteG; rw [hE1, if_pos rfl]
  have g1n : G1.num = (n : Int) := by rw [eG1]; rfl
  have g1o : G1.noted = true := by rw [eG1]; rfl
  have g1s : G1.said = fun _ => -1 := by rw [eG1]; rfl
  have g1t : G1.towers = N := by rw [eG1]; rfl
  have g1k : G1.need = K := by rw [eG1]; rfl
  refine (note_to p (newG nonceX N K) n _ [1] _ w _ NB H4.out HB1.out 0 hE1 G1 hG1).mono ?_
  rintro e w5 ⟨rfl, X, -, h5⟩
  have H5 : Hid (Gu w5 w [⟨b8, 61, #[.int .i64 N, .int .i64 K, .int .i64 (-1), .string ByteArray.empty, .slice ah N ch, .bool false, .int .i64 0, .int .i64 0]⟩] X p (ackedG G1 W n 0)) := by rw [acked_end _ g1s W]; exact h5
  clear h5 H4 HB1 hE1 hG1 eG1
  have HG1 := Lib.hid (And.intro g1n (And.intro g1o (And.intro g1s (And.intro g1t g1k))))
  clear g1n g1o g1s g1t g1k en' hnn
  go_wp2_with fail
  go_loopw [10, 11, 12] (fun dv mv iv wr => ∃ (i k : Nat) (B : List Blk), iv = .int .i64 i ∧ i ≤ N ∧ mv = .int .i64 k ∧ k + (lackL W i).length = i ∧ Row 3 1 dv (lackL W i).length (ics (lackL W i)) B ∧ Gu wr w (B ++ [⟨b8, 61, #[.int .i64 N, .int .i64 K, .int .i64 (-1), .string ByteArray.empty, .slice ah N ch, .bool false, .int .i64 0, .int .i64 0]⟩]) X p (ackedG G1 W n i)) (fun _ _ iv _ => N - (intOf iv).toNat)
  case atStart => exact ⟨0, 0, [], rfl, by omega, rfl, rfl, .void, H5.out⟩
  case round =>
    obtain ⟨i, k, B, rfl, hi, rfl, hk, R, hg⟩ := hrel
    obtain ⟨ad, cd, rfl⟩ := R.slice
    have HR := Lib.hid R
    have HG := Lib.hid hg
    have HKK := Lib.hid hk
    have HB := hg.has (b := b8) (List.mem_append_right _ (List.mem_cons_self ..))
    have lt := HB.lt
    have c0 := HB.cell 0
    have c1 := HB.cell 1
    simp only [List.getElem?_toArray, List.getElem?_cons_succ, List.getElem?_cons_zero] at c0 c1
    clear H5 HB R hk hg
    by_cases hlt : i < N
    · have hd : decide ((i : Int) < (N : Int)) = true := decide_eq_true (by omega)
      have hd' : decide (i < N) = true := decide_eq_true hlt
      have hlen := lackL_len W i
      have hkb : k ≤ 16 := by have := HKK.out; omega
      by_cases him : i < m
      · have hdm : decide ((i : Int) < (m : Int)) = true := decide_eq_true (by omega)
        have hdm' : decide (i < m) = true := decide_eq_true him
        obtain ⟨ao', cap', e1, -, h3⟩ := HV.out.below HG.out.below
        cases e1
        rcases h3 with h3 | ⟨r, o, rfl, hr, hc⟩
        · omega
        have ci : wr.cell? ⟨r, o + i, none⟩ = some (.bool (who i)) := hc i him
        clear hc
        cases hwi : who i with
        | true =>
          rw [hwi] at ci
          have hw : W i = true := by rw [HW.out, hwi, decide_eq_true him]; rfl
          have E1 := Lib.hid (lackL_no W i hw)
          have A1 := Lib.hid (acked_yes G1 W n i hw)
          have ea : ackE (ackedG G1 W n i) i n = 0 := by
            unfold ackE
            have t1 : (ackedG G1 W n i).towers = N := HG1.out.2.2.2.1
            have t2 : (ackedG G1 W n i).noted = true := HG1.out.2.1
            have t3 : (ackedG G1 W n i).num = n := HG1.out.1
            have t4 : (ackedG G1 W n i).said i = -1 := by show (if i < i then _ else -1) = _; rw [if_neg (by omega)]
            rw [t1, t2, t3, Int.toNat_natCast, t4, if_neg (by omega), if_neg (by simp), if_neg (by omega)]
          have eb : ackE (ackedG G1 W n (i + 1)) i n = 18 := by
            unfold ackE
            have t1 : (ackedG G1 W n (i + 1)).towers = N := HG1.out.2.2.2.1
            have t2 : (ackedG G1 W n (i + 1)).noted = true := HG1.out.2.1
            have t3 : (ackedG G1 W n (i + 1)).num = n := HG1.out.1
            have t4 : (ackedG G1 W n (i + 1)).said i = n := by show (if i < i + 1 then (if W i = true then (n : Int) else -1) else -1) = _; rw [if_pos (by omega), if_pos hw]
            rw [t1, t2, t3, Int.toNat_natCast, t4, if_neg (by omega), if_neg (by simp), if_pos (by omega)]
          have ht : (ackedG G1 W n i).towers ≤ 16 := by show G1.towers ≤ 16; rw [HG1.out.2.2.2.1]; exact hN2
          have ht' : (ackedG G1 W n (i + 1)).towers ≤ 16 := ht
          have EA := Lib.hid ea
          have EB := Lib.hid eb
          clear ea eb hw
          go_wp2_with fail
          refine (ack_to p _ i n _ w _ X HG.out ht 0 EA.out (ackedG G1 W n (i + 1)) (by unfold ackG; rw [EA.out, if_pos rfl, Int.toNat_natCast]; exact A1.out)).mono ?_
          rintro e w6 ⟨rfl, h6⟩
          have H6 := Lib.hid h6
          clear h6
          go_wp2_with fail
          refine (ack_to p _ i n _ w _ X H6.out ht' 18 EB.out (ackedG G1 W n (i + 1)) (by unfold ackG; rw [EB.out]; rfl)).mono ?_
          rintro e w7 ⟨rfl, h7⟩
          have H7 := Lib.hid h7
          clear h7 H6
          go_wp2
          exact ⟨⟨i + 1, k + 1, B, by simp, by omega, by simp, by rw [E1.out]; have := HKK.out; omega, by rw [E1.out]; exact HR.out, H7.out⟩, by simp [intOf]; omega⟩
        | false =>
          rw [hwi] at ci
          have hw : W i = false := by rw [HW.out, hwi, Bool.and_false]
          have E1 := Lib.hid (lackL_yes W i hw)
          have A1 := Lib.hid (acked_no G1 W n i hw)
          go_wp2_with (at_builtin; refine HG.out.appendNew rfl (.tmp 66) (.tmp 68) 47 rfl elt_int (by rfl) HR.out #[.int .i64 i] _ _ 1 1 (by rfl) (by simp) (by rfl) (by simp [Value.oneCell']) (by unfold maxLen; omega) (by omega) ((lackL W i).length + 1) rfl (ics (lackL W (i + 1))) (by rw [E1.out, ics_app]; rfl) (fun ao' cap' B' w7 R7 g7 => ?_); (have HR7 := Lib.hid R7); (have HG7 := Lib.hid g7); clear R7 g7)
          exact ⟨⟨i + 1, k, B', by simp, by omega, rfl, by rw [E1.out, List.length_append]; have := HKK.out; rw [List.length_singleton]; omega, by rw [show (lackL W (i + 1)).length = (lackL W i).length + 1 by rw [E1.out]; simp]; exact HR7.out, by rw [A1.out]; exact HG7.out⟩, by simp [intOf]; omega⟩
      · have hdm : decide ((i : Int) < (m : Int)) = false := decide_eq_false (by omega)
        have hdm' : decide (i < m) = false := decide_eq_false him
        have hw : W i = false := by rw [HW.out, decide_eq_false him]; rfl
        have E1 := Lib.hid (lackL_yes W i hw)
        have A1 := Lib.hid (acked_no G1 W n i hw)
        go_wp2_with (at_builtin; refine HG.out.appendNew rfl (.tmp 66) (.tmp 68) 47 rfl elt_int (by rfl) HR.out #[.int .i64 i] _ _ 1 1 (by rfl) (by simp) (by rfl) (by simp [Value.oneCell']) (by unfold maxLen; omega) (by omega) ((lackL W i).length + 1) rfl (ics (lackL W (i + 1))) (by rw [E1.out, ics_app]; rfl) (fun ao' cap' B' w7 R7 g7 => ?_); (have HR7 := Lib.hid R7); (have HG7 := Lib.hid g7); clear R7 g7)
        exact ⟨⟨i + 1, k, B', by simp, by omega, rfl, by rw [E1.out, List.length_append]; have := HKK.out; rw [List.length_singleton]; omega, by rw [show (lackL W (i + 1)).length = (lackL W i).length + 1 by rw [E1.out]; simp]; exact HR7.out, by rw [A1.out]; exact HG7.out⟩, by simp [intOf]; omega⟩
    · obtain rfl : i = N := by omega
      have hd : decide ((i : Int) < (i : Int)) = false := decide_eq_false (by omega)
      have hlen := lackL_len W i
      obtain ⟨GN, hGN⟩ : ∃ GN, ackedG G1 W n i = GN := ⟨_, rfl⟩
      have q1 : GN.towers = i := by rw [← hGN]; exact HG1.out.2.2.2.1
      have q2 : GN.noted = true := by rw [← hGN]; exact HG1.out.2.1
      have q3 : GN.num = n := by rw [← hGN]; exact HG1.out.1
      have q4 : GN.need = K := by rw [← hGN]; exact HG1.out.2.2.2.2
      have q5 : ∀ j, j < 16 → GN.said j ≤ n := fun j hj => by
        rw [← hGN]
        show (if j < i then (if W j = true then (n : Int) else -1) else -1) ≤ n
        split
        · split <;> omega
        · omega
      have q6 : dueL GN = lackL W i := by
        unfold dueL
        rw [if_pos q2, q1, ← hGN]
        exact acked_duK G1 _ n (by omega) HG1.out.1 i i (by omega)
      rw [hGN] at HG
      generalize lackL W i = L at *
      have q7 : safeB GN = decide (K ≤ k) := by
        unfold safeB
        rw [q2, q6, q4, q1]
        have := HKK.out
        simp only [Bool.not_true, Bool.false_or, decide_eq_decide]
        omega
      have ht : GN.towers ≤ 16 := by omega
      have Q6 := Lib.hid q6
      have Q7 := Lib.hid q7
      have Q5 := Lib.hid q5
      have QQ := Lib.hid (And.intro q1 (And.intro q2 (And.intro q3 q4)))
      clear q1 q2 q3 q4 q5 q6 q7 hGN
      have T1 : Hid (∀ g d, Calls Try.prog 32 #[ptr p] (plus wr g d) fun e w' => ∃ u, e = .returned u ∧ Below (plus wr g d).heap.size (plus wr g d) w' ∧ Own 3 1 wr.heap.size L.length (ics L) u w') := fun g d => by
        refine (due_to p GN _ w _ X (HG.out.plus g d) ht L Q6.out).mono ?_
        rintro e w' ⟨u, h1, h2, h3⟩
        exact ⟨u, h1, h2, h3.base (by simp)⟩
      have T2 : Hid (∀ u g d, Own 3 1 wr.heap.size L.length (ics L) u (plus wr g d) → Calls Try.prog 31 #[u, .slice ad L.length cd] (plus wr g d) fun e w' => e = .returned (.bool true) ∧ Below (plus wr g d).heap.size (plus wr g d) w') := fun u g d hu => by
        obtain ⟨Y, OY, -, hC⟩ := HG.out.ow
        have hs2 : Sl wr [] (.slice ad L.length cd) L.length (ics L) := (HR.out.sl w).here OY (fun z hz => hC z (by simp [hz]))
        exact rsame_to u _ L L (by omega) (by omega) _ hu.sl (hs2.here ((Ow.start wr).plus g d) (by simp)) true (by simp)
      have T3 : Hid (∀ g d, Calls Try.prog 33 #[ptr p] (plus wr g d) fun e w' => e = .returned (.bool (decide (K ≤ k))) ∧ Below (plus wr g d).heap.size (plus wr g d) w') := fun g d => safe_to p GN _ w _ X (HG.out.plus g d) ht _ Q7.out
      go_wp2_with fail
      refine wp_region_rq (by kernel_rfl) (by kernel_rfl) (by kernel_rfl) ?_
      repeat (first
        | (refine B_skip ?_ ?_; (· rfl); (try simp only [Act.put, List.setIfInBounds_toArray, List.set_cons_zero, List.set_cons_succ]))
        | (refine B_move rfl ?_ ?_; (· rfl); (try simp only [Act.eval, Act.put, Array.getD_eq_getD_getElem?, List.getElem?_toArray, List.getElem?_cons_succ, List.getElem?_cons_zero, Option.getD_some, List.setIfInBounds_toArray, List.set_cons_zero, List.set_cons_succ]))
        | (refine B_plain ?_ ?_; (· rfl); intro K hK; go_big_quiet_op; with_reducible refine hK _ ?_; clear hK K)
        | (refine B_callR (Own 3 1 wr.heap.size L.length (ics L)) (stays_own _ _ _ _ _) (f := 32) rfl rfl (by kernel_rfl) ?_ (fun xq => ?_) ?_; (· rfl); (· ((simp only [List.map_toArray, List.map_cons, List.map_nil, Act.eval, Array.getD_eq_getD_getElem?, List.getElem?_toArray, List.getElem?_cons_succ, List.getElem?_cons_zero, Option.getD_some]); (with_reducible apply retR); with_reducible exact T1.out _ _)))
        | (refine B_callRX (v := .bool true) (f := 31) rfl (by kernel_rfl) ?_ (fun xq vs hvs => ?_) ?_; (· rfl); (· (obtain ⟨a1, _, rfl, q1, a2, _, rfl, q2, q3⟩ := hvs; cases q3; obtain rfl : a2 = .slice ad L.length cd := q2; (with_reducible apply retB); exact T2.out a1 _ _ q1)); (try simp only [Act.put, List.setIfInBounds_toArray, List.set_cons_zero, List.set_cons_succ]))
        | (refine B_callX (v := ?_) (f := 33) rfl (by kernel_rfl) ?_ (fun xq => ?_) ?_; rotate_left; (· rfl); (· ((simp only [List.map_toArray, List.map_cons, List.map_nil, Act.eval, Array.getD_eq_getD_getElem?, List.getElem?_toArray, List.getElem?_cons_succ, List.getElem?_cons_zero, Option.getD_some]); with_reducible apply retB; with_reducible exact (T3.out _ _))); (try simp only [Act.put, List.setIfInBounds_toArray, List.set_cons_zero, List.set_cons_succ])))
      refine B_nil ?_ rfl ?_ ?_
      · kernel_rfl
      · rfl
      rintro _ ⟨⟨g17, d17⟩, rfl⟩
      simp only [fin, Act.put, List.setIfInBounds_toArray, List.set_cons_zero, List.set_cons_succ]
      intros
      have H7 := Lib.hid (HG.out.plus g17 d17)
      have c0' := (H7.out.has (b := b8) (List.mem_append_right _ (List.mem_cons_self ..))).cell 0
      have lt' := (H7.out.has (b := b8) (List.mem_append_right _ (List.mem_cons_self ..))).lt
      simp only [List.getElem?_toArray, List.getElem?_cons_succ, List.getElem?_cons_zero] at c0'
      clear T1 T2 T3 c0 c1 lt
      have hsub : (n : Int) - 1 = ((n - 1 : Nat) : Int) := by omega
      have n18 : noteE GN ((n - 1 : Nat) : Int) [] = 18 := by
        have : isNum ((n - 1 : Nat) : Int) = true := by simp [isNum]; omega
        unfold noteE
        rw [this, if_neg (by simp), if_pos ⟨QQ.out.2.1, by rw [QQ.out.2.2.1]; omega⟩]
      have N18 := Lib.hid n18
      have e0 : noteE GN ((n : Int) + 1) [] = 0 := by
        have : isNum ((n : Int) + 1) = true := by simp [isNum]; omega
        unfold noteE
        rw [this, if_neg (by simp), if_neg (by rw [QQ.out.2.2.1]; omega), if_neg (by simp)]
      have E0 := Lib.hid e0
      obtain ⟨G2, hG2⟩ : ∃ G2, noteG GN ((n : Int) + 1) [] = G2 := ⟨_, rfl⟩
      have eG2 : G2 = notedG GN ((n : Int) + 1) [] := by rw [← hG2]; unfold noteG; rw [e0, if_pos rfl]
      have d2 : (dueL G2).length = i := by
        unfold dueL
        rw [if_pos (by rw [eG2]; rfl), show G2.towers = i by rw [eG2]; exact QQ.out.1]
        exact duK_all G2 (fun j hj => by
          have := Q5.out j hj
          rw [eG2]
          show GN.said j ≠ (n : Int) + 1
          omega) i hN2
      have s2 : safeB G2 = false := by
        unfold safeB
        rw [d2, show G2.noted = true by rw [eG2]; rfl, show G2.need = K by rw [eG2]; exact QQ.out.2.2.2, show G2.towers = i by rw [eG2]; exact QQ.out.1]
        simp
        omega
      have ht2 : G2.towers ≤ 16 := by rw [eG2]; exact ht
      have D2 := Lib.hid d2
      have S2 := Lib.hid s2
      have HG2 := Lib.hid hG2
      clear n18 e0 hG2 eG2 d2 s2
      go_wp2_with fail
      refine (note_to p GN ((n - 1 : Nat) : Int) _ [] _ w _ X H7.out (Ans.nil 0 _).bsl 18 N18.out GN (by unfold noteG; rw [N18.out]; rfl)).mono ?_
      rintro e w8 ⟨rfl, X8, -, h8⟩
      have H8 := Lib.hid h8
      clear h8 H7 c0' lt'
      go_wp2_with fail
      refine (note_to p GN ((n : Int) + 1) _ [] _ w _ X8 H8.out (Ans.nil 0 _).bsl 0 E0.out G2 HG2.out).mono ?_
      rintro e w9 ⟨rfl, X9, -, h9⟩
      have H9 := Lib.hid h9
      have HB := h9.has (b := b8) (List.mem_append_right _ (List.mem_cons_self ..))
      have lt := HB.lt
      have c0 := HB.cell 0
      simp only [List.getElem?_toArray, List.getElem?_cons_succ, List.getElem?_cons_zero] at c0
      clear h9 H8 HB
      obtain ⟨L2, hL2⟩ : ∃ L2, dueL G2 = L2 := ⟨_, rfl⟩
      have HL2 := Lib.hid hL2
      have hl2 : L2.length = i := by rw [← hL2]; exact D2.out
      have T1 : Hid (∀ g d, Calls Try.prog 32 #[ptr p] (plus w9 g d) fun e w' => ∃ u, e = .returned u ∧ Below (plus w9 g d).heap.size (plus w9 g d) w' ∧ Own 3 1 w9.heap.size i (ics L2) u w') := fun g d => by
        refine (due_to p G2 _ w _ X9 (H9.out.plus g d) ht2 L2 HL2.out).mono ?_
        rintro e w' ⟨u, h1, h2, h3⟩
        rw [hl2] at h3
        exact ⟨u, h1, h2, h3.base (by simp)⟩
      have T3 : Hid (∀ g d, Calls Try.prog 33 #[ptr p] (plus w9 g d) fun e w' => e = .returned (.bool false) ∧ Below (plus w9 g d).heap.size (plus w9 g d) w') := fun g d => safe_to p G2 _ w _ X9 (H9.out.plus g d) ht2 _ S2.out
      clear hL2 hl2
      go_wp2_with fail
      refine wp_region_rq (by kernel_rfl) (by kernel_rfl) (by kernel_rfl) ?_
      repeat (first
        | (refine B_skip ?_ ?_; (· rfl); (try simp only [Act.put, List.setIfInBounds_toArray, List.set_cons_zero, List.set_cons_succ]))
        | (refine B_move rfl ?_ ?_; (· rfl); (try simp only [Act.eval, Act.put, Array.getD_eq_getD_getElem?, List.getElem?_toArray, List.getElem?_cons_succ, List.getElem?_cons_zero, Option.getD_some, List.setIfInBounds_toArray, List.set_cons_zero, List.set_cons_succ]))
        | (refine B_plain ?_ ?_; (· rfl); intro K hK; go_big_quiet_op; with_reducible refine hK _ ?_; clear hK K)
        | (refine B_callR (Own 3 1 w9.heap.size i (ics L2)) (stays_own _ _ _ _ _) (f := 32) rfl rfl (by kernel_rfl) ?_ (fun xq => ?_) ?_; (· rfl); (· ((simp only [List.map_toArray, List.map_cons, List.map_nil, Act.eval, Array.getD_eq_getD_getElem?, List.getElem?_toArray, List.getElem?_cons_succ, List.getElem?_cons_zero, Option.getD_some]); (with_reducible apply retR); with_reducible exact T1.out _ _)))
        | (refine B_callX (v := ?_) (f := 33) rfl (by kernel_rfl) ?_ (fun xq => ?_) ?_; rotate_left; (· rfl); (· ((simp only [List.map_toArray, List.map_cons, List.map_nil, Act.eval, Array.getD_eq_getD_getElem?, List.getElem?_toArray, List.getElem?_cons_succ, List.getElem?_cons_zero, Option.getD_some]); with_reducible apply retB; with_reducible exact (T3.out _ _))); (try simp only [Act.put, List.setIfInBounds_toArray, List.set_cons_zero, List.set_cons_succ]))
        | (refine B_lenR i (s := 100) (ty := 0) rfl Try.underlying47 rfl rfl (fun u W hu => hu.slice) ?_ ?_ ?_; (· rfl); (· rfl); (try simp only [Act.put, List.setIfInBounds_toArray, List.set_cons_zero, List.set_cons_succ])))
      refine B_nil ?_ rfl ?_ ?_
      · kernel_rfl
      · rfl
      rintro _ ⟨⟨g20, d20⟩, rfl⟩
      simp only [fin, Act.put, List.setIfInBounds_toArray, List.set_cons_zero, List.set_cons_succ]
      intros
      go_wp2
      go_ret
      exact ⟨rfl, (H9.out.plus _ _).below⟩

end Go.Proofs.Ytghaiplhakeahaa
