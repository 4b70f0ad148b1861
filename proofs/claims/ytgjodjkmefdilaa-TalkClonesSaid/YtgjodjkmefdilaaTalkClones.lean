/- The law TalkClones: its walk. -/
import Derived.Test.YtgjodjkmefdilaaTalkActs
import Derived.Test.YtgjodjkmefdilaaTal
import Derived.LaidEqlPtr
namespace Go.Proofs.Ytgjodjkmefdilaa
set_option linter.unusedSimpArgs false
set_option linter.unusedVariables false
open Go.RowKit

theorem TkB.apart_ {w w0 : World} {A D L X : List Blk} {p : Nat} {T U : TS} (O : Ow w w0 (A ++ (D ++ L))) (h : TkB w0 X p T A) (k : TkB w0 X p U D) : False := by
  obtain ⟨_, _, _, _, _, _, rfl, -⟩ := h
  obtain ⟨_, _, _, _, _, _, rfl, -⟩ := k
  have h1 := (List.pairwise_append.1 O.mem.apart).2.2
  exact h1 _ (List.mem_cons_self ..) _ (List.mem_append_left _ (List.mem_cons_self ..)) rfl
theorem ptr_ne {w w0 : World} {A D L X : List Blk} {p q : Nat} {T U : TS} (O : Ow w w0 (A ++ (D ++ L))) (h : TkB w0 X p T A) (k : TkB w0 X q U D) : (binOp .eql 24 (ptr q) (ptr p)).run Try.prog w = .ok (.bool false) w := by
  have hne : q ≠ p := by rintro rfl; exact TkB.apart_ O h k
  obtain ⟨_, _, _, _, _, _, rfl, -⟩ := h
  obtain ⟨_, _, _, _, _, _, rfl, -⟩ := k
  have hp := O.mem.has _ (List.mem_append_left _ (List.mem_cons_self ..))
  have hq := O.mem.has _ (List.mem_append_right _ (List.mem_append_left _ (List.mem_cons_self ..)))
  have hs : (Try.prog.info? 84).map (fun i => i.size) = some 10 := by kernel_rfl
  cases hi : Try.prog.info? 84 with
  | none => rw [hi] at hs; cases hs
  | some j =>
    rw [hi] at hs
    simp at hs
    exact run_eql_ptr_other w Try.underlying24 hi (by omega) (fun h => hne (by cases h; rfl)) hq hp
theorem sameT_comm (T U : TS) : sameT T U = sameT U T := by
  unfold sameT
  rw [Bool.eq_iff_iff, decide_eq_true_iff, decide_eq_true_iff]
  constructor <;> (intro h; simp only [h, and_self])
theorem S1.two {w w0 : World} {C X A : List Blk} {p q : Nat} {T U : TS} (h : S1 w w0 (C ++ A) X q U) (t : TkB w0 X p T A) : S2 w w0 (C ++ X) q U p T := by
  obtain ⟨D, O, u⟩ := h
  exact ⟨A, ⟨D, O.perm (perm_cnt fun x => by simp only [cnt_append, cnt_cons, cnt_nil] <;> omega), u.mono (Sub.app C X)⟩, t.mono (Sub.app C X)⟩
set_option maxRecDepth 100000 in
set_option maxHeartbeats 4000000 in
theorem talkClones_any (x y : Int) (v1 v2 : Value) (m1 m2 : Nat) (F1 F2 : Nat → OpV) (w : World) (hm1 : m1 ≤ maxLen) (hm2 : m2 ≤ maxLen) (hv1 : Rws w v1 m1 6 (fun i => (F1 i).cells)) (hv2 : Rws w v2 m2 6 (fun i => (F2 i).cells)) (hF1 : ∀ i, i < m1 → OpOk w (F1 i)) (hF2 : ∀ i, i < m2 → OpOk w (F2 i)) :
    Calls Try.prog 9 #[.agg #[.int .i64 x, .int .i64 y], v1, v2] w fun e w' => e = .returned (.bool true) ∧ Below w.heap.size w w' := by
  obtain ⟨ao1, cap1, rfl, hcap1, hnil1⟩ := hv1.slice
  obtain ⟨ao2, cap2, rfl, hcap2, hnil2⟩ := hv2.slice
  obtain ⟨n1, HN1⟩ : ∃ n, Hid (min m1 30 = n) := ⟨_, rfl⟩
  obtain ⟨n2, HN2⟩ : ∃ n, Hid (min m2 30 = n) := ⟨_, rfl⟩
  have hni1 : min (m1 : Int) 30 = (n1 : Int) := by have := HN1.out; omega
  have hni2 : min (m2 : Int) 30 = (n2 : Int) := by have := HN2.out; omega
  have hn1 : n1 ≤ 30 := by have := HN1.out; omega
  have hn2 : n2 ≤ 30 := by have := HN2.out; omega
  have hnc1 : n1 ≤ cap1 := by have := HN1.out; omega
  have hnc2 : n2 ≤ cap2 := by have := HN2.out; omega
  have HV1 := Lib.hid (hv1.fst n1 (by have := HN1.out; omega))
  have HV2 := Lib.hid (hv2.fst n2 (by have := HN2.out; omega))
  have HF1 : Hid (∀ i, i < n1 → OpOk w (F1 i)) := fun i hi => hF1 i (by have := HN1.out; omega)
  have HF2 : Hid (∀ i, i < n2 → OpOk w (F2 i)) := fun i hi => hF2 i (by have := HN2.out; omega)
  obtain ⟨a, HA⟩ : ∃ a, Hid (1 + cutN x 64 = a) := ⟨_, rfl⟩
  obtain ⟨b, HB⟩ : ∃ b, Hid (1 + cutN y 1000 = b) := ⟨_, rfl⟩
  have ha1 : 1 ≤ a := by rw [← HA.out]; omega
  have ha2 : a ≤ 64 := by rw [← HA.out]; have : cutN x 64 < 64 := Nat.mod_lt _ (by omega); omega
  have hb2 : b ≤ 1000 := by rw [← HB.out]; have : cutN y 1000 < 1000 := Nat.mod_lt _ (by omega); omega
  have HS := Lib.hid ((Ow.start w).alloc (.cells #[.int .i64 x, .int .i64 y] 22))
  have hml1 : m1 ≤ 9223372036854775807 := by unfold maxLen at hm1; omega
  have hml2 : m2 ≤ 9223372036854775807 := by unfold maxLen at hm2; omega
  clear hv1 hv2 hF1 hF2 hm1 hm2
  go_enter Try.func9, Try.ntmps9
  go_wp2_with fail
  refine (begin_to x y _ w [] HS.out a b HA.out HB.out).mono ?_
  rintro e w1 ⟨p, A, rfl, O1, t1⟩
  have H1 : Hid (S1 (w1.alloc (.cells #[.int .i64 a, .int .i64 b, .slice none 0 0, .int .i64 0, .int .i64 0, .slice none 0 0, .int .i64 0, .int .i64 0, .bool false, .bool false] 27)) w [⟨w1.heap.size, 27, #[.int .i64 a, .int .i64 b, .slice none 0 0, .int .i64 0, .int .i64 0, .slice none 0 0, .int .i64 0, .int .i64 0, .bool false, .bool false]⟩] [] p (newT a b)) := S1.park ⟨A, by simpa using O1, t1⟩ rfl
  clear O1 t1 HS
  go_wp2_with fail
  refine wp_region_rq (by kernel_rfl) (by kernel_rfl) (by kernel_rfl) ?_
  repeat (first
    | (refine B_skip ?_ ?_; (· rfl); (try simp only [Act.put, List.setIfInBounds_toArray, List.set_cons_zero, List.set_cons_succ]))
    | (refine B_move rfl ?_ ?_; (· rfl); (try simp only [Act.eval, Act.put, Array.getD_eq_getD_getElem?, List.getElem?_toArray, List.getElem?_cons_succ, List.getElem?_cons_zero, Option.getD_some, List.setIfInBounds_toArray, List.set_cons_zero, List.set_cons_succ]))
    | (refine B_plain ?_ ?_; (· rfl); intro K hK; go_big_quiet_op; with_reducible refine hK _ ?_; clear hK K)
    | (refine B_nilck rfl rfl ?_ ?_; (· rfl); (try simp only [Act.put, List.setIfInBounds_toArray, List.set_cons_zero, List.set_cons_succ])))
  refine B_nil ?_ rfl ?_ ?_
  · kernel_rfl
  · rfl
  rintro _ ⟨⟨g2, d2⟩, rfl⟩
  simp only [fin, Act.put, List.setIfInBounds_toArray, List.set_cons_zero, List.set_cons_succ]
  have H1b := Lib.hid (H1.out.plus g2 d2)
  clear H1
  go_wp2_with fail
  refine (told_to _).mono ?_
  rintro e w2 ⟨rfl, hb2'⟩
  have H2 := Lib.hid (H1b.out.of_below hb2')
  clear hb2' H1b
  go_wp2_with fail
  obtain ⟨A2, O2, t2⟩ := H2.out
  refine (small_to ao1 n1 cap1 (by omega) F1 w2 w _ O2 HV1.out HF1.out).mono ?_
  rintro e w3 ⟨bs, rfl, O3⟩
  have H3 : Hid (S1 w3 w [⟨w1.heap.size, 27, #[.int .i64 a, .int .i64 b, .slice none 0 0, .int .i64 0, .int .i64 0, .slice none 0 0, .int .i64 0, .int .i64 0, .bool false, .bool false]⟩] [] p (newT a b)) := ⟨A2, O3, t2⟩
  clear O2 t2 O3 H2
  cases bs with
  | false =>
    go_wp2
    go_ret
    exact ⟨rfl, H3.out.below⟩
  | true =>
  go_wp2_with fail
  obtain ⟨A2, O2, t2⟩ := H3.out
  refine (small_to ao2 n2 cap2 (by omega) F2 w3 w _ O2 HV2.out HF2.out).mono ?_
  rintro e w4 ⟨bs, rfl, O4⟩
  have H4 : Hid (S1 w4 w [⟨w1.heap.size, 27, #[.int .i64 a, .int .i64 b, .slice none 0 0, .int .i64 0, .int .i64 0, .slice none 0 0, .int .i64 0, .int .i64 0, .bool false, .bool false]⟩] [] p (newT a b)) := ⟨A2, O4, t2⟩
  clear O2 t2 O4 H3
  cases bs with
  | false =>
    go_wp2
    go_ret
    exact ⟨rfl, H4.out.below⟩
  | true =>
  go_wp2_with fail
  go_loopw [9] (fun vi wr => ∃ (k : Nat) (T : TS) (R : RS) (a1 b1 : Option Addr) (c1 d1 : Nat) (X : List Blk), vi = .int .i64 k ∧ k ≤ n1 ∧ S1 wr w [⟨w1.heap.size, 27, #[.int .i64 R.most, .int .i64 R.again, .slice a1 R.said.length c1, .int .i64 R.heard, .int .i64 R.out, .slice b1 R.took.length d1, .int .i64 R.gave, .int .i64 R.last, .bool R.went, .bool R.owes]⟩] X p T ∧ RM w X R (.slice a1 R.said.length c1) (.slice b1 R.took.length d1) ∧ Rel T R ∧ TW (64 * k) T) (fun i _ => n1 - (intOf i).toNat)
  case atStart =>
    exact ⟨0, newT a b, ⟨a, b, [], 0, 0, [], 0, 0, false, false⟩, none, none, 0, 0, [], rfl, by omega, H4.out, ⟨MsgL.nil _ _, MsgL.nil _ _⟩, rel_new a b, newT_ok a b ha1 ha2 hb2 _⟩
  case round =>
    obtain ⟨k, T, R, a1, b1, c1, d1, X, rfl, hk, s5, hM, hL, hW5⟩ := hrel
    have H5 := Lib.hid s5
    have HM5 := Lib.hid hM
    have HL5 := Lib.hid hL
    have HW5 := Lib.hid hW5
    clear s5 hM hL hW5
    by_cases hlt : k < n1
    ·
      obtain ⟨Y, O, hY⟩ := H5.out.ow
      obtain ⟨r, o, rfl, hr, hc⟩ := HV1.out.at_ O k hlt
      have ok := HF1.out k hlt
      obtain ⟨⟨⟨kd, m, nw, fi, ms, he⟩, vm, vl⟩, HFk⟩ : ∃ y, Hid (F1 k = y) := ⟨_, rfl⟩
      rw [HFk.out] at ok
      obtain ⟨am, cm, e1⟩ := ok.m.slice
      obtain ⟨al, cl, e2⟩ := ok.ms.slice
      simp only at e1 e2
      subst e1 e2
      have HOK := Lib.hid ok
      have hmsl : ms.length ≤ 9223372036854775807 := by have := ok.len; unfold maxLen at this; simp only at this; omega
      have hfi : fi ≤ 9223372036854775807 := ok.fi
      obtain ⟨T', HT'⟩ : ∃ T', Hid (doT T ⟨kd, m, nw, fi, ms, he⟩ = T') := ⟨_, rfl⟩
      obtain ⟨R', HR'⟩ : ∃ R', Hid (doR R ⟨kd, m, nw, fi, ms, he⟩ = R') := ⟨_, rfl⟩
      have HL' : Hid (Rel T' R') := by rw [← HT'.out, ← HR'.out]; exact HL5.out.step _
      have HW' : Hid (TW (64 * (k + 1)) T') := by rw [← HT'.out, show 64 * (k + 1) = 64 * k + 64 by omega]; exact HW5.out.step _
      clear hc ok O hY
      go_wp2_with fail
      refine wp_region_ov (fun L (x : Value × Value) => [(L 0, 51, ptr p), (L 1, 52, .agg #[.int .i64 R.most, .int .i64 R.again, .slice a1 R.said.length c1, .int .i64 R.heard, .int .i64 R.out, .slice b1 R.took.length d1, .int .i64 R.gave, .int .i64 R.last, .bool R.went, .bool R.owes]), (L 2, 53, .slice (some ⟨r, o, none⟩) n1 cap1), (L 3, 54, .int .i64 k), (L 4, 55, .pointer (some ⟨r, o + k * 6, none⟩)), (L 5, 56, .agg #[.int .i64 kd, .slice am m.length cm, .int .i64 nw, .int .i64 fi, .slice al ms.length cl, .int .i64 he]), (L 6, 57, .tuple #[.agg (rcs R' x.1 x.2), .bool true]), (L 7, 50, .tuple #[.agg (rcs R' x.1 x.2), .bool true]), (L 8, 58, .agg (rcs R' x.1 x.2)), (L 9, 59, .bool true)])
        (fun L x W => ∃ X4, Sub X X4 ∧ S1 W w [⟨w1.heap.size, 27, bif L 10 then rcs R' x.1 x.2 else #[.int .i64 R.most, .int .i64 R.again, .slice a1 R.said.length c1, .int .i64 R.heard, .int .i64 R.out, .slice b1 R.took.length d1, .int .i64 R.gave, .int .i64 R.last, .bool R.went, .bool R.owes]⟩] X4 p (bif L 6 then T' else T) ∧ (L 6 = true → RM w X4 R' x.1 x.2)) (undef, undef) (by kernel_rfl) (by kernel_rfl) (by rfl) ⟨X, Sub.refl _, H5.out.drew, fun h => by simp at h⟩ ?_ ⟨?_, ?_, ?_, ?_, ?_, ?_, ?_, ?_, ?_, ?_, ?_, trivial⟩
      rotate_left
      iterate 1 (· (intro L x W hW hC hL hd K hK; (try simp [depsB, Region.binds] at hd); (try simp only [Nat.reduceAdd] at hK hL); simp only [ovl, Array.getD_eq_getD_getElem?, List.getElem?_toArray, List.getElem?_cons_succ, List.getElem?_cons_zero, Option.getD_some, List.setIfInBounds_toArray, List.set_cons_zero, List.set_cons_succ]; (try simp only [hd, cond_true]); (have hW0 := hW); (obtain ⟨X4, hs4, s4, hm4⟩ := hW); (obtain ⟨Y4, O4, hY4⟩ := s4.ow); (obtain ⟨r', o', e4, hr4, hc4⟩ := HV1.out.at_ O4 k hlt); cases e4; (rw [HFk.out] at hc4); (have c0 := hc4 0 _ rfl); (rw [← Nat.add_assoc] at c0); (have c1 := hc4 1 _ rfl); (rw [← Nat.add_assoc] at c1); (have c2 := hc4 2 _ rfl); (rw [← Nat.add_assoc] at c2); (have c3 := hc4 3 _ rfl); (rw [← Nat.add_assoc] at c3); (have c4 := hc4 4 _ rfl); (rw [← Nat.add_assoc] at c4); (have c5 := hc4 5 _ rfl); (rw [← Nat.add_assoc] at c5); (rw [Nat.add_zero] at c0); clear hs4 s4 hm4 hc4 O4 hY4; go_simp; (have h := hK x W hW0); simp only [ovl, Array.getD_eq_getD_getElem?, List.getElem?_toArray, List.getElem?_cons_succ, List.getElem?_cons_zero, Option.getD_some, List.setIfInBounds_toArray, List.set_cons_zero, List.set_cons_succ] at h; (try simp (decide := true) only [upd, hd, cond_true, cond_false, Bool.true_or, Bool.false_or, decide_true, decide_false] at h); exact h))
      · intro L x W hW hC hL hd K hK; (try simp [depsB, Region.binds] at hd); (try simp only [Nat.reduceAdd] at hK hL)
        (have h10 : L 10 = false := by cases hl : L 10 with | false => rfl | true => have hx := hC 10 _ rfl hl; simp [depsB, Region.binds, hL, hd] at hx); (replace hd := And.intro hd h10)
        have hW0 := hW
        simp only [hL, hd, cond_false] at hW
        simp only [ovl, Array.getD_eq_getD_getElem?, List.getElem?_toArray, List.getElem?_cons_succ, List.getElem?_cons_zero, Option.getD_some, List.setIfInBounds_toArray, List.set_cons_zero, List.set_cons_succ]; (try simp only [hd, cond_true])
        obtain ⟨X4, hs4, s4, hm4⟩ := hW
        have hb6 : HasBlk W w1.heap.size 27 #[.int .i64 R.most, .int .i64 R.again, .slice a1 R.said.length c1, .int .i64 R.heard, .int .i64 R.out, .slice b1 R.took.length d1, .int .i64 R.gave, .int .i64 R.last, .bool R.went, .bool R.owes] := s4.hasC (List.mem_cons_self ..)
        (have d0 := hb6.cell 0); (have d1 := hb6.cell 1); (have d2 := hb6.cell 2); (have d3 := hb6.cell 3); (have d4 := hb6.cell 4); (have d5 := hb6.cell 5); (have d6 := hb6.cell 6); (have d7 := hb6.cell 7); (have d8 := hb6.cell 8); (have d9 := hb6.cell 9)
        have l6 := hb6.lt
        clear hb6 s4 hm4 hs4
        go_simp
        (have h := hK x W hW0); simp only [ovl, Array.getD_eq_getD_getElem?, List.getElem?_toArray, List.getElem?_cons_succ, List.getElem?_cons_zero, Option.getD_some, List.setIfInBounds_toArray, List.set_cons_zero, List.set_cons_succ] at h; (try simp (decide := true) only [upd, hd, cond_true, cond_false, Bool.true_or, Bool.false_or, decide_true, decide_false] at h); exact h
      iterate 4 (· (intro L x W hW hC hL hd K hK; (try simp [depsB, Region.binds] at hd); (try simp only [Nat.reduceAdd] at hK hL); simp only [ovl, Array.getD_eq_getD_getElem?, List.getElem?_toArray, List.getElem?_cons_succ, List.getElem?_cons_zero, Option.getD_some, List.setIfInBounds_toArray, List.set_cons_zero, List.set_cons_succ]; (try simp only [hd, cond_true]); (have hW0 := hW); (obtain ⟨X4, hs4, s4, hm4⟩ := hW); (obtain ⟨Y4, O4, hY4⟩ := s4.ow); (obtain ⟨r', o', e4, hr4, hc4⟩ := HV1.out.at_ O4 k hlt); cases e4; (rw [HFk.out] at hc4); (have c0 := hc4 0 _ rfl); (rw [← Nat.add_assoc] at c0); (have c1 := hc4 1 _ rfl); (rw [← Nat.add_assoc] at c1); (have c2 := hc4 2 _ rfl); (rw [← Nat.add_assoc] at c2); (have c3 := hc4 3 _ rfl); (rw [← Nat.add_assoc] at c3); (have c4 := hc4 4 _ rfl); (rw [← Nat.add_assoc] at c4); (have c5 := hc4 5 _ rfl); (rw [← Nat.add_assoc] at c5); (rw [Nat.add_zero] at c0); clear hs4 s4 hm4 hc4 O4 hY4; go_simp; (have h := hK x W hW0); simp only [ovl, Array.getD_eq_getD_getElem?, List.getElem?_toArray, List.getElem?_cons_succ, List.getElem?_cons_zero, Option.getD_some, List.setIfInBounds_toArray, List.set_cons_zero, List.set_cons_succ] at h; (try simp (decide := true) only [upd, hd, cond_true, cond_false, Bool.true_or, Bool.false_or, decide_true, decide_false] at h); exact h))
      · intro L x W hW hC hL hd K hK; (try simp [depsB, Region.binds] at hd); (try simp only [Nat.reduceAdd] at hK hL)
        (have h7 : L 7 = false := by cases hl : L 7 with | false => rfl | true => have hx := hC 7 _ rfl hl; simp [depsB, Region.binds, hL, hd] at hx); (replace hd := And.intro hd h7); (have h8 : L 8 = false := by cases hl : L 8 with | false => rfl | true => have hx := hC 8 _ rfl hl; simp [depsB, Region.binds, hL, hd] at hx); (replace hd := And.intro hd h8); (have h10 : L 10 = false := by cases hl : L 10 with | false => rfl | true => have hx := hC 10 _ rfl hl; simp [depsB, Region.binds, hL, hd] at hx); (replace hd := And.intro hd h10)
        simp only [hL, hd, cond_false, List.nil_append] at hW
        simp only [ovl, Array.getD_eq_getD_getElem?, List.getElem?_toArray, List.getElem?_cons_succ, List.getElem?_cons_zero, Option.getD_some, List.setIfInBounds_toArray, List.set_cons_zero, List.set_cons_succ]; (try simp only [hd, cond_true])
        obtain ⟨X4, hs4, s4, -⟩ := hW
        refine wp_call_in 14 (by rfl) (by kernel_rfl) #[ptr p, .agg #[.int .i64 R.most, .int .i64 R.again, .slice a1 R.said.length c1, .int .i64 R.heard, .int .i64 R.out, .slice b1 R.took.length d1, .int .i64 R.gave, .int .i64 R.last, .bool R.went, .bool R.owes], .agg #[.int .i64 kd, .slice am m.length cm, .int .i64 nw, .int .i64 fi, .slice al ms.length cl, .int .i64 he]] (by (simp only [List.map_toArray, List.map_cons, List.map_nil, Act.eval, Array.getD_eq_getD_getElem?, List.getElem?_toArray, List.getElem?_cons_succ, List.getElem?_cons_zero, Option.getD_some])) ((do_to kd nw fi he _ _ m ms s4 (HM5.out.mono hs4) (HL5.out.rw HW5.out (by omega)) (HW5.out.mono (by omega)) HL5.out (HOK.out.m.mono fun x hx => by cases hx) (HOK.out.ms.mono fun x hx => by cases hx) hmsl hfi HT'.out HR'.out).mono ?_)
        rintro e W4 ⟨vs', vt', X5, rfl, hs5, s5, M5⟩
        refine ⟨_, rfl, ?_⟩
        (have h := hK (vs', vt') W4 ⟨X5, hs4.trans hs5, by simpa (decide := true) only [upd, hd, hL, cond_true, cond_false, Bool.true_or, Bool.false_or, decide_true, decide_false, List.cons_append, List.nil_append] using s5, fun _ => M5⟩); simp only [ovl, Array.getD_eq_getD_getElem?, List.getElem?_toArray, List.getElem?_cons_succ, List.getElem?_cons_zero, Option.getD_some, List.setIfInBounds_toArray, List.set_cons_zero, List.set_cons_succ] at h; (try simp (decide := true) only [upd, hd, cond_true, cond_false, Bool.true_or, Bool.false_or, decide_true, decide_false] at h); exact h
      iterate 3 (· (intro L x W hW hC hL hd K hK; (try simp [depsB, Region.binds] at hd); (try simp only [Nat.reduceAdd] at hK hL); simp only [ovl, Array.getD_eq_getD_getElem?, List.getElem?_toArray, List.getElem?_cons_succ, List.getElem?_cons_zero, Option.getD_some, List.setIfInBounds_toArray, List.set_cons_zero, List.set_cons_succ]; (try simp only [hd, cond_true]); (have hW0 := hW); (obtain ⟨X4, hs4, s4, hm4⟩ := hW); (obtain ⟨Y4, O4, hY4⟩ := s4.ow); (obtain ⟨r', o', e4, hr4, hc4⟩ := HV1.out.at_ O4 k hlt); cases e4; (rw [HFk.out] at hc4); (have c0 := hc4 0 _ rfl); (rw [← Nat.add_assoc] at c0); (have c1 := hc4 1 _ rfl); (rw [← Nat.add_assoc] at c1); (have c2 := hc4 2 _ rfl); (rw [← Nat.add_assoc] at c2); (have c3 := hc4 3 _ rfl); (rw [← Nat.add_assoc] at c3); (have c4 := hc4 4 _ rfl); (rw [← Nat.add_assoc] at c4); (have c5 := hc4 5 _ rfl); (rw [← Nat.add_assoc] at c5); (rw [Nat.add_zero] at c0); clear hs4 s4 hm4 hc4 O4 hY4; go_simp; (have h := hK x W hW0); simp only [ovl, Array.getD_eq_getD_getElem?, List.getElem?_toArray, List.getElem?_cons_succ, List.getElem?_cons_zero, Option.getD_some, List.setIfInBounds_toArray, List.set_cons_zero, List.set_cons_succ] at h; (try simp (decide := true) only [upd, hd, cond_true, cond_false, Bool.true_or, Bool.false_or, decide_true, decide_false] at h); exact h))
      · intro L x W hW hC hL hd K hK; (try simp [depsB, Region.binds] at hd); (try simp only [Nat.reduceAdd] at hK hL)
        simp only [hL, hd, cond_false, cond_true] at hW
        simp only [ovl, Array.getD_eq_getD_getElem?, List.getElem?_toArray, List.getElem?_cons_succ, List.getElem?_cons_zero, Option.getD_some, List.setIfInBounds_toArray, List.set_cons_zero, List.set_cons_succ]; (try simp only [hd, cond_true])
        obtain ⟨X4, hs4, s4, hm4⟩ := hW
        refine s4.store 27 (.tmp 8) (.tmp 58) (by rfl) (by rfl) (rcs R' x.1 x.2) (by rfl) (by kernel_rfl) (by rfl) (rcs_one (hm4 trivial)) (fun W5 s5 => ?_)
        (have h := hK x W5 ⟨X4, hs4, by simpa (decide := true) only [upd, hd, hL, cond_true, cond_false, Bool.true_or, Bool.false_or, decide_true, decide_false, List.cons_append, List.nil_append] using s5, fun _ => hm4 trivial⟩); simp only [ovl, Array.getD_eq_getD_getElem?, List.getElem?_toArray, List.getElem?_cons_succ, List.getElem?_cons_zero, Option.getD_some, List.setIfInBounds_toArray, List.set_cons_zero, List.set_cons_succ] at h; (try simp (decide := true) only [upd, hd, cond_true, cond_false, Bool.true_or, Bool.false_or, decide_true, decide_false] at h); exact h
      intro x W9 hW9
      obtain ⟨vs', vt'⟩ := x
      simp only [ovl, cond_true, Array.getD_eq_getD_getElem?, List.getElem?_toArray, List.getElem?_cons_succ, List.getElem?_cons_zero, Option.getD_some, List.setIfInBounds_toArray, List.set_cons_zero, List.set_cons_succ]
      simp only [cond_true] at hW9
      obtain ⟨X9, hs9, s9, hm9⟩ := hW9
      have M9 := hm9 trivial
      obtain ⟨a3, c3, rfl⟩ := M9.1.slice
      obtain ⟨b3, d3, rfl⟩ := M9.2.slice
      simp only [rcs] at s9 ⊢
      have HS9 := Lib.hid s9
      have HM9 := Lib.hid M9
      clear s9 M9 hm9 hs9
      go_wp2
      exact ⟨⟨k + 1, T', R', a3, b3, c3, d3, X9, by simp, by omega, HS9.out, HM9.out, HL'.out, HW'.out⟩, by simp [intOf]; omega⟩
    · obtain rfl : k = n1 := by omega
      have hTl : T.waits.length ≤ 1000000 ∧ T.got.length ≤ 1000000 := ⟨by have := HW5.out.waits; have := HW5.out.most; omega, by have := HW5.out.got; omega⟩
      go_wp2_with fail
      refine (H5.out.clone (HW5.out.mono (by omega))).mono ?_
      rintro e w6 ⟨q, X6, A, D, rfl, hs6, O6, tA, tD⟩
      have heq := ptr_ne O6 tA tD
      have S6 : S1 w6 w ([⟨w1.heap.size, 27, #[.int .i64 R.most, .int .i64 R.again, .slice a1 R.said.length c1, .int .i64 R.heard, .int .i64 R.out, .slice b1 R.took.length d1, .int .i64 R.gave, .int .i64 R.last, .bool R.went, .bool R.owes]⟩] ++ A) X6 q T := ⟨D, O6.perm (perm_cnt fun x => by simp only [cnt_append, cnt_cons, cnt_nil] <;> omega), tD⟩
      have E6 := Lib.hid (S6.two tA)
      have HS6 := Lib.hid S6
      have HtA := Lib.hid tA
      have HMR := Lib.hid (HM5.out.mono hs6)
      clear O6 tA tD S6 hs6
      go_wp2_with fail
      refine (tsame_to _ _ _ q p T T E6.out hTl hTl true (by simp [sameT])).mono ?_
      rintro e w7 ⟨rfl, O7⟩
      have E7 := Lib.hid (E6.out.of_below O7.below)
      have HS7 := Lib.hid (HS6.out.of_below O7.below)
      clear O7 E6 HS6
      go_wp2_with fail
      refine (tsame_to _ _ _ p q T T E7.out.swap hTl hTl true (by simp [sameT])).mono ?_
      rintro e w8 ⟨rfl, O8⟩
      have HS8 := Lib.hid (HS7.out.of_below O8.below)
      clear O8 E7 HS7
      go_wp2_with fail
      refine (tsame_pn p w8).mono ?_
      rintro e w9 ⟨rfl, rfl⟩
      have hb8 := HS8.out.hasC (b := w1.heap.size) (t := 27) (cs := #[.int .i64 R.most, .int .i64 R.again, .slice a1 R.said.length c1, .int .i64 R.heard, .int .i64 R.out, .slice b1 R.took.length d1, .int .i64 R.gave, .int .i64 R.last, .bool R.went, .bool R.owes]) (by simp)
      (have g0 := hb8.cell 0); (have g1 := hb8.cell 1); (have g2 := hb8.cell 2); (have g3 := hb8.cell 3); (have g4 := hb8.cell 4); (have g5 := hb8.cell 5); (have g6 := hb8.cell 6); (have g7 := hb8.cell 7); (have g8 := hb8.cell 8); (have g9 := hb8.cell 9)
      have l8 := hb8.lt
      have HS9 := Lib.hid (HS8.out.park (cs := #[.int .i64 R.most, .int .i64 R.again, .slice a1 R.said.length c1, .int .i64 R.heard, .int .i64 R.out, .slice b1 R.took.length d1, .int .i64 R.gave, .int .i64 R.last, .bool R.went, .bool R.owes]) (t := 27) rfl)
      clear hb8 HS8
      go_wp2_with fail
      obtain ⟨b11, hb11⟩ : ∃ b11, b11 = w9.heap.size := ⟨_, rfl⟩
      rw [← hb11] at HS9
      simp only [← hb11]
      clear hb11
      go_loopw [12] (fun vi wr => ∃ (k2 : Nat) (U : TS) (S : RS) (a2 b2 : Option Addr) (c2 d2 : Nat) (X : List Blk), vi = .int .i64 k2 ∧ k2 ≤ n2 ∧ Sub X6 X ∧ S1 wr w (⟨b11, 27, #[.int .i64 S.most, .int .i64 S.again, .slice a2 S.said.length c2, .int .i64 S.heard, .int .i64 S.out, .slice b2 S.took.length d2, .int .i64 S.gave, .int .i64 S.last, .bool S.went, .bool S.owes]⟩ :: (⟨w1.heap.size, 27, #[.int .i64 R.most, .int .i64 R.again, .slice a1 R.said.length c1, .int .i64 R.heard, .int .i64 R.out, .slice b1 R.took.length d1, .int .i64 R.gave, .int .i64 R.last, .bool R.went, .bool R.owes]⟩ :: A)) X q U ∧ RM w X S (.slice a2 S.said.length c2) (.slice b2 S.took.length d2) ∧ Rel U S ∧ TW (64 * (30 + k2)) U) (fun i _ => n2 - (intOf i).toNat)
      case atStart => exact ⟨0, T, R, a1, b1, c1, d1, X6, rfl, by omega, Sub.refl _, by simpa using HS9.out, HMR.out, HL5.out, HW5.out.mono (by omega)⟩
      case round =>
        obtain ⟨k2, U, S, a2, b2, c2, d2, X, rfl, hk2, hsX, s5, hM, hL, hW5⟩ := hrel
        have H15 := Lib.hid s5
        have HM15 := Lib.hid hM
        have HL15 := Lib.hid hL
        have HW15 := Lib.hid hW5
        have HsX := Lib.hid hsX
        clear s5 hM hL hW5 hsX
        by_cases hlt : k2 < n2
        ·
          obtain ⟨Y, O, hY⟩ := H15.out.ow
          obtain ⟨r, o, rfl, hr, hc⟩ := HV2.out.at_ O k2 hlt
          have ok := HF2.out k2 hlt
          obtain ⟨⟨⟨kd, m, nw, fi, ms, he⟩, vm, vl⟩, HFk⟩ : ∃ y, Hid (F2 k2 = y) := ⟨_, rfl⟩
          rw [HFk.out] at ok
          obtain ⟨am, cm, e1⟩ := ok.m.slice
          obtain ⟨al, cl, e2⟩ := ok.ms.slice
          simp only at e1 e2
          subst e1 e2
          have HOK := Lib.hid ok
          have hmsl : ms.length ≤ 9223372036854775807 := by have := ok.len; unfold maxLen at this; simp only at this; omega
          have hfi : fi ≤ 9223372036854775807 := ok.fi
          obtain ⟨U', HU'⟩ : ∃ T', Hid (doT U ⟨kd, m, nw, fi, ms, he⟩ = T') := ⟨_, rfl⟩
          obtain ⟨S', HS'⟩ : ∃ R', Hid (doR S ⟨kd, m, nw, fi, ms, he⟩ = R') := ⟨_, rfl⟩
          have HL' : Hid (Rel U' S') := by rw [← HU'.out, ← HS'.out]; exact HL15.out.step _
          have HW' : Hid (TW (64 * (30 + (k2 + 1))) U') := by rw [← HU'.out, show 64 * (30 + (k2 + 1)) = 64 * (30 + k2) + 64 by omega]; exact HW15.out.step _
          clear hc ok O hY
          go_wp2_with fail
          refine wp_region_ov (fun L (x : Value × Value × Nat) => [(L 0, 93, ptr q), (L 1, 94, .agg #[.int .i64 S.most, .int .i64 S.again, .slice a2 S.said.length c2, .int .i64 S.heard, .int .i64 S.out, .slice b2 S.took.length d2, .int .i64 S.gave, .int .i64 S.last, .bool S.went, .bool S.owes]), (L 2, 95, .slice (some ⟨r, o, none⟩) n2 cap2), (L 3, 96, .int .i64 k2), (L 4, 97, .pointer (some ⟨r, o + k2 * 6, none⟩)), (L 5, 98, .agg #[.int .i64 kd, .slice am m.length cm, .int .i64 nw, .int .i64 fi, .slice al ms.length cl, .int .i64 he]), (L 6, 99, .tuple #[.agg (rcs S' x.1 x.2.1), .bool true]), (L 7, 92, .tuple #[.agg (rcs S' x.1 x.2.1), .bool true]), (L 8, 100, .agg (rcs S' x.1 x.2.1)), (L 9, 101, .bool true), (L 10, 13, .pointer (some ⟨x.2.2, 0, none⟩)), (L 12, 14, .bool true)])
            (fun L x W => ∃ X4, Sub X X4 ∧ S1 W w ((bif L 10 then [⟨x.2.2, 27, bif L 11 then rcs S' x.1 x.2.1 else #[.int .i64 0, .int .i64 0, .slice none 0 0, .int .i64 0, .int .i64 0, .slice none 0 0, .int .i64 0, .int .i64 0, .bool false, .bool false]⟩] else []) ++ (⟨b11, 27, #[.int .i64 S.most, .int .i64 S.again, .slice a2 S.said.length c2, .int .i64 S.heard, .int .i64 S.out, .slice b2 S.took.length d2, .int .i64 S.gave, .int .i64 S.last, .bool S.went, .bool S.owes]⟩ :: (⟨w1.heap.size, 27, #[.int .i64 R.most, .int .i64 R.again, .slice a1 R.said.length c1, .int .i64 R.heard, .int .i64 R.out, .slice b1 R.took.length d1, .int .i64 R.gave, .int .i64 R.last, .bool R.went, .bool R.owes]⟩ :: A))) X4 q (bif L 6 then U' else U) ∧ (L 6 = true → RM w X4 S' x.1 x.2.1)) (undef, undef, 0) (by kernel_rfl) (by kernel_rfl) (by rfl) ⟨X, Sub.refl _, H15.out.drew, fun h => by simp at h⟩ ?_ ⟨?_, ?_, ?_, ?_, ?_, ?_, ?_, ?_, ?_, ?_, ?_, ?_, ?_, trivial⟩
          rotate_left
          iterate 6 (· (intro L x W hW hC hL hd K hK; (try simp [depsB, Region.binds] at hd); (try simp only [Nat.reduceAdd] at hK hL); simp only [ovl, Array.getD_eq_getD_getElem?, List.getElem?_toArray, List.getElem?_cons_succ, List.getElem?_cons_zero, Option.getD_some, List.setIfInBounds_toArray, List.set_cons_zero, List.set_cons_succ]; (try simp only [hd, cond_true]); (have hW0 := hW); (obtain ⟨X4, hs4, s4, hm4⟩ := hW); (have hb6 : HasBlk W b11 27 #[.int .i64 S.most, .int .i64 S.again, .slice a2 S.said.length c2, .int .i64 S.heard, .int .i64 S.out, .slice b2 S.took.length d2, .int .i64 S.gave, .int .i64 S.last, .bool S.went, .bool S.owes] := s4.hasC (List.mem_append_right _ (List.mem_cons_self ..))); (have d0 := hb6.cell 0); (have d1 := hb6.cell 1); (have d2 := hb6.cell 2); (have d3 := hb6.cell 3); (have d4 := hb6.cell 4); (have d5 := hb6.cell 5); (have d6 := hb6.cell 6); (have d7 := hb6.cell 7); (have d8 := hb6.cell 8); (have d9 := hb6.cell 9); (have l6 := hb6.lt); (obtain ⟨Y4, O4, hY4⟩ := s4.ow); (obtain ⟨r', o', e4, hr4, hc4⟩ := HV2.out.at_ O4 k2 hlt); cases e4; (rw [HFk.out] at hc4); (have c0 := hc4 0 _ rfl); (rw [← Nat.add_assoc] at c0); (have c1 := hc4 1 _ rfl); (rw [← Nat.add_assoc] at c1); (have c2 := hc4 2 _ rfl); (rw [← Nat.add_assoc] at c2); (have c3 := hc4 3 _ rfl); (rw [← Nat.add_assoc] at c3); (have c4 := hc4 4 _ rfl); (rw [← Nat.add_assoc] at c4); (have c5 := hc4 5 _ rfl); (rw [← Nat.add_assoc] at c5); (rw [Nat.add_zero] at c0); clear hb6 hs4 s4 hm4 hc4 O4 hY4; go_simp; (have h := hK x W hW0); simp only [ovl, Array.getD_eq_getD_getElem?, List.getElem?_toArray, List.getElem?_cons_succ, List.getElem?_cons_zero, Option.getD_some, List.setIfInBounds_toArray, List.set_cons_zero, List.set_cons_succ] at h; (try simp (decide := true) only [upd, hd, cond_true, cond_false, Bool.true_or, Bool.false_or, decide_true, decide_false] at h); exact h))
          · intro L x W hW hC hL hd K hK; (try simp [depsB, Region.binds] at hd); (try simp only [Nat.reduceAdd] at hK hL)
            (have h7 : L 7 = false := by cases hl : L 7 with | false => rfl | true => have hx := hC 7 _ rfl hl; simp [depsB, Region.binds, hL, hd] at hx); (replace hd := And.intro hd h7); (have h8 : L 8 = false := by cases hl : L 8 with | false => rfl | true => have hx := hC 8 _ rfl hl; simp [depsB, Region.binds, hL, hd] at hx); (replace hd := And.intro hd h8); (have h11 : L 11 = false := by cases hl : L 11 with | false => rfl | true => have hx := hC 11 _ rfl hl; simp [depsB, Region.binds, hL, hd] at hx); (replace hd := And.intro hd h11)
            simp only [hL, hd, cond_false, List.nil_append] at hW
            simp only [ovl, Array.getD_eq_getD_getElem?, List.getElem?_toArray, List.getElem?_cons_succ, List.getElem?_cons_zero, Option.getD_some, List.setIfInBounds_toArray, List.set_cons_zero, List.set_cons_succ]; (try simp only [hd, cond_true])
            obtain ⟨X4, hs4, s4, -⟩ := hW
            refine wp_call_in 14 (by rfl) (by kernel_rfl) #[ptr q, .agg #[.int .i64 S.most, .int .i64 S.again, .slice a2 S.said.length c2, .int .i64 S.heard, .int .i64 S.out, .slice b2 S.took.length d2, .int .i64 S.gave, .int .i64 S.last, .bool S.went, .bool S.owes], .agg #[.int .i64 kd, .slice am m.length cm, .int .i64 nw, .int .i64 fi, .slice al ms.length cl, .int .i64 he]] (by (simp only [List.map_toArray, List.map_cons, List.map_nil, Act.eval, Array.getD_eq_getD_getElem?, List.getElem?_toArray, List.getElem?_cons_succ, List.getElem?_cons_zero, Option.getD_some])) ((do_to kd nw fi he _ _ m ms s4 (HM15.out.mono hs4) (HL15.out.rw HW15.out (by omega)) (HW15.out.mono (by omega)) HL15.out (HOK.out.m.mono fun x hx => by cases hx) (HOK.out.ms.mono fun x hx => by cases hx) hmsl hfi HU'.out HS'.out).mono ?_)
            rintro e W4 ⟨vs', vt', X5, rfl, hs5, s5, M5⟩
            refine ⟨_, rfl, ?_⟩
            (have h := hK (vs', vt', x.2.2) W4 ⟨X5, hs4.trans hs5, by simpa (decide := true) only [upd, hd, hL, cond_true, cond_false, Bool.true_or, Bool.false_or, decide_true, decide_false, List.cons_append, List.nil_append] using s5, fun _ => M5⟩); simp only [ovl, Array.getD_eq_getD_getElem?, List.getElem?_toArray, List.getElem?_cons_succ, List.getElem?_cons_zero, Option.getD_some, List.setIfInBounds_toArray, List.set_cons_zero, List.set_cons_succ] at h; (try simp (decide := true) only [upd, hd, cond_true, cond_false, Bool.true_or, Bool.false_or, decide_true, decide_false] at h); exact h
          iterate 3 (· (intro L x W hW hC hL hd K hK; (try simp [depsB, Region.binds] at hd); (try simp only [Nat.reduceAdd] at hK hL); simp only [ovl, Array.getD_eq_getD_getElem?, List.getElem?_toArray, List.getElem?_cons_succ, List.getElem?_cons_zero, Option.getD_some, List.setIfInBounds_toArray, List.set_cons_zero, List.set_cons_succ]; (try simp only [hd, cond_true]); (have hW0 := hW); (obtain ⟨X4, hs4, s4, hm4⟩ := hW); (have hb6 : HasBlk W b11 27 #[.int .i64 S.most, .int .i64 S.again, .slice a2 S.said.length c2, .int .i64 S.heard, .int .i64 S.out, .slice b2 S.took.length d2, .int .i64 S.gave, .int .i64 S.last, .bool S.went, .bool S.owes] := s4.hasC (List.mem_append_right _ (List.mem_cons_self ..))); (have d0 := hb6.cell 0); (have d1 := hb6.cell 1); (have d2 := hb6.cell 2); (have d3 := hb6.cell 3); (have d4 := hb6.cell 4); (have d5 := hb6.cell 5); (have d6 := hb6.cell 6); (have d7 := hb6.cell 7); (have d8 := hb6.cell 8); (have d9 := hb6.cell 9); (have l6 := hb6.lt); (obtain ⟨Y4, O4, hY4⟩ := s4.ow); (obtain ⟨r', o', e4, hr4, hc4⟩ := HV2.out.at_ O4 k2 hlt); cases e4; (rw [HFk.out] at hc4); (have c0 := hc4 0 _ rfl); (rw [← Nat.add_assoc] at c0); (have c1 := hc4 1 _ rfl); (rw [← Nat.add_assoc] at c1); (have c2 := hc4 2 _ rfl); (rw [← Nat.add_assoc] at c2); (have c3 := hc4 3 _ rfl); (rw [← Nat.add_assoc] at c3); (have c4 := hc4 4 _ rfl); (rw [← Nat.add_assoc] at c4); (have c5 := hc4 5 _ rfl); (rw [← Nat.add_assoc] at c5); (rw [Nat.add_zero] at c0); clear hb6 hs4 s4 hm4 hc4 O4 hY4; go_simp; (have h := hK x W hW0); simp only [ovl, Array.getD_eq_getD_getElem?, List.getElem?_toArray, List.getElem?_cons_succ, List.getElem?_cons_zero, Option.getD_some, List.setIfInBounds_toArray, List.set_cons_zero, List.set_cons_succ] at h; (try simp (decide := true) only [upd, hd, cond_true, cond_false, Bool.true_or, Bool.false_or, decide_true, decide_false] at h); exact h))
          · intro L x W hW hC hL hd K hK; (try simp [depsB, Region.binds] at hd); (try simp only [Nat.reduceAdd] at hK hL)
            (have h11 : L 11 = false := by cases hl : L 11 with | false => rfl | true => have hx := hC 11 _ rfl hl; simp [depsB, Region.binds, hL, hd] at hx); (replace hd := And.intro hd h11)
            simp only [hL, hd, cond_false, List.nil_append] at hW
            simp only [ovl, Array.getD_eq_getD_getElem?, List.getElem?_toArray, List.getElem?_cons_succ, List.getElem?_cons_zero, Option.getD_some, List.setIfInBounds_toArray, List.set_cons_zero, List.set_cons_succ]; (try simp only [hd, cond_true])
            obtain ⟨X4, hs4, s4, hm4⟩ := hW
            go_simp
            (have h := hK (x.1, x.2.1, W.heap.size) _ ⟨X4, hs4, by simpa (decide := true) only [upd, hd, hL, cond_true, cond_false, Bool.true_or, Bool.false_or, decide_true, decide_false, List.cons_append, List.nil_append] using s4.park (cs := #[.int .i64 0, .int .i64 0, .slice none 0 0, .int .i64 0, .int .i64 0, .slice none 0 0, .int .i64 0, .int .i64 0, .bool false, .bool false]) (t := 27) rfl, hm4⟩); simp only [ovl, Array.getD_eq_getD_getElem?, List.getElem?_toArray, List.getElem?_cons_succ, List.getElem?_cons_zero, Option.getD_some, List.setIfInBounds_toArray, List.set_cons_zero, List.set_cons_succ] at h; (try simp (decide := true) only [upd, hd, cond_true, cond_false, Bool.true_or, Bool.false_or, decide_true, decide_false] at h); exact h
          · intro L x W hW hC hL hd K hK; (try simp [depsB, Region.binds] at hd); (try simp only [Nat.reduceAdd] at hK hL)
            simp only [hL, hd, cond_false, cond_true, List.cons_append, List.nil_append] at hW
            simp only [ovl, Array.getD_eq_getD_getElem?, List.getElem?_toArray, List.getElem?_cons_succ, List.getElem?_cons_zero, Option.getD_some, List.setIfInBounds_toArray, List.set_cons_zero, List.set_cons_succ]; (try simp only [hd, cond_true])
            obtain ⟨X4, hs4, s4, hm4⟩ := hW
            refine s4.store 27 (.tmp 13) (.tmp 100) (by rfl) (by rfl) (rcs S' x.1 x.2.1) (by rfl) (by kernel_rfl) (by rfl) (rcs_one (hm4 trivial)) (fun W5 s5 => ?_)
            (have h := hK x W5 ⟨X4, hs4, by simpa (decide := true) only [upd, hd, hL, cond_true, cond_false, Bool.true_or, Bool.false_or, decide_true, decide_false, List.cons_append, List.nil_append] using s5, fun _ => hm4 trivial⟩); simp only [ovl, Array.getD_eq_getD_getElem?, List.getElem?_toArray, List.getElem?_cons_succ, List.getElem?_cons_zero, Option.getD_some, List.setIfInBounds_toArray, List.set_cons_zero, List.set_cons_succ] at h; (try simp (decide := true) only [upd, hd, cond_true, cond_false, Bool.true_or, Bool.false_or, decide_true, decide_false] at h); exact h
          iterate 1 (· (intro L x W hW hC hL hd K hK; (try simp [depsB, Region.binds] at hd); (try simp only [Nat.reduceAdd] at hK hL); simp only [ovl, Array.getD_eq_getD_getElem?, List.getElem?_toArray, List.getElem?_cons_succ, List.getElem?_cons_zero, Option.getD_some, List.setIfInBounds_toArray, List.set_cons_zero, List.set_cons_succ]; (try simp only [hd, cond_true]); (have hW0 := hW); (obtain ⟨X4, hs4, s4, hm4⟩ := hW); (have hb6 : HasBlk W b11 27 #[.int .i64 S.most, .int .i64 S.again, .slice a2 S.said.length c2, .int .i64 S.heard, .int .i64 S.out, .slice b2 S.took.length d2, .int .i64 S.gave, .int .i64 S.last, .bool S.went, .bool S.owes] := s4.hasC (List.mem_append_right _ (List.mem_cons_self ..))); (have d0 := hb6.cell 0); (have d1 := hb6.cell 1); (have d2 := hb6.cell 2); (have d3 := hb6.cell 3); (have d4 := hb6.cell 4); (have d5 := hb6.cell 5); (have d6 := hb6.cell 6); (have d7 := hb6.cell 7); (have d8 := hb6.cell 8); (have d9 := hb6.cell 9); (have l6 := hb6.lt); (obtain ⟨Y4, O4, hY4⟩ := s4.ow); (obtain ⟨r', o', e4, hr4, hc4⟩ := HV2.out.at_ O4 k2 hlt); cases e4; (rw [HFk.out] at hc4); (have c0 := hc4 0 _ rfl); (rw [← Nat.add_assoc] at c0); (have c1 := hc4 1 _ rfl); (rw [← Nat.add_assoc] at c1); (have c2 := hc4 2 _ rfl); (rw [← Nat.add_assoc] at c2); (have c3 := hc4 3 _ rfl); (rw [← Nat.add_assoc] at c3); (have c4 := hc4 4 _ rfl); (rw [← Nat.add_assoc] at c4); (have c5 := hc4 5 _ rfl); (rw [← Nat.add_assoc] at c5); (rw [Nat.add_zero] at c0); clear hb6 hs4 s4 hm4 hc4 O4 hY4; go_simp; (have h := hK x W hW0); simp only [ovl, Array.getD_eq_getD_getElem?, List.getElem?_toArray, List.getElem?_cons_succ, List.getElem?_cons_zero, Option.getD_some, List.setIfInBounds_toArray, List.set_cons_zero, List.set_cons_succ] at h; (try simp (decide := true) only [upd, hd, cond_true, cond_false, Bool.true_or, Bool.false_or, decide_true, decide_false] at h); exact h))
          intro x W9 hW9
          obtain ⟨vs', vt', b13⟩ := x
          simp only [ovl, cond_true, Array.getD_eq_getD_getElem?, List.getElem?_toArray, List.getElem?_cons_succ, List.getElem?_cons_zero, Option.getD_some, List.setIfInBounds_toArray, List.set_cons_zero, List.set_cons_succ]
          simp only [cond_true, List.cons_append, List.nil_append] at hW9
          obtain ⟨X9, hs9, s9, hm9⟩ := hW9
          have M9 := hm9 trivial
          obtain ⟨a3, c3, rfl⟩ := M9.1.slice
          obtain ⟨b3, d3, rfl⟩ := M9.2.slice
          simp only [rcs] at s9 ⊢
          have hb13 := s9.hasC (b := b13) (t := 27) (cs := #[.int .i64 S'.most, .int .i64 S'.again, .slice a3 S'.said.length c3, .int .i64 S'.heard, .int .i64 S'.out, .slice b3 S'.took.length d3, .int .i64 S'.gave, .int .i64 S'.last, .bool S'.went, .bool S'.owes]) (List.mem_cons_self ..)
          (have g0 := hb13.cell 0); (have g1 := hb13.cell 1); (have g2 := hb13.cell 2); (have g3 := hb13.cell 3); (have g4 := hb13.cell 4); (have g5 := hb13.cell 5); (have g6 := hb13.cell 6); (have g7 := hb13.cell 7); (have g8 := hb13.cell 8); (have g9 := hb13.cell 9)
          have l13 := hb13.lt
          obtain ⟨sb, HSB⟩ : ∃ sb, Hid (sameT T U' = sb) := ⟨_, rfl⟩
          have HSC : Hid (sameT U' T = sb) := by rw [sameT_comm]; exact HSB.out
          have HAL : Hid (rAlike R S' = sb) := by rw [← HL5.out.alike HL'.out]; exact HSB.out
          have hUl : U'.waits.length ≤ 1000000 ∧ U'.got.length ≤ 1000000 := ⟨by have := HW'.out.waits; have := HW'.out.most; omega, by have := HW'.out.got; omega⟩
          have HtA' := Lib.hid (HtA.out.mono (HsX.out.trans hs9))
          have HMR' := Lib.hid (HMR.out.mono (HsX.out.trans hs9))
          have HsX9 := Lib.hid (HsX.out.trans hs9)
          have HS9 := Lib.hid s9
          have HM9 := Lib.hid M9
          clear s9 M9 hm9 hs9 hb13
          go_wp2_with (refine HS9.out.storeL (B := [⟨b13, 27, #[.int .i64 S'.most, .int .i64 S'.again, .slice a3 S'.said.length c3, .int .i64 S'.heard, .int .i64 S'.out, .slice b3 S'.took.length d3, .int .i64 S'.gave, .int .i64 S'.last, .bool S'.went, .bool S'.owes]⟩]) (C := (⟨w1.heap.size, 27, #[.int .i64 R.most, .int .i64 R.again, .slice a1 R.said.length c1, .int .i64 R.heard, .int .i64 R.out, .slice b1 R.took.length d1, .int .i64 R.gave, .int .i64 R.last, .bool R.went, .bool R.owes]⟩ :: A)) (cs := #[.int .i64 S.most, .int .i64 S.again, .slice a2 S.said.length c2, .int .i64 S.heard, .int .i64 S.out, .slice b2 S.took.length d2, .int .i64 S.gave, .int .i64 S.last, .bool S.went, .bool S.owes]) rfl 27 (.tmp 11) (.tmp 102) rfl (by rfl) #[.int .i64 S'.most, .int .i64 S'.again, .slice a3 S'.said.length c3, .int .i64 S'.heard, .int .i64 S'.out, .slice b3 S'.took.length d3, .int .i64 S'.gave, .int .i64 S'.last, .bool S'.went, .bool S'.owes] (by rfl) (by kernel_rfl) (by rfl) (by simp [Value.oneCell']) ?_; intro w10 s10; (have hb8 := s10.hasC (b := w1.heap.size) (t := 27) (cs := #[.int .i64 R.most, .int .i64 R.again, .slice a1 R.said.length c1, .int .i64 R.heard, .int .i64 R.out, .slice b1 R.took.length d1, .int .i64 R.gave, .int .i64 R.last, .bool R.went, .bool R.owes]) (by simp)); (have x0 := hb8.cell 0); (have x1 := hb8.cell 1); (have x2 := hb8.cell 2); (have x3 := hb8.cell 3); (have x4 := hb8.cell 4); (have x5 := hb8.cell 5); (have x6 := hb8.cell 6); (have x7 := hb8.cell 7); (have x8 := hb8.cell 8); (have x9 := hb8.cell 9); (have l8 := hb8.lt); (have hb11 := s10.hasC (b := b11) (t := 27) (cs := #[.int .i64 S'.most, .int .i64 S'.again, .slice a3 S'.said.length c3, .int .i64 S'.heard, .int .i64 S'.out, .slice b3 S'.took.length d3, .int .i64 S'.gave, .int .i64 S'.last, .bool S'.went, .bool S'.owes]) (by simp)); (have y0 := hb11.cell 0); (have y1 := hb11.cell 1); (have y2 := hb11.cell 2); (have y3 := hb11.cell 3); (have y4 := hb11.cell 4); (have y5 := hb11.cell 5); (have y6 := hb11.cell 6); (have y7 := hb11.cell 7); (have y8 := hb11.cell 8); (have y9 := hb11.cell 9); (have l11 := hb11.lt); (have HS10 : Hid (S1 w10 w ([⟨b11, 27, #[.int .i64 S'.most, .int .i64 S'.again, .slice a3 S'.said.length c3, .int .i64 S'.heard, .int .i64 S'.out, .slice b3 S'.took.length d3, .int .i64 S'.gave, .int .i64 S'.last, .bool S'.went, .bool S'.owes]⟩, ⟨w1.heap.size, 27, #[.int .i64 R.most, .int .i64 R.again, .slice a1 R.said.length c1, .int .i64 R.heard, .int .i64 R.out, .slice b1 R.took.length d1, .int .i64 R.gave, .int .i64 R.last, .bool R.went, .bool R.owes]⟩] ++ A) X9 q U') := s10.drop); clear s10 hb8 hb11)
          have HE1 : Hid (∀ g d, Calls Try.prog 26 #[ptr p, ptr q] (plus w10 g d) fun e w' => e = .returned (.bool sb) ∧ Below (plus w10 g d).heap.size (plus w10 g d) w') := fun g d => (tsame_to _ _ _ p q T U' ((HS10.out.plus g d).two HtA'.out).swap hTl hUl sb HSB.out).mono fun e w' hh => ⟨hh.1, hh.2.below⟩
          have HE2 : Hid (∀ g d, Calls Try.prog 26 #[ptr q, ptr p] (plus w10 g d) fun e w' => e = .returned (.bool sb) ∧ Below (plus w10 g d).heap.size (plus w10 g d) w') := fun g d => (tsame_to _ _ _ q p U' T ((HS10.out.plus g d).two HtA'.out) hUl hTl sb HSC.out).mono fun e w' hh => ⟨hh.1, hh.2.below⟩
          have HA2 : Hid (∀ g d, Calls Try.prog 27 #[.agg #[.int .i64 R.most, .int .i64 R.again, .slice a1 R.said.length c1, .int .i64 R.heard, .int .i64 R.out, .slice b1 R.took.length d1, .int .i64 R.gave, .int .i64 R.last, .bool R.went, .bool R.owes], .agg #[.int .i64 S'.most, .int .i64 S'.again, .slice a3 S'.said.length c3, .int .i64 S'.heard, .int .i64 S'.out, .slice b3 S'.took.length d3, .int .i64 S'.gave, .int .i64 S'.last, .bool S'.went, .bool S'.owes]] (plus w10 g d) fun e w' => e = .returned (.bool sb) ∧ Below (plus w10 g d).heap.size (plus w10 g d) w') := fun g d => by
            obtain ⟨Y, O, hY⟩ := (HS10.out.plus g d).ow
            exact ralike_to R S' _ _ _ _ _ w X9 Y O hY (HL5.out.rw HW5.out (by omega)) (HL'.out.rw HW'.out (by omega)) HMR'.out HM9.out sb HAL.out
          have HS10' : Hid (S1 w10 w (⟨b11, 27, #[.int .i64 S'.most, .int .i64 S'.again, .slice a3 S'.said.length c3, .int .i64 S'.heard, .int .i64 S'.out, .slice b3 S'.took.length d3, .int .i64 S'.gave, .int .i64 S'.last, .bool S'.went, .bool S'.owes]⟩ :: (⟨w1.heap.size, 27, #[.int .i64 R.most, .int .i64 R.again, .slice a1 R.said.length c1, .int .i64 R.heard, .int .i64 R.out, .slice b1 R.took.length d1, .int .i64 R.gave, .int .i64 R.last, .bool R.went, .bool R.owes]⟩ :: A)) X9 q U') := HS10.out
          cases sb with
          | true =>
            go_wp2_with fail
            refine wp_region_rq (by kernel_rfl) (by kernel_rfl) (by kernel_rfl) ?_
            repeat (first
              | (refine B_skip ?_ ?_; (· rfl); (try simp only [Act.put, List.setIfInBounds_toArray, List.set_cons_zero, List.set_cons_succ]))
              | (refine B_move rfl ?_ ?_; (· rfl); (try simp only [Act.eval, Act.put, Array.getD_eq_getD_getElem?, List.getElem?_toArray, List.getElem?_cons_succ, List.getElem?_cons_zero, Option.getD_some, List.setIfInBounds_toArray, List.set_cons_zero, List.set_cons_succ]))
              | (refine B_plain ?_ ?_; (· rfl); intro K hK; go_big_quiet_op; with_reducible refine hK _ ?_; clear hK K)
              | (refine B_callX (v := ?_) (f := 26) rfl (by kernel_rfl) ?_ (fun xq => ?_) ?_; rotate_left; (· rfl); (· ((simp only [List.map_toArray, List.map_cons, List.map_nil, Act.eval, Array.getD_eq_getD_getElem?, List.getElem?_toArray, List.getElem?_cons_succ, List.getElem?_cons_zero, Option.getD_some]); with_reducible apply retB; with_reducible exact (HE1.out _ _))); (try simp only [Act.put, List.setIfInBounds_toArray, List.set_cons_zero, List.set_cons_succ]))
              | (refine B_callX (v := ?_) (f := 26) rfl (by kernel_rfl) ?_ (fun xq => ?_) ?_; rotate_left; (· rfl); (· ((simp only [List.map_toArray, List.map_cons, List.map_nil, Act.eval, Array.getD_eq_getD_getElem?, List.getElem?_toArray, List.getElem?_cons_succ, List.getElem?_cons_zero, Option.getD_some]); with_reducible apply retB; with_reducible exact (HE2.out _ _))); (try simp only [Act.put, List.setIfInBounds_toArray, List.set_cons_zero, List.set_cons_succ]))
              | (refine B_callX (v := ?_) (f := 27) rfl (by kernel_rfl) ?_ (fun xq => ?_) ?_; rotate_left; (· rfl); (· ((simp only [List.map_toArray, List.map_cons, List.map_nil, Act.eval, Array.getD_eq_getD_getElem?, List.getElem?_toArray, List.getElem?_cons_succ, List.getElem?_cons_zero, Option.getD_some]); with_reducible apply retB; with_reducible exact (HA2.out _ _))); (try simp only [Act.put, List.setIfInBounds_toArray, List.set_cons_zero, List.set_cons_succ])))
            refine B_nil ?_ rfl ?_ ?_
            · kernel_rfl
            · rfl
            rintro _ ⟨⟨g20, d20⟩, rfl⟩
            simp only [fin, Act.put, List.setIfInBounds_toArray, List.set_cons_zero, List.set_cons_succ]
            go_wp2
            exact ⟨⟨k2 + 1, U', S', a3, b3, c3, d3, X9, by simp, by omega, HsX9.out, HS10'.out.plus _ _, HM9.out, HL'.out, HW'.out⟩, by simp [intOf]; omega⟩
          | false =>
            go_wp2_with fail
            refine wp_region_rq (by kernel_rfl) (by kernel_rfl) (by kernel_rfl) ?_
            repeat (first
              | (refine B_skip ?_ ?_; (· rfl); (try simp only [Act.put, List.setIfInBounds_toArray, List.set_cons_zero, List.set_cons_succ]))
              | (refine B_move rfl ?_ ?_; (· rfl); (try simp only [Act.eval, Act.put, Array.getD_eq_getD_getElem?, List.getElem?_toArray, List.getElem?_cons_succ, List.getElem?_cons_zero, Option.getD_some, List.setIfInBounds_toArray, List.set_cons_zero, List.set_cons_succ]))
              | (refine B_plain ?_ ?_; (· rfl); intro K hK; go_big_quiet_op; with_reducible refine hK _ ?_; clear hK K)
              | (refine B_callX (v := ?_) (f := 26) rfl (by kernel_rfl) ?_ (fun xq => ?_) ?_; rotate_left; (· rfl); (· ((simp only [List.map_toArray, List.map_cons, List.map_nil, Act.eval, Array.getD_eq_getD_getElem?, List.getElem?_toArray, List.getElem?_cons_succ, List.getElem?_cons_zero, Option.getD_some]); with_reducible apply retB; with_reducible exact (HE1.out _ _))); (try simp only [Act.put, List.setIfInBounds_toArray, List.set_cons_zero, List.set_cons_succ]))
              | (refine B_callX (v := ?_) (f := 26) rfl (by kernel_rfl) ?_ (fun xq => ?_) ?_; rotate_left; (· rfl); (· ((simp only [List.map_toArray, List.map_cons, List.map_nil, Act.eval, Array.getD_eq_getD_getElem?, List.getElem?_toArray, List.getElem?_cons_succ, List.getElem?_cons_zero, Option.getD_some]); with_reducible apply retB; with_reducible exact (HE2.out _ _))); (try simp only [Act.put, List.setIfInBounds_toArray, List.set_cons_zero, List.set_cons_succ]))
              | (refine B_callX (v := ?_) (f := 27) rfl (by kernel_rfl) ?_ (fun xq => ?_) ?_; rotate_left; (· rfl); (· ((simp only [List.map_toArray, List.map_cons, List.map_nil, Act.eval, Array.getD_eq_getD_getElem?, List.getElem?_toArray, List.getElem?_cons_succ, List.getElem?_cons_zero, Option.getD_some]); with_reducible apply retB; with_reducible exact (HA2.out _ _))); (try simp only [Act.put, List.setIfInBounds_toArray, List.set_cons_zero, List.set_cons_succ])))
            refine B_nil ?_ rfl ?_ ?_
            · kernel_rfl
            · rfl
            rintro _ ⟨⟨g20, d20⟩, rfl⟩
            simp only [fin, Act.put, List.setIfInBounds_toArray, List.set_cons_zero, List.set_cons_succ]
            go_wp2
            exact ⟨⟨k2 + 1, U', S', a3, b3, c3, d3, X9, by simp, by omega, HsX9.out, HS10'.out.plus _ _, HM9.out, HL'.out, HW'.out⟩, by simp [intOf]; omega⟩
        · obtain rfl : k2 = n2 := by omega
          go_wp2
          go_ret
          exact ⟨rfl, H15.out.below⟩

end Go.Proofs.Ytgjodjkmefdilaa
