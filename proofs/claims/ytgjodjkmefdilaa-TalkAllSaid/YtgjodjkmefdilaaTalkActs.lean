/- The law TalkActs: its walk. -/
import Derived.Test.YtgjodjkmefdilaaTop
import Derived.Test.YtgjodjkmefdilaaTalkAgain
namespace Go.Proofs.Ytgjodjkmefdilaa
set_option linter.unusedSimpArgs false
set_option linter.unusedVariables false
open Go.RowKit

theorem rcs_one {w0 : World} {X : List Blk} {R : RS} {vs vt : Value} (h : RM w0 X R vs vt) : ∀ v ∈ (rcs R vs vt).toList, v.oneCell' = true := by
  obtain ⟨a1, c1, rfl⟩ := h.1.slice
  obtain ⟨a2, c2, rfl⟩ := h.2.slice
  simp [rcs, Value.oneCell']
theorem S1.storeL {w w0 : World} {C X : List Blk} {p : Nat} {T : TS} {cs : Array Value} {b : Nat} {t : TypeId} {B : List Blk} (h : S1 w w0 (B ++ ⟨b, t, cs⟩ :: C) X p T) {P : Program} {ops : Array Oper} {rest : List Oper} {o : Oper} {a : Act} {Q : Exit → Act → World → Prop} (hgd : o.guard = none) (ty : TypeId) (x y : Operand) (ho : o.op = .store ty x y)
    (hx : a.eval x = .pointer (some ⟨b, 0, none⟩)) (us : Array Value) (hy : a.eval y = .agg us) (hi : (P.info? ty).map (·.size) = some cs.size) (hs : us.size = cs.size) (h1 : ∀ v ∈ us.toList, v.oneCell' = true)
    (k : ∀ w', S1 w' w0 (B ++ ⟨b, t, us⟩ :: C) X p T → wpList P ops Q rest (a.put o.dst undef) w') : wpList P ops Q (o :: rest) a w := by
  obtain ⟨A, O, t1⟩ := h
  have O1 : Ow w w0 (⟨b, t, cs⟩ :: (B ++ (A ++ (C ++ X)))) := O.perm (perm_cnt fun x => by simp only [cnt_append, cnt_cons, cnt_nil] <;> omega)
  refine wpList_store_ow hgd ty x y ho O1 hx us hy hi hs h1 fun w' O' => k w' ⟨A, ?_, t1⟩
  exact O'.perm (perm_cnt fun x => by simp only [cnt_append, cnt_cons, cnt_nil] <;> omega)

set_option maxRecDepth 100000 in
set_option maxHeartbeats 4000000 in
theorem talkActs_any (x y : Int) (v2 : Value) (n0 : Nat) (F : Nat → OpV) (w : World) (hn0 : n0 ≤ maxLen) (hv2 : Rws w v2 n0 6 (fun i => (F i).cells)) (hF : ∀ i, i < n0 → OpOk w (F i)) :
    Calls Try.prog 3 #[.agg #[.int .i64 x, .int .i64 y], v2] w fun e w' => e = .returned (.bool true) ∧ Below w.heap.size w w' := by
  obtain ⟨ao, cap, rfl, hcap, hnil⟩ := hv2.slice
  obtain ⟨n, HN⟩ : ∃ n, Hid (min n0 80 = n) := ⟨_, rfl⟩
  have hni : min (n0 : Int) 80 = (n : Int) := by have := HN.out; omega
  have hn80 : n ≤ 80 := by have := HN.out; omega
  have hnc : n ≤ cap := by have := HN.out; omega
  have HV := Lib.hid (hv2.fst n (by have := HN.out; omega))
  have HF : Hid (∀ i, i < n → OpOk w (F i)) := fun i hi => hF i (by have := HN.out; omega)
  obtain ⟨a, HA⟩ : ∃ a, Hid (1 + cutN x 64 = a) := ⟨_, rfl⟩
  obtain ⟨b, HB⟩ : ∃ b, Hid (1 + cutN y 1000 = b) := ⟨_, rfl⟩
  have ha1 : 1 ≤ a := by rw [← HA.out]; omega
  have ha2 : a ≤ 64 := by rw [← HA.out]; have : cutN x 64 < 64 := Nat.mod_lt _ (by omega); omega
  have hb2 : b ≤ 1000 := by rw [← HB.out]; have : cutN y 1000 < 1000 := Nat.mod_lt _ (by omega); omega
  have HS := Lib.hid ((Ow.start w).alloc (.cells #[.int .i64 x, .int .i64 y] 22))
  have hml0 : n0 ≤ 9223372036854775807 := by unfold maxLen at hn0; omega
  clear hv2 hF hn0
  go_enter Try.func3, Try.ntmps3
  go_wp2_with fail
  refine (begin_to x y _ w [] HS.out a b HA.out HB.out).mono ?_
  rintro e w1 ⟨p, A, rfl, O1, t1⟩
  have H1 : Hid (S1 (w1.alloc (.cells #[.int .i64 a, .int .i64 b, .slice none 0 0, .int .i64 0, .int .i64 0, .slice none 0 0, .int .i64 0, .int .i64 0, .bool false, .bool false] 27)) w [⟨w1.heap.size, 27, #[.int .i64 a, .int .i64 b, .slice none 0 0, .int .i64 0, .int .i64 0, .slice none 0 0, .int .i64 0, .int .i64 0, .bool false, .bool false]⟩] [] p (newT a b)) := S1.park ⟨A, by simpa using O1, t1⟩ rfl
  clear O1 t1 HS
  go_wp2_with fail
  refine (told_to _).mono ?_
  rintro e w2 ⟨rfl, hb2'⟩
  have H2 := Lib.hid (H1.out.of_below hb2')
  clear hb2' H1
  go_wp2_with fail
  obtain ⟨A2, O2, t2⟩ := H2.out
  refine (small_to ao n cap (by omega) F w2 w _ O2 HV.out HF.out).mono ?_
  rintro e w3 ⟨bs, rfl, O3⟩
  have H3 : Hid (S1 w3 w [⟨w1.heap.size, 27, #[.int .i64 a, .int .i64 b, .slice none 0 0, .int .i64 0, .int .i64 0, .slice none 0 0, .int .i64 0, .int .i64 0, .bool false, .bool false]⟩] [] p (newT a b)) := ⟨A2, O3, t2⟩
  clear O2 t2 O3 H2
  cases bs with
  | false =>
    go_wp2
    go_ret
    exact ⟨rfl, H3.out.below⟩
  | true =>
  go_wp2_with fail
  go_loopw [7] (fun vi wr => ∃ (k : Nat) (T : TS) (R : RS) (a1 a2 : Option Addr) (c1 c2 : Nat) (X : List Blk), vi = .int .i64 k ∧ k ≤ n ∧ S1 wr w [⟨w1.heap.size, 27, #[.int .i64 R.most, .int .i64 R.again, .slice a1 R.said.length c1, .int .i64 R.heard, .int .i64 R.out, .slice a2 R.took.length c2, .int .i64 R.gave, .int .i64 R.last, .bool R.went, .bool R.owes]⟩] X p T ∧ RM w X R (.slice a1 R.said.length c1) (.slice a2 R.took.length c2) ∧ Rel T R ∧ TW (64 * k) T) (fun i _ => n - (intOf i).toNat)
  case atStart =>
    exact ⟨0, newT a b, ⟨a, b, [], 0, 0, [], 0, 0, false, false⟩, none, none, 0, 0, [], rfl, by omega, H3.out, ⟨MsgL.nil _ _, MsgL.nil _ _⟩, rel_new a b, newT_ok a b ha1 ha2 hb2 _⟩
  case round =>
    obtain ⟨k, T, R, a1, a2, c1, c2, X, rfl, hk, s5, hM, hL, hW5⟩ := hrel
    have H5 := Lib.hid s5
    have HM5 := Lib.hid hM
    have HL5 := Lib.hid hL
    have HW5 := Lib.hid hW5
    clear s5 hM hL hW5
    by_cases hlt : k < n
    · obtain ⟨Y, O, hY⟩ := H5.out.ow
      obtain ⟨r, o, rfl, hr, hc⟩ := HV.out.at_ O k hlt
      have ok := HF.out k hlt
      obtain ⟨⟨⟨kd, m, nw, fi, ms, he⟩, vm, vl⟩, HFk⟩ : ∃ y, Hid (F k = y) := ⟨_, rfl⟩
      rw [HFk.out] at ok
      obtain ⟨am, cm, e1⟩ := ok.m.slice
      obtain ⟨al, cl, e2⟩ := ok.ms.slice
      simp only at e1 e2
      subst e1 e2
      have HOK := Lib.hid ok
      have hmsl : ms.length ≤ 9223372036854775807 := by have := ok.len; unfold maxLen at this; simp only at this; omega
      have hfi : fi ≤ 9223372036854775807 := ok.fi
      obtain ⟨T', HT'⟩ : ∃ T', Hid (doT T ⟨kd, m, nw, fi, ms, he⟩ = T') := ⟨_, rfl⟩
      obtain ⟨R', HR'⟩ : ∃ R', Hid (doR R ⟨kd, m, nw, fi, ms, he⟩ = R') := ⟨_, rfl⟩
      have HL' : Hid (Rel T' R') := by rw [← HT'.out, ← HR'.out]; exact HL5.out.step _
      have HW' : Hid (TW (64 * (k + 1)) T') := by rw [← HT'.out, show 64 * (k + 1) = 64 * k + 64 by omega]; exact HW5.out.step _
      clear hc ok O hY
      go_wp2_with fail
      refine wp_region_ov (fun L (x : Value × Value × Nat) => [(L 0, 36, ptr p), (L 1, 37, .agg #[.int .i64 R.most, .int .i64 R.again, .slice a1 R.said.length c1, .int .i64 R.heard, .int .i64 R.out, .slice a2 R.took.length c2, .int .i64 R.gave, .int .i64 R.last, .bool R.went, .bool R.owes]), (L 2, 38, .slice (some ⟨r, o, none⟩) n cap), (L 3, 39, .int .i64 k), (L 4, 40, .pointer (some ⟨r, o + k * 6, none⟩)), (L 5, 41, .agg #[.int .i64 kd, .slice am m.length cm, .int .i64 nw, .int .i64 fi, .slice al ms.length cl, .int .i64 he]), (L 6, 42, .tuple #[.agg (rcs R' x.1 x.2.1), .bool true]), (L 7, 35, .tuple #[.agg (rcs R' x.1 x.2.1), .bool true]), (L 8, 43, .agg (rcs R' x.1 x.2.1)), (L 9, 44, .bool true), (L 10, 8, .pointer (some ⟨x.2.2, 0, none⟩)), (L 12, 9, .bool true)])
        (fun L x W => ∃ X4, Sub X X4 ∧ S1 W w ((bif L 10 then [⟨x.2.2, 27, bif L 11 then rcs R' x.1 x.2.1 else #[.int .i64 0, .int .i64 0, .slice none 0 0, .int .i64 0, .int .i64 0, .slice none 0 0, .int .i64 0, .int .i64 0, .bool false, .bool false]⟩] else []) ++ [⟨w1.heap.size, 27, #[.int .i64 R.most, .int .i64 R.again, .slice a1 R.said.length c1, .int .i64 R.heard, .int .i64 R.out, .slice a2 R.took.length c2, .int .i64 R.gave, .int .i64 R.last, .bool R.went, .bool R.owes]⟩]) X4 p (bif L 6 then T' else T) ∧ (L 6 = true → RM w X4 R' x.1 x.2.1)) (undef, undef, 0) (by kernel_rfl) (by kernel_rfl) (by rfl) ⟨X, Sub.refl _, H5.out.drew, fun h => by simp at h⟩ ?_ ⟨?_, ?_, ?_, ?_, ?_, ?_, ?_, ?_, ?_, ?_, ?_, ?_, ?_, trivial⟩
      rotate_left
      iterate 6 (· (intro L x W hW hC hL hd K hK; (try simp [depsB, Region.binds] at hd); (try simp only [Nat.reduceAdd] at hK hL); simp only [ovl, Array.getD_eq_getD_getElem?, List.getElem?_toArray, List.getElem?_cons_succ, List.getElem?_cons_zero, Option.getD_some, List.setIfInBounds_toArray, List.set_cons_zero, List.set_cons_succ]; (try simp only [hd, cond_true, cond_false]); (have hW0 := hW); (obtain ⟨X4, hs4, s4, hm4⟩ := hW); (have hb6 : HasBlk W w1.heap.size 27 #[.int .i64 R.most, .int .i64 R.again, .slice a1 R.said.length c1, .int .i64 R.heard, .int .i64 R.out, .slice a2 R.took.length c2, .int .i64 R.gave, .int .i64 R.last, .bool R.went, .bool R.owes] := s4.hasC (List.mem_append_right _ (List.mem_cons_self ..))); (have d0 := hb6.cell 0); (have d1 := hb6.cell 1); (have d2 := hb6.cell 2); (have d3 := hb6.cell 3); (have d4 := hb6.cell 4); (have d5 := hb6.cell 5); (have d6 := hb6.cell 6); (have d7 := hb6.cell 7); (have d8 := hb6.cell 8); (have d9 := hb6.cell 9); (have l6 := hb6.lt); (obtain ⟨Y4, O4, hY4⟩ := s4.ow); (obtain ⟨r', o', e4, hr4, hc4⟩ := HV.out.at_ O4 k hlt); cases e4; (rw [HFk.out] at hc4); (have c0 := hc4 0 _ rfl); (rw [← Nat.add_assoc] at c0); (have c1 := hc4 1 _ rfl); (rw [← Nat.add_assoc] at c1); (have c2 := hc4 2 _ rfl); (rw [← Nat.add_assoc] at c2); (have c3 := hc4 3 _ rfl); (rw [← Nat.add_assoc] at c3); (have c4 := hc4 4 _ rfl); (rw [← Nat.add_assoc] at c4); (have c5 := hc4 5 _ rfl); (rw [← Nat.add_assoc] at c5); (rw [Nat.add_zero] at c0); clear hb6 hs4 s4 hm4 hc4 O4 hY4; go_simp; (have h := hK x W hW0); simp only [ovl, Array.getD_eq_getD_getElem?, List.getElem?_toArray, List.getElem?_cons_succ, List.getElem?_cons_zero, Option.getD_some, List.setIfInBounds_toArray, List.set_cons_zero, List.set_cons_succ] at h; (try simp (decide := true) only [upd, hd, cond_true, cond_false, Bool.true_or, Bool.false_or, decide_true, decide_false] at h); exact h))
      · intro L x W hW hC hL hd K hK; (try simp [depsB, Region.binds] at hd); (try simp only [Nat.reduceAdd] at hK hL)
        (have h7 : L 7 = false := by cases hl : L 7 with | false => rfl | true => have hx := hC 7 _ rfl hl; simp [depsB, Region.binds, hL, hd] at hx); (replace hd := And.intro hd h7); (have h8 : L 8 = false := by cases hl : L 8 with | false => rfl | true => have hx := hC 8 _ rfl hl; simp [depsB, Region.binds, hL, hd] at hx); (replace hd := And.intro hd h8); (have h11 : L 11 = false := by cases hl : L 11 with | false => rfl | true => have hx := hC 11 _ rfl hl; simp [depsB, Region.binds, hL, hd] at hx); (replace hd := And.intro hd h11)
        simp only [hL, hd, cond_false] at hW
        simp only [ovl, Array.getD_eq_getD_getElem?, List.getElem?_toArray, List.getElem?_cons_succ, List.getElem?_cons_zero, Option.getD_some, List.setIfInBounds_toArray, List.set_cons_zero, List.set_cons_succ]; (try simp only [hd, cond_true, cond_false])
        obtain ⟨X4, hs4, s4, -⟩ := hW
        refine wp_call_in 14 (by rfl) (by kernel_rfl) #[ptr p, .agg #[.int .i64 R.most, .int .i64 R.again, .slice a1 R.said.length c1, .int .i64 R.heard, .int .i64 R.out, .slice a2 R.took.length c2, .int .i64 R.gave, .int .i64 R.last, .bool R.went, .bool R.owes], .agg #[.int .i64 kd, .slice am m.length cm, .int .i64 nw, .int .i64 fi, .slice al ms.length cl, .int .i64 he]] (by (simp only [List.map_toArray, List.map_cons, List.map_nil, Act.eval, Array.getD_eq_getD_getElem?, List.getElem?_toArray, List.getElem?_cons_succ, List.getElem?_cons_zero, Option.getD_some])) ((do_to kd nw fi he _ _ m ms s4 (HM5.out.mono hs4) (HL5.out.rw HW5.out (by omega)) (HW5.out.mono (by omega)) HL5.out (HOK.out.m.mono fun x hx => by cases hx) (HOK.out.ms.mono fun x hx => by cases hx) hmsl hfi HT'.out HR'.out).mono ?_)
        rintro e W4 ⟨vs', vt', X5, rfl, hs5, s5, M5⟩
        refine ⟨_, rfl, ?_⟩
        (have h := hK (vs', vt', x.2.2) W4 ⟨X5, hs4.trans hs5, by simpa (decide := true) only [upd, hd, hL, cond_true, cond_false, Bool.true_or, Bool.false_or, decide_true, decide_false] using s5, fun _ => M5⟩); simp only [ovl, Array.getD_eq_getD_getElem?, List.getElem?_toArray, List.getElem?_cons_succ, List.getElem?_cons_zero, Option.getD_some, List.setIfInBounds_toArray, List.set_cons_zero, List.set_cons_succ] at h; (try simp (decide := true) only [upd, hd, cond_true, cond_false, Bool.true_or, Bool.false_or, decide_true, decide_false] at h); exact h
      iterate 3 (· (intro L x W hW hC hL hd K hK; (try simp [depsB, Region.binds] at hd); (try simp only [Nat.reduceAdd] at hK hL); simp only [ovl, Array.getD_eq_getD_getElem?, List.getElem?_toArray, List.getElem?_cons_succ, List.getElem?_cons_zero, Option.getD_some, List.setIfInBounds_toArray, List.set_cons_zero, List.set_cons_succ]; (try simp only [hd, cond_true, cond_false]); (have hW0 := hW); (obtain ⟨X4, hs4, s4, hm4⟩ := hW); (have hb6 : HasBlk W w1.heap.size 27 #[.int .i64 R.most, .int .i64 R.again, .slice a1 R.said.length c1, .int .i64 R.heard, .int .i64 R.out, .slice a2 R.took.length c2, .int .i64 R.gave, .int .i64 R.last, .bool R.went, .bool R.owes] := s4.hasC (List.mem_append_right _ (List.mem_cons_self ..))); (have d0 := hb6.cell 0); (have d1 := hb6.cell 1); (have d2 := hb6.cell 2); (have d3 := hb6.cell 3); (have d4 := hb6.cell 4); (have d5 := hb6.cell 5); (have d6 := hb6.cell 6); (have d7 := hb6.cell 7); (have d8 := hb6.cell 8); (have d9 := hb6.cell 9); (have l6 := hb6.lt); (obtain ⟨Y4, O4, hY4⟩ := s4.ow); (obtain ⟨r', o', e4, hr4, hc4⟩ := HV.out.at_ O4 k hlt); cases e4; (rw [HFk.out] at hc4); (have c0 := hc4 0 _ rfl); (rw [← Nat.add_assoc] at c0); (have c1 := hc4 1 _ rfl); (rw [← Nat.add_assoc] at c1); (have c2 := hc4 2 _ rfl); (rw [← Nat.add_assoc] at c2); (have c3 := hc4 3 _ rfl); (rw [← Nat.add_assoc] at c3); (have c4 := hc4 4 _ rfl); (rw [← Nat.add_assoc] at c4); (have c5 := hc4 5 _ rfl); (rw [← Nat.add_assoc] at c5); (rw [Nat.add_zero] at c0); clear hb6 hs4 s4 hm4 hc4 O4 hY4; go_simp; (have h := hK x W hW0); simp only [ovl, Array.getD_eq_getD_getElem?, List.getElem?_toArray, List.getElem?_cons_succ, List.getElem?_cons_zero, Option.getD_some, List.setIfInBounds_toArray, List.set_cons_zero, List.set_cons_succ] at h; (try simp (decide := true) only [upd, hd, cond_true, cond_false, Bool.true_or, Bool.false_or, decide_true, decide_false] at h); exact h))
      · intro L x W hW hC hL hd K hK; (try simp [depsB, Region.binds] at hd); (try simp only [Nat.reduceAdd] at hK hL)
        (have h11 : L 11 = false := by cases hl : L 11 with | false => rfl | true => have hx := hC 11 _ rfl hl; simp [depsB, Region.binds, hL, hd] at hx); (replace hd := And.intro hd h11)
        simp only [hL, hd, cond_false, List.nil_append] at hW
        simp only [ovl, Array.getD_eq_getD_getElem?, List.getElem?_toArray, List.getElem?_cons_succ, List.getElem?_cons_zero, Option.getD_some, List.setIfInBounds_toArray, List.set_cons_zero, List.set_cons_succ]; (try simp only [hd, cond_true, cond_false])
        obtain ⟨X4, hs4, s4, hm4⟩ := hW
        go_simp
        (have h := hK (x.1, x.2.1, W.heap.size) _ ⟨X4, hs4, by simpa (decide := true) only [upd, hd, hL, cond_true, cond_false, Bool.true_or, Bool.false_or, decide_true, decide_false, List.cons_append, List.nil_append] using s4.park (cs := #[.int .i64 0, .int .i64 0, .slice none 0 0, .int .i64 0, .int .i64 0, .slice none 0 0, .int .i64 0, .int .i64 0, .bool false, .bool false]) (t := 27) rfl, hm4⟩); simp only [ovl, Array.getD_eq_getD_getElem?, List.getElem?_toArray, List.getElem?_cons_succ, List.getElem?_cons_zero, Option.getD_some, List.setIfInBounds_toArray, List.set_cons_zero, List.set_cons_succ] at h; (try simp (decide := true) only [upd, hd, cond_true, cond_false, Bool.true_or, Bool.false_or, decide_true, decide_false] at h); exact h
      · intro L x W hW hC hL hd K hK; (try simp [depsB, Region.binds] at hd); (try simp only [Nat.reduceAdd] at hK hL)
        simp only [hL, hd, cond_false, cond_true, List.cons_append, List.nil_append] at hW
        simp only [ovl, Array.getD_eq_getD_getElem?, List.getElem?_toArray, List.getElem?_cons_succ, List.getElem?_cons_zero, Option.getD_some, List.setIfInBounds_toArray, List.set_cons_zero, List.set_cons_succ]; (try simp only [hd, cond_true, cond_false])
        obtain ⟨X4, hs4, s4, hm4⟩ := hW
        refine s4.store 27 (.tmp 8) (.tmp 43) (by rfl) (by rfl) (rcs R' x.1 x.2.1) (by rfl) (by kernel_rfl) (by rfl) (rcs_one (hm4 trivial)) (fun W5 s5 => ?_)
        (have h := hK x W5 ⟨X4, hs4, by simpa (decide := true) only [upd, hd, hL, cond_true, cond_false, Bool.true_or, Bool.false_or, decide_true, decide_false, List.cons_append, List.nil_append] using s5, fun _ => hm4 trivial⟩); simp only [ovl, Array.getD_eq_getD_getElem?, List.getElem?_toArray, List.getElem?_cons_succ, List.getElem?_cons_zero, Option.getD_some, List.setIfInBounds_toArray, List.set_cons_zero, List.set_cons_succ] at h; (try simp (decide := true) only [upd, hd, cond_true, cond_false, Bool.true_or, Bool.false_or, decide_true, decide_false] at h); exact h
      iterate 1 (· (intro L x W hW hC hL hd K hK; (try simp [depsB, Region.binds] at hd); (try simp only [Nat.reduceAdd] at hK hL); simp only [ovl, Array.getD_eq_getD_getElem?, List.getElem?_toArray, List.getElem?_cons_succ, List.getElem?_cons_zero, Option.getD_some, List.setIfInBounds_toArray, List.set_cons_zero, List.set_cons_succ]; (try simp only [hd, cond_true, cond_false]); (have hW0 := hW); (obtain ⟨X4, hs4, s4, hm4⟩ := hW); (have hb6 : HasBlk W w1.heap.size 27 #[.int .i64 R.most, .int .i64 R.again, .slice a1 R.said.length c1, .int .i64 R.heard, .int .i64 R.out, .slice a2 R.took.length c2, .int .i64 R.gave, .int .i64 R.last, .bool R.went, .bool R.owes] := s4.hasC (List.mem_append_right _ (List.mem_cons_self ..))); (have d0 := hb6.cell 0); (have d1 := hb6.cell 1); (have d2 := hb6.cell 2); (have d3 := hb6.cell 3); (have d4 := hb6.cell 4); (have d5 := hb6.cell 5); (have d6 := hb6.cell 6); (have d7 := hb6.cell 7); (have d8 := hb6.cell 8); (have d9 := hb6.cell 9); (have l6 := hb6.lt); (obtain ⟨Y4, O4, hY4⟩ := s4.ow); (obtain ⟨r', o', e4, hr4, hc4⟩ := HV.out.at_ O4 k hlt); cases e4; (rw [HFk.out] at hc4); (have c0 := hc4 0 _ rfl); (rw [← Nat.add_assoc] at c0); (have c1 := hc4 1 _ rfl); (rw [← Nat.add_assoc] at c1); (have c2 := hc4 2 _ rfl); (rw [← Nat.add_assoc] at c2); (have c3 := hc4 3 _ rfl); (rw [← Nat.add_assoc] at c3); (have c4 := hc4 4 _ rfl); (rw [← Nat.add_assoc] at c4); (have c5 := hc4 5 _ rfl); (rw [← Nat.add_assoc] at c5); (rw [Nat.add_zero] at c0); clear hb6 hs4 s4 hm4 hc4 O4 hY4; go_simp; (have h := hK x W hW0); simp only [ovl, Array.getD_eq_getD_getElem?, List.getElem?_toArray, List.getElem?_cons_succ, List.getElem?_cons_zero, Option.getD_some, List.setIfInBounds_toArray, List.set_cons_zero, List.set_cons_succ] at h; (try simp (decide := true) only [upd, hd, cond_true, cond_false, Bool.true_or, Bool.false_or, decide_true, decide_false] at h); exact h))
      intro x W9 hW9
      obtain ⟨vs', vt', b8⟩ := x
      simp only [ovl, cond_true, Array.getD_eq_getD_getElem?, List.getElem?_toArray, List.getElem?_cons_succ, List.getElem?_cons_zero, Option.getD_some, List.setIfInBounds_toArray, List.set_cons_zero, List.set_cons_succ]
      simp only [cond_true, List.cons_append, List.nil_append] at hW9
      obtain ⟨X9, hs9, s9, hm9⟩ := hW9
      have M9 := hm9 trivial
      obtain ⟨a1', c1', rfl⟩ := M9.1.slice
      obtain ⟨a2', c2', rfl⟩ := M9.2.slice
      simp only [rcs] at s9 ⊢
      have hb8 := s9.hasC (b := b8) (t := 27) (cs := #[.int .i64 R'.most, .int .i64 R'.again, .slice a1' R'.said.length c1', .int .i64 R'.heard, .int .i64 R'.out, .slice a2' R'.took.length c2', .int .i64 R'.gave, .int .i64 R'.last, .bool R'.went, .bool R'.owes]) (List.mem_cons_self ..)
      (have g0 := hb8.cell 0); (have g1 := hb8.cell 1); (have g2 := hb8.cell 2); (have g3 := hb8.cell 3); (have g4 := hb8.cell 4); (have g5 := hb8.cell 5); (have g6 := hb8.cell 6); (have g7 := hb8.cell 7); (have g8 := hb8.cell 8); (have g9 := hb8.cell 9)
      have l8 := hb8.lt
      obtain ⟨q, HQ⟩ : ∃ q, Hid ((R'.heard == R'.said.length) = q) := ⟨_, rfl⟩
      have HQ2 : Hid ((T'.waits.length == 0) = q) := by rw [HL'.out.idle]; exact HQ.out
      have hq : ((R'.heard : Int) == (R'.said.length : Int)) = q := by
        rw [← HQ.out, Bool.eq_iff_iff, beq_iff_eq, beq_iff_eq]; omega
      have HS9 := Lib.hid s9
      have HM9 := Lib.hid M9
      clear s9 M9 hm9 hs9 hb8
      go_wp2_with (refine HS9.out.storeL (B := [⟨b8, 27, #[.int .i64 R'.most, .int .i64 R'.again, .slice a1' R'.said.length c1', .int .i64 R'.heard, .int .i64 R'.out, .slice a2' R'.took.length c2', .int .i64 R'.gave, .int .i64 R'.last, .bool R'.went, .bool R'.owes]⟩]) (C := []) (cs := #[.int .i64 R.most, .int .i64 R.again, .slice a1 R.said.length c1, .int .i64 R.heard, .int .i64 R.out, .slice a2 R.took.length c2, .int .i64 R.gave, .int .i64 R.last, .bool R.went, .bool R.owes]) rfl 27 (.tmp 6) (.tmp 45) rfl (by rfl) #[.int .i64 R'.most, .int .i64 R'.again, .slice a1' R'.said.length c1', .int .i64 R'.heard, .int .i64 R'.out, .slice a2' R'.took.length c2', .int .i64 R'.gave, .int .i64 R'.last, .bool R'.went, .bool R'.owes] (by rfl) (by kernel_rfl) (by rfl) (by simp [Value.oneCell']) ?_; intro w10 s10; (have hb6 := s10.hasC (b := w1.heap.size) (t := 27) (cs := #[.int .i64 R'.most, .int .i64 R'.again, .slice a1' R'.said.length c1', .int .i64 R'.heard, .int .i64 R'.out, .slice a2' R'.took.length c2', .int .i64 R'.gave, .int .i64 R'.last, .bool R'.went, .bool R'.owes]) (by simp)); (have k2 := hb6.cell 2); (have k3 := hb6.cell 3); (have l6 := hb6.lt); (have HS10 := Lib.hid s10.drop); (have HI : Hid (∀ g d, Calls Try.prog 15 #[ptr p] (plus w10 g d) fun e w' => e = .returned (.bool q) ∧ w' = plus w10 g d) := fun g d => (s10.plus g d).idle q HQ2.out); clear s10 hb6)
      cases q with
      | true =>
        go_wp2_with fail
        refine wp_region_rq (by kernel_rfl) (by kernel_rfl) (by kernel_rfl) ?_
        repeat (first
          | (refine B_skip ?_ ?_; (· rfl); (try simp only [Act.put, List.setIfInBounds_toArray, List.set_cons_zero, List.set_cons_succ]))
          | (refine B_move rfl ?_ ?_; (· rfl); (try simp only [Act.eval, Act.put, Array.getD_eq_getD_getElem?, List.getElem?_toArray, List.getElem?_cons_succ, List.getElem?_cons_zero, Option.getD_some, List.setIfInBounds_toArray, List.set_cons_zero, List.set_cons_succ]))
          | (refine B_plain ?_ ?_; (· rfl); intro K hK; go_big_quiet_op; with_reducible refine hK _ ?_; clear hK K)
          | (refine B_callX (v := ?_) (f := 15) rfl (by kernel_rfl) ?_ (fun xq => ?_) ?_; rotate_left; (· rfl); (· ((simp only [List.map_toArray, List.map_cons, List.map_nil, Act.eval, Array.getD_eq_getD_getElem?, List.getElem?_toArray, List.getElem?_cons_succ, List.getElem?_cons_zero, Option.getD_some]); with_reducible apply retB_same; with_reducible exact (HI.out _ _))); (try simp only [Act.put, List.setIfInBounds_toArray, List.set_cons_zero, List.set_cons_succ])))
        refine B_nil ?_ rfl ?_ ?_
        · kernel_rfl
        · rfl
        rintro _ ⟨⟨g12, d12⟩, rfl⟩
        simp only [fin, Act.put, List.setIfInBounds_toArray, List.set_cons_zero, List.set_cons_succ]
        go_wp2
        exact ⟨⟨k + 1, T', R', a1', a2', c1', c2', X9, by simp, by omega, HS10.out.plus _ _, HM9.out, HL'.out, HW'.out⟩, by simp [intOf]; omega⟩
      | false =>
        go_wp2_with fail
        refine wp_region_rq (by kernel_rfl) (by kernel_rfl) (by kernel_rfl) ?_
        repeat (first
          | (refine B_skip ?_ ?_; (· rfl); (try simp only [Act.put, List.setIfInBounds_toArray, List.set_cons_zero, List.set_cons_succ]))
          | (refine B_move rfl ?_ ?_; (· rfl); (try simp only [Act.eval, Act.put, Array.getD_eq_getD_getElem?, List.getElem?_toArray, List.getElem?_cons_succ, List.getElem?_cons_zero, Option.getD_some, List.setIfInBounds_toArray, List.set_cons_zero, List.set_cons_succ]))
          | (refine B_plain ?_ ?_; (· rfl); intro K hK; go_big_quiet_op; with_reducible refine hK _ ?_; clear hK K)
          | (refine B_callX (v := ?_) (f := 15) rfl (by kernel_rfl) ?_ (fun xq => ?_) ?_; rotate_left; (· rfl); (· ((simp only [List.map_toArray, List.map_cons, List.map_nil, Act.eval, Array.getD_eq_getD_getElem?, List.getElem?_toArray, List.getElem?_cons_succ, List.getElem?_cons_zero, Option.getD_some]); with_reducible apply retB_same; with_reducible exact (HI.out _ _))); (try simp only [Act.put, List.setIfInBounds_toArray, List.set_cons_zero, List.set_cons_succ])))
        refine B_nil ?_ rfl ?_ ?_
        · kernel_rfl
        · rfl
        rintro _ ⟨⟨g12, d12⟩, rfl⟩
        simp only [fin, Act.put, List.setIfInBounds_toArray, List.set_cons_zero, List.set_cons_succ]
        go_wp2
        exact ⟨⟨k + 1, T', R', a1', a2', c1', c2', X9, by simp, by omega, HS10.out.plus _ _, HM9.out, HL'.out, HW'.out⟩, by simp [intOf]; omega⟩
    · obtain rfl : k = n := by omega
      go_wp2
      go_ret
      exact ⟨rfl, H5.out.below⟩

end Go.Proofs.Ytgjodjkmefdilaa
