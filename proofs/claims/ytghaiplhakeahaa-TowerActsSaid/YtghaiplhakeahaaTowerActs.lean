/- The law TowerActs: its walk. -/
import Derived.Test.YtghaiplhakeahaaWa
namespace Go.Proofs.Ytghaiplhakeahaa
set_option linter.unusedSimpArgs false
set_option linter.unusedVariables false
open Go.RowKit Go.WideMaps Go.ChangeMaps Go.Maps

theorem Rws.below {w w' : World} {v : Value} {n sz : Nat} {E : Nat → List Value} (h : Rws w v n sz E) (hb : Below w.heap.size w w') : Rws w' v n sz E := by
  obtain ⟨ao, cap, h1, h2, h3⟩ := h
  refine ⟨ao, cap, h1, h2, h3.imp id ?_⟩
  rintro ⟨r, o, e, hlt, hc⟩
  refine ⟨r, o, e, Nat.lt_of_lt_of_le hlt hb.size, fun i hi j u hj => ?_⟩
  rw [← hc i hi j u hj]
  exact World.cell?_of_block (a := ⟨r, _, none⟩) (hb.block _ hlt)
theorem act_ok {T : TWS} (h : TOk T) (d : DeedV) : TOk (actT T d) := by
  unfold actT
  split
  · exact h.drop _
  · exact h.take _
theorem act_room (T : TWS) (d : DeedV) : (actT T d).room = T.room := by
  unfold actT
  split
  · exact drop_room _ _
  · exact take_room _ _
theorem Bo.below {w w0 : World} {C X : List Blk} {p q : Nat} {T : TWS} (h : Bo w w0 C X p q T) : Below w0.heap.size w0 w := by
  obtain ⟨v, L, h1, h2⟩ := h; exact h2.below
set_option maxRecDepth 100000 in
set_option maxHeartbeats 8000000 in
theorem towerActs_any (room : Int) (v : Value) (n : Nat) (D : Nat → DeedV) (hn : n ≤ maxLen) (base : Int) (w : World) (hv : Rws w v n 12 (fun i => (D i).cells)) :
    Calls Try.prog 8 #[.int .i64 room, v, .int .i64 base] w fun e w' => e = .returned (.bool true) ∧ Below w.heap.size w w' := by
  have hml : n ≤ 9223372036854775807 := by unfold maxLen at hn; omega
  obtain ⟨ao, cap, rfl, hcap, -⟩ := hv.slice
  have HV := Lib.hid hv
  have HN := Lib.hid hn
  clear hv hn
  by_cases hf : ¬ fairP n D
  · have HF : Hid (¬ fairP n D) := hf
    clear hf
    go_enter Try.func8, Try.ntmps8
    go_wp2_with fail
    refine (fair_to _ n D HN.out _ HV.out false (by simpa using HF.out)).mono ?_
    rintro e w1 ⟨rfl, rfl⟩
    go_wp2_with fail
    refine (told51_to _).mono ?_
    rintro e w3 ⟨rfl, hb3⟩
    have HB3 := Lib.hid hb3
    clear hb3
    go_wp2
    go_ret
    exact ⟨rfl, HB3.out⟩
  have hf1 : fairP n D := by simpa using hf
  have HF := Lib.hid hf1
  have h40 : n ≤ 40 := hf1.1
  clear hf hf1
  by_cases hr : ¬(1 ≤ room ∧ room ≤ 4096)
  · have HR : Hid (¬(1 ≤ room ∧ room ≤ 4096)) := hr
    have h1 : decide (room < 1) = true ∨ (decide (room < 1) = false ∧ decide (4096 < room) = true) := by
      by_cases h1 : room < 1
      · exact .inl (decide_eq_true h1)
      · exact .inr ⟨decide_eq_false h1, decide_eq_true (by omega)⟩
    clear hr
    rcases h1 with h1 | ⟨h1, h2⟩
    · go_enter Try.func8, Try.ntmps8
      go_wp2_with fail
      refine (fair_to _ n D HN.out _ HV.out true (by simpa using HF.out)).mono ?_
      rintro e w1 ⟨rfl, rfl⟩
      go_wp2_with fail
      refine (tnew_no room HR.out _).mono ?_
      rintro e w2 ⟨rfl, rfl⟩
      go_wp2_with fail
      refine (told51_to _).mono ?_
      rintro e w3 ⟨rfl, hb3⟩
      have HB3 := Lib.hid hb3
      clear hb3
      go_wp2
      go_ret
      exact ⟨rfl, HB3.out⟩
    · go_enter Try.func8, Try.ntmps8
      go_wp2_with fail
      refine (fair_to _ n D HN.out _ HV.out true (by simpa using HF.out)).mono ?_
      rintro e w1 ⟨rfl, rfl⟩
      go_wp2_with fail
      refine (tnew_no room HR.out _).mono ?_
      rintro e w2 ⟨rfl, rfl⟩
      go_wp2_with fail
      refine (told51_to _).mono ?_
      rintro e w3 ⟨rfl, hb3⟩
      have HB3 := Lib.hid hb3
      clear hb3
      go_wp2
      go_ret
      exact ⟨rfl, HB3.out⟩
  obtain ⟨k, rfl⟩ : ∃ k : Nat, room = (k : Int) := ⟨room.toNat, by omega⟩
  have hk1 : 1 ≤ k := by omega
  have hk2 : k ≤ 4096 := by omega
  have hd1 : decide ((k : Int) < 1) = false := decide_eq_false (by omega)
  have hd2 : decide ((4096 : Int) < (k : Int)) = false := decide_eq_false (by omega)
  clear hr
  have HOm : Hid (Omw w w [] []) := ⟨Ow.start w, by simp, by simp, by simp, .nil⟩
  go_enter Try.func8, Try.ntmps8
  go_wp2_with fail
  refine (fair_to _ n D HN.out _ HV.out true (by simpa using HF.out)).mono ?_
  rintro e w1 ⟨rfl, rfl⟩
  go_wp2_with fail
  refine (tnew_to k hk1 hk2 _ w1 _ [] HOm.out).mono ?_
  rintro e w2 ⟨p, B, kk, rfl, O2, hP⟩
  have H2 : Hid (Tw w2 w1 [] [] [] p ⟨k, []⟩) := ⟨B, kk, by simpa using O2, hP []⟩
  have H3 := Lib.hid (H2.out.park (cs := #[.int .i64 k, .slice none 0 0]) (t := 72) (b := w2.heap.size) rfl)
  clear O2 hP HOm H2
  go_wp2_with fail
  obtain ⟨q, hq⟩ : ∃ b, b = w2.heap.size := ⟨_, rfl⟩
  simp only [← hq] at H3 ⊢
  clear hq
  have HB : Hid (Bo (w2.alloc (.cells #[.int .i64 k, .slice none 0 0] 72)) w1 [] [] p q ⟨k, []⟩) := ⟨.slice none 0 0, [], RowIn.nil, H3.out⟩
  clear H3
  go_loopw [10] (fun vi wr => ∃ (i : Nat) (T : TWS) (X : List Blk), vi = .int .i64 i ∧ i ≤ n ∧ TOk T ∧ T.room = k ∧ Bo wr w1 [] X p q T) (fun vi _ => n - (intOf vi).toNat)
  case atStart => exact ⟨0, ⟨k, []⟩, [], rfl, by omega, TOk.new k hk2, rfl, HB.out⟩
  case round =>
    clear HB
    obtain ⟨i, T, X, rfl, hi, hT, hTk, hH⟩ := hrel
    have HT := Lib.hid hT
    have HTK := Lib.hid hTk
    have HH := Lib.hid hH
    clear hT hTk
    by_cases hlt : i < n
    · obtain ⟨r, o, rfl, hr, hcell⟩ := HV.out.elem hlt
      obtain ⟨r', o', e', hr', hcell0⟩ := HV.out.elem (show 0 < n by omega)
      cases e'
      have hsz := HF.out.2 i hlt
      obtain ⟨d, hd⟩ : ∃ d, D i = d := ⟨_, rfl⟩
      rw [hd] at hcell hsz
      obtain ⟨dr, rw_, nx, m, s⟩ := d
      obtain ⟨n0, hn0⟩ : ∃ z, (D 0).nonce = z := ⟨_, rfl⟩
      have HSZ : Hid (s.size ≤ 300) := hsz
      have HCI : Hid (∀ W, Below w1.heap.size w1 W → r < W.heap.size ∧ ∀ j u, (⟨dr, rw_, nx, m, s⟩ : DeedV).cells[j]? = some u → W.cell? ⟨r, o + i * 12 + j, none⟩ = some u) := fun W hW => ⟨Nat.lt_of_lt_of_le hr hW.size, fun j u hj => by
        rw [← hcell j u hj]; exact World.cell?_of_block (a := ⟨r, _, none⟩) (hW.block _ hr)⟩
      have HCZ : Hid (∀ W, Below w1.heap.size w1 W → r < W.heap.size ∧ ∀ j, j < 8 → W.cell? ⟨r, o + (2 + j), none⟩ = some (.int .u8 (by8 n0 j))) := fun W hW => ⟨Nat.lt_of_lt_of_le hr hW.size, fun j hj => by
        have h := hcell0 (2 + j) (.int .u8 (by8 n0 j)) (by
          rw [← hn0]
          match j, hj with
          | 0, _ => rfl
          | 1, _ => rfl
          | 2, _ => rfl
          | 3, _ => rfl
          | 4, _ => rfl
          | 5, _ => rfl
          | 6, _ => rfl
          | 7, _ => rfl)
        rw [← h, Nat.zero_mul, Nat.add_zero]; exact World.cell?_of_block (a := ⟨r, _, none⟩) (hW.block _ hr)⟩
      clear hcell hcell0 hd hsz hn0 hr hH
      obtain ⟨v0, R, hri, hH⟩ := HH.out
      obtain ⟨a0, c0, rfl⟩ := hri.slice
      have HRI := Lib.hid hri
      have HH := Lib.hid hH
      obtain ⟨T', hT'⟩ : ∃ T', actT T ⟨dr, rw_, nx, m, s⟩ = T' := ⟨_, rfl⟩
      obtain ⟨M, hM⟩ : ∃ M, T'.all.length = M := ⟨_, rfl⟩
      have HT' := Lib.hid hT'
      have HM := Lib.hid hM
      have HTo : Hid (TOk T') := by show TOk T'; rw [← hT']; exact act_ok HT.out _
      have HTr : Hid (T'.room = k) := by show _ = _; rw [← hT', act_room]; exact HTK.out
      clear hri hH hT' hM
      go_wp2_with fail
      have SM : Hid (∀ W a c z R9 N9, RowIn (.slice a M c) T'.all R9 → Tw W w1 (⟨q, 72, #[.int .i64 k, .slice a M c]⟩ :: R9) N9 [] p T' → Calls Try.prog 35 #[tptr p, .agg #[.int .i64 k, .slice a M c], .agg #[.int .u8 (by8 z 0), .int .u8 (by8 z 1), .int .u8 (by8 z 2), .int .u8 (by8 z 3), .int .u8 (by8 z 4), .int .u8 (by8 z 5), .int .u8 (by8 z 6), .int .u8 (by8 z 7)], .int .i64 base] W fun e w' => e = .returned (.bool true) ∧ Below W.heap.size W w') := fun W a c z R9 N9 h1 h2 => by
        have h := same51_to p T' HTo.out (.slice a M c) z base W w1 _ _ _ h2 (h2.rsl h1 (C' := [⟨q, 72, #[.int .i64 k, .slice a M c]⟩]) (perm_cnt fun x => by simp only [cnt_append, cnt_cons, cnt_nil] <;> omega))
        rwa [HTr.out] at h
      refine wp_region_o2 [49, 50, 51, 52, 53, 54, 55, 56, 57, 58, 59, 60, 61, 62, 63, 64, 65, 66, 67, 68, 69, 70, 71, 72, 73, 74, 75, 76, 77, 78] (fun L (x : Option Addr × Nat) => [(L 0, 49, tptr p), (L 1, 50, .slice (some ⟨r, o, none⟩) n cap), (L 2, 51, .int .i64 i), (L 3, 52, .pointer (some ⟨r, o + i * 12, none⟩)), (L 4, 53, .agg #[.bool dr, .bool rw_, .int .u8 (by8 nx 0), .int .u8 (by8 nx 1), .int .u8 (by8 nx 2), .int .u8 (by8 nx 3), .int .u8 (by8 nx 4), .int .u8 (by8 nx 5), .int .u8 (by8 nx 6), .int .u8 (by8 nx 7), .int .i64 m, .string s]), (L 5, 54, .bool true), (L 6, 55, .bool false), (L 7, 56, .bool false), (L 8, 57, tptr p), (L 9, 58, bif L 9 then .agg #[.int .i64 k, .slice x.1 M x.2] else undef), (L 10, 59, .slice (some ⟨r, o, none⟩) n cap), (L 11, 60, .int .i64 i), (L 12, 61, .pointer (some ⟨r, o + i * 12, none⟩)), (L 13, 62, .pointer (some ⟨r, o + i * 12 + 2, none⟩)), (L 14, 63, .agg #[.int .u8 (by8 nx 0), .int .u8 (by8 nx 1), .int .u8 (by8 nx 2), .int .u8 (by8 nx 3), .int .u8 (by8 nx 4), .int .u8 (by8 nx 5), .int .u8 (by8 nx 6), .int .u8 (by8 nx 7)]), (L 15, 64, .int .i64 base), (L 16, 65, .bool true), (L 17, 66, .bool false), (L 18, 67, .bool false), (L 19, 68, .bool false), (L 20, 69, tptr p), (L 21, 70, bif L 21 then .agg #[.int .i64 k, .slice x.1 M x.2] else undef), (L 22, 71, .slice (some ⟨r, o, none⟩) n cap), (L 23, 72, .pointer (some ⟨r, o, none⟩)), (L 24, 73, .pointer (some ⟨r, o + 2, none⟩)), (L 25, 74, .agg #[.int .u8 (by8 n0 0), .int .u8 (by8 n0 1), .int .u8 (by8 n0 2), .int .u8 (by8 n0 3), .int .u8 (by8 n0 4), .int .u8 (by8 n0 5), .int .u8 (by8 n0 6), .int .u8 (by8 n0 7)]), (L 26, 75, .int .i64 base), (L 27, 76, .bool true), (L 28, 77, .bool false), (L 29, 78, .bool false)])
        (fun L x W => ∃ R9 N9 : List Blk, RowIn (bif L 5 then .slice x.1 M x.2 else .slice a0 T.all.length c0) (bif L 5 then T'.all else T.all) R9 ∧ Tw W w1 (⟨q, 72, #[.int .i64 k, bif L 5 then .slice x.1 M x.2 else .slice a0 T.all.length c0]⟩ :: R9) N9 [] p (bif L 5 then T' else T)) (none, 0) (by kernel_rfl) (by kernel_rfl) 80 (by rfl) (fun _ _ => rfl) (by kernel_rfl) (by kernel_rfl) (by kernel_rfl) (by rfl) ⟨R, X, by simpa using HRI.out, by have h := HH.out.drew; rw [HTK.out] at h; simpa using h⟩ ?_ ⟨?_, ?_, ?_, ?_, ?_, ?_, ?_, ?_, ?_, ?_, ?_, ?_, ?_, ?_, ?_, ?_, ?_, ?_, ?_, ?_, ?_, ?_, ?_, ?_, ?_, ?_, ?_, ?_, ?_, ?_, trivial⟩
      rotate_left
      · (intro L x W hW hC hL hd B K hB hK; (try simp [depsB, Region.binds] at hd); (try simp only [Nat.reduceAdd] at hK hL); (have e7 := hB.out 7); (simp (decide := true) only [look, if_true, if_false, hd, cond_true, cond_false, Array.getD_eq_getD_getElem?, List.getElem?_toArray, List.getElem?_cons_succ, List.getElem?_cons_zero, Option.getD_some] at e7); go_simp; exact hK.out (tptr p) x W (by simp (decide := true) [putO, setF, upd]) hW)
      · (intro L x W hW hC hL hd B K hB hK; (try simp [depsB, Region.binds] at hd); (try simp only [Nat.reduceAdd] at hK hL); (have e1 := hB.out 1); (simp (decide := true) only [look, if_true, if_false, hd, cond_true, cond_false, Array.getD_eq_getD_getElem?, List.getElem?_toArray, List.getElem?_cons_succ, List.getElem?_cons_zero, Option.getD_some] at e1); go_simp; exact hK.out (.slice (some ⟨r, o, none⟩) n cap) x W (by simp (decide := true) [putO, setF, upd]) hW)
      · (intro L x W hW hC hL hd B K hB hK; (try simp [depsB, Region.binds] at hd); (try simp only [Nat.reduceAdd] at hK hL); (have e10 := hB.out 10); (simp (decide := true) only [look, if_true, if_false, hd, cond_true, cond_false, Array.getD_eq_getD_getElem?, List.getElem?_toArray, List.getElem?_cons_succ, List.getElem?_cons_zero, Option.getD_some] at e10); go_simp; exact hK.out (.int .i64 i) x W (by simp (decide := true) [putO, setF, upd]) hW)
      · (intro L x W hW hC hL hd B K hB hK; (try simp [depsB, Region.binds] at hd); (try simp only [Nat.reduceAdd] at hK hL); (have e50 := hB.out 50); (simp (decide := true) only [look, if_true, if_false, hd, cond_true, cond_false, Array.getD_eq_getD_getElem?, List.getElem?_toArray, List.getElem?_cons_succ, List.getElem?_cons_zero, Option.getD_some] at e50); (have e51 := hB.out 51); (simp (decide := true) only [look, if_true, if_false, hd, cond_true, cond_false, Array.getD_eq_getD_getElem?, List.getElem?_toArray, List.getElem?_cons_succ, List.getElem?_cons_zero, Option.getD_some] at e51); go_simp; exact hK.out (.pointer (some ⟨r, o + i * 12, none⟩)) x W (by simp (decide := true) [putO, setF, upd]) hW)
      · (intro L x W hW hC hL hd B K hB hK; (try simp [depsB, Region.binds] at hd); (try simp only [Nat.reduceAdd] at hK hL); (have e52 := hB.out 52); (simp (decide := true) only [look, if_true, if_false, hd, cond_true, cond_false, Array.getD_eq_getD_getElem?, List.getElem?_toArray, List.getElem?_cons_succ, List.getElem?_cons_zero, Option.getD_some] at e52); (have hW0 := hW); (obtain ⟨R9, N9, hS, hN⟩ := hW0); (obtain ⟨hri, hci⟩ := HCI.out W hN.below); (have c0 := hci 0 _ rfl); (have c1 := hci 1 _ rfl); (have c2 := hci 2 _ rfl); (have c3 := hci 3 _ rfl); (have c4 := hci 4 _ rfl); (have c5 := hci 5 _ rfl); (have c6 := hci 6 _ rfl); (have c7 := hci 7 _ rfl); (have c8 := hci 8 _ rfl); (have c9 := hci 9 _ rfl); (have c10 := hci 10 _ rfl); (have c11 := hci 11 _ rfl); (simp only [Nat.add_zero] at c0); clear hci hS hN; go_simp; exact hK.out (.agg #[.bool dr, .bool rw_, .int .u8 (by8 nx 0), .int .u8 (by8 nx 1), .int .u8 (by8 nx 2), .int .u8 (by8 nx 3), .int .u8 (by8 nx 4), .int .u8 (by8 nx 5), .int .u8 (by8 nx 6), .int .u8 (by8 nx 7), .int .i64 m, .string s]) x W (by simp (decide := true) [putO, setF, upd]) hW)
      · intro L x W hW hC hL hd B K hB hK; (try simp [depsB, Region.binds] at hd); (try simp only [Nat.reduceAdd] at hK hL)
        (have e9 := hB.out 9); (simp (decide := true) only [look, if_true, if_false, hd, cond_true, cond_false, Array.getD_eq_getD_getElem?, List.getElem?_toArray, List.getElem?_cons_succ, List.getElem?_cons_zero, Option.getD_some] at e9); (have e49 := hB.out 49); (simp (decide := true) only [look, if_true, if_false, hd, cond_true, cond_false, Array.getD_eq_getD_getElem?, List.getElem?_toArray, List.getElem?_cons_succ, List.getElem?_cons_zero, Option.getD_some] at e49); (have e53 := hB.out 53); (simp (decide := true) only [look, if_true, if_false, hd, cond_true, cond_false, Array.getD_eq_getD_getElem?, List.getElem?_toArray, List.getElem?_cons_succ, List.getElem?_cons_zero, Option.getD_some] at e53)
        have h6 : L 6 = false := by cases hl : L 6 with | false => rfl | true => have hx := hC 6 _ rfl hl; simp [depsB, Region.binds, hL] at hx
        have h7 : L 7 = false := by cases hl : L 7 with | false => rfl | true => have hx := hC 7 _ rfl hl; simp [depsB, Region.binds, h6] at hx
        have h9 : L 9 = false := by cases hl : L 9 with | false => rfl | true => have hx := hC 9 _ rfl hl; simp [depsB, Region.binds, h7] at hx
        have h18 : L 18 = false := by cases hl : L 18 with | false => rfl | true => have hx := hC 18 _ rfl hl; simp [depsB, Region.binds, h7] at hx
        have h19 : L 19 = false := by cases hl : L 19 with | false => rfl | true => have hx := hC 19 _ rfl hl; simp [depsB, Region.binds, h18] at hx
        have h21 : L 21 = false := by cases hl : L 21 with | false => rfl | true => have hx := hC 21 _ rfl hl; simp [depsB, Region.binds, h19] at hx
        obtain ⟨R9, N9, hS, hN⟩ := hW
        simp only [hL, cond_false] at hS hN
        refine wp_call_in 34 (by rfl) (by kernel_rfl) #[tptr p, tptr q, .agg #[.bool dr, .bool rw_, .int .u8 (by8 nx 0), .int .u8 (by8 nx 1), .int .u8 (by8 nx 2), .int .u8 (by8 nx 3), .int .u8 (by8 nx 4), .int .u8 (by8 nx 5), .int .u8 (by8 nx 6), .int .u8 (by8 nx 7), .int .i64 m, .string s]] (by simp [Act.eval, e9, e49, e53]) ((do51_to p q T HT.out ⟨dr, rw_, nx, m, s⟩ HSZ.out W w1 [] N9 ⟨_, R9, hS, by rw [HTK.out, List.append_nil]; exact hN⟩).mono ?_)
        rintro e W4 ⟨rfl, N4, v4, R4, hr4, h4⟩
        refine ⟨_, rfl, ?_⟩
        rw [HT'.out] at hr4 h4
        obtain ⟨a4, c4, rfl⟩ := hr4.slice
        rw [HM.out] at hr4 h4
        rw [HTr.out, List.append_nil] at h4
        exact hK.out (.bool true) (a4, c4) W4 (by simp (decide := true) [putO, setF, upd, h9, h21]) ⟨R4, N4 ++ N9, by simpa [upd] using hr4, by simpa [upd] using h4⟩
      · (intro L x W hW hC hL hd B K hB hK; (try simp [depsB, Region.binds] at hd); (try simp only [Nat.reduceAdd] at hK hL); (have e54 := hB.out 54); (simp (decide := true) only [look, if_true, if_false, hd, cond_true, cond_false, Array.getD_eq_getD_getElem?, List.getElem?_toArray, List.getElem?_cons_succ, List.getElem?_cons_zero, Option.getD_some] at e54); go_simp; exact hK.out (.bool false) x W (by simp (decide := true) [putO, setF, upd]) hW)
      · (intro L x W hW hC hL hd B K hB hK; (try simp [depsB, Region.binds] at hd); (try simp only [Nat.reduceAdd] at hK hL); (have e55 := hB.out 55); (simp (decide := true) only [look, if_true, if_false, hd, cond_true, cond_false, Array.getD_eq_getD_getElem?, List.getElem?_toArray, List.getElem?_cons_succ, List.getElem?_cons_zero, Option.getD_some] at e55); go_simp; exact hK.out (.bool false) x W (by simp (decide := true) [putO, setF, upd]) hW)
      · (intro L x W hW hC hL hd B K hB hK; (try simp [depsB, Region.binds] at hd); (try simp only [Nat.reduceAdd] at hK hL); (have e56 := hB.out 56); (simp (decide := true) only [look, if_true, if_false, hd, cond_true, cond_false] at e56); (try dsimp only); rw [if_pos (by rw [wanted_B rfl rfl e56]; rfl)]; (have e7 := hB.out 7); (simp (decide := true) only [look, if_true, if_false, hd, cond_true, cond_false, Array.getD_eq_getD_getElem?, List.getElem?_toArray, List.getElem?_cons_succ, List.getElem?_cons_zero, Option.getD_some] at e7); go_simp; exact hK.out (tptr p) x W (by simp (decide := true) [putO, setF, upd]) hW)
      · intro L x W hW hC hL hd B K hB hK; (try simp [depsB, Region.binds] at hd); (try simp only [Nat.reduceAdd] at hK hL)
        (have e56 := hB.out 56); (simp (decide := true) only [look, if_true, if_false, hd, cond_true, cond_false] at e56); (try dsimp only); rw [if_pos (by rw [wanted_B rfl rfl e56]; rfl)]
        (have e9 := hB.out 9); (simp (decide := true) only [look, if_true, if_false, hd, cond_true, cond_false, Array.getD_eq_getD_getElem?, List.getElem?_toArray, List.getElem?_cons_succ, List.getElem?_cons_zero, Option.getD_some] at e9)
        have g6 := hC 7 _ rfl (by simp only [hd])
        simp [depsB, Region.binds] at g6
        have h5 : L 5 = true := by simp only [g6]
        (try dsimp only)
        obtain ⟨R9, N9, hS, hN⟩ := hW
        simp only [h5, cond_true] at hS hN
        (have hq := hN.has (b := q) (t := 72) (cs := #[.int .i64 k, .slice x.1 M x.2]) (by simp)); (have q0 := hq.cell 0); (have q1 := hq.cell 1); (have lq := hq.lt); (simp only [List.getElem?_toArray, List.getElem?_cons_succ, List.getElem?_cons_zero] at q0 q1); clear hq
        go_simp
        exact hK.out (.agg #[.int .i64 k, .slice x.1 M x.2]) x W (by simp (decide := true) [putO, setF, upd]) ⟨R9, N9, by simpa [upd, h5] using hS, by simpa [upd, h5] using hN⟩
      · (intro L x W hW hC hL hd B K hB hK; (try simp [depsB, Region.binds] at hd); (try simp only [Nat.reduceAdd] at hK hL); (have e56 := hB.out 56); (simp (decide := true) only [look, if_true, if_false, hd, cond_true, cond_false] at e56); (try dsimp only); rw [if_pos (by rw [wanted_B rfl rfl e56]; rfl)]; (have e1 := hB.out 1); (simp (decide := true) only [look, if_true, if_false, hd, cond_true, cond_false, Array.getD_eq_getD_getElem?, List.getElem?_toArray, List.getElem?_cons_succ, List.getElem?_cons_zero, Option.getD_some] at e1); go_simp; exact hK.out (.slice (some ⟨r, o, none⟩) n cap) x W (by simp (decide := true) [putO, setF, upd]) hW)
      · (intro L x W hW hC hL hd B K hB hK; (try simp [depsB, Region.binds] at hd); (try simp only [Nat.reduceAdd] at hK hL); (have e56 := hB.out 56); (simp (decide := true) only [look, if_true, if_false, hd, cond_true, cond_false] at e56); (try dsimp only); rw [if_pos (by rw [wanted_B rfl rfl e56]; rfl)]; (have e10 := hB.out 10); (simp (decide := true) only [look, if_true, if_false, hd, cond_true, cond_false, Array.getD_eq_getD_getElem?, List.getElem?_toArray, List.getElem?_cons_succ, List.getElem?_cons_zero, Option.getD_some] at e10); go_simp; exact hK.out (.int .i64 i) x W (by simp (decide := true) [putO, setF, upd]) hW)
      · (intro L x W hW hC hL hd B K hB hK; (try simp [depsB, Region.binds] at hd); (try simp only [Nat.reduceAdd] at hK hL); (have e56 := hB.out 56); (simp (decide := true) only [look, if_true, if_false, hd, cond_true, cond_false] at e56); (try dsimp only); rw [if_pos (by rw [wanted_B rfl rfl e56]; rfl)]; (have e59 := hB.out 59); (simp (decide := true) only [look, if_true, if_false, hd, cond_true, cond_false, Array.getD_eq_getD_getElem?, List.getElem?_toArray, List.getElem?_cons_succ, List.getElem?_cons_zero, Option.getD_some] at e59); (have e60 := hB.out 60); (simp (decide := true) only [look, if_true, if_false, hd, cond_true, cond_false, Array.getD_eq_getD_getElem?, List.getElem?_toArray, List.getElem?_cons_succ, List.getElem?_cons_zero, Option.getD_some] at e60); go_simp; exact hK.out (.pointer (some ⟨r, o + i * 12, none⟩)) x W (by simp (decide := true) [putO, setF, upd]) hW)
      · (intro L x W hW hC hL hd B K hB hK; (try simp [depsB, Region.binds] at hd); (try simp only [Nat.reduceAdd] at hK hL); (have e56 := hB.out 56); (simp (decide := true) only [look, if_true, if_false, hd, cond_true, cond_false] at e56); (try dsimp only); rw [if_pos (by rw [wanted_B rfl rfl e56]; rfl)]; (have e61 := hB.out 61); (simp (decide := true) only [look, if_true, if_false, hd, cond_true, cond_false, Array.getD_eq_getD_getElem?, List.getElem?_toArray, List.getElem?_cons_succ, List.getElem?_cons_zero, Option.getD_some] at e61); go_simp; exact hK.out (.pointer (some ⟨r, o + i * 12 + 2, none⟩)) x W (by simp (decide := true) [putO, setF, upd]) hW)
      · (intro L x W hW hC hL hd B K hB hK; (try simp [depsB, Region.binds] at hd); (try simp only [Nat.reduceAdd] at hK hL); (have e56 := hB.out 56); (simp (decide := true) only [look, if_true, if_false, hd, cond_true, cond_false] at e56); (try dsimp only); rw [if_pos (by rw [wanted_B rfl rfl e56]; rfl)]; (have e62 := hB.out 62); (simp (decide := true) only [look, if_true, if_false, hd, cond_true, cond_false, Array.getD_eq_getD_getElem?, List.getElem?_toArray, List.getElem?_cons_succ, List.getElem?_cons_zero, Option.getD_some] at e62); (have hW0 := hW); (obtain ⟨R9, N9, hS, hN⟩ := hW0); (obtain ⟨hri, hci⟩ := HCI.out W hN.below); (have c2 := hci 2 _ rfl); (have c3 := hci 3 _ rfl); (have c4 := hci 4 _ rfl); (have c5 := hci 5 _ rfl); (have c6 := hci 6 _ rfl); (have c7 := hci 7 _ rfl); (have c8 := hci 8 _ rfl); (have c9 := hci 9 _ rfl); clear hci hS hN; go_simp; exact hK.out (.agg #[.int .u8 (by8 nx 0), .int .u8 (by8 nx 1), .int .u8 (by8 nx 2), .int .u8 (by8 nx 3), .int .u8 (by8 nx 4), .int .u8 (by8 nx 5), .int .u8 (by8 nx 6), .int .u8 (by8 nx 7)]) x W (by simp (decide := true) [putO, setF, upd]) hW)
      · (intro L x W hW hC hL hd B K hB hK; (try simp [depsB, Region.binds] at hd); (try simp only [Nat.reduceAdd] at hK hL); (have e56 := hB.out 56); (simp (decide := true) only [look, if_true, if_false, hd, cond_true, cond_false] at e56); (try dsimp only); rw [if_pos (by rw [wanted_B rfl rfl e56]; rfl)]; (have e2 := hB.out 2); (simp (decide := true) only [look, if_true, if_false, hd, cond_true, cond_false, Array.getD_eq_getD_getElem?, List.getElem?_toArray, List.getElem?_cons_succ, List.getElem?_cons_zero, Option.getD_some] at e2); go_simp; exact hK.out (.int .i64 base) x W (by simp (decide := true) [putO, setF, upd]) hW)
      · intro L x W hW hC hL hd B K hB hK; (try simp [depsB, Region.binds] at hd); (try simp only [Nat.reduceAdd] at hK hL)
        (have e56 := hB.out 56); (simp (decide := true) only [look, if_true, if_false, hd, cond_true, cond_false] at e56); (try dsimp only); rw [if_pos (by rw [wanted_B rfl rfl e56]; rfl)]
        (have e57 := hB.out 57); (simp (decide := true) only [look, if_true, if_false, hd, cond_true, cond_false, Array.getD_eq_getD_getElem?, List.getElem?_toArray, List.getElem?_cons_succ, List.getElem?_cons_zero, Option.getD_some] at e57); (have e58 := hB.out 58); (simp (decide := true) only [look, if_true, if_false, hd, cond_true, cond_false, Array.getD_eq_getD_getElem?, List.getElem?_toArray, List.getElem?_cons_succ, List.getElem?_cons_zero, Option.getD_some] at e58); (have e63 := hB.out 63); (simp (decide := true) only [look, if_true, if_false, hd, cond_true, cond_false, Array.getD_eq_getD_getElem?, List.getElem?_toArray, List.getElem?_cons_succ, List.getElem?_cons_zero, Option.getD_some] at e63); (have e64 := hB.out 64); (simp (decide := true) only [look, if_true, if_false, hd, cond_true, cond_false, Array.getD_eq_getD_getElem?, List.getElem?_toArray, List.getElem?_cons_succ, List.getElem?_cons_zero, Option.getD_some] at e64)
        have g6 := hC 7 _ rfl (by simp only [hd])
        simp [depsB, Region.binds] at g6
        have h5 : L 5 = true := by simp only [g6]
        obtain ⟨R9, N9, hS, hN⟩ := hW
        simp only [h5, cond_true] at hS hN
        refine wp_call_in 35 (by rfl) (by kernel_rfl) #[tptr p, .agg #[.int .i64 k, .slice x.1 M x.2], .agg #[.int .u8 (by8 nx 0), .int .u8 (by8 nx 1), .int .u8 (by8 nx 2), .int .u8 (by8 nx 3), .int .u8 (by8 nx 4), .int .u8 (by8 nx 5), .int .u8 (by8 nx 6), .int .u8 (by8 nx 7)], .int .i64 base] (by simp [Act.eval, e57, e58, e63, e64]) ((SM.out W x.1 x.2 nx R9 N9 hS hN).mono ?_)
        rintro e W4 ⟨rfl, hb4⟩
        refine ⟨_, rfl, ?_⟩
        exact hK.out (.bool true) x W4 (by simp (decide := true) [putO, setF, upd]) ⟨R9, N9, by simpa [upd, h5] using hS, by simpa [upd, h5] using hN.of_below hb4⟩
      · (intro L x W hW hC hL hd B K hB hK; (try simp [depsB, Region.binds] at hd); (try simp only [Nat.reduceAdd] at hK hL); (have e56 := hB.out 56); (simp (decide := true) only [look, if_true, if_false, hd, cond_true, cond_false] at e56); (try dsimp only); rw [if_pos (by rw [wanted_B rfl rfl e56]; rfl)]; (have e65 := hB.out 65); (simp (decide := true) only [look, if_true, if_false, hd, cond_true, cond_false, Array.getD_eq_getD_getElem?, List.getElem?_toArray, List.getElem?_cons_succ, List.getElem?_cons_zero, Option.getD_some] at e65); go_simp; exact hK.out (.bool false) x W (by simp (decide := true) [putO, setF, upd]) hW)
      · (intro L x W hW hC hL hd B K hB hK; (try simp [depsB, Region.binds] at hd); (try simp only [Nat.reduceAdd] at hK hL); (have e56 := hB.out 56); (simp (decide := true) only [look, if_true, if_false, hd, cond_true, cond_false, Array.getD_eq_getD_getElem?, List.getElem?_toArray, List.getElem?_cons_succ, List.getElem?_cons_zero, Option.getD_some] at e56); (have e66 := hB.out 66); (simp (decide := true) only [look, if_true, if_false, hd, cond_true, cond_false, Array.getD_eq_getD_getElem?, List.getElem?_toArray, List.getElem?_cons_succ, List.getElem?_cons_zero, Option.getD_some] at e66); go_simp; exact hK.out (.bool false) x W (by simp (decide := true) [putO, setF, upd]) hW)
      · (intro L x W hW hC hL hd B K hB hK; (try simp [depsB, Region.binds] at hd); (try simp only [Nat.reduceAdd] at hK hL); (have e67 := hB.out 67); (simp (decide := true) only [look, if_true, if_false, hd, cond_true, cond_false, Array.getD_eq_getD_getElem?, List.getElem?_toArray, List.getElem?_cons_succ, List.getElem?_cons_zero, Option.getD_some] at e67); go_simp; exact hK.out (.bool false) x W (by simp (decide := true) [putO, setF, upd]) hW)
      · (intro L x W hW hC hL hd B K hB hK; (try simp [depsB, Region.binds] at hd); (try simp only [Nat.reduceAdd] at hK hL); (have e68 := hB.out 68); (simp (decide := true) only [look, if_true, if_false, hd, cond_true, cond_false] at e68); (try dsimp only); rw [if_pos (by rw [wanted_B rfl rfl e68]; rfl)]; (have e7 := hB.out 7); (simp (decide := true) only [look, if_true, if_false, hd, cond_true, cond_false, Array.getD_eq_getD_getElem?, List.getElem?_toArray, List.getElem?_cons_succ, List.getElem?_cons_zero, Option.getD_some] at e7); go_simp; exact hK.out (tptr p) x W (by simp (decide := true) [putO, setF, upd]) hW)
      · intro L x W hW hC hL hd B K hB hK; (try simp [depsB, Region.binds] at hd); (try simp only [Nat.reduceAdd] at hK hL)
        (have e68 := hB.out 68); (simp (decide := true) only [look, if_true, if_false, hd, cond_true, cond_false] at e68); (try dsimp only); rw [if_pos (by rw [wanted_B rfl rfl e68]; rfl)]
        (have e9 := hB.out 9); (simp (decide := true) only [look, if_true, if_false, hd, cond_true, cond_false, Array.getD_eq_getD_getElem?, List.getElem?_toArray, List.getElem?_cons_succ, List.getElem?_cons_zero, Option.getD_some] at e9)
        have g18 := hC 19 _ rfl (by simp only [hd])
        simp [depsB, Region.binds] at g18
        have g7 := hC 18 _ rfl (by simp only [g18])
        simp [depsB, Region.binds] at g7
        have g6 := hC 7 _ rfl (by simp only [g7])
        simp [depsB, Region.binds] at g6
        have h5 : L 5 = true := by simp only [g6]
        (try dsimp only)
        obtain ⟨R9, N9, hS, hN⟩ := hW
        simp only [h5, cond_true] at hS hN
        (have hq := hN.has (b := q) (t := 72) (cs := #[.int .i64 k, .slice x.1 M x.2]) (by simp)); (have q0 := hq.cell 0); (have q1 := hq.cell 1); (have lq := hq.lt); (simp only [List.getElem?_toArray, List.getElem?_cons_succ, List.getElem?_cons_zero] at q0 q1); clear hq
        go_simp
        exact hK.out (.agg #[.int .i64 k, .slice x.1 M x.2]) x W (by simp (decide := true) [putO, setF, upd]) ⟨R9, N9, by simpa [upd, h5] using hS, by simpa [upd, h5] using hN⟩
      · (intro L x W hW hC hL hd B K hB hK; (try simp [depsB, Region.binds] at hd); (try simp only [Nat.reduceAdd] at hK hL); (have e68 := hB.out 68); (simp (decide := true) only [look, if_true, if_false, hd, cond_true, cond_false] at e68); (try dsimp only); rw [if_pos (by rw [wanted_B rfl rfl e68]; rfl)]; (have e1 := hB.out 1); (simp (decide := true) only [look, if_true, if_false, hd, cond_true, cond_false, Array.getD_eq_getD_getElem?, List.getElem?_toArray, List.getElem?_cons_succ, List.getElem?_cons_zero, Option.getD_some] at e1); go_simp; exact hK.out (.slice (some ⟨r, o, none⟩) n cap) x W (by simp (decide := true) [putO, setF, upd]) hW)
      · (intro L x W hW hC hL hd B K hB hK; (try simp [depsB, Region.binds] at hd); (try simp only [Nat.reduceAdd] at hK hL); (have e68 := hB.out 68); (simp (decide := true) only [look, if_true, if_false, hd, cond_true, cond_false] at e68); (try dsimp only); rw [if_pos (by rw [wanted_B rfl rfl e68]; rfl)]; (have e71 := hB.out 71); (simp (decide := true) only [look, if_true, if_false, hd, cond_true, cond_false, Array.getD_eq_getD_getElem?, List.getElem?_toArray, List.getElem?_cons_succ, List.getElem?_cons_zero, Option.getD_some] at e71); (have h0n : 0 < n := by omega); go_simp; exact hK.out (.pointer (some ⟨r, o, none⟩)) x W (by simp (decide := true) [putO, setF, upd]) hW)
      · (intro L x W hW hC hL hd B K hB hK; (try simp [depsB, Region.binds] at hd); (try simp only [Nat.reduceAdd] at hK hL); (have e68 := hB.out 68); (simp (decide := true) only [look, if_true, if_false, hd, cond_true, cond_false] at e68); (try dsimp only); rw [if_pos (by rw [wanted_B rfl rfl e68]; rfl)]; (have e72 := hB.out 72); (simp (decide := true) only [look, if_true, if_false, hd, cond_true, cond_false, Array.getD_eq_getD_getElem?, List.getElem?_toArray, List.getElem?_cons_succ, List.getElem?_cons_zero, Option.getD_some] at e72); go_simp; exact hK.out (.pointer (some ⟨r, o + 2, none⟩)) x W (by simp (decide := true) [putO, setF, upd]) hW)
      · (intro L x W hW hC hL hd B K hB hK; (try simp [depsB, Region.binds] at hd); (try simp only [Nat.reduceAdd] at hK hL); (have e68 := hB.out 68); (simp (decide := true) only [look, if_true, if_false, hd, cond_true, cond_false] at e68); (try dsimp only); rw [if_pos (by rw [wanted_B rfl rfl e68]; rfl)]; (have e73 := hB.out 73); (simp (decide := true) only [look, if_true, if_false, hd, cond_true, cond_false, Array.getD_eq_getD_getElem?, List.getElem?_toArray, List.getElem?_cons_succ, List.getElem?_cons_zero, Option.getD_some] at e73); (have hW0 := hW); (obtain ⟨R9, N9, hS, hN⟩ := hW0); (obtain ⟨hri, hci⟩ := HCZ.out W hN.below); (have c0 := hci 0 (by omega)); (have c1 := hci 1 (by omega)); (have c2 := hci 2 (by omega)); (have c3 := hci 3 (by omega)); (have c4 := hci 4 (by omega)); (have c5 := hci 5 (by omega)); (have c6 := hci 6 (by omega)); (have c7 := hci 7 (by omega)); clear hci hS hN; go_simp; exact hK.out (.agg #[.int .u8 (by8 n0 0), .int .u8 (by8 n0 1), .int .u8 (by8 n0 2), .int .u8 (by8 n0 3), .int .u8 (by8 n0 4), .int .u8 (by8 n0 5), .int .u8 (by8 n0 6), .int .u8 (by8 n0 7)]) x W (by simp (decide := true) [putO, setF, upd]) hW)
      · (intro L x W hW hC hL hd B K hB hK; (try simp [depsB, Region.binds] at hd); (try simp only [Nat.reduceAdd] at hK hL); (have e68 := hB.out 68); (simp (decide := true) only [look, if_true, if_false, hd, cond_true, cond_false] at e68); (try dsimp only); rw [if_pos (by rw [wanted_B rfl rfl e68]; rfl)]; (have e2 := hB.out 2); (simp (decide := true) only [look, if_true, if_false, hd, cond_true, cond_false, Array.getD_eq_getD_getElem?, List.getElem?_toArray, List.getElem?_cons_succ, List.getElem?_cons_zero, Option.getD_some] at e2); go_simp; exact hK.out (.int .i64 base) x W (by simp (decide := true) [putO, setF, upd]) hW)
      · intro L x W hW hC hL hd B K hB hK; (try simp [depsB, Region.binds] at hd); (try simp only [Nat.reduceAdd] at hK hL)
        (have e68 := hB.out 68); (simp (decide := true) only [look, if_true, if_false, hd, cond_true, cond_false] at e68); (try dsimp only); rw [if_pos (by rw [wanted_B rfl rfl e68]; rfl)]
        (have e69 := hB.out 69); (simp (decide := true) only [look, if_true, if_false, hd, cond_true, cond_false, Array.getD_eq_getD_getElem?, List.getElem?_toArray, List.getElem?_cons_succ, List.getElem?_cons_zero, Option.getD_some] at e69); (have e70 := hB.out 70); (simp (decide := true) only [look, if_true, if_false, hd, cond_true, cond_false, Array.getD_eq_getD_getElem?, List.getElem?_toArray, List.getElem?_cons_succ, List.getElem?_cons_zero, Option.getD_some] at e70); (have e74 := hB.out 74); (simp (decide := true) only [look, if_true, if_false, hd, cond_true, cond_false, Array.getD_eq_getD_getElem?, List.getElem?_toArray, List.getElem?_cons_succ, List.getElem?_cons_zero, Option.getD_some] at e74); (have e75 := hB.out 75); (simp (decide := true) only [look, if_true, if_false, hd, cond_true, cond_false, Array.getD_eq_getD_getElem?, List.getElem?_toArray, List.getElem?_cons_succ, List.getElem?_cons_zero, Option.getD_some] at e75)
        have g18 := hC 19 _ rfl (by simp only [hd])
        simp [depsB, Region.binds] at g18
        have g7 := hC 18 _ rfl (by simp only [g18])
        simp [depsB, Region.binds] at g7
        have g6 := hC 7 _ rfl (by simp only [g7])
        simp [depsB, Region.binds] at g6
        have h5 : L 5 = true := by simp only [g6]
        obtain ⟨R9, N9, hS, hN⟩ := hW
        simp only [h5, cond_true] at hS hN
        refine wp_call_in 35 (by rfl) (by kernel_rfl) #[tptr p, .agg #[.int .i64 k, .slice x.1 M x.2], .agg #[.int .u8 (by8 n0 0), .int .u8 (by8 n0 1), .int .u8 (by8 n0 2), .int .u8 (by8 n0 3), .int .u8 (by8 n0 4), .int .u8 (by8 n0 5), .int .u8 (by8 n0 6), .int .u8 (by8 n0 7)], .int .i64 base] (by simp [Act.eval, e69, e70, e74, e75]) ((SM.out W x.1 x.2 n0 R9 N9 hS hN).mono ?_)
        rintro e W4 ⟨rfl, hb4⟩
        refine ⟨_, rfl, ?_⟩
        exact hK.out (.bool true) x W4 (by simp (decide := true) [putO, setF, upd]) ⟨R9, N9, by simpa [upd, h5] using hS, by simpa [upd, h5] using hN.of_below hb4⟩
      · (intro L x W hW hC hL hd B K hB hK; (try simp [depsB, Region.binds] at hd); (try simp only [Nat.reduceAdd] at hK hL); (have e68 := hB.out 68); (simp (decide := true) only [look, if_true, if_false, hd, cond_true, cond_false] at e68); (try dsimp only); rw [if_pos (by rw [wanted_B rfl rfl e68]; rfl)]; (have e76 := hB.out 76); (simp (decide := true) only [look, if_true, if_false, hd, cond_true, cond_false, Array.getD_eq_getD_getElem?, List.getElem?_toArray, List.getElem?_cons_succ, List.getElem?_cons_zero, Option.getD_some] at e76); go_simp; exact hK.out (.bool false) x W (by simp (decide := true) [putO, setF, upd]) hW)
      · (intro L x W hW hC hL hd B K hB hK; (try simp [depsB, Region.binds] at hd); (try simp only [Nat.reduceAdd] at hK hL); (have e68 := hB.out 68); (simp (decide := true) only [look, if_true, if_false, hd, cond_true, cond_false, Array.getD_eq_getD_getElem?, List.getElem?_toArray, List.getElem?_cons_succ, List.getElem?_cons_zero, Option.getD_some] at e68); (have e77 := hB.out 77); (simp (decide := true) only [look, if_true, if_false, hd, cond_true, cond_false, Array.getD_eq_getD_getElem?, List.getElem?_toArray, List.getElem?_cons_succ, List.getElem?_cons_zero, Option.getD_some] at e77); go_simp; exact hK.out (.bool false) x W (by simp (decide := true) [putO, setF, upd]) hW)
      intro x9 W9 hW9
      simp only [ovl, cond_true, Array.getD_eq_getD_getElem?, List.getElem?_toArray, List.getElem?_cons_succ, List.getElem?_cons_zero, Option.getD_some, List.setIfInBounds_toArray, List.set_cons_zero, List.set_cons_succ]
      (try simp only [cond_true] at hW9)
      obtain ⟨R9, N9, hr9, h9⟩ := hW9
      have HR9 := Lib.hid hr9
      have H9 := Lib.hid h9
      clear hr9 h9
      go_wp2
      exact ⟨⟨i + 1, T', N9, by simp, by omega, HTo.out, HTr.out, ⟨_, _, HR9.out, by rw [HTr.out, List.append_nil]; exact H9.out⟩⟩, by simp [intOf]; omega⟩
    · obtain rfl : i = n := by omega
      clear hH
      go_wp2_with fail
      refine (told51_to _).mono ?_
      rintro e w7 ⟨rfl, hb7⟩
      have HB7 := Lib.hid (HH.out.below.trans (hb7.mono HH.out.below.size))
      clear hb7
      go_wp2
      go_ret
      exact ⟨rfl, HB7.out⟩

end Go.Proofs.Ytghaiplhakeahaa
