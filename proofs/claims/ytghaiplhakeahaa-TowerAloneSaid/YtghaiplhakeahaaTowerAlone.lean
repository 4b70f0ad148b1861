/- The law TowerAlone: its walk. -/
import Derived.Test.YtghaiplhakeahaaYw
namespace Go.Proofs.Ytghaiplhakeahaa
set_option linter.unusedSimpArgs false
set_option linter.unusedVariables false
open Go.RowKit Go.WideMaps Go.ChangeMaps Go.Maps

theorem Rws.below {w w' : World} {v : Value} {n sz : Nat} {E : Nat → List Value} (h : Rws w v n sz E) (hb : Below w.heap.size w w') : Rws w' v n sz E := by
  obtain ⟨ao, cap, h1, h2, h3⟩ := h
  refine ⟨ao, cap, h1, h2, h3.imp id ?_⟩
  rintro ⟨r, o, e, hlt, hc⟩
  refine ⟨r, o, e, Nat.lt_of_lt_of_le hlt hb.size, fun i hi j u hj => ?_⟩
  rw [← hc i hi j u hj]
  exact World.cell?_of_block (a := ⟨r, _, none⟩) (hb.block _ hlt)
theorem opqK {Q : Exit → Act → World → Prop} {e : Exit} {a : Act} {W : World} (S : World → Prop) (h : S W) (k : ∀ W', S W' → Q e a W') : Q e a W := k W h
theorem eqb_tt (a : Bool) : (a == a) = true := by cases a <;> rfl
set_option maxRecDepth 100000 in
set_option maxHeartbeats 8000000 in
theorem towerAlone_any (v : Value) (n : Nat) (D : Nat → DeedV) (hn : n ≤ maxLen) (dx : BitVec 64) (base : Int) (w : World) (hv : Rws w v n 12 (fun i => (D i).cells)) :
    Calls Try.prog 6 #[v, .agg #[.int .u8 (by8 dx 0), .int .u8 (by8 dx 1), .int .u8 (by8 dx 2), .int .u8 (by8 dx 3), .int .u8 (by8 dx 4), .int .u8 (by8 dx 5), .int .u8 (by8 dx 6), .int .u8 (by8 dx 7)], .int .i64 base] w fun e w' => e = .returned (.bool true) ∧ Below w.heap.size w w' := by
  have hml : n ≤ 9223372036854775807 := by unfold maxLen at hn; omega
  obtain ⟨ao, cap, rfl, hcap, -⟩ := hv.slice
  have HV := Lib.hid hv
  have HN := Lib.hid hn
  clear hv hn
  have HO := Lib.hid ((Ow.start w).key #[.int .u8 (by8 dx 0), .int .u8 (by8 dx 1), .int .u8 (by8 dx 2), .int .u8 (by8 dx 3), .int .u8 (by8 dx 4), .int .u8 (by8 dx 5), .int .u8 (by8 dx 6), .int .u8 (by8 dx 7)] 22 w.heap.size rfl)
  have HV0 := Lib.hid (HV.out.below HO.out.below)
  by_cases hf : ¬ fairP n D
  · have HF : Hid (¬ fairP n D) := hf
    clear hf
    go_enter Try.func6, Try.ntmps6
    go_wp2_with fail
    refine (fair_to _ n D HN.out _ HV0.out false (by simpa using HF.out)).mono ?_
    rintro e w1 ⟨rfl, rfl⟩
    go_wp2_with fail
    refine (told51_to _).mono ?_
    rintro e w3 ⟨rfl, hb3⟩
    have HB3 := Lib.hid (HO.out.of_below hb3).below
    clear hb3 HO
    go_wp2
    go_ret
    exact ⟨rfl, HB3.out⟩
  have hf1 : fairP n D := by simpa using hf
  have HF := Lib.hid hf1
  have h40 : n ≤ 40 := hf1.1
  clear hf hf1
  obtain ⟨h, HX⟩ : ∃ h, Hid (thintF dx = h) := ⟨_, rfl⟩
  have HOm : Hid (Omw _ w _ []) := ⟨HO.out, by simp, by simp, by simp, .nil⟩
  go_enter Try.func6, Try.ntmps6
  go_wp2_with fail
  refine (fair_to _ n D HN.out _ HV0.out true (by simpa using HF.out)).mono ?_
  rintro e w1 ⟨rfl, rfl⟩
  go_wp2_with fail
  refine (tnew_to 100 (by omega) (by omega) _ w _ [] HOm.out).mono ?_
  rintro e w2 ⟨p, B, k, rfl, O2, hP⟩
  have HO2 := Lib.hid O2
  have HP := Lib.hid (hP [])
  clear O2 hP
  go_wp2_with fail
  refine (tnew_to 100 (by omega) (by omega) _ w _ [k] HO2.out).mono ?_
  rintro e w3 ⟨q, B', k', rfl, O3, hQ⟩
  have H3 : Hid (Tw2 w3 w [⟨w.heap.size, 22, #[.int .u8 (by8 dx 0), .int .u8 (by8 dx 1), .int .u8 (by8 dx 2), .int .u8 (by8 dx 3), .int .u8 (by8 dx 4), .int .u8 (by8 dx 5), .int .u8 (by8 dx 6), .int .u8 (by8 dx 7)]⟩] [] p ⟨100, []⟩ q ⟨100, []⟩) := ⟨B, k, B', k', (O3.perm (perm_cnt fun x => by simp only [cnt_append, cnt_cons, cnt_nil] <;> omega)).permK (List.Perm.swap _ _ _), HP.out, hQ []⟩
  clear O3 hQ HP HO2 HOm HO
  go_wp2_with fail
  obtain ⟨bx, hbx⟩ : ∃ b, b = w.heap.size := ⟨_, rfl⟩
  simp only [← hbx] at H3 ⊢
  clear hbx
  go_loopw [11] (fun vi wr => ∃ (i : Nat) (T U : TWS) (X : List Blk), vi = .int .i64 i ∧ i ≤ n ∧ AlRel h i T U ∧ Tw2 wr w [⟨bx, 22, #[.int .u8 (by8 dx 0), .int .u8 (by8 dx 1), .int .u8 (by8 dx 2), .int .u8 (by8 dx 3), .int .u8 (by8 dx 4), .int .u8 (by8 dx 5), .int .u8 (by8 dx 6), .int .u8 (by8 dx 7)]⟩] X p T q U) (fun vi _ => n - (intOf vi).toNat)
  case atStart => exact ⟨0, ⟨100, []⟩, ⟨100, []⟩, [], rfl, by omega, AlRel.start h, H3.out⟩
  case round =>
    clear H3
    obtain ⟨i, T, U, X, rfl, hi, hrel, hH⟩ := hrel
    have HREL := Lib.hid hrel
    have H1 := Lib.hid hH
    clear hrel
    by_cases hlt : i < n
    · obtain ⟨r, o, rfl, hr, hcell⟩ := HV.out.elem hlt
      have hold : ∀ j u, (D i).cells[j]? = some u → wr.cell? ⟨r, o + i * 12 + j, none⟩ = some u := fun j u hj => by
        rw [← hcell j u hj]
        exact World.cell?_of_block (a := ⟨r, o + i * 12 + j, none⟩) (hH.below.block _ hr)
      have hri : r < wr.heap.size := Nat.lt_of_lt_of_le hr hH.below.size
      have hsz := HF.out.2 i hlt
      obtain ⟨d, hd⟩ : ∃ d, D i = d := ⟨_, rfl⟩
      rw [hd] at hold hsz
      obtain ⟨dr, rw_, nx, m, s⟩ := d
      have HSZ : Hid (s.size ≤ 300) := hsz
      have c0 := hold 0 _ rfl
      have c1 := hold 1 _ rfl
      have c2 := hold 2 _ rfl
      have c3 := hold 3 _ rfl
      have c4 := hold 4 _ rfl
      have c5 := hold 5 _ rfl
      have c6 := hold 6 _ rfl
      have c7 := hold 7 _ rfl
      have c8 := hold 8 _ rfl
      have c9 := hold 9 _ rfl
      have c10 := hold 10 _ rfl
      have c11 := hold 11 _ rfl
      simp only [Nat.add_zero] at c0
      clear hold hcell hd hsz
      obtain ⟨a, HA⟩ : ∃ a, Hid (madeA ⟨dr, rw_, nx, m, s⟩ = a) := ⟨_, rfl⟩
      obtain ⟨hy, HY⟩ : ∃ h, Hid (thintF nx = h) := ⟨_, rfl⟩
      have HAY : Hid (a.h = hy) := by
        show _ = _
        rw [← HA.out, ← HY.out]
        unfold madeA
        simp only
        split
        · rfl
        · split <;> rfl
      cases dr with
      | true =>
        by_cases hm : hy = h
        · obtain ⟨b, hb⟩ : ∃ b, hadT T hy = b := ⟨_, rfl⟩
          have HB := Lib.hid hb
          clear hb
          have hne : (hy == h) = true := by simp [hm]
          have HM := Lib.hid hm
          clear hm
          (have hq := hH.has (b := bx) (t := 22) (cs := #[.int .u8 (by8 dx 0), .int .u8 (by8 dx 1), .int .u8 (by8 dx 2), .int .u8 (by8 dx 3), .int .u8 (by8 dx 4), .int .u8 (by8 dx 5), .int .u8 (by8 dx 6), .int .u8 (by8 dx 7)]) (by simp)); (have x0 := hq.cell 0); (have x1 := hq.cell 1); (have x2 := hq.cell 2); (have x3 := hq.cell 3); (have x4 := hq.cell 4); (have x5 := hq.cell 5); (have x6 := hq.cell 6); (have x7 := hq.cell 7); (have lx := hq.lt); (simp only [List.getElem?_toArray, List.getElem?_cons_succ, List.getElem?_cons_zero] at x0 x1 x2 x3 x4 x5 x6 x7); clear hq
          clear hH
          have H2 := Lib.hid (H1.out.park (cs := #[.bool true, .bool rw_, .int .u8 (by8 nx 0), .int .u8 (by8 nx 1), .int .u8 (by8 nx 2), .int .u8 (by8 nx 3), .int .u8 (by8 nx 4), .int .u8 (by8 nx 5), .int .u8 (by8 nx 6), .int .u8 (by8 nx 7), .int .i64 m, .string s]) (t := 52) (b := wr.heap.size) rfl)
          go_wp2_with fail
          refine wp_region_rq (by kernel_rfl) (by kernel_rfl) (by kernel_rfl) ?_
          repeat (first
            | (refine B_skip ?_ ?_; (· rfl); (try simp only [Act.put, List.setIfInBounds_toArray, List.set_cons_zero, List.set_cons_succ]))
            | (refine B_move rfl ?_ ?_; (· rfl); (try simp only [Act.eval, Act.put, Array.getD_eq_getD_getElem?, List.getElem?_toArray, List.getElem?_cons_succ, List.getElem?_cons_zero, Option.getD_some, List.setIfInBounds_toArray, List.set_cons_zero, List.set_cons_succ]))
            | (refine B_plain ?_ ?_; (· rfl); intro K hK; go_big_quiet_op; with_reducible refine hK _ ?_; clear hK K)
            | (refine B_callX (v := ?_) (f := 19) rfl (by kernel_rfl) ?_ (fun xq => ?_) ?_; rotate_left; (· rfl); (· ((simp only [List.map_toArray, List.map_cons, List.map_nil, Act.eval, Array.getD_eq_getD_getElem?, List.getElem?_toArray, List.getElem?_cons_succ, List.getElem?_cons_zero, Option.getD_some]); with_reducible apply retB; with_reducible exact (rhint_to nx hy HY.out _))); (try simp only [Act.put, List.setIfInBounds_toArray, List.set_cons_zero, List.set_cons_succ]))
            | (refine B_callX (v := ?_) (f := 19) rfl (by kernel_rfl) ?_ (fun xq => ?_) ?_; rotate_left; (· rfl); (· ((simp only [List.map_toArray, List.map_cons, List.map_nil, Act.eval, Array.getD_eq_getD_getElem?, List.getElem?_toArray, List.getElem?_cons_succ, List.getElem?_cons_zero, Option.getD_some]); with_reducible apply retB; with_reducible exact (rhint_to dx h HX.out _))); (try simp only [Act.put, List.setIfInBounds_toArray, List.set_cons_zero, List.set_cons_succ])))
          refine B_nil ?_ rfl ?_ ?_
          · kernel_rfl
          · rfl
          rintro _ ⟨⟨g11, d11⟩, rfl⟩
          simp only [fin, Act.put, List.setIfInBounds_toArray, List.set_cons_zero, List.set_cons_succ]
          obtain ⟨bd, hbd⟩ : ∃ b, b = wr.heap.size := ⟨_, rfl⟩
          simp only [← hbd] at H2 ⊢
          clear hbd
          refine opqK (fun W => Tw2 W w [⟨bd, 52, #[.bool true, .bool rw_, .int .u8 (by8 nx 0), .int .u8 (by8 nx 1), .int .u8 (by8 nx 2), .int .u8 (by8 nx 3), .int .u8 (by8 nx 4), .int .u8 (by8 nx 5), .int .u8 (by8 nx 6), .int .u8 (by8 nx 7), .int .i64 m, .string s]⟩, ⟨bx, 22, #[.int .u8 (by8 dx 0), .int .u8 (by8 dx 1), .int .u8 (by8 dx 2), .int .u8 (by8 dx 3), .int .u8 (by8 dx 4), .int .u8 (by8 dx 5), .int .u8 (by8 dx 6), .int .u8 (by8 dx 7)]⟩] X p T q U) (H2.out.of_below (by (repeat' (first | (with_reducible exact Below.refl _ _) | (with_reducible refine bplus ?_ _ _) | (with_reducible refine balloc ?_ _) | (with_reducible refine Below.drew ?_) | (with_reducible refine bdrewN ?_ _) | (with_reducible refine Below.setCell ?_ (by go_size) _))))) ?_
          intro W4 H4'
          have H4 := Lib.hid H4'
          clear H4' H2 H1 x0 x1 x2 x3 x4 x5 x6 x7 lx c0 c1 c2 c3 c4 c5 c6 c7 c8 c9 c10 c11 hri
          (have hq := H4.out.has (b := bd) (t := 52) (cs := #[.bool true, .bool rw_, .int .u8 (by8 nx 0), .int .u8 (by8 nx 1), .int .u8 (by8 nx 2), .int .u8 (by8 nx 3), .int .u8 (by8 nx 4), .int .u8 (by8 nx 5), .int .u8 (by8 nx 6), .int .u8 (by8 nx 7), .int .i64 m, .string s]) (by simp)); (have d0 := hq.cell 0); (have d1 := hq.cell 1); (have d2 := hq.cell 2); (have d3 := hq.cell 3); (have d4 := hq.cell 4); (have d5 := hq.cell 5); (have d6 := hq.cell 6); (have d7 := hq.cell 7); (have d8 := hq.cell 8); (have d9 := hq.cell 9); (have d10 := hq.cell 10); (have d11 := hq.cell 11); (have ld := hq.lt); (simp only [List.getElem?_toArray, List.getElem?_cons_succ, List.getElem?_cons_zero] at d0 d1 d2 d3 d4 d5 d6 d7 d8 d9 d10 d11); clear hq
          go_wp2_with fail
          refine (hint_to nx hy HY.out _).mono ?_
          rintro e w5 ⟨rfl, hb5⟩
          have H5 := Lib.hid (H4.out.of_below hb5)
          clear hb5 H4 d0 d1 d2 d3 d4 d5 d6 d7 d8 d9 d10 d11 ld
          go_wp2_with fail
          refine (drop2_to HREL.out.okT hy H5.out b HB.out _ rfl).mono ?_
          rintro e w6 ⟨rfl, h6⟩
          have H6 := Lib.hid h6
          clear h6 H5
          have hbb : (b == b) = true := eqb_tt b
          (have hq := H6.out.has (b := bd) (t := 52) (cs := #[.bool true, .bool rw_, .int .u8 (by8 nx 0), .int .u8 (by8 nx 1), .int .u8 (by8 nx 2), .int .u8 (by8 nx 3), .int .u8 (by8 nx 4), .int .u8 (by8 nx 5), .int .u8 (by8 nx 6), .int .u8 (by8 nx 7), .int .i64 m, .string s]) (by simp)); (have d0 := hq.cell 0); (have d1 := hq.cell 1); (have d2 := hq.cell 2); (have d3 := hq.cell 3); (have d4 := hq.cell 4); (have d5 := hq.cell 5); (have d6 := hq.cell 6); (have d7 := hq.cell 7); (have d8 := hq.cell 8); (have d9 := hq.cell 9); (have d10 := hq.cell 10); (have d11 := hq.cell 11); (have ld := hq.lt); (simp only [List.getElem?_toArray, List.getElem?_cons_succ, List.getElem?_cons_zero] at d0 d1 d2 d3 d4 d5 d6 d7 d8 d9 d10 d11); clear hq
          have hdm := HREL.out
          rw [← HM.out] at hdm
          have HDM := Lib.hid hdm.dropMine
          clear hdm
          go_wp2_with fail
          refine (hint_to nx hy HY.out _).mono ?_
          rintro e w7 ⟨rfl, hb7⟩
          have H7 := Lib.hid (H6.out.of_below hb7)
          clear hb7 H6 d0 d1 d2 d3 d4 d5 d6 d7 d8 d9 d10 d11 ld
          go_wp2_with fail
          refine (drop2_to HREL.out.okU hy H7.out.swap b (HDM.out.1 ▸ HB.out) _ rfl).mono ?_
          rintro e w8 ⟨rfl, h8⟩
          have H8 := Lib.hid h8.swap
          clear h8 H7
          go_wp2
          exact ⟨⟨i + 1, _, _, X, by simp, by omega, HM.out ▸ HDM.out.2, Tw2.dropC (D := [_]) H8.out⟩, by simp [intOf]; omega⟩
        · obtain ⟨b, hb⟩ : ∃ b, hadT T hy = b := ⟨_, rfl⟩
          have HB := Lib.hid hb
          clear hb
          have hne : (hy == h) = false := by simpa using hm
          have HM := Lib.hid hm
          clear hm
          (have hq := hH.has (b := bx) (t := 22) (cs := #[.int .u8 (by8 dx 0), .int .u8 (by8 dx 1), .int .u8 (by8 dx 2), .int .u8 (by8 dx 3), .int .u8 (by8 dx 4), .int .u8 (by8 dx 5), .int .u8 (by8 dx 6), .int .u8 (by8 dx 7)]) (by simp)); (have x0 := hq.cell 0); (have x1 := hq.cell 1); (have x2 := hq.cell 2); (have x3 := hq.cell 3); (have x4 := hq.cell 4); (have x5 := hq.cell 5); (have x6 := hq.cell 6); (have x7 := hq.cell 7); (have lx := hq.lt); (simp only [List.getElem?_toArray, List.getElem?_cons_succ, List.getElem?_cons_zero] at x0 x1 x2 x3 x4 x5 x6 x7); clear hq
          clear hH
          have H2 := Lib.hid (H1.out.park (cs := #[.bool true, .bool rw_, .int .u8 (by8 nx 0), .int .u8 (by8 nx 1), .int .u8 (by8 nx 2), .int .u8 (by8 nx 3), .int .u8 (by8 nx 4), .int .u8 (by8 nx 5), .int .u8 (by8 nx 6), .int .u8 (by8 nx 7), .int .i64 m, .string s]) (t := 52) (b := wr.heap.size) rfl)
          go_wp2_with fail
          refine wp_region_rq (by kernel_rfl) (by kernel_rfl) (by kernel_rfl) ?_
          repeat (first
            | (refine B_skip ?_ ?_; (· rfl); (try simp only [Act.put, List.setIfInBounds_toArray, List.set_cons_zero, List.set_cons_succ]))
            | (refine B_move rfl ?_ ?_; (· rfl); (try simp only [Act.eval, Act.put, Array.getD_eq_getD_getElem?, List.getElem?_toArray, List.getElem?_cons_succ, List.getElem?_cons_zero, Option.getD_some, List.setIfInBounds_toArray, List.set_cons_zero, List.set_cons_succ]))
            | (refine B_plain ?_ ?_; (· rfl); intro K hK; go_big_quiet_op; with_reducible refine hK _ ?_; clear hK K)
            | (refine B_callX (v := ?_) (f := 19) rfl (by kernel_rfl) ?_ (fun xq => ?_) ?_; rotate_left; (· rfl); (· ((simp only [List.map_toArray, List.map_cons, List.map_nil, Act.eval, Array.getD_eq_getD_getElem?, List.getElem?_toArray, List.getElem?_cons_succ, List.getElem?_cons_zero, Option.getD_some]); with_reducible apply retB; with_reducible exact (rhint_to nx hy HY.out _))); (try simp only [Act.put, List.setIfInBounds_toArray, List.set_cons_zero, List.set_cons_succ]))
            | (refine B_callX (v := ?_) (f := 19) rfl (by kernel_rfl) ?_ (fun xq => ?_) ?_; rotate_left; (· rfl); (· ((simp only [List.map_toArray, List.map_cons, List.map_nil, Act.eval, Array.getD_eq_getD_getElem?, List.getElem?_toArray, List.getElem?_cons_succ, List.getElem?_cons_zero, Option.getD_some]); with_reducible apply retB; with_reducible exact (rhint_to dx h HX.out _))); (try simp only [Act.put, List.setIfInBounds_toArray, List.set_cons_zero, List.set_cons_succ])))
          refine B_nil ?_ rfl ?_ ?_
          · kernel_rfl
          · rfl
          rintro _ ⟨⟨g11, d11⟩, rfl⟩
          simp only [fin, Act.put, List.setIfInBounds_toArray, List.set_cons_zero, List.set_cons_succ]
          obtain ⟨bd, hbd⟩ : ∃ b, b = wr.heap.size := ⟨_, rfl⟩
          simp only [← hbd] at H2 ⊢
          clear hbd
          refine opqK (fun W => Tw2 W w [⟨bd, 52, #[.bool true, .bool rw_, .int .u8 (by8 nx 0), .int .u8 (by8 nx 1), .int .u8 (by8 nx 2), .int .u8 (by8 nx 3), .int .u8 (by8 nx 4), .int .u8 (by8 nx 5), .int .u8 (by8 nx 6), .int .u8 (by8 nx 7), .int .i64 m, .string s]⟩, ⟨bx, 22, #[.int .u8 (by8 dx 0), .int .u8 (by8 dx 1), .int .u8 (by8 dx 2), .int .u8 (by8 dx 3), .int .u8 (by8 dx 4), .int .u8 (by8 dx 5), .int .u8 (by8 dx 6), .int .u8 (by8 dx 7)]⟩] X p T q U) (H2.out.of_below (by (repeat' (first | (with_reducible exact Below.refl _ _) | (with_reducible refine bplus ?_ _ _) | (with_reducible refine balloc ?_ _) | (with_reducible refine Below.drew ?_) | (with_reducible refine bdrewN ?_ _) | (with_reducible refine Below.setCell ?_ (by go_size) _))))) ?_
          intro W4 H4'
          have H4 := Lib.hid H4'
          clear H4' H2 H1 x0 x1 x2 x3 x4 x5 x6 x7 lx c0 c1 c2 c3 c4 c5 c6 c7 c8 c9 c10 c11 hri
          (have hq := H4.out.has (b := bd) (t := 52) (cs := #[.bool true, .bool rw_, .int .u8 (by8 nx 0), .int .u8 (by8 nx 1), .int .u8 (by8 nx 2), .int .u8 (by8 nx 3), .int .u8 (by8 nx 4), .int .u8 (by8 nx 5), .int .u8 (by8 nx 6), .int .u8 (by8 nx 7), .int .i64 m, .string s]) (by simp)); (have d0 := hq.cell 0); (have d1 := hq.cell 1); (have d2 := hq.cell 2); (have d3 := hq.cell 3); (have d4 := hq.cell 4); (have d5 := hq.cell 5); (have d6 := hq.cell 6); (have d7 := hq.cell 7); (have d8 := hq.cell 8); (have d9 := hq.cell 9); (have d10 := hq.cell 10); (have d11 := hq.cell 11); (have ld := hq.lt); (simp only [List.getElem?_toArray, List.getElem?_cons_succ, List.getElem?_cons_zero] at d0 d1 d2 d3 d4 d5 d6 d7 d8 d9 d10 d11); clear hq
          go_wp2_with fail
          refine (hint_to nx hy HY.out _).mono ?_
          rintro e w5 ⟨rfl, hb5⟩
          have H5 := Lib.hid (H4.out.of_below hb5)
          clear hb5 H4 d0 d1 d2 d3 d4 d5 d6 d7 d8 d9 d10 d11 ld
          go_wp2_with fail
          refine (drop2_to HREL.out.okT hy H5.out b HB.out _ rfl).mono ?_
          rintro e w6 ⟨rfl, h6⟩
          have H6 := Lib.hid h6
          clear h6 H5
          go_wp2
          exact ⟨⟨i + 1, _, U, X, by simp, by omega, HREL.out.dropOther hy HM.out, Tw2.dropC (D := [_]) H6.out⟩, by simp [intOf]; omega⟩
      | false =>
        by_cases hm : hy = h
        · obtain ⟨E, hE⟩ : ∃ E, takeE T a = E := ⟨_, rfl⟩
          have HE := Lib.hid hE
          clear hE
          have hne : (hy == h) = true := by simp [hm]
          have HM := Lib.hid hm
          clear hm
          (have hq := hH.has (b := bx) (t := 22) (cs := #[.int .u8 (by8 dx 0), .int .u8 (by8 dx 1), .int .u8 (by8 dx 2), .int .u8 (by8 dx 3), .int .u8 (by8 dx 4), .int .u8 (by8 dx 5), .int .u8 (by8 dx 6), .int .u8 (by8 dx 7)]) (by simp)); (have x0 := hq.cell 0); (have x1 := hq.cell 1); (have x2 := hq.cell 2); (have x3 := hq.cell 3); (have x4 := hq.cell 4); (have x5 := hq.cell 5); (have x6 := hq.cell 6); (have x7 := hq.cell 7); (have lx := hq.lt); (simp only [List.getElem?_toArray, List.getElem?_cons_succ, List.getElem?_cons_zero] at x0 x1 x2 x3 x4 x5 x6 x7); clear hq
          clear hH
          have H2 := Lib.hid (H1.out.park (cs := #[.bool false, .bool rw_, .int .u8 (by8 nx 0), .int .u8 (by8 nx 1), .int .u8 (by8 nx 2), .int .u8 (by8 nx 3), .int .u8 (by8 nx 4), .int .u8 (by8 nx 5), .int .u8 (by8 nx 6), .int .u8 (by8 nx 7), .int .i64 m, .string s]) (t := 52) (b := wr.heap.size) rfl)
          go_wp2_with fail
          refine wp_region_rq (by kernel_rfl) (by kernel_rfl) (by kernel_rfl) ?_
          repeat (first
            | (refine B_skip ?_ ?_; (· rfl); (try simp only [Act.put, List.setIfInBounds_toArray, List.set_cons_zero, List.set_cons_succ]))
            | (refine B_move rfl ?_ ?_; (· rfl); (try simp only [Act.eval, Act.put, Array.getD_eq_getD_getElem?, List.getElem?_toArray, List.getElem?_cons_succ, List.getElem?_cons_zero, Option.getD_some, List.setIfInBounds_toArray, List.set_cons_zero, List.set_cons_succ]))
            | (refine B_plain ?_ ?_; (· rfl); intro K hK; go_big_quiet_op; with_reducible refine hK _ ?_; clear hK K)
            | (refine B_callX (v := ?_) (f := 19) rfl (by kernel_rfl) ?_ (fun xq => ?_) ?_; rotate_left; (· rfl); (· ((simp only [List.map_toArray, List.map_cons, List.map_nil, Act.eval, Array.getD_eq_getD_getElem?, List.getElem?_toArray, List.getElem?_cons_succ, List.getElem?_cons_zero, Option.getD_some]); with_reducible apply retB; with_reducible exact (rhint_to nx hy HY.out _))); (try simp only [Act.put, List.setIfInBounds_toArray, List.set_cons_zero, List.set_cons_succ]))
            | (refine B_callX (v := ?_) (f := 19) rfl (by kernel_rfl) ?_ (fun xq => ?_) ?_; rotate_left; (· rfl); (· ((simp only [List.map_toArray, List.map_cons, List.map_nil, Act.eval, Array.getD_eq_getD_getElem?, List.getElem?_toArray, List.getElem?_cons_succ, List.getElem?_cons_zero, Option.getD_some]); with_reducible apply retB; with_reducible exact (rhint_to dx h HX.out _))); (try simp only [Act.put, List.setIfInBounds_toArray, List.set_cons_zero, List.set_cons_succ])))
          refine B_nil ?_ rfl ?_ ?_
          · kernel_rfl
          · rfl
          rintro _ ⟨⟨g11, d11⟩, rfl⟩
          simp only [fin, Act.put, List.setIfInBounds_toArray, List.set_cons_zero, List.set_cons_succ]
          obtain ⟨bd, hbd⟩ : ∃ b, b = wr.heap.size := ⟨_, rfl⟩
          simp only [← hbd] at H2 ⊢
          clear hbd
          refine opqK (fun W => Tw2 W w [⟨bd, 52, #[.bool false, .bool rw_, .int .u8 (by8 nx 0), .int .u8 (by8 nx 1), .int .u8 (by8 nx 2), .int .u8 (by8 nx 3), .int .u8 (by8 nx 4), .int .u8 (by8 nx 5), .int .u8 (by8 nx 6), .int .u8 (by8 nx 7), .int .i64 m, .string s]⟩, ⟨bx, 22, #[.int .u8 (by8 dx 0), .int .u8 (by8 dx 1), .int .u8 (by8 dx 2), .int .u8 (by8 dx 3), .int .u8 (by8 dx 4), .int .u8 (by8 dx 5), .int .u8 (by8 dx 6), .int .u8 (by8 dx 7)]⟩] X p T q U) (H2.out.of_below (by (repeat' (first | (with_reducible exact Below.refl _ _) | (with_reducible refine bplus ?_ _ _) | (with_reducible refine balloc ?_ _) | (with_reducible refine Below.drew ?_) | (with_reducible refine bdrewN ?_ _) | (with_reducible refine Below.setCell ?_ (by go_size) _))))) ?_
          intro W4 H4'
          have H4 := Lib.hid H4'
          clear H4' H2 H1 x0 x1 x2 x3 x4 x5 x6 x7 lx c0 c1 c2 c3 c4 c5 c6 c7 c8 c9 c10 c11 hri
          (have hq := H4.out.has (b := bd) (t := 52) (cs := #[.bool false, .bool rw_, .int .u8 (by8 nx 0), .int .u8 (by8 nx 1), .int .u8 (by8 nx 2), .int .u8 (by8 nx 3), .int .u8 (by8 nx 4), .int .u8 (by8 nx 5), .int .u8 (by8 nx 6), .int .u8 (by8 nx 7), .int .i64 m, .string s]) (by simp)); (have d0 := hq.cell 0); (have d1 := hq.cell 1); (have d2 := hq.cell 2); (have d3 := hq.cell 3); (have d4 := hq.cell 4); (have d5 := hq.cell 5); (have d6 := hq.cell 6); (have d7 := hq.cell 7); (have d8 := hq.cell 8); (have d9 := hq.cell 9); (have d10 := hq.cell 10); (have d11 := hq.cell 11); (have ld := hq.lt); (simp only [List.getElem?_toArray, List.getElem?_cons_succ, List.getElem?_cons_zero] at d0 d1 d2 d3 d4 d5 d6 d7 d8 d9 d10 d11); clear hq
          go_wp2_with fail
          refine (made_to ⟨false, rw_, nx, m, s⟩ HSZ.out a HA.out _).mono ?_
          rintro e w51 ⟨rfl, hb51⟩
          have H51 := Lib.hid (H4.out.of_below hb51)
          clear hb51 H4 d0 d1 d2 d3 d4 d5 d6 d7 d8 d9 d10 d11 ld
          go_wp2_with fail
          refine (own_to a.h a.n ⟨a.l.toArray⟩ _).mono ?_
          rintro e w52 ⟨u5, rfl, hb52, hu5⟩
          have H52 := Lib.hid (H51.out.of_below hb52)
          have HU5 := Lib.hid hu5
          clear hb52 hu5 H51
          go_wp2_with fail
          refine (take2_to HREL.out.okT a.h a.n u5 a.l H52.out HU5.out E HE.out _ rfl).mono ?_
          rintro e w6 ⟨rfl, N6, h6⟩
          have H6 := Lib.hid h6
          clear h6 H52 HU5
          have hEE : ((E : Int) == (E : Int)) = true := by simp
          (have hq := H6.out.has (b := bd) (t := 52) (cs := #[.bool false, .bool rw_, .int .u8 (by8 nx 0), .int .u8 (by8 nx 1), .int .u8 (by8 nx 2), .int .u8 (by8 nx 3), .int .u8 (by8 nx 4), .int .u8 (by8 nx 5), .int .u8 (by8 nx 6), .int .u8 (by8 nx 7), .int .i64 m, .string s]) (by simp)); (have d0 := hq.cell 0); (have d1 := hq.cell 1); (have d2 := hq.cell 2); (have d3 := hq.cell 3); (have d4 := hq.cell 4); (have d5 := hq.cell 5); (have d6 := hq.cell 6); (have d7 := hq.cell 7); (have d8 := hq.cell 8); (have d9 := hq.cell 9); (have d10 := hq.cell 10); (have d11 := hq.cell 11); (have ld := hq.lt); (simp only [List.getElem?_toArray, List.getElem?_cons_succ, List.getElem?_cons_zero] at d0 d1 d2 d3 d4 d5 d6 d7 d8 d9 d10 d11); clear hq
          have HTM := Lib.hid (HREL.out.takeMine (by omega) a (HAY.out.trans HM.out))
          go_wp2_with fail
          refine (made_to ⟨false, rw_, nx, m, s⟩ HSZ.out a HA.out _).mono ?_
          rintro e w71 ⟨rfl, hb71⟩
          have H71 := Lib.hid (H6.out.of_below hb71)
          clear hb71 H6 d0 d1 d2 d3 d4 d5 d6 d7 d8 d9 d10 d11 ld
          go_wp2_with fail
          refine (own_to a.h a.n ⟨a.l.toArray⟩ _).mono ?_
          rintro e w72 ⟨u7, rfl, hb72, hu7⟩
          have H72 := Lib.hid (H71.out.of_below hb72)
          have HU7 := Lib.hid hu7
          clear hb72 hu7 H71
          go_wp2_with fail
          refine (take2_to HREL.out.okU a.h a.n u7 a.l H72.out.swap HU7.out E (HTM.out.1.trans HE.out) _ rfl).mono ?_
          rintro e w8 ⟨rfl, N8, h8⟩
          have H8 := Lib.hid h8.swap
          clear h8 H72 HU7
          go_wp2
          exact ⟨⟨i + 1, _, _, _, by simp, by omega, HTM.out.2, Tw2.dropC (D := [_]) H8.out⟩, by simp [intOf]; omega⟩
        · obtain ⟨E, hE⟩ : ∃ E, takeE T a = E := ⟨_, rfl⟩
          have HE := Lib.hid hE
          clear hE
          have hne : (hy == h) = false := by simpa using hm
          have HM := Lib.hid hm
          clear hm
          (have hq := hH.has (b := bx) (t := 22) (cs := #[.int .u8 (by8 dx 0), .int .u8 (by8 dx 1), .int .u8 (by8 dx 2), .int .u8 (by8 dx 3), .int .u8 (by8 dx 4), .int .u8 (by8 dx 5), .int .u8 (by8 dx 6), .int .u8 (by8 dx 7)]) (by simp)); (have x0 := hq.cell 0); (have x1 := hq.cell 1); (have x2 := hq.cell 2); (have x3 := hq.cell 3); (have x4 := hq.cell 4); (have x5 := hq.cell 5); (have x6 := hq.cell 6); (have x7 := hq.cell 7); (have lx := hq.lt); (simp only [List.getElem?_toArray, List.getElem?_cons_succ, List.getElem?_cons_zero] at x0 x1 x2 x3 x4 x5 x6 x7); clear hq
          clear hH
          have H2 := Lib.hid (H1.out.park (cs := #[.bool false, .bool rw_, .int .u8 (by8 nx 0), .int .u8 (by8 nx 1), .int .u8 (by8 nx 2), .int .u8 (by8 nx 3), .int .u8 (by8 nx 4), .int .u8 (by8 nx 5), .int .u8 (by8 nx 6), .int .u8 (by8 nx 7), .int .i64 m, .string s]) (t := 52) (b := wr.heap.size) rfl)
          go_wp2_with fail
          refine wp_region_rq (by kernel_rfl) (by kernel_rfl) (by kernel_rfl) ?_
          repeat (first
            | (refine B_skip ?_ ?_; (· rfl); (try simp only [Act.put, List.setIfInBounds_toArray, List.set_cons_zero, List.set_cons_succ]))
            | (refine B_move rfl ?_ ?_; (· rfl); (try simp only [Act.eval, Act.put, Array.getD_eq_getD_getElem?, List.getElem?_toArray, List.getElem?_cons_succ, List.getElem?_cons_zero, Option.getD_some, List.setIfInBounds_toArray, List.set_cons_zero, List.set_cons_succ]))
            | (refine B_plain ?_ ?_; (· rfl); intro K hK; go_big_quiet_op; with_reducible refine hK _ ?_; clear hK K)
            | (refine B_callX (v := ?_) (f := 19) rfl (by kernel_rfl) ?_ (fun xq => ?_) ?_; rotate_left; (· rfl); (· ((simp only [List.map_toArray, List.map_cons, List.map_nil, Act.eval, Array.getD_eq_getD_getElem?, List.getElem?_toArray, List.getElem?_cons_succ, List.getElem?_cons_zero, Option.getD_some]); with_reducible apply retB; with_reducible exact (rhint_to nx hy HY.out _))); (try simp only [Act.put, List.setIfInBounds_toArray, List.set_cons_zero, List.set_cons_succ]))
            | (refine B_callX (v := ?_) (f := 19) rfl (by kernel_rfl) ?_ (fun xq => ?_) ?_; rotate_left; (· rfl); (· ((simp only [List.map_toArray, List.map_cons, List.map_nil, Act.eval, Array.getD_eq_getD_getElem?, List.getElem?_toArray, List.getElem?_cons_succ, List.getElem?_cons_zero, Option.getD_some]); with_reducible apply retB; with_reducible exact (rhint_to dx h HX.out _))); (try simp only [Act.put, List.setIfInBounds_toArray, List.set_cons_zero, List.set_cons_succ])))
          refine B_nil ?_ rfl ?_ ?_
          · kernel_rfl
          · rfl
          rintro _ ⟨⟨g11, d11⟩, rfl⟩
          simp only [fin, Act.put, List.setIfInBounds_toArray, List.set_cons_zero, List.set_cons_succ]
          obtain ⟨bd, hbd⟩ : ∃ b, b = wr.heap.size := ⟨_, rfl⟩
          simp only [← hbd] at H2 ⊢
          clear hbd
          refine opqK (fun W => Tw2 W w [⟨bd, 52, #[.bool false, .bool rw_, .int .u8 (by8 nx 0), .int .u8 (by8 nx 1), .int .u8 (by8 nx 2), .int .u8 (by8 nx 3), .int .u8 (by8 nx 4), .int .u8 (by8 nx 5), .int .u8 (by8 nx 6), .int .u8 (by8 nx 7), .int .i64 m, .string s]⟩, ⟨bx, 22, #[.int .u8 (by8 dx 0), .int .u8 (by8 dx 1), .int .u8 (by8 dx 2), .int .u8 (by8 dx 3), .int .u8 (by8 dx 4), .int .u8 (by8 dx 5), .int .u8 (by8 dx 6), .int .u8 (by8 dx 7)]⟩] X p T q U) (H2.out.of_below (by (repeat' (first | (with_reducible exact Below.refl _ _) | (with_reducible refine bplus ?_ _ _) | (with_reducible refine balloc ?_ _) | (with_reducible refine Below.drew ?_) | (with_reducible refine bdrewN ?_ _) | (with_reducible refine Below.setCell ?_ (by go_size) _))))) ?_
          intro W4 H4'
          have H4 := Lib.hid H4'
          clear H4' H2 H1 x0 x1 x2 x3 x4 x5 x6 x7 lx c0 c1 c2 c3 c4 c5 c6 c7 c8 c9 c10 c11 hri
          (have hq := H4.out.has (b := bd) (t := 52) (cs := #[.bool false, .bool rw_, .int .u8 (by8 nx 0), .int .u8 (by8 nx 1), .int .u8 (by8 nx 2), .int .u8 (by8 nx 3), .int .u8 (by8 nx 4), .int .u8 (by8 nx 5), .int .u8 (by8 nx 6), .int .u8 (by8 nx 7), .int .i64 m, .string s]) (by simp)); (have d0 := hq.cell 0); (have d1 := hq.cell 1); (have d2 := hq.cell 2); (have d3 := hq.cell 3); (have d4 := hq.cell 4); (have d5 := hq.cell 5); (have d6 := hq.cell 6); (have d7 := hq.cell 7); (have d8 := hq.cell 8); (have d9 := hq.cell 9); (have d10 := hq.cell 10); (have d11 := hq.cell 11); (have ld := hq.lt); (simp only [List.getElem?_toArray, List.getElem?_cons_succ, List.getElem?_cons_zero] at d0 d1 d2 d3 d4 d5 d6 d7 d8 d9 d10 d11); clear hq
          go_wp2_with fail
          refine (made_to ⟨false, rw_, nx, m, s⟩ HSZ.out a HA.out _).mono ?_
          rintro e w51 ⟨rfl, hb51⟩
          have H51 := Lib.hid (H4.out.of_below hb51)
          clear hb51 H4 d0 d1 d2 d3 d4 d5 d6 d7 d8 d9 d10 d11 ld
          go_wp2_with fail
          refine (own_to a.h a.n ⟨a.l.toArray⟩ _).mono ?_
          rintro e w52 ⟨u5, rfl, hb52, hu5⟩
          have H52 := Lib.hid (H51.out.of_below hb52)
          have HU5 := Lib.hid hu5
          clear hb52 hu5 H51
          go_wp2_with fail
          refine (take2_to HREL.out.okT a.h a.n u5 a.l H52.out HU5.out E HE.out _ rfl).mono ?_
          rintro e w6 ⟨rfl, N6, h6⟩
          have H6 := Lib.hid h6
          clear h6 H52 HU5
          go_wp2
          exact ⟨⟨i + 1, _, U, _, by simp, by omega, HREL.out.takeOther a (by rw [HAY.out]; exact HM.out), Tw2.dropC (D := [_]) H6.out⟩, by simp [intOf]; omega⟩
    · obtain rfl : i = n := by omega
      obtain ⟨l, b, hS⟩ : ∃ l b, seeT T dx base = (l, b) := ⟨_, _, rfl⟩
      have HS := Lib.hid hS
      have HS' : Hid (seeT U dx base = (l, b)) := by
        show _ = _
        rw [← hS]
        have hh := HREL.out
        rw [← HX.out] at hh
        exact hh.see base
      (have hq := H1.out.has (b := bx) (t := 22) (cs := #[.int .u8 (by8 dx 0), .int .u8 (by8 dx 1), .int .u8 (by8 dx 2), .int .u8 (by8 dx 3), .int .u8 (by8 dx 4), .int .u8 (by8 dx 5), .int .u8 (by8 dx 6), .int .u8 (by8 dx 7)]) (by simp)); (have x0 := hq.cell 0); (have x1 := hq.cell 1); (have x2 := hq.cell 2); (have x3 := hq.cell 3); (have x4 := hq.cell 4); (have x5 := hq.cell 5); (have x6 := hq.cell 6); (have x7 := hq.cell 7); (have lx := hq.lt); (simp only [List.getElem?_toArray, List.getElem?_cons_succ, List.getElem?_cons_zero] at x0 x1 x2 x3 x4 x5 x6 x7); clear hq
      clear hS hH
      go_wp2_with fail
      refine (see2_to HREL.out.okT dx base H1.out l b HS.out).mono ?_
      rintro e w5 ⟨u5, rfl, hb5, hu5⟩
      have H5 := Lib.hid (H1.out.of_below hb5)
      have HU5 := Lib.hid hu5.bsl
      clear hb5 hu5 H1
      clear x0 x1 x2 x3 x4 x5 x6 x7 lx
      (have hq := H5.out.has (b := bx) (t := 22) (cs := #[.int .u8 (by8 dx 0), .int .u8 (by8 dx 1), .int .u8 (by8 dx 2), .int .u8 (by8 dx 3), .int .u8 (by8 dx 4), .int .u8 (by8 dx 5), .int .u8 (by8 dx 6), .int .u8 (by8 dx 7)]) (by simp)); (have x0 := hq.cell 0); (have x1 := hq.cell 1); (have x2 := hq.cell 2); (have x3 := hq.cell 3); (have x4 := hq.cell 4); (have x5 := hq.cell 5); (have x6 := hq.cell 6); (have x7 := hq.cell 7); (have lx := hq.lt); (simp only [List.getElem?_toArray, List.getElem?_cons_succ, List.getElem?_cons_zero] at x0 x1 x2 x3 x4 x5 x6 x7); clear hq
      go_wp2_with fail
      refine (see2_to HREL.out.okU dx base H5.out.swap l b HS'.out).mono ?_
      rintro e w6 ⟨u6, rfl, hb6, hu6⟩
      obtain ⟨sl, hsl⟩ : ∃ sl, ({ data := l.toArray } : ByteArray) = sl := ⟨_, rfl⟩
      have hcv1 : (convert 26 9 u5).run Try.prog w6 = .ok (.string sl) w6 := by rw [run_strT w6 u5 l (HU5.out.below hb6), hsl]
      have hcv2 : (convert 26 9 u6).run Try.prog w6 = .ok (.string sl) w6 := by rw [run_strT w6 u6 l hu6.bsl, hsl]
      have hss : (sl == sl) = true := by rw [← hsl, beqS]; simp
      have hbb : (b == b) = true := eqb_tt b
      have HB6 := Lib.hid (H5.out.of_below hb6).below
      clear hb6 hu6 H5 hsl
      clear x0 x1 x2 x3 x4 x5 x6 x7 lx
      go_wp2_with fail
      refine (told51_to _).mono ?_
      rintro e w7 ⟨rfl, hb7⟩
      have HB7 := Lib.hid (HB6.out.trans (hb7.mono HB6.out.size))
      clear hb7 HB6
      go_wp2
      go_ret
      exact ⟨rfl, HB7.out⟩

end Go.Proofs.Ytghaiplhakeahaa
