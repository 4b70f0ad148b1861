/- The law TowerBlind: its walk. -/
import Derived.Test.YtghaiplhakeahaaWf
import Derived.Test.YtghaiplhakeahaaWa
namespace Go.Proofs.Ytghaiplhakeahaa
set_option linter.unusedSimpArgs false
set_option linter.unusedVariables false
open Go.RowKit Go.WideMaps Go.ChangeMaps Go.Maps

theorem Rws.below {w w' : World} {v : Value} {n sz : Nat} {E : Nat → List Value} (h : Rws w v n sz E) (hb : Below w.heap.size w w') : Rws w' v n sz E := by
  obtain ⟨ao, cap, h1, h2, h3⟩ := h
  refine ⟨ao, cap, h1, h2, h3.imp id ?_⟩
  rintro ⟨r, o, e, hlt, hc⟩
  refine ⟨r, o, e, Nat.lt_of_lt_of_le hlt hb.size, fun i hi j u hj => ?_⟩
  rw [← hc i hi j u hj]
  exact World.cell?_of_block (a := ⟨r, _, none⟩) (hb.block _ hlt)
theorem make_zb (n : Nat) (hn : n ≤ 1000000) : ∃ M : Array Value, (∀ W : World, (Instr.makeSlice 26 (.int .i64 n) (.int .i64 n)).run Try.prog W = .ok (.slice (some ⟨W.heap.size, 0, none⟩) n n) (W.alloc (.cells M 5))) ∧ M.size = n ∧ ∀ j, j < n → ∃ c : UInt8, M[j]? = some (.int .u8 (c.toNat : Int)) := by
  have hz0 : (Try.prog.info? 5).map (fun i => i.zero) = some (some (.int .u8 0)) := by kernel_rfl
  obtain ⟨i, z, ht, hi, hz, hsz, hby, hzs, -⟩ := elt_u8
  rw [hi] at hz0
  simp only [Option.map_some, Option.some.injEq] at hz0
  have hzz : z = .int .u8 0 := by rw [hz] at hz0; exact Option.some.inj hz0
  have hM : (madeCells z.cells (n * i.size)).toList = List.replicate n (.int .u8 0) := by
    rw [hsz, Nat.mul_one, hzz]
    exact toList_madeCells_one _ _
  refine ⟨madeCells z.cells (n * i.size), fun W => ?_, ?_, fun j hj => ⟨0, ?_⟩⟩
  · have hr := run_make (P := Try.prog) (w := W) 26 5 i z ht hi hz .i64 .i64 n n (by omega) (by omega) (by rw [hby]; omega) (by omega)
    rw [show ((n : Int)).toNat = n by omega] at hr
    exact hr
  · rw [← Array.length_toList, hM, List.length_replicate]
  · rw [← Array.getElem?_toList, hM, List.getElem?_replicate, if_pos hj]
    rfl
/-- A row of bytes. -/
def Byz (cs : Array Value) (n : Nat) : Prop := cs.size = n ∧ ∀ j, j < n → ∃ c : UInt8, cs[j]? = some (.int .u8 (c.toNat : Int))
theorem Byz.set {cs : Array Value} {n : Nat} (h : Byz cs n) (k : Nat) (c : UInt8) : Byz (cs.setIfInBounds k (.int .u8 (c.toNat : Int))) n := by
  refine ⟨by simpa using h.1, fun j hj => ?_⟩
  by_cases e : k = j
  · subst e
    exact ⟨c, by rw [Array.getElem?_setIfInBounds_self_of_lt (by rw [h.1]; exact hj)]⟩
  · rw [Array.getElem?_setIfInBounds_ne e]
    exact h.2 j hj
theorem Byz.bsl {cs : Array Value} {n b : Nat} {W : World} (h : Byz cs n) (hb : HasBlk W b 5 cs) : ∃ l : List UInt8, l.length = n ∧ BSl W (.slice (some ⟨b, 0, none⟩) n n) l := by
  obtain ⟨h1, h2⟩ := h
  obtain ⟨f, hf⟩ : ∃ f : Nat → UInt8, ∀ j, j < n → cs[j]? = some (.int .u8 ((f j).toNat : Int)) := by
    refine ⟨fun j => if hj : j < n then Classical.choose (h2 j hj) else 0, fun j hj => ?_⟩
    simp only [dif_pos hj]
    exact Classical.choose_spec (h2 j hj)
  refine ⟨(List.range n).map f, by simp, ?_⟩
  have hl : ((List.range n).map f).length = n := by simp
  refine ⟨some ⟨b, 0, none⟩, n, by rw [hl], ⟨by rw [hl]; exact Nat.le_refl _, fun h => by cases h⟩, .inr ⟨b, 0, rfl, hb.lt, fun i hi => ?_⟩⟩
  rw [hl] at hi
  rw [hb.cell, Nat.zero_add, hf i hi]
  simp [List.getD_eq_getElem?_getD, hi]
theorem has2_to {p q : Nat} {T U : TWS} (hT : TOk T) {w w0 : World} {C X : List Blk} (H : Tw2 w w0 C X p T q U) :
    Calls Try.prog 37 #[tptr p] w fun e w' => ∃ u, e = .returned u ∧ Below w.heap.size w w' ∧ Own 27 8 w.heap.size T.all.length (dall (hintsT T)) u w' := by
  obtain ⟨B', k', hU, H1⟩ := H.fst
  exact thas_to p T hT w w0 _ X _ H1
theorem size2_to {p q : Nat} {T U : TWS} (hT : TOk T) {w w0 : World} {C X : List Blk} (H : Tw2 w w0 C X p T q U) (s : Nat) (hs : sizeT T = s) :
    Calls Try.prog 36 #[tptr p] w fun e w' => e = .returned (.int .i64 s) ∧ Below w.heap.size w w' := by
  obtain ⟨B', k', hU, H1⟩ := H.fst
  exact tsize_to p T hT w w0 _ X _ H1 s hs
theorem Tw2.set {w w0 : World} {C X : List Blk} {p q : Nat} {T U : TWS} {b : Nat} {t : TypeId} {cs : Array Value} (h : Tw2 w w0 (⟨b, t, cs⟩ :: C) X p T q U) (i : Nat) (v : Value) : Tw2 (w.setCell ⟨b, i, none⟩ v) w0 (⟨b, t, cs.setIfInBounds i v⟩ :: C) X p T q U := by
  obtain ⟨B, k, B', k', O, h1, h2⟩ := h
  have O1 : Omw w w0 (⟨b, t, cs⟩ :: (B ++ (B' ++ (C ++ X)))) [k, k'] := O.perm (perm_cnt fun x => by simp only [cnt_append, cnt_cons, cnt_nil] <;> omega)
  exact ⟨B, k, B', k', (O1.set i v).perm (perm_cnt fun x => by simp only [cnt_append, cnt_cons, cnt_nil] <;> omega), h1, h2⟩
theorem Tw2.permC2 {w w0 : World} {C C' X : List Blk} {p o : Nat} {T U : TWS} (h : Tw2 w w0 C X p T o U) (hC : C.Perm C') : Tw2 w w0 C' X p T o U := by
  obtain ⟨B, k, B', k', O, h1, h2⟩ := h
  exact ⟨B, k, B', k', O.perm (((hC.append_right X).append_left B').append_left B), h1, h2⟩
theorem Tw2.dropC1 {w w0 : World} {C X : List Blk} {x : Blk} {p o : Nat} {T U : TWS} (h : Tw2 w w0 (x :: C) X p T o U) : Tw2 w w0 C X p T o U := Tw2.dropC (D := [x]) h
/-- Its cells, of elements of several cells each. -/
theorem Own.dgs {base n : Nat} {xs : List (BitVec 64)} {u : Value} {W : World} (h : Own 27 8 base n (dall xs) u W) (hn : xs.length = n) : ∃ ao cap, u = .slice ao n cap ∧ n ≤ cap ∧ (0 < n → ∃ r, ao = some ⟨r, 0, none⟩ ∧ r < W.heap.size ∧ ∀ i j, i < n → j < 8 → W.cell? ⟨r, i * 8 + j, none⟩ = some (.int .u8 (by8 (xs.getD i 0) j))) := by
  obtain ⟨ao, cap, rfl, h1, h2⟩ := h.cel
  refine ⟨ao, cap, rfl, h1, fun h0 => ?_⟩
  obtain ⟨r, rfl, h3, h4⟩ := h2 h0
  exact ⟨r, rfl, h3, fun i j hi hj => h4 _ _ (dall_get xs i (by omega) j hj)⟩
set_option maxRecDepth 100000 in
set_option maxHeartbeats 8000000 in
theorem towerBlind_any (r : Int) (hr : 0 ≤ r ∧ r ≤ 255) (v : Value) (n : Nat) (D : Nat → DeedV) (hn : n ≤ maxLen) (u : Value) (ol : List UInt8) (hol : ol.length ≤ maxLen) (w : World) (hv : Rws w v n 12 (fun i => (D i).cells)) (hu : BSl w u ol) :
    Calls Try.prog 9 #[.int .u8 r, v, u] w fun e w' => e = .returned (.bool true) ∧ Below w.heap.size w w' := by
  have hml : n ≤ 9223372036854775807 := by unfold maxLen at hn; omega
  have hol9 : ol.length ≤ 9223372036854775807 := by unfold maxLen at hol; omega
  obtain ⟨ao, cap, rfl, hcap, -⟩ := hv.slice
  obtain ⟨au, cu, rfl, hcu, hucell⟩ := id hu
  have HV := Lib.hid hv
  have HU := Lib.hid hu
  have HN := Lib.hid hn
  clear hv hn hol hu
  by_cases hf : ¬ fairP n D
  · have HF : Hid (¬ fairP n D) := hf
    clear hf
    go_enter Try.func9, Try.ntmps9
    go_wp2_with fail
    refine (fair_to _ n D HN.out _ HV.out false (by simpa using HF.out)).mono ?_
    rintro e w1 ⟨rfl, rfl⟩
    go_wp2_with fail
    refine (told51_to _).mono ?_
    rintro e w3 ⟨rfl, hb3⟩
    have HB3 := Lib.hid hb3
    clear hb3
    go_wp2
    go_ret
    exact ⟨rfl, HB3.out⟩
  have hf1 : fairP n D := by simpa using hf
  have HF := Lib.hid hf1
  have h40 : n ≤ 40 := hf1.1
  clear hf hf1
  by_cases h0 : ol.length = 0
  · have hd0 : ((ol.length : Int) == 0) = true := by simp [h0]
    go_enter Try.func9, Try.ntmps9
    go_wp2_with fail
    refine (fair_to _ n D HN.out _ HV.out true (by simpa using HF.out)).mono ?_
    rintro e w1 ⟨rfl, rfl⟩
    go_wp2_with fail
    refine (told51_to _).mono ?_
    rintro e w3 ⟨rfl, hb3⟩
    have HB3 := Lib.hid hb3
    clear hb3
    go_wp2
    go_ret
    exact ⟨rfl, HB3.out⟩
  have hd0 : ((ol.length : Int) == 0) = false := by rw [beq_eq_false_iff_ne]; omega
  obtain ⟨k8, hk8, hk7⟩ : ∃ k8 : Nat, r.tmod 8 = (k8 : Int) ∧ k8 ≤ 7 := ⟨(r.tmod 8).toNat, by rw [Int.tmod_eq_emod_of_nonneg hr.1]; omega, by rw [Int.tmod_eq_emod_of_nonneg hr.1]; omega⟩
  obtain ⟨k, hk⟩ : ∃ k : Nat, (1 : Int) + (k8 : Int) = (k : Int) := ⟨1 + k8, by omega⟩
  have hk1 : 1 ≤ k := by omega
  have hk2 : k ≤ 8 := by omega
  obtain ⟨hr0, hr1⟩ := hr
  have HOm : Hid (Omw w w [] []) := ⟨Ow.start w, by simp, by simp, by simp, .nil⟩
  go_enter Try.func9, Try.ntmps9
  go_wp2_with fail
  refine (fair_to _ n D HN.out _ HV.out true (by simpa using HF.out)).mono ?_
  rintro e w1 ⟨rfl, rfl⟩
  go_wp2_with fail
  refine (tnew_to k (by omega) (by omega) _ w1 _ [] HOm.out).mono ?_
  rintro e w2 ⟨p, B, kk, rfl, O2, hP⟩
  have HO2 := Lib.hid O2
  have HP := Lib.hid (hP [])
  clear O2 hP
  go_wp2_with fail
  refine (tnew_to k (by omega) (by omega) _ w1 _ [kk] HO2.out).mono ?_
  rintro e w3 ⟨q, B', k', rfl, O3, hQ⟩
  have H3 : Hid (Tw2 w3 w1 [] [] p ⟨k, []⟩ q ⟨k, []⟩) := ⟨B, kk, B', k', (O3.perm (perm_cnt fun x => by simp only [cnt_append, cnt_cons, cnt_nil] <;> omega)).permK (List.Perm.swap _ _ _), HP.out, hQ []⟩
  clear O3 hQ HP HO2 HOm
  go_wp2_with fail
  go_loopw [11] (fun vi wr => ∃ (i : Nat) (T U : TWS) (X : List Blk), vi = .int .i64 i ∧ i ≤ n ∧ Sim T U ∧ Tw2 wr w1 [] X p T q U) (fun vi _ => n - (intOf vi).toNat)
  case atStart => exact ⟨0, ⟨k, []⟩, ⟨k, []⟩, [], rfl, by omega, Sim.start k (by omega), H3.out⟩
  case round =>
    clear H3
    obtain ⟨i, T, U, X, rfl, hi, hsim, hH⟩ := hrel
    have HSIM := Lib.hid hsim
    have H1 := Lib.hid hH
    clear hsim
    by_cases hlt : i < n
    · obtain ⟨rr, o, rfl, hrr, hcell⟩ := HV.out.elem hlt
      have hold : ∀ j u, (D i).cells[j]? = some u → wr.cell? ⟨rr, o + i * 12 + j, none⟩ = some u := fun j u hj => by
        rw [← hcell j u hj]
        exact World.cell?_of_block (a := ⟨rr, o + i * 12 + j, none⟩) (hH.below.block _ hrr)
      have hri : rr < wr.heap.size := Nat.lt_of_lt_of_le hrr hH.below.size
      have hsz := HF.out.2 i hlt
      obtain ⟨d, hd⟩ : ∃ d, D i = d := ⟨_, rfl⟩
      rw [hd] at hold hsz
      obtain ⟨dr, rw_, nx, m, s⟩ := d
      have HSZ : Hid (s.size ≤ 300) := hsz
      have hs3 : s.size ≤ 300 := hsz
      have c0 := hold 0 _ rfl
      have c1 := hold 1 _ rfl
      have c2 := hold 2 _ rfl
      have c3 := hold 3 _ rfl
      have c4 := hold 4 _ rfl
      have c5 := hold 5 _ rfl
      have c6 := hold 6 _ rfl
      have c7 := hold 7 _ rfl
      have c8 := hold 8 _ rfl
      have c9 := hold 9 _ rfl
      have c10 := hold 10 _ rfl
      have c11 := hold 11 _ rfl
      simp only [Nat.add_zero] at c0
      clear hold hcell hd hsz hH hrr
      cases dr with
      | true =>
        obtain ⟨h, HX⟩ : ∃ h, Hid (thintF nx = h) := ⟨_, rfl⟩
        obtain ⟨b, HB1⟩ : ∃ b, Hid (hadT T h = b) := ⟨_, rfl⟩
        have HB2 : Hid (hadT U h = b) := by show _ = _; rw [← HSIM.out.had h]; exact HB1.out
        have hbn : (b != b) = false := by cases b <;> rfl
        have hbb : (b == b) = true := by cases b <;> rfl
        have H2 := Lib.hid (H1.out.park (cs := #[.bool true, .bool rw_, .int .u8 (by8 nx 0), .int .u8 (by8 nx 1), .int .u8 (by8 nx 2), .int .u8 (by8 nx 3), .int .u8 (by8 nx 4), .int .u8 (by8 nx 5), .int .u8 (by8 nx 6), .int .u8 (by8 nx 7), .int .i64 m, .string s]) (t := 52) (b := wr.heap.size) rfl)
        go_wp2_with fail
        obtain ⟨bd, hbd⟩ : ∃ b, b = wr.heap.size := ⟨_, rfl⟩
        simp only [← hbd] at H2 ⊢
        clear hbd H1 c0 c1 c2 c3 c4 c5 c6 c7 c8 c9 c10 c11 hri
        refine wp_region_o2 [70, 71, 72, 73, 74, 75, 76, 77, 78, 79, 80] (fun L (_ : Unit) => [(L 0, 70, tptr p), (L 1, 71, .pointer (some ⟨bd, 2, none⟩)), (L 2, 72, .agg #[.int .u8 (by8 nx 0), .int .u8 (by8 nx 1), .int .u8 (by8 nx 2), .int .u8 (by8 nx 3), .int .u8 (by8 nx 4), .int .u8 (by8 nx 5), .int .u8 (by8 nx 6), .int .u8 (by8 nx 7)]), (L 3, 73, .agg #[.int .u8 (by8 h 0), .int .u8 (by8 h 1), .int .u8 (by8 h 2), .int .u8 (by8 h 3), .int .u8 (by8 h 4), .int .u8 (by8 h 5), .int .u8 (by8 h 6), .int .u8 (by8 h 7)]), (L 4, 74, .bool b), (L 5, 75, tptr q), (L 6, 76, .pointer (some ⟨bd, 2, none⟩)), (L 7, 77, .agg #[.int .u8 (by8 nx 0), .int .u8 (by8 nx 1), .int .u8 (by8 nx 2), .int .u8 (by8 nx 3), .int .u8 (by8 nx 4), .int .u8 (by8 nx 5), .int .u8 (by8 nx 6), .int .u8 (by8 nx 7)]), (L 8, 78, .agg #[.int .u8 (by8 h 0), .int .u8 (by8 h 1), .int .u8 (by8 h 2), .int .u8 (by8 h 3), .int .u8 (by8 h 4), .int .u8 (by8 h 5), .int .u8 (by8 h 6), .int .u8 (by8 h 7)]), (L 9, 79, .bool b), (L 10, 80, .bool false)])
          (fun L _ W => Tw2 W w1 [⟨bd, 52, #[.bool true, .bool rw_, .int .u8 (by8 nx 0), .int .u8 (by8 nx 1), .int .u8 (by8 nx 2), .int .u8 (by8 nx 3), .int .u8 (by8 nx 4), .int .u8 (by8 nx 5), .int .u8 (by8 nx 6), .int .u8 (by8 nx 7), .int .i64 m, .string s]⟩] X p (bif L 4 then dropT T h else T) q (bif L 9 then dropT U h else U)) () (by kernel_rfl) (by kernel_rfl) 150 (by rfl) (fun _ _ => rfl) (by kernel_rfl) (by kernel_rfl) (by kernel_rfl) (by rfl) (by simpa using H2.out.of_below (Below.refl _ _).drew) ?_ ⟨?_, ?_, ?_, ?_, ?_, ?_, ?_, ?_, ?_, ?_, ?_, trivial⟩
        rotate_left
        · (intro L x W hW hC hL hd B K hB hK; (try simp [depsB, Region.binds] at hd); (try simp only [Nat.reduceAdd] at hK hL); (have e7 := hB.out 7); (simp (decide := true) only [look, if_true, if_false, hd, cond_true, cond_false, Array.getD_eq_getD_getElem?, List.getElem?_toArray, List.getElem?_cons_succ, List.getElem?_cons_zero, Option.getD_some] at e7); go_simp; exact hK.out (tptr p) () W (by simp (decide := true) [putO, setF, upd]) hW)
        · (intro L x W hW hC hL hd B K hB hK; (try simp [depsB, Region.binds] at hd); (try simp only [Nat.reduceAdd] at hK hL); (have e12 := hB.out 12); (simp (decide := true) only [look, if_true, if_false, hd, cond_true, cond_false, Array.getD_eq_getD_getElem?, List.getElem?_toArray, List.getElem?_cons_succ, List.getElem?_cons_zero, Option.getD_some] at e12); go_simp; exact hK.out (.pointer (some ⟨bd, 2, none⟩)) () W (by simp (decide := true) [putO, setF, upd]) hW)
        · (intro L x W hW hC hL hd B K hB hK; (try simp [depsB, Region.binds] at hd); (try simp only [Nat.reduceAdd] at hK hL); (have e71 := hB.out 71); (simp (decide := true) only [look, if_true, if_false, hd, cond_true, cond_false, Array.getD_eq_getD_getElem?, List.getElem?_toArray, List.getElem?_cons_succ, List.getElem?_cons_zero, Option.getD_some] at e71); (have hq := hW.has (b := bd) (t := 52) (cs := #[.bool true, .bool rw_, .int .u8 (by8 nx 0), .int .u8 (by8 nx 1), .int .u8 (by8 nx 2), .int .u8 (by8 nx 3), .int .u8 (by8 nx 4), .int .u8 (by8 nx 5), .int .u8 (by8 nx 6), .int .u8 (by8 nx 7), .int .i64 m, .string s]) (by simp)); (have q0 := hq.cell 0); (have q1 := hq.cell 1); (have q2 := hq.cell 2); (have q3 := hq.cell 3); (have q4 := hq.cell 4); (have q5 := hq.cell 5); (have q6 := hq.cell 6); (have q7 := hq.cell 7); (have q8 := hq.cell 8); (have q9 := hq.cell 9); (have q10 := hq.cell 10); (have q11 := hq.cell 11); (have lq := hq.lt); (simp only [List.getElem?_toArray, List.getElem?_cons_succ, List.getElem?_cons_zero] at q0 q1 q2 q3 q4 q5 q6 q7 q8 q9 q10 q11); clear hq; go_simp; exact hK.out (.agg #[.int .u8 (by8 nx 0), .int .u8 (by8 nx 1), .int .u8 (by8 nx 2), .int .u8 (by8 nx 3), .int .u8 (by8 nx 4), .int .u8 (by8 nx 5), .int .u8 (by8 nx 6), .int .u8 (by8 nx 7)]) () W (by simp (decide := true) [putO, setF, upd]) hW)
        · intro L x W hW hC hL hd B K hB hK; (try simp [depsB, Region.binds] at hd); (try simp only [Nat.reduceAdd] at hK hL)
          (have e72 := hB.out 72); (simp (decide := true) only [look, if_true, if_false, hd, cond_true, cond_false, Array.getD_eq_getD_getElem?, List.getElem?_toArray, List.getElem?_cons_succ, List.getElem?_cons_zero, Option.getD_some] at e72)
          refine wp_call_in 18 (by rfl) (by kernel_rfl) #[.agg #[.int .u8 (by8 nx 0), .int .u8 (by8 nx 1), .int .u8 (by8 nx 2), .int .u8 (by8 nx 3), .int .u8 (by8 nx 4), .int .u8 (by8 nx 5), .int .u8 (by8 nx 6), .int .u8 (by8 nx 7)]] (by simp [Act.eval, e72]) ((hint_to nx h HX.out W).mono ?_)
          rintro e W4 ⟨rfl, hb4⟩
          refine ⟨_, rfl, ?_⟩
          exact hK.out (.agg #[.int .u8 (by8 h 0), .int .u8 (by8 h 1), .int .u8 (by8 h 2), .int .u8 (by8 h 3), .int .u8 (by8 h 4), .int .u8 (by8 h 5), .int .u8 (by8 h 6), .int .u8 (by8 h 7)]) () W4 (by simp (decide := true) [putO, setF, upd]) (by simpa [upd] using hW.of_below hb4)
        · intro L x W hW hC hL hd B K hB hK; (try simp [depsB, Region.binds] at hd); (try simp only [Nat.reduceAdd] at hK hL)
          (have e70 := hB.out 70); (simp (decide := true) only [look, if_true, if_false, hd, cond_true, cond_false, Array.getD_eq_getD_getElem?, List.getElem?_toArray, List.getElem?_cons_succ, List.getElem?_cons_zero, Option.getD_some] at e70); (have e73 := hB.out 73); (simp (decide := true) only [look, if_true, if_false, hd, cond_true, cond_false, Array.getD_eq_getD_getElem?, List.getElem?_toArray, List.getElem?_cons_succ, List.getElem?_cons_zero, Option.getD_some] at e73)
          have h8 : L 8 = false := by cases hl : L 8 with | false => rfl | true => have hx := hC 8 _ rfl hl; simp [depsB, Region.binds, hL] at hx
          have h9 : L 9 = false := by cases hl : L 9 with | false => rfl | true => have hx := hC 9 _ rfl hl; simp [depsB, Region.binds, h8] at hx
          simp only [hL, h9, cond_false] at hW
          refine wp_call_in 24 (by rfl) (by kernel_rfl) #[tptr p, .agg #[.int .u8 (by8 h 0), .int .u8 (by8 h 1), .int .u8 (by8 h 2), .int .u8 (by8 h 3), .int .u8 (by8 h 4), .int .u8 (by8 h 5), .int .u8 (by8 h 6), .int .u8 (by8 h 7)]] (by simp [Act.eval, e70, e73]) ((drop2_to HSIM.out.okT h hW b HB1.out _ rfl).mono ?_)
          rintro e W4 ⟨rfl, h4⟩
          refine ⟨_, rfl, ?_⟩
          exact hK.out (.bool b) () W4 (by simp (decide := true) [putO, setF, upd]) (by simpa [upd, h9] using h4)
        · (intro L x W hW hC hL hd B K hB hK; (try simp [depsB, Region.binds] at hd); (try simp only [Nat.reduceAdd] at hK hL); (have e9 := hB.out 9); (simp (decide := true) only [look, if_true, if_false, hd, cond_true, cond_false, Array.getD_eq_getD_getElem?, List.getElem?_toArray, List.getElem?_cons_succ, List.getElem?_cons_zero, Option.getD_some] at e9); go_simp; exact hK.out (tptr q) () W (by simp (decide := true) [putO, setF, upd]) hW)
        · (intro L x W hW hC hL hd B K hB hK; (try simp [depsB, Region.binds] at hd); (try simp only [Nat.reduceAdd] at hK hL); (have e12 := hB.out 12); (simp (decide := true) only [look, if_true, if_false, hd, cond_true, cond_false, Array.getD_eq_getD_getElem?, List.getElem?_toArray, List.getElem?_cons_succ, List.getElem?_cons_zero, Option.getD_some] at e12); go_simp; exact hK.out (.pointer (some ⟨bd, 2, none⟩)) () W (by simp (decide := true) [putO, setF, upd]) hW)
        · (intro L x W hW hC hL hd B K hB hK; (try simp [depsB, Region.binds] at hd); (try simp only [Nat.reduceAdd] at hK hL); (have e76 := hB.out 76); (simp (decide := true) only [look, if_true, if_false, hd, cond_true, cond_false, Array.getD_eq_getD_getElem?, List.getElem?_toArray, List.getElem?_cons_succ, List.getElem?_cons_zero, Option.getD_some] at e76); (have hq := hW.has (b := bd) (t := 52) (cs := #[.bool true, .bool rw_, .int .u8 (by8 nx 0), .int .u8 (by8 nx 1), .int .u8 (by8 nx 2), .int .u8 (by8 nx 3), .int .u8 (by8 nx 4), .int .u8 (by8 nx 5), .int .u8 (by8 nx 6), .int .u8 (by8 nx 7), .int .i64 m, .string s]) (by simp)); (have q0 := hq.cell 0); (have q1 := hq.cell 1); (have q2 := hq.cell 2); (have q3 := hq.cell 3); (have q4 := hq.cell 4); (have q5 := hq.cell 5); (have q6 := hq.cell 6); (have q7 := hq.cell 7); (have q8 := hq.cell 8); (have q9 := hq.cell 9); (have q10 := hq.cell 10); (have q11 := hq.cell 11); (have lq := hq.lt); (simp only [List.getElem?_toArray, List.getElem?_cons_succ, List.getElem?_cons_zero] at q0 q1 q2 q3 q4 q5 q6 q7 q8 q9 q10 q11); clear hq; go_simp; exact hK.out (.agg #[.int .u8 (by8 nx 0), .int .u8 (by8 nx 1), .int .u8 (by8 nx 2), .int .u8 (by8 nx 3), .int .u8 (by8 nx 4), .int .u8 (by8 nx 5), .int .u8 (by8 nx 6), .int .u8 (by8 nx 7)]) () W (by simp (decide := true) [putO, setF, upd]) hW)
        · intro L x W hW hC hL hd B K hB hK; (try simp [depsB, Region.binds] at hd); (try simp only [Nat.reduceAdd] at hK hL)
          (have e77 := hB.out 77); (simp (decide := true) only [look, if_true, if_false, hd, cond_true, cond_false, Array.getD_eq_getD_getElem?, List.getElem?_toArray, List.getElem?_cons_succ, List.getElem?_cons_zero, Option.getD_some] at e77)
          refine wp_call_in 18 (by rfl) (by kernel_rfl) #[.agg #[.int .u8 (by8 nx 0), .int .u8 (by8 nx 1), .int .u8 (by8 nx 2), .int .u8 (by8 nx 3), .int .u8 (by8 nx 4), .int .u8 (by8 nx 5), .int .u8 (by8 nx 6), .int .u8 (by8 nx 7)]] (by simp [Act.eval, e77]) ((hint_to nx h HX.out W).mono ?_)
          rintro e W4 ⟨rfl, hb4⟩
          refine ⟨_, rfl, ?_⟩
          exact hK.out (.agg #[.int .u8 (by8 h 0), .int .u8 (by8 h 1), .int .u8 (by8 h 2), .int .u8 (by8 h 3), .int .u8 (by8 h 4), .int .u8 (by8 h 5), .int .u8 (by8 h 6), .int .u8 (by8 h 7)]) () W4 (by simp (decide := true) [putO, setF, upd]) (by simpa [upd] using hW.of_below hb4)
        · intro L x W hW hC hL hd B K hB hK; (try simp [depsB, Region.binds] at hd); (try simp only [Nat.reduceAdd] at hK hL)
          (have e75 := hB.out 75); (simp (decide := true) only [look, if_true, if_false, hd, cond_true, cond_false, Array.getD_eq_getD_getElem?, List.getElem?_toArray, List.getElem?_cons_succ, List.getElem?_cons_zero, Option.getD_some] at e75); (have e78 := hB.out 78); (simp (decide := true) only [look, if_true, if_false, hd, cond_true, cond_false, Array.getD_eq_getD_getElem?, List.getElem?_toArray, List.getElem?_cons_succ, List.getElem?_cons_zero, Option.getD_some] at e78)
          have h8' := hC 8 _ rfl (by simp only [hd])
          simp [depsB, Region.binds] at h8'
          have h4 : L 4 = true := by simp only [h8']
          simp only [hL, h4, cond_false, cond_true] at hW
          refine wp_call_in 24 (by rfl) (by kernel_rfl) #[tptr q, .agg #[.int .u8 (by8 h 0), .int .u8 (by8 h 1), .int .u8 (by8 h 2), .int .u8 (by8 h 3), .int .u8 (by8 h 4), .int .u8 (by8 h 5), .int .u8 (by8 h 6), .int .u8 (by8 h 7)]] (by simp [Act.eval, e75, e78]) ((drop2_to HSIM.out.okU h hW.swap b HB2.out _ rfl).mono ?_)
          rintro e W4 ⟨rfl, h5⟩
          refine ⟨_, rfl, ?_⟩
          exact hK.out (.bool b) () W4 (by simp (decide := true) [putO, setF, upd]) (by simpa [upd, h4] using h5.swap)
        · (intro L x W hW hC hL hd B K hB hK; (try simp [depsB, Region.binds] at hd); (try simp only [Nat.reduceAdd] at hK hL); (have e74 := hB.out 74); (simp (decide := true) only [look, if_true, if_false, hd, cond_true, cond_false, Array.getD_eq_getD_getElem?, List.getElem?_toArray, List.getElem?_cons_succ, List.getElem?_cons_zero, Option.getD_some] at e74); (have e79 := hB.out 79); (simp (decide := true) only [look, if_true, if_false, hd, cond_true, cond_false, Array.getD_eq_getD_getElem?, List.getElem?_toArray, List.getElem?_cons_succ, List.getElem?_cons_zero, Option.getD_some] at e79); go_simp; exact hK.out (.bool false) () W (by simp (decide := true) [putO, setF, upd]) hW)
        intro _ W9 hW9
        simp only [ovl, cond_true, Array.getD_eq_getD_getElem?, List.getElem?_toArray, List.getElem?_cons_succ, List.getElem?_cons_zero, Option.getD_some, List.setIfInBounds_toArray, List.set_cons_zero, List.set_cons_succ]
        (try simp only [cond_true] at hW9)
        have H9 := Lib.hid hW9
        clear hW9 H2
        go_wp2
        exact ⟨⟨i + 1, _, _, X, by simp, by omega, HSIM.out.drop h, Tw2.dropC (D := [_]) H9.out⟩, by simp [intOf]; omega⟩
      | false =>
        obtain ⟨sn, hsn⟩ : ∃ sn, s.size = sn := ⟨_, rfl⟩
        have hsn3 : sn ≤ 300 := by omega
        obtain ⟨M0, hmk, hM1, hM2⟩ := make_zb sn (by omega)
        have HBY0 : Hid (Byz M0 sn) := ⟨hM1, hM2⟩
        have HSN := Lib.hid hsn
        have H2 := Lib.hid ((H1.out.park (cs := #[.bool false, .bool rw_, .int .u8 (by8 nx 0), .int .u8 (by8 nx 1), .int .u8 (by8 nx 2), .int .u8 (by8 nx 3), .int .u8 (by8 nx 4), .int .u8 (by8 nx 5), .int .u8 (by8 nx 6), .int .u8 (by8 nx 7), .int .i64 m, .string s]) (t := 52) (b := wr.heap.size) rfl).park (cs := M0) (t := 5) (b := wr.heap.size + 1) (by simp))
        clear hM1 hM2
        go_wp2_with fail
        obtain ⟨bd, hbd⟩ : ∃ b, b = wr.heap.size := ⟨_, rfl⟩
        obtain ⟨bs, hbs⟩ : ∃ b, b = wr.heap.size + 1 := ⟨_, rfl⟩
        simp only [← hbs] at H2 ⊢
        simp only [← hbd] at H2 ⊢
        clear hbd hbs H1 c0 c1 c2 c3 c4 c5 c6 c7 c8 c9 c10 c11 hri hmk
        go_loopw [14] (fun vk wx => ∃ (kk : Nat) (cx : Array Value), vk = .int .i64 kk ∧ kk ≤ sn ∧ Byz cx sn ∧ Tw2 wx w1 (⟨bs, 5, cx⟩ :: [⟨bd, 52, #[.bool false, .bool rw_, .int .u8 (by8 nx 0), .int .u8 (by8 nx 1), .int .u8 (by8 nx 2), .int .u8 (by8 nx 3), .int .u8 (by8 nx 4), .int .u8 (by8 nx 5), .int .u8 (by8 nx 6), .int .u8 (by8 nx 7), .int .i64 m, .string s]⟩]) X p T q U) (fun vk _ => sn - (intOf vk).toNat)
        case atStart => exact ⟨0, M0, rfl, by omega, HBY0.out, H2.out⟩
        case round =>
          clear H2 HBY0
          obtain ⟨kk, cx, rfl, hkk, hby, hz⟩ := hrel
          have HBY := Lib.hid hby
          have HZ := Lib.hid hz
          by_cases hlk : kk < sn
          · obtain ⟨z, hz1, hz2⟩ : ∃ z : Nat, ((i : Int) + (kk : Int)).tmod (ol.length : Int) = (z : Int) ∧ z < ol.length := ⟨(i + kk) % ol.length, by rw [Int.tmod_eq_emod_of_nonneg (by omega)]; push_cast; rfl, Nat.mod_lt _ (by omega)⟩
            obtain ⟨ru, ou, hau, hru, hcu2⟩ := (show ∃ r o, au = some ⟨r, o, none⟩ ∧ r < w1.heap.size ∧ ∀ i, i < ol.length → w1.cell? ⟨r, o + i, none⟩ = some (.int .u8 ((ol.getD i 0).toNat : Int)) from hucell.resolve_left (by omega))
            subst hau
            have cz : wr.cell? ⟨ru, ou + z, none⟩ = some (.int .u8 ((ol.getD z 0).toNat : Int)) := by rw [← hcu2 z hz2]; exact World.cell?_of_block (a := ⟨ru, ou + z, none⟩) (hz.below.block _ hru)
            have lz : ru < wr.heap.size := Nat.lt_of_lt_of_le hru hz.below.size
            have hq := hz.has (b := bs) (t := 5) (cs := cx) (by simp)
            have lb := hq.lt
            obtain ⟨c9, hc9⟩ := hby.2 kk hlk
            have cb : wr.cell? ⟨bs, kk, none⟩ = some (.int .u8 (c9.toNat : Int)) := by rw [hq.cell, hc9]
            have fb := hq.frozen kk
            obtain ⟨zb, hzb⟩ : ∃ zb : UInt8, ol.getD z 0 = zb := ⟨_, rfl⟩
            rw [hzb] at cz
            clear hq hby hz hc9 hcu2 hzb
            go_wp2
            exact ⟨⟨kk + 1, _, by simp, by omega, HBY.out.set kk zb, HZ.out.set kk _⟩, by simp [intOf]; omega⟩
          · obtain rfl : kk = sn := by omega
            obtain ⟨l', hl', hbl'⟩ := hby.bsl (hz.has (b := bs) (t := 5) (cs := cx) (by simp))
            obtain ⟨s', hs'⟩ : ∃ s' : ByteArray, ({ data := l'.toArray } : ByteArray) = s' := ⟨_, rfl⟩
            have HSS : Hid (s.size = s'.size) := by show _ = _; rw [← hs', HSN.out, ← hl']; simp [ByteArray.size]
            have HSZ' : Hid (s'.size ≤ 300) := by show _ ≤ _; rw [← HSS.out]; exact HSZ.out
            (have hq := hz.has (b := bd) (t := 52) (cs := #[.bool false, .bool rw_, .int .u8 (by8 nx 0), .int .u8 (by8 nx 1), .int .u8 (by8 nx 2), .int .u8 (by8 nx 3), .int .u8 (by8 nx 4), .int .u8 (by8 nx 5), .int .u8 (by8 nx 6), .int .u8 (by8 nx 7), .int .i64 m, .string s]) (by simp)); (have d0 := hq.cell 0); (have d1 := hq.cell 1); (have d2 := hq.cell 2); (have d3 := hq.cell 3); (have d4 := hq.cell 4); (have d5 := hq.cell 5); (have d6 := hq.cell 6); (have d7 := hq.cell 7); (have d8 := hq.cell 8); (have d9 := hq.cell 9); (have d10 := hq.cell 10); (have d11 := hq.cell 11); (have ld := hq.lt); (simp only [List.getElem?_toArray, List.getElem?_cons_succ, List.getElem?_cons_zero] at d0 d1 d2 d3 d4 d5 d6 d7 d8 d9 d10 d11); clear hq
            have H8 : Hid (Tw2 (wr.alloc (.cells #[.bool false, .bool rw_, .int .u8 (by8 nx 0), .int .u8 (by8 nx 1), .int .u8 (by8 nx 2), .int .u8 (by8 nx 3), .int .u8 (by8 nx 4), .int .u8 (by8 nx 5), .int .u8 (by8 nx 6), .int .u8 (by8 nx 7), .int .i64 m, .string s'] 52)) w1 (⟨wr.heap.size, 52, #[.bool false, .bool rw_, .int .u8 (by8 nx 0), .int .u8 (by8 nx 1), .int .u8 (by8 nx 2), .int .u8 (by8 nx 3), .int .u8 (by8 nx 4), .int .u8 (by8 nx 5), .int .u8 (by8 nx 6), .int .u8 (by8 nx 7), .int .i64 m, .string s']⟩ :: [⟨bd, 52, #[.bool false, .bool rw_, .int .u8 (by8 nx 0), .int .u8 (by8 nx 1), .int .u8 (by8 nx 2), .int .u8 (by8 nx 3), .int .u8 (by8 nx 4), .int .u8 (by8 nx 5), .int .u8 (by8 nx 6), .int .u8 (by8 nx 7), .int .i64 m, .string s]⟩]) X p T q U) := (((HZ.out.park (cs := #[.bool false, .bool rw_, .int .u8 (by8 nx 0), .int .u8 (by8 nx 1), .int .u8 (by8 nx 2), .int .u8 (by8 nx 3), .int .u8 (by8 nx 4), .int .u8 (by8 nx 5), .int .u8 (by8 nx 6), .int .u8 (by8 nx 7), .int .i64 m, .string s']) (t := 52) (b := wr.heap.size) rfl)).permC2 (C' := ⟨bs, 5, cx⟩ :: (⟨wr.heap.size, 52, #[.bool false, .bool rw_, .int .u8 (by8 nx 0), .int .u8 (by8 nx 1), .int .u8 (by8 nx 2), .int .u8 (by8 nx 3), .int .u8 (by8 nx 4), .int .u8 (by8 nx 5), .int .u8 (by8 nx 6), .int .u8 (by8 nx 7), .int .i64 m, .string s']⟩ :: [⟨bd, 52, #[.bool false, .bool rw_, .int .u8 (by8 nx 0), .int .u8 (by8 nx 1), .int .u8 (by8 nx 2), .int .u8 (by8 nx 3), .int .u8 (by8 nx 4), .int .u8 (by8 nx 5), .int .u8 (by8 nx 6), .int .u8 (by8 nx 7), .int .i64 m, .string s]⟩])) (perm_cnt fun x => by simp only [cnt_append, cnt_cons, cnt_nil] <;> omega)).dropC1
            have hcv := run_strT (wr.alloc (.cells #[.bool false, .bool rw_, .int .u8 (by8 nx 0), .int .u8 (by8 nx 1), .int .u8 (by8 nx 2), .int .u8 (by8 nx 3), .int .u8 (by8 nx 4), .int .u8 (by8 nx 5), .int .u8 (by8 nx 6), .int .u8 (by8 nx 7), .int .i64 m, .string s] 52)) _ l' (hbl'.alloc _)
            rw [hs'] at hcv
            clear hby hz hbl' hs' hl'
            go_wp2_with fail
            obtain ⟨bv, hbv⟩ : ∃ b, b = wr.heap.size := ⟨_, rfl⟩
            simp only [← hbv] at H8 ⊢
            clear hbv hcv HBY HZ d0 d1 d2 d3 d4 d5 d6 d7 d8 d9 d10 d11 ld
            obtain ⟨a, HA⟩ : ∃ a, Hid (madeA ⟨false, rw_, nx, m, s⟩ = a) := ⟨_, rfl⟩
            obtain ⟨a', HA'⟩ : ∃ a, Hid (madeA ⟨false, rw_, nx, m, s'⟩ = a) := ⟨_, rfl⟩
            have HOU : Hid (outA a = outA a') := by show _ = _; rw [← HA.out, ← HA'.out]; exact made_out false rw_ nx m s s' HSS.out
            obtain ⟨E, HE⟩ : ∃ E, Hid (takeE T a = E) := ⟨_, rfl⟩
            have HE' : Hid (takeE U a' = E) := by show _ = _; rw [← HE.out]; exact (HSIM.out.takeE HOU.out).symm
            obtain ⟨T', HT'⟩ : ∃ T', Hid (takeT T a = T') := ⟨_, rfl⟩
            obtain ⟨U', HU'⟩ : ∃ U', Hid (takeT U a' = U') := ⟨_, rfl⟩
            have HSIM' : Hid (Sim T' U') := by show Sim _ _; rw [← HT'.out, ← HU'.out]; exact HSIM.out.take HOU.out
            obtain ⟨sz, HZS⟩ : ∃ z, Hid (sizeT T' = z) := ⟨_, rfl⟩
            have HZ' : Hid (sizeT U' = sz) := by show _ = _; rw [← HZS.out]; exact HSIM'.out.size.symm
            have hEE : ((E : Int) != (E : Int)) = false := by simp
            have hzz : ((sz : Int) != (sz : Int)) = false := by simp
            refine wp_region_o2 [107, 108, 109, 110, 111, 112, 113, 114, 115, 116, 117, 118, 119, 120, 121, 122, 123, 124] (fun L (x : (Option Addr × Nat) × (Option Addr × Nat)) => [(L 0, 107, tptr p), (L 1, 108, .agg #[.bool false, .bool rw_, .int .u8 (by8 nx 0), .int .u8 (by8 nx 1), .int .u8 (by8 nx 2), .int .u8 (by8 nx 3), .int .u8 (by8 nx 4), .int .u8 (by8 nx 5), .int .u8 (by8 nx 6), .int .u8 (by8 nx 7), .int .i64 m, .string s]), (L 2, 109, rAgg a.h a.n ⟨a.l.toArray⟩), (L 3, 110, bif L 3 then .agg #[.int .u8 (by8 a.h 0), .int .u8 (by8 a.h 1), .int .u8 (by8 a.h 2), .int .u8 (by8 a.h 3), .int .u8 (by8 a.h 4), .int .u8 (by8 a.h 5), .int .u8 (by8 a.h 6), .int .u8 (by8 a.h 7), .int .i64 a.n, .slice x.1.1 a.l.length x.1.2] else undef), (L 4, 111, .int .i64 E), (L 5, 112, tptr q), (L 6, 113, .agg #[.bool false, .bool rw_, .int .u8 (by8 nx 0), .int .u8 (by8 nx 1), .int .u8 (by8 nx 2), .int .u8 (by8 nx 3), .int .u8 (by8 nx 4), .int .u8 (by8 nx 5), .int .u8 (by8 nx 6), .int .u8 (by8 nx 7), .int .i64 m, .string s']), (L 7, 114, rAgg a'.h a'.n ⟨a'.l.toArray⟩), (L 8, 115, bif L 8 then .agg #[.int .u8 (by8 a'.h 0), .int .u8 (by8 a'.h 1), .int .u8 (by8 a'.h 2), .int .u8 (by8 a'.h 3), .int .u8 (by8 a'.h 4), .int .u8 (by8 a'.h 5), .int .u8 (by8 a'.h 6), .int .u8 (by8 a'.h 7), .int .i64 a'.n, .slice x.2.1 a'.l.length x.2.2] else undef), (L 9, 116, .int .i64 E), (L 10, 117, .bool false), (L 11, 118, .bool false), (L 12, 119, tptr p), (L 13, 120, .int .i64 sz), (L 14, 121, tptr q), (L 15, 122, .int .i64 sz), (L 16, 123, .bool false), (L 17, 124, .bool false)])
              (fun L x W => ∃ N : List Blk, (L 3 = true → L 4 = false → BSl W (.slice x.1.1 a.l.length x.1.2) a.l) ∧ (L 8 = true → L 9 = false → BSl W (.slice x.2.1 a'.l.length x.2.2) a'.l) ∧ Tw2 W w1 (⟨bv, 52, #[.bool false, .bool rw_, .int .u8 (by8 nx 0), .int .u8 (by8 nx 1), .int .u8 (by8 nx 2), .int .u8 (by8 nx 3), .int .u8 (by8 nx 4), .int .u8 (by8 nx 5), .int .u8 (by8 nx 6), .int .u8 (by8 nx 7), .int .i64 m, .string s']⟩ :: [⟨bd, 52, #[.bool false, .bool rw_, .int .u8 (by8 nx 0), .int .u8 (by8 nx 1), .int .u8 (by8 nx 2), .int .u8 (by8 nx 3), .int .u8 (by8 nx 4), .int .u8 (by8 nx 5), .int .u8 (by8 nx 6), .int .u8 (by8 nx 7), .int .i64 m, .string s]⟩]) (N ++ X) p (bif L 4 then T' else T) q (bif L 9 then U' else U)) ((none, 0), (none, 0)) (by kernel_rfl) (by kernel_rfl) 150 (by rfl) (fun _ _ => rfl) (by kernel_rfl) (by kernel_rfl) (by kernel_rfl) (by rfl) ⟨[], fun z => (by simp at z), fun z => (by simp at z), by simpa using H8.out.of_below (Below.refl _ _).drew⟩ ?_ ⟨?_, ?_, ?_, ?_, ?_, ?_, ?_, ?_, ?_, ?_, ?_, ?_, ?_, ?_, ?_, ?_, ?_, ?_, trivial⟩
            rotate_left
            · (intro L x W hW hC hL hd B K hB hK; (try simp [depsB, Region.binds] at hd); (try simp only [Nat.reduceAdd] at hK hL); (have e7 := hB.out 7); (simp (decide := true) only [look, if_true, if_false, hd, cond_true, cond_false, Array.getD_eq_getD_getElem?, List.getElem?_toArray, List.getElem?_cons_succ, List.getElem?_cons_zero, Option.getD_some] at e7); go_simp; exact hK.out (tptr p) x W (by simp (decide := true) [putO, setF, upd]) hW)
            · (intro L x W hW hC hL hd B K hB hK; (try simp [depsB, Region.binds] at hd); (try simp only [Nat.reduceAdd] at hK hL); (have e12 := hB.out 12); (simp (decide := true) only [look, if_true, if_false, hd, cond_true, cond_false, Array.getD_eq_getD_getElem?, List.getElem?_toArray, List.getElem?_cons_succ, List.getElem?_cons_zero, Option.getD_some] at e12); (have hW0 := hW); (obtain ⟨N, hS1, hS2, hN⟩ := hW0); (have hq := hN.has (b := bd) (t := 52) (cs := #[.bool false, .bool rw_, .int .u8 (by8 nx 0), .int .u8 (by8 nx 1), .int .u8 (by8 nx 2), .int .u8 (by8 nx 3), .int .u8 (by8 nx 4), .int .u8 (by8 nx 5), .int .u8 (by8 nx 6), .int .u8 (by8 nx 7), .int .i64 m, .string s]) (by simp)); (have q0 := hq.cell 0); (have q1 := hq.cell 1); (have q2 := hq.cell 2); (have q3 := hq.cell 3); (have q4 := hq.cell 4); (have q5 := hq.cell 5); (have q6 := hq.cell 6); (have q7 := hq.cell 7); (have q8 := hq.cell 8); (have q9 := hq.cell 9); (have q10 := hq.cell 10); (have q11 := hq.cell 11); (have lq := hq.lt); (simp only [List.getElem?_toArray, List.getElem?_cons_succ, List.getElem?_cons_zero] at q0 q1 q2 q3 q4 q5 q6 q7 q8 q9 q10 q11); clear hq; clear hS1 hS2 hN; go_simp; exact hK.out (.agg #[.bool false, .bool rw_, .int .u8 (by8 nx 0), .int .u8 (by8 nx 1), .int .u8 (by8 nx 2), .int .u8 (by8 nx 3), .int .u8 (by8 nx 4), .int .u8 (by8 nx 5), .int .u8 (by8 nx 6), .int .u8 (by8 nx 7), .int .i64 m, .string s]) x W (by simp (decide := true) [putO, setF, upd]) hW)
            · intro L x W hW hC hL hd B K hB hK; (try simp [depsB, Region.binds] at hd); (try simp only [Nat.reduceAdd] at hK hL)
              (have e108 := hB.out 108); (simp (decide := true) only [look, if_true, if_false, hd, cond_true, cond_false, Array.getD_eq_getD_getElem?, List.getElem?_toArray, List.getElem?_cons_succ, List.getElem?_cons_zero, Option.getD_some] at e108)
              obtain ⟨N, hS1, hS2, hN⟩ := hW
              refine wp_call_in 26 (by rfl) (by kernel_rfl) #[.agg #[.bool false, .bool rw_, .int .u8 (by8 nx 0), .int .u8 (by8 nx 1), .int .u8 (by8 nx 2), .int .u8 (by8 nx 3), .int .u8 (by8 nx 4), .int .u8 (by8 nx 5), .int .u8 (by8 nx 6), .int .u8 (by8 nx 7), .int .i64 m, .string s]] (by simp [Act.eval, e108]) ((made_to ⟨false, rw_, nx, m, s⟩ HSZ.out a HA.out W).mono ?_)
              rintro e W4 ⟨rfl, hb4⟩
              refine ⟨_, rfl, ?_⟩
              exact hK.out (rAgg a.h a.n ⟨a.l.toArray⟩) x W4 (by simp (decide := true) [putO, setF, upd]) ⟨N, fun z3 z4 => (hS1 (by simpa [upd] using z3) (by simpa [upd] using z4)).below hb4, fun z8 z9 => (hS2 (by simpa [upd] using z8) (by simpa [upd] using z9)).below hb4, by simpa [upd] using hN.of_below hb4⟩
            · intro L x W hW hC hL hd B K hB hK; (try simp [depsB, Region.binds] at hd); (try simp only [Nat.reduceAdd] at hK hL)
              (have e109 := hB.out 109); (simp (decide := true) only [look, if_true, if_false, hd, cond_true, cond_false, Array.getD_eq_getD_getElem?, List.getElem?_toArray, List.getElem?_cons_succ, List.getElem?_cons_zero, Option.getD_some] at e109)
              have h4 : L 4 = false := by cases hl : L 4 with | false => rfl | true => have hx := hC 4 _ rfl hl; simp [depsB, Region.binds, hL] at hx
              have h7 : L 7 = false := by cases hl : L 7 with | false => rfl | true => have hx := hC 7 _ rfl hl; simp [depsB, Region.binds, h4] at hx
              have h8 : L 8 = false := by cases hl : L 8 with | false => rfl | true => have hx := hC 8 _ rfl hl; simp [depsB, Region.binds, h7] at hx
              obtain ⟨N, hS1, hS2, hN⟩ := hW
              refine wp_call_in 25 (by rfl) (by kernel_rfl) #[rAgg a.h a.n ⟨a.l.toArray⟩] (by simp [Act.eval, e109]) ((own_to a.h a.n ⟨a.l.toArray⟩ W).mono ?_)
              rintro e W4 ⟨u, rfl, hb4, hu⟩
              refine ⟨_, rfl, ?_⟩
              obtain ⟨a4, c4, rfl, -, -⟩ := (show BSl W4 u a.l from hu)
              exact hK.out (.agg #[.int .u8 (by8 a.h 0), .int .u8 (by8 a.h 1), .int .u8 (by8 a.h 2), .int .u8 (by8 a.h 3), .int .u8 (by8 a.h 4), .int .u8 (by8 a.h 5), .int .u8 (by8 a.h 6), .int .u8 (by8 a.h 7), .int .i64 a.n, .slice a4 a.l.length c4]) ((a4, c4), x.2) W4 (by simp (decide := true) [putO, setF, upd]) ⟨N, fun _ _ => hu, fun z8 _ => (by simp [upd, h8] at z8), by simpa [upd] using hN.of_below hb4⟩
            · intro L x W hW hC hL hd B K hB hK; (try simp [depsB, Region.binds] at hd); (try simp only [Nat.reduceAdd] at hK hL)
              (have e107 := hB.out 107); (simp (decide := true) only [look, if_true, if_false, hd, cond_true, cond_false, Array.getD_eq_getD_getElem?, List.getElem?_toArray, List.getElem?_cons_succ, List.getElem?_cons_zero, Option.getD_some] at e107); (have e110 := hB.out 110); (simp (decide := true) only [look, if_true, if_false, hd, cond_true, cond_false, Array.getD_eq_getD_getElem?, List.getElem?_toArray, List.getElem?_cons_succ, List.getElem?_cons_zero, Option.getD_some] at e110)
              have h7 : L 7 = false := by cases hl : L 7 with | false => rfl | true => have hx := hC 7 _ rfl hl; simp [depsB, Region.binds, hL] at hx
              have h8 : L 8 = false := by cases hl : L 8 with | false => rfl | true => have hx := hC 8 _ rfl hl; simp [depsB, Region.binds, h7] at hx
              have h9 : L 9 = false := by cases hl : L 9 with | false => rfl | true => have hx := hC 9 _ rfl hl; simp [depsB, Region.binds, h8] at hx
              obtain ⟨N, hS1, hS2, hN⟩ := hW
              have h3 : L 3 = true := by simp only [hd]
              have hbs := hS1 h3 hL
              simp only [hL, h9, cond_false] at hN
              refine wp_call_in 21 (by rfl) (by kernel_rfl) #[tptr p, .agg #[.int .u8 (by8 a.h 0), .int .u8 (by8 a.h 1), .int .u8 (by8 a.h 2), .int .u8 (by8 a.h 3), .int .u8 (by8 a.h 4), .int .u8 (by8 a.h 5), .int .u8 (by8 a.h 6), .int .u8 (by8 a.h 7), .int .i64 a.n, .slice x.1.1 a.l.length x.1.2]] (by simp [Act.eval, e107, e110]) ((take2_to HSIM.out.okT a.h a.n _ a.l hN hbs E HE.out T' HT'.out).mono ?_)
              rintro e W4 ⟨rfl, N4, h5⟩
              refine ⟨_, rfl, ?_⟩
              exact hK.out (.int .i64 E) x W4 (by simp (decide := true) [putO, setF, upd]) ⟨N4 ++ N, fun _ z4 => (by simp [upd] at z4), fun z8 _ => (by simp [upd, h8] at z8), by simpa [upd, h9] using h5⟩
            · (intro L x W hW hC hL hd B K hB hK; (try simp [depsB, Region.binds] at hd); (try simp only [Nat.reduceAdd] at hK hL); (have e9 := hB.out 9); (simp (decide := true) only [look, if_true, if_false, hd, cond_true, cond_false, Array.getD_eq_getD_getElem?, List.getElem?_toArray, List.getElem?_cons_succ, List.getElem?_cons_zero, Option.getD_some] at e9); go_simp; exact hK.out (tptr q) x W (by simp (decide := true) [putO, setF, upd]) hW)
            · (intro L x W hW hC hL hd B K hB hK; (try simp [depsB, Region.binds] at hd); (try simp only [Nat.reduceAdd] at hK hL); (have e15 := hB.out 15); (simp (decide := true) only [look, if_true, if_false, hd, cond_true, cond_false, Array.getD_eq_getD_getElem?, List.getElem?_toArray, List.getElem?_cons_succ, List.getElem?_cons_zero, Option.getD_some] at e15); (have hW0 := hW); (obtain ⟨N, hS1, hS2, hN⟩ := hW0); (have hq := hN.has (b := bv) (t := 52) (cs := #[.bool false, .bool rw_, .int .u8 (by8 nx 0), .int .u8 (by8 nx 1), .int .u8 (by8 nx 2), .int .u8 (by8 nx 3), .int .u8 (by8 nx 4), .int .u8 (by8 nx 5), .int .u8 (by8 nx 6), .int .u8 (by8 nx 7), .int .i64 m, .string s']) (by simp)); (have q0 := hq.cell 0); (have q1 := hq.cell 1); (have q2 := hq.cell 2); (have q3 := hq.cell 3); (have q4 := hq.cell 4); (have q5 := hq.cell 5); (have q6 := hq.cell 6); (have q7 := hq.cell 7); (have q8 := hq.cell 8); (have q9 := hq.cell 9); (have q10 := hq.cell 10); (have q11 := hq.cell 11); (have lq := hq.lt); (simp only [List.getElem?_toArray, List.getElem?_cons_succ, List.getElem?_cons_zero] at q0 q1 q2 q3 q4 q5 q6 q7 q8 q9 q10 q11); clear hq; clear hS1 hS2 hN; go_simp; exact hK.out (.agg #[.bool false, .bool rw_, .int .u8 (by8 nx 0), .int .u8 (by8 nx 1), .int .u8 (by8 nx 2), .int .u8 (by8 nx 3), .int .u8 (by8 nx 4), .int .u8 (by8 nx 5), .int .u8 (by8 nx 6), .int .u8 (by8 nx 7), .int .i64 m, .string s']) x W (by simp (decide := true) [putO, setF, upd]) hW)
            · intro L x W hW hC hL hd B K hB hK; (try simp [depsB, Region.binds] at hd); (try simp only [Nat.reduceAdd] at hK hL)
              (have e113 := hB.out 113); (simp (decide := true) only [look, if_true, if_false, hd, cond_true, cond_false, Array.getD_eq_getD_getElem?, List.getElem?_toArray, List.getElem?_cons_succ, List.getElem?_cons_zero, Option.getD_some] at e113)
              obtain ⟨N, hS1, hS2, hN⟩ := hW
              refine wp_call_in 26 (by rfl) (by kernel_rfl) #[.agg #[.bool false, .bool rw_, .int .u8 (by8 nx 0), .int .u8 (by8 nx 1), .int .u8 (by8 nx 2), .int .u8 (by8 nx 3), .int .u8 (by8 nx 4), .int .u8 (by8 nx 5), .int .u8 (by8 nx 6), .int .u8 (by8 nx 7), .int .i64 m, .string s']] (by simp [Act.eval, e113]) ((made_to ⟨false, rw_, nx, m, s'⟩ HSZ'.out a' HA'.out W).mono ?_)
              rintro e W4 ⟨rfl, hb4⟩
              refine ⟨_, rfl, ?_⟩
              exact hK.out (rAgg a'.h a'.n ⟨a'.l.toArray⟩) x W4 (by simp (decide := true) [putO, setF, upd]) ⟨N, fun z3 z4 => (hS1 (by simpa [upd] using z3) (by simpa [upd] using z4)).below hb4, fun z8 z9 => (hS2 (by simpa [upd] using z8) (by simpa [upd] using z9)).below hb4, by simpa [upd] using hN.of_below hb4⟩
            · intro L x W hW hC hL hd B K hB hK; (try simp [depsB, Region.binds] at hd); (try simp only [Nat.reduceAdd] at hK hL)
              (have e114 := hB.out 114); (simp (decide := true) only [look, if_true, if_false, hd, cond_true, cond_false, Array.getD_eq_getD_getElem?, List.getElem?_toArray, List.getElem?_cons_succ, List.getElem?_cons_zero, Option.getD_some] at e114)
              have h9 : L 9 = false := by cases hl : L 9 with | false => rfl | true => have hx := hC 9 _ rfl hl; simp [depsB, Region.binds, hL] at hx
              have g4 := hC 7 _ rfl (by simp only [hd])
              simp [depsB, Region.binds] at g4
              have h4 : L 4 = true := by simp only [g4]
              obtain ⟨N, hS1, hS2, hN⟩ := hW
              refine wp_call_in 25 (by rfl) (by kernel_rfl) #[rAgg a'.h a'.n ⟨a'.l.toArray⟩] (by simp [Act.eval, e114]) ((own_to a'.h a'.n ⟨a'.l.toArray⟩ W).mono ?_)
              rintro e W4 ⟨u, rfl, hb4, hu⟩
              refine ⟨_, rfl, ?_⟩
              obtain ⟨a4, c4, rfl, -, -⟩ := (show BSl W4 u a'.l from hu)
              exact hK.out (.agg #[.int .u8 (by8 a'.h 0), .int .u8 (by8 a'.h 1), .int .u8 (by8 a'.h 2), .int .u8 (by8 a'.h 3), .int .u8 (by8 a'.h 4), .int .u8 (by8 a'.h 5), .int .u8 (by8 a'.h 6), .int .u8 (by8 a'.h 7), .int .i64 a'.n, .slice a4 a'.l.length c4]) (x.1, (a4, c4)) W4 (by simp (decide := true) [putO, setF, upd]) ⟨N, fun _ z4 => (by simp [upd, h4] at z4), fun _ _ => hu, by simpa [upd] using hN.of_below hb4⟩
            · intro L x W hW hC hL hd B K hB hK; (try simp [depsB, Region.binds] at hd); (try simp only [Nat.reduceAdd] at hK hL)
              (have e112 := hB.out 112); (simp (decide := true) only [look, if_true, if_false, hd, cond_true, cond_false, Array.getD_eq_getD_getElem?, List.getElem?_toArray, List.getElem?_cons_succ, List.getElem?_cons_zero, Option.getD_some] at e112); (have e115 := hB.out 115); (simp (decide := true) only [look, if_true, if_false, hd, cond_true, cond_false, Array.getD_eq_getD_getElem?, List.getElem?_toArray, List.getElem?_cons_succ, List.getElem?_cons_zero, Option.getD_some] at e115)
              have g7 := hC 8 _ rfl (by simp only [hd])
              simp [depsB, Region.binds] at g7
              have g4 := hC 7 _ rfl (by simp only [g7])
              simp [depsB, Region.binds] at g4
              have h4 : L 4 = true := by simp only [g4]
              obtain ⟨N, hS1, hS2, hN⟩ := hW
              have h8 : L 8 = true := by simp only [hd]
              have hbs := hS2 h8 hL
              simp only [hL, h4, cond_false, cond_true] at hN
              refine wp_call_in 21 (by rfl) (by kernel_rfl) #[tptr q, .agg #[.int .u8 (by8 a'.h 0), .int .u8 (by8 a'.h 1), .int .u8 (by8 a'.h 2), .int .u8 (by8 a'.h 3), .int .u8 (by8 a'.h 4), .int .u8 (by8 a'.h 5), .int .u8 (by8 a'.h 6), .int .u8 (by8 a'.h 7), .int .i64 a'.n, .slice x.2.1 a'.l.length x.2.2]] (by simp [Act.eval, e112, e115]) ((take2_to HSIM.out.okU a'.h a'.n _ a'.l hN.swap hbs E HE'.out U' HU'.out).mono ?_)
              rintro e W4 ⟨rfl, N4, h5⟩
              refine ⟨_, rfl, ?_⟩
              exact hK.out (.int .i64 E) x W4 (by simp (decide := true) [putO, setF, upd]) ⟨N4 ++ N, fun _ z4 => (by simp [upd, h4] at z4), fun _ z9 => (by simp [upd] at z9), by simpa [upd, h4] using h5.swap⟩
            · (intro L x W hW hC hL hd B K hB hK; (try simp [depsB, Region.binds] at hd); (try simp only [Nat.reduceAdd] at hK hL); (have e111 := hB.out 111); (simp (decide := true) only [look, if_true, if_false, hd, cond_true, cond_false, Array.getD_eq_getD_getElem?, List.getElem?_toArray, List.getElem?_cons_succ, List.getElem?_cons_zero, Option.getD_some] at e111); (have e116 := hB.out 116); (simp (decide := true) only [look, if_true, if_false, hd, cond_true, cond_false, Array.getD_eq_getD_getElem?, List.getElem?_toArray, List.getElem?_cons_succ, List.getElem?_cons_zero, Option.getD_some] at e116); go_simp; exact hK.out (.bool false) x W (by simp (decide := true) [putO, setF, upd]) hW)
            · (intro L x W hW hC hL hd B K hB hK; (try simp [depsB, Region.binds] at hd); (try simp only [Nat.reduceAdd] at hK hL); (have e117 := hB.out 117); (simp (decide := true) only [look, if_true, if_false, hd, cond_true, cond_false, Array.getD_eq_getD_getElem?, List.getElem?_toArray, List.getElem?_cons_succ, List.getElem?_cons_zero, Option.getD_some] at e117); go_simp; exact hK.out (.bool false) x W (by simp (decide := true) [putO, setF, upd]) hW)
            · (intro L x W hW hC hL hd B K hB hK; (try simp [depsB, Region.binds] at hd); (try simp only [Nat.reduceAdd] at hK hL); (have e118 := hB.out 118); (simp (decide := true) only [look, if_true, if_false, hd, cond_true, cond_false] at e118); (try dsimp only); rw [if_pos (by rw [wanted_B rfl rfl e118]; rfl)]; (have e7 := hB.out 7); (simp (decide := true) only [look, if_true, if_false, hd, cond_true, cond_false, Array.getD_eq_getD_getElem?, List.getElem?_toArray, List.getElem?_cons_succ, List.getElem?_cons_zero, Option.getD_some] at e7); go_simp; exact hK.out (tptr p) x W (by simp (decide := true) [putO, setF, upd]) hW)
            · intro L x W hW hC hL hd B K hB hK; (try simp [depsB, Region.binds] at hd); (try simp only [Nat.reduceAdd] at hK hL)
              (have e118 := hB.out 118); (simp (decide := true) only [look, if_true, if_false, hd, cond_true, cond_false] at e118); (try dsimp only); rw [if_pos (by rw [wanted_B rfl rfl e118]; rfl)]
              (have e119 := hB.out 119); (simp (decide := true) only [look, if_true, if_false, hd, cond_true, cond_false, Array.getD_eq_getD_getElem?, List.getElem?_toArray, List.getElem?_cons_succ, List.getElem?_cons_zero, Option.getD_some] at e119)
              have g9 := hC 11 _ rfl (by simp only [hd])
              simp [depsB, Region.binds] at g9
              have h9 : L 9 = true := by simp only [g9]
              have g8 := hC 9 _ rfl (by simp only [h9])
              simp [depsB, Region.binds] at g8
              have g7 := hC 8 _ rfl (by simp only [g8])
              simp [depsB, Region.binds] at g7
              have g4 := hC 7 _ rfl (by simp only [g7])
              simp [depsB, Region.binds] at g4
              have h4 : L 4 = true := by simp only [g4]
              obtain ⟨N, hS1, hS2, hN⟩ := hW
              simp only [h4, h9, cond_true] at hN
              refine wp_call_in 36 (by rfl) (by kernel_rfl) #[tptr p] (by simp [Act.eval, e119]) ((size2_to HSIM'.out.okT hN sz HZS.out).mono ?_)
              rintro e W4 ⟨rfl, hb4⟩
              refine ⟨_, rfl, ?_⟩
              exact hK.out (.int .i64 sz) x W4 (by simp (decide := true) [putO, setF, upd]) ⟨N, fun z3 z4 => (hS1 (by simpa [upd] using z3) (by simpa [upd] using z4)).below hb4, fun z8 z9 => (hS2 (by simpa [upd] using z8) (by simpa [upd] using z9)).below hb4, by simpa [upd, h4, h9] using hN.of_below hb4⟩
            · (intro L x W hW hC hL hd B K hB hK; (try simp [depsB, Region.binds] at hd); (try simp only [Nat.reduceAdd] at hK hL); (have e118 := hB.out 118); (simp (decide := true) only [look, if_true, if_false, hd, cond_true, cond_false] at e118); (try dsimp only); rw [if_pos (by rw [wanted_B rfl rfl e118]; rfl)]; (have e9 := hB.out 9); (simp (decide := true) only [look, if_true, if_false, hd, cond_true, cond_false, Array.getD_eq_getD_getElem?, List.getElem?_toArray, List.getElem?_cons_succ, List.getElem?_cons_zero, Option.getD_some] at e9); go_simp; exact hK.out (tptr q) x W (by simp (decide := true) [putO, setF, upd]) hW)
            · intro L x W hW hC hL hd B K hB hK; (try simp [depsB, Region.binds] at hd); (try simp only [Nat.reduceAdd] at hK hL)
              (have e118 := hB.out 118); (simp (decide := true) only [look, if_true, if_false, hd, cond_true, cond_false] at e118); (try dsimp only); rw [if_pos (by rw [wanted_B rfl rfl e118]; rfl)]
              (have e121 := hB.out 121); (simp (decide := true) only [look, if_true, if_false, hd, cond_true, cond_false, Array.getD_eq_getD_getElem?, List.getElem?_toArray, List.getElem?_cons_succ, List.getElem?_cons_zero, Option.getD_some] at e121)
              have g9 := hC 11 _ rfl (by simp only [hd])
              simp [depsB, Region.binds] at g9
              have h9 : L 9 = true := by simp only [g9]
              have g8 := hC 9 _ rfl (by simp only [h9])
              simp [depsB, Region.binds] at g8
              have g7 := hC 8 _ rfl (by simp only [g8])
              simp [depsB, Region.binds] at g7
              have g4 := hC 7 _ rfl (by simp only [g7])
              simp [depsB, Region.binds] at g4
              have h4 : L 4 = true := by simp only [g4]
              obtain ⟨N, hS1, hS2, hN⟩ := hW
              simp only [h4, h9, cond_true] at hN
              refine wp_call_in 36 (by rfl) (by kernel_rfl) #[tptr q] (by simp [Act.eval, e121]) ((size2_to HSIM'.out.okU hN.swap sz HZ'.out).mono ?_)
              rintro e W4 ⟨rfl, hb4⟩
              refine ⟨_, rfl, ?_⟩
              exact hK.out (.int .i64 sz) x W4 (by simp (decide := true) [putO, setF, upd]) ⟨N, fun z3 z4 => (hS1 (by simpa [upd] using z3) (by simpa [upd] using z4)).below hb4, fun z8 z9 => (hS2 (by simpa [upd] using z8) (by simpa [upd] using z9)).below hb4, by simpa [upd, h4, h9] using hN.of_below hb4⟩
            · (intro L x W hW hC hL hd B K hB hK; (try simp [depsB, Region.binds] at hd); (try simp only [Nat.reduceAdd] at hK hL); (have e118 := hB.out 118); (simp (decide := true) only [look, if_true, if_false, hd, cond_true, cond_false] at e118); (try dsimp only); rw [if_pos (by rw [wanted_B rfl rfl e118]; rfl)]; (have e120 := hB.out 120); (simp (decide := true) only [look, if_true, if_false, hd, cond_true, cond_false, Array.getD_eq_getD_getElem?, List.getElem?_toArray, List.getElem?_cons_succ, List.getElem?_cons_zero, Option.getD_some] at e120); (have e122 := hB.out 122); (simp (decide := true) only [look, if_true, if_false, hd, cond_true, cond_false, Array.getD_eq_getD_getElem?, List.getElem?_toArray, List.getElem?_cons_succ, List.getElem?_cons_zero, Option.getD_some] at e122); go_simp; exact hK.out (.bool false) x W (by simp (decide := true) [putO, setF, upd]) hW)
            · (intro L x W hW hC hL hd B K hB hK; (try simp [depsB, Region.binds] at hd); (try simp only [Nat.reduceAdd] at hK hL); (have e118 := hB.out 118); (simp (decide := true) only [look, if_true, if_false, hd, cond_true, cond_false, Array.getD_eq_getD_getElem?, List.getElem?_toArray, List.getElem?_cons_succ, List.getElem?_cons_zero, Option.getD_some] at e118); (have e123 := hB.out 123); (simp (decide := true) only [look, if_true, if_false, hd, cond_true, cond_false, Array.getD_eq_getD_getElem?, List.getElem?_toArray, List.getElem?_cons_succ, List.getElem?_cons_zero, Option.getD_some] at e123); go_simp; exact hK.out (.bool false) x W (by simp (decide := true) [putO, setF, upd]) hW)
            intro x9 W9 hW9
            simp only [ovl, cond_true, Array.getD_eq_getD_getElem?, List.getElem?_toArray, List.getElem?_cons_succ, List.getElem?_cons_zero, Option.getD_some, List.setIfInBounds_toArray, List.set_cons_zero, List.set_cons_succ]
            (try simp only [cond_true] at hW9)
            obtain ⟨N9, -, -, h9⟩ := hW9
            have H9 := Lib.hid h9
            clear h9 H8
            go_wp2_with fail
            refine (has2_to HSIM'.out.okT H9.out).mono ?_
            rintro e w4 ⟨u1, rfl, hb4, hu1⟩
            have H10 := Lib.hid (H9.out.of_below hb4)
            obtain ⟨ak1, ck1, rfl, hck1, hcel1⟩ := hu1.dgs (by simp [hintsT])
            have HC1 := Lib.hid hcel1
            clear hb4 hu1 hcel1 H9
            go_wp2_with fail
            refine (has2_to HSIM'.out.okU H10.out.swap).mono ?_
            rintro e w5 ⟨u2, rfl, hb5, hu2⟩
            have H11 := Lib.hid (H10.out.of_below hb5)
            have HB5 := Lib.hid hb5
            rw [← HSIM'.out.hints, ← HSIM'.out.len] at hu2
            obtain ⟨ak2, ck2, rfl, hck2, hcel2⟩ := hu2.dgs (by simp [hintsT])
            have HC2 := Lib.hid hcel2
            obtain ⟨M, hM⟩ : ∃ M, T'.all.length = M := ⟨_, rfl⟩
            obtain ⟨dl, hdl⟩ : ∃ dl, hintsT T' = dl := ⟨_, rfl⟩
            have hMle : M ≤ 4096 := by rw [← hM]; exact Nat.le_trans HSIM'.out.okT.len HSIM'.out.okT.room
            simp only [hM, hdl] at HC1 HC2 hck1 hck2 ⊢
            have hMM : ((M : Int) != (M : Int)) = false := by simp
            clear hb5 hu2 hcel2 H10 hM hdl
            go_wp2_with fail
            go_loopw [18] (fun vj wx => ∃ jj : Nat, vj = .int .i64 jj ∧ jj ≤ M ∧ Below w5.heap.size w5 wx) (fun vj _ => M - (intOf vj).toNat)
            case atStart => exact ⟨0, rfl, by omega, Below.refl _ _⟩
            case round =>
              obtain ⟨jj, rfl, hjj, hB⟩ := hrel
              have HB := Lib.hid hB
              by_cases hlj : jj < M
              · obtain ⟨r1, rfl, hr1, hq1⟩ := HC1.out (by omega)
                obtain ⟨r2, rfl, hr2, hq2⟩ := HC2.out (by omega)
                have hw1 : r1 < w5.heap.size := Nat.lt_of_lt_of_le hr1 HB5.out.size
                have l1 : r1 < wr.heap.size := Nat.lt_of_lt_of_le hw1 hB.size
                have l2 : r2 < wr.heap.size := Nat.lt_of_lt_of_le hr2 hB.size
                obtain ⟨y, hy⟩ : ∃ y, dl.getD jj 0 = y := ⟨_, rfl⟩
                have hg1 : ∀ j, j < 8 → wr.cell? ⟨r1, jj * 8 + j, none⟩ = some (.int .u8 (by8 y j)) := fun j hj => by rw [World.cell?_of_block (a := ⟨r1, jj * 8 + j, none⟩) (hB.block _ hw1), World.cell?_of_block (a := ⟨r1, jj * 8 + j, none⟩) (HB5.out.block _ hr1), ← hy]; exact hq1 jj j hlj hj
                have hg2 : ∀ j, j < 8 → wr.cell? ⟨r2, jj * 8 + j, none⟩ = some (.int .u8 (by8 y j)) := fun j hj => by rw [World.cell?_of_block (a := ⟨r2, jj * 8 + j, none⟩) (hB.block _ hr2), ← hy]; exact hq2 jj j hlj hj
                have a0 := hg1 0 (by omega)
                have a1 := hg1 1 (by omega)
                have a2 := hg1 2 (by omega)
                have a3 := hg1 3 (by omega)
                have a4 := hg1 4 (by omega)
                have a5 := hg1 5 (by omega)
                have a6 := hg1 6 (by omega)
                have a7 := hg1 7 (by omega)
                have b0 := hg2 0 (by omega)
                have b1 := hg2 1 (by omega)
                have b2 := hg2 2 (by omega)
                have b3 := hg2 3 (by omega)
                have b4 := hg2 4 (by omega)
                have b5 := hg2 5 (by omega)
                have b6 := hg2 6 (by omega)
                have b7 := hg2 7 (by omega)
                simp only [Nat.add_zero] at a0 b0
                have hnn : (y != y) = false := by simp
                have hnq : (y == y) = true := by simp
                clear hg1 hg2 hq1 hq2 hy hB
                go_wp2_with fail
                refine wp_region_rq (by kernel_rfl) (by kernel_rfl) (by kernel_rfl) ?_
                repeat (first
                  | (refine B_skip ?_ ?_; (· rfl); (try simp only [Act.put, List.setIfInBounds_toArray, List.set_cons_zero, List.set_cons_succ]))
                  | (refine B_move rfl ?_ ?_; (· rfl); (try simp only [Act.eval, Act.put, Array.getD_eq_getD_getElem?, List.getElem?_toArray, List.getElem?_cons_succ, List.getElem?_cons_zero, Option.getD_some, List.setIfInBounds_toArray, List.set_cons_zero, List.set_cons_succ]))
                  | (refine B_plain ?_ ?_; (· rfl); intro K hK; go_big_quiet_op; with_reducible refine hK _ ?_; clear hK K)
                  | (fail))
                refine B_nil ?_ rfl ?_ ?_
                · kernel_rfl
                · rfl
                rintro _ ⟨⟨g29, d29⟩, rfl⟩
                simp only [fin, Act.put, List.setIfInBounds_toArray, List.set_cons_zero, List.set_cons_succ]
                go_wp2
                exact ⟨⟨jj + 1, by simp, by omega, by (repeat' (first | (with_reducible exact Below.refl _ _) | (with_reducible refine bplus ?_ _ _) | (with_reducible refine balloc ?_ _) | (with_reducible refine Below.drew ?_) | (with_reducible refine bdrewN ?_ _) | (with_reducible refine Below.setCell ?_ (by go_size) _))); exact HB.out⟩, by simp [intOf]; omega⟩
              · obtain rfl : jj = M := by omega
                clear hB
                go_wp2
                exact ⟨⟨i + 1, T', U', N9 ++ X, by simp, by omega, HSIM'.out, Tw2.dropC (D := [_, _]) (H11.out.of_below HB.out)⟩, by simp [intOf]; omega⟩
    · obtain rfl : i = n := by omega
      clear hH
      go_wp2_with fail
      refine (told51_to _).mono ?_
      rintro e w7 ⟨rfl, hb7⟩
      have HB7 := Lib.hid (H1.out.below.trans (hb7.mono H1.out.below.size))
      clear hb7
      go_wp2
      go_ret
      exact ⟨rfl, HB7.out⟩

end Go.Proofs.Ytghaiplhakeahaa
