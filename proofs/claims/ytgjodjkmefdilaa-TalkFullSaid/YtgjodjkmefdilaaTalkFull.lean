/- The law TalkFull: its walk. -/
import Derived.Test.YtgjodjkmefdilaaTwd
import Derived.Laws.MakeOwn
import Derived.Laws.OwnMore
namespace Go.Proofs.Ytgjodjkmefdilaa
set_option linter.unusedSimpArgs false
set_option linter.unusedVariables false
open Go.RowKit

def zerosL (n : Nat) : List UInt8 := List.replicate n 0
theorem zerosL_len (n : Nat) : (zerosL n).length = n := by simp [zerosL]
theorem make_zeros (n : Nat) (hn : n ≤ 1000000) : ∃ M : Array Value, (∀ W : World, (Instr.makeSlice 34 (.int .i64 n) (.int .i64 n)).run Try.prog W = .ok (.slice (some ⟨W.heap.size, 0, none⟩) n n) (W.alloc (.cells M 5))) ∧ ∀ W : World, BSl (W.alloc (.cells M 5)) (.slice (some ⟨W.heap.size, 0, none⟩) n n) (zerosL n) := by
  have hz0 : (Try.prog.info? 5).map (fun i => i.zero) = some (some (.int .u8 0)) := by kernel_rfl
  obtain ⟨i, z, ht, hi, hz, hsz, hby, hzs, -⟩ := elt_byte
  rw [hi] at hz0
  simp only [Option.map_some, Option.some.injEq] at hz0
  have hzz : z = .int .u8 0 := by rw [hz] at hz0; exact Option.some.inj hz0
  refine ⟨madeCells z.cells (n * i.size), fun W => ?_, fun W => ?_⟩
  · have hr := run_make (P := Try.prog) (w := W) 34 5 i z ht hi hz .i64 .i64 n n (by omega) (by omega) (by rw [hby]; omega) (by omega)
    rw [show ((n : Int)).toNat = n by omega] at hr
    exact hr
  · have hM : (madeCells z.cells (n * i.size)).toList = List.replicate n (.int .u8 0) := by
      rw [hsz, Nat.mul_one, hzz]
      exact toList_madeCells_one _ _
    have hM2 : madeCells z.cells (n * i.size) = (bcs (zerosL n)).toArray := by
      apply Array.toList_inj.1
      rw [hM]
      simp [bcs, zerosL]
    exact bsl_blk ((Ow.start W).key (madeCells z.cells (n * i.size)) 5 W.heap.size rfl) (List.mem_cons_self ..) (zerosL n) hM2 n (zerosL_len n) n (Nat.le_refl _)

/-- The Talker behind k words. -/
def fT (a b k : Nat) : TS := { newT a b with waits := wds 0 (min k a), said := min k a }
theorem fT_say (a b k : Nat) : sayT (fT a b k) (wdL 0 k) = fT a b (k + 1) ∧ sayE (fT a b k) (wdL 0 k) = if k < a then 0 else 8 := by
  have h3 : (wdL 0 k).length = 3 := rfl
  unfold sayT sayE
  have e : (fT a b k).waits.length = min k a := wds_len _ _
  have e2 : (fT a b k).most = a := rfl
  rw [h3, e, e2]
  simp only [if_neg (show ¬ 4096 < 3 by omega)]
  by_cases hk : k < a
  · simp only [if_neg (show ¬ a ≤ min k a by omega), if_pos hk]
    refine ⟨?_, trivial⟩
    show { newT a b with waits := wds 0 (min k a) ++ [wdL 0 k], said := min k a + 1 } = fT a b (k + 1)
    unfold fT
    rw [show min k a = k by omega, show min (k + 1) a = k + 1 by omega, wds_snoc]
  · simp only [if_pos (show a ≤ min k a by omega), if_neg hk]
    refine ⟨?_, trivial⟩
    unfold fT
    rw [show min k a = a by omega, show min (k + 1) a = a by omega]
theorem fT_ok (a b k : Nat) (ha : 1 ≤ a) (ha2 : a ≤ 64) (hb : b ≤ 1000) : TW 1000000 (fT a b k) :=
  ⟨ha2, ha, hb, by show (wds 0 (min k a)).length ≤ a; rw [wds_len]; omega, by simp [fT, newT], by simp [fT]; omega, by show (wds 0 (min k a)).length ≤ min k a; rw [wds_len]; omega, by simp [fT, newT], by simp [fT, newT], by simp [fT, newT], fun m hm => by rw [wds_small 0 _ m hm]; omega, by simp [fT, newT]⟩


set_option maxRecDepth 100000 in
set_option maxHeartbeats 8000000 in
theorem talkFull_any (x y c d : Int) (w : World) :
    Calls Try.prog 8 #[.agg #[.int .i64 x, .int .i64 y], .int .i64 c, .int .i64 d] w fun e w' => e = .returned (.bool true) ∧ Below w.heap.size w w' := by
  obtain ⟨a, HA⟩ : ∃ a, Hid (1 + cutN x 64 = a) := ⟨_, rfl⟩
  obtain ⟨b, HB⟩ : ∃ b, Hid (1 + cutN y 1000 = b) := ⟨_, rfl⟩
  have ha1 : 1 ≤ a := by rw [← HA.out]; omega
  have ha2 : a ≤ 64 := by rw [← HA.out]; have : cutN x 64 < 64 := Nat.mod_lt _ (by omega); omega
  have hb1 : 1 ≤ b := by rw [← HB.out]; omega
  have hb2 : b ≤ 1000 := by rw [← HB.out]; have : cutN y 1000 < 1000 := Nat.mod_lt _ (by omega); omega
  have ez : wrap64 ((IntKind.u64.wrap c).tmod 80) = (cutN c 80 : Int) := cut_eq c 80 (by omega) (by omega)
  have hz : cutN c 80 < 80 := Nat.mod_lt _ (by omega)
  generalize cutN c 80 = n at ez hz
  have el : wrap64 ((IntKind.u64.wrap d).tmod 10) = (cutN d 10 : Int) := cut_eq d 10 (by omega) (by omega)
  have hl : cutN d 10 < 10 := Nat.mod_lt _ (by omega)
  generalize cutN d 10 = l at el hl
  obtain ⟨Z, hZ1, hZ2⟩ := make_zeros (4097 + l) (by omega)
  have hZ0 : (4097 : Int) + (l : Int) = ((4097 + l : Nat) : Int) := by omega
  have HZ2 := Lib.hid hZ2
  have HS := Lib.hid ((Ow.start w).alloc (.cells #[.int .i64 x, .int .i64 y] 22))
  clear hZ2
  generalize hN : 4097 + l = M at *
  go_enter Try.func8, Try.ntmps8
  go_wp2_with fail
  refine (begin_to x y _ w [] HS.out a b HA.out HB.out).mono ?_
  rintro e w1 ⟨p, A, rfl, O1, t1⟩
  have H1 : Hid (S1 (w1.alloc (.cells #[.int .i64 a, .int .i64 b, .slice none 0 0, .int .i64 0, .int .i64 0, .slice none 0 0, .int .i64 0, .int .i64 0, .bool false, .bool false] 27)) w [] [⟨w1.heap.size, 27, #[.int .i64 a, .int .i64 b, .slice none 0 0, .int .i64 0, .int .i64 0, .slice none 0 0, .int .i64 0, .int .i64 0, .bool false, .bool false]⟩] p (fT a b 0)) := by
    have e : fT a b 0 = newT a b := by unfold fT; rw [show min 0 a = 0 by omega]; rfl
    rw [e]
    exact S1.key ⟨A, O1, t1⟩ _ _ _ rfl
  clear O1 t1
  go_wp2_with fail
  refine (told_to _).mono ?_
  rintro e w2 ⟨rfl, hb2'⟩
  have H2 := Lib.hid (H1.out.of_below hb2')
  clear hb2' H1
  go_wp2_with fail
  simp only [ez]
  go_loopw [10] (fun vi wr => ∃ (k : Nat) (X : List Blk), vi = .int .i64 k ∧ k ≤ n ∧ (⟨w1.heap.size, 27, #[.int .i64 a, .int .i64 b, .slice none 0 0, .int .i64 0, .int .i64 0, .slice none 0 0, .int .i64 0, .int .i64 0, .bool false, .bool false]⟩ : Blk) ∈ X ∧ S1 wr w [] X p (fT a b k)) (fun i _ => n - (intOf i).toNat)
  case atStart => exact ⟨0, _, rfl, by omega, List.mem_cons_self .., H2.out⟩
  case round =>
    obtain ⟨k, X, rfl, hk, hX, s⟩ := hrel
    have Hs := Lib.hid s
    have HX := Lib.hid hX
    clear s hX
    by_cases hlt : k < n
    · go_wp2_with fail
      refine (word_to 0 k (by omega) (by omega) _).mono ?_
      rintro e w3 ⟨v, rfl, hb3, hc3⟩
      obtain ⟨Y, OY, hY⟩ := Hs.out.ow
      obtain ⟨NB, O3, M3⟩ := hc3.found' OY (Ext.of_below hb3)
      obtain ⟨av, cv, rfl⟩ := (M3 w).slice
      have hvb := Lib.hid ((M3 w).bsl O3 (by intro x hx; simp [hx]))
      have s3 := Lib.hid (Hs.out.of_below hb3)
      have hsay := fT_say a b k
      have HSAY1 := Lib.hid hsay.1
      obtain ⟨E, HE⟩ : ∃ E, Hid (sayE (fT a b k) (wdL 0 k) = E) := ⟨_, rfl⟩
      have hE := hsay.2
      rw [HE.out] at hE
      have HTW := Lib.hid (fT_ok a b k ha1 ha2 hb2)
      clear OY O3 M3 hb3 hc3 hsay hY
      go_wp2_with fail
      refine (s3.out.say _ _ hvb.out HTW.out E HE.out _ HSAY1.out).mono ?_
      rintro e w4 ⟨rfl, X4, hs4, s4⟩
      have HX4 := Lib.hid (hs4 _ HX.out)
      have c0 := (s4.has HX4.out).cell 0
      have lt0 := (s4.has HX4.out).lt
      have HS4 := Lib.hid s4
      clear hs4 s4 s3 hvb
      by_cases hka : k < a
      · rw [if_pos hka] at hE
        subst hE
        have hd1 : decide ((k : Int) < (a : Int)) = true := decide_eq_true (by omega)
        have hd2 : decide ((a : Int) ≤ (k : Int)) = false := decide_eq_false (by omega)
        go_wp2
        exact ⟨⟨k + 1, X4, by simp, by omega, HX4.out, HS4.out⟩, by simp [intOf]; omega⟩
      · rw [if_neg hka] at hE
        subst hE
        have hd1 : decide ((k : Int) < (a : Int)) = false := decide_eq_false (by omega)
        have hd2 : decide ((a : Int) ≤ (k : Int)) = true := decide_eq_true (by omega)
        go_wp2
        exact ⟨⟨k + 1, X4, by simp, by omega, HX4.out, HS4.out⟩, by simp [intOf]; omega⟩
    · obtain rfl : k = n := by omega
      have HTW := Lib.hid (fT_ok a b k ha1 ha2 hb2)
      go_wp2_with fail
      refine (Hs.out.clone HTW.out).mono ?_
      rintro e w3 ⟨q, X3, A3, D3, rfl, hs3, O3, t3, u3⟩
      have H3 : Hid (S2 w3 w X3 p (fT a b k) q (fT a b k)) := ⟨D3, ⟨A3, O3.perm (perm_cnt fun x => by simp only [cnt_append, cnt_cons, cnt_nil] <;> omega), t3⟩, u3⟩
      have HX3 := Lib.hid (hs3 _ HX.out)
      clear O3 t3 u3 hs3
      have hmk := hZ1 w3
      go_wp2_with fail
      have hlong : sayE (fT a b k) (zerosL M) = 5 := by unfold sayE; rw [if_pos (by rw [zerosL_len]; omega)]
      have hlong2 : sayT (fT a b k) (zerosL M) = fT a b k := by unfold sayT; rw [if_pos (by rw [zerosL_len]; omega)]
      obtain ⟨C, s, u⟩ := H3.out.alloc (.cells Z 5)
      refine (s.say _ (zerosL M) (HZ2.out w3) HTW.out 5 hlong _ hlong2).mono ?_
      rintro e w4 ⟨rfl, X4, hs4, s4⟩
      have H4 : Hid (S2 w4 w X4 p (fT a b k) q (fT a b k)) := ⟨C, s4, u.mono hs4⟩
      have HX4 := Lib.hid (hs4 _ HX3.out)
      clear s u s4 hs4 H3 HX3
      go_wp2_with fail
      refine (tsame_to _ w X4 p q (fT a b k) (fT a b k) H4.out ⟨by have := HTW.out.waits; have := HTW.out.most; omega, HTW.out.got⟩ ⟨by have := HTW.out.waits; have := HTW.out.most; omega, HTW.out.got⟩ true (by unfold sameT; simp)).mono ?_
      rintro e w5 ⟨rfl, O5⟩
      have H5 := Lib.hid (H4.out.of_below O5.below)
      have HX3 := HX4
      clear O5 H4 HX4
      go_wp2_with fail
      rcases Nat.eq_zero_or_pos k with hk0 | hk0
      · subst hk0
        generalize X4 = X3 at *
        obtain ⟨C, s, u⟩ := H5.out
        refine (s.tickNo 1 (by omega) HTW.out (by show dueT (fT a b 0) 1 = false; unfold dueT fT; simp [newT, wds])).mono ?_
        rintro e w6 ⟨rfl, s6⟩
        have H6 : Hid (S2 w6 w X3 p (fT a b 0) q (fT a b 0)) := ⟨C, s6, u⟩
        have HX6 := HX3
        have hmn : min (0 : Int) (a : Int) = 0 := by omega
        have HMN : Hid (MsgL w X3 (.slice none 0 0) (wds 0 0)) := MsgL.nil _ _
        have c0 := (s6.has HX3.out).cell 0
        have lt0 := (s6.has HX3.out).lt
        clear s u s6 H5
        go_wp2_with fail
        refine wp_opq (fun W => S2 W w (⟨w6.heap.size, 36, #[.int .i64 0, .slice none 0 0, .int .i64 0]⟩ :: X3) p (fT a b 0) q (fT a b 0)) (S2.key (by exact H6.out) _ _ _ rfl) ?_
        intro W7 H7'
        have H7 := Lib.hid H7'
        have hbk := H7'.has (List.mem_cons_self ..)
        have k1 := hbk.cell 1
        have ltk := hbk.lt
        have hbr := H7'.has (List.mem_cons_of_mem _ HX6.out)
        have r0 := hbr.cell 0
        have ltr := hbr.lt
        have hmL : Hid (MsgL W7 [] (.slice none 0 0) (wds 0 0)) := H7'.here (HMN.out.mono (fun x hx => List.mem_cons_of_mem _ hx))
        have T4 : Hid (∀ g d, Calls Try.prog 18 #[.int .u8 0, .int .i64 0] (plus W7 g d) fun x w' => ∃ u, x = .returned u ∧ Below (plus W7 g d).heap.size (plus W7 g d) w' ∧ CloL W7.heap.size (wds 0 0) u w') := fun g d =>
          (lists_to 0 0 (by omega) (by omega) (plus W7 g d)).mono (by
            rintro x w' ⟨u, h1, h2, h3⟩
            exact ⟨u, h1, h2, h3.base (by simp)⟩)
        have T5 : Hid (∀ u g d, CloL W7.heap.size (wds 0 0) u (plus W7 g d) → Calls Try.prog 17 #[.slice none 0 0, u] (plus W7 g d) fun x w' => x = .returned (.bool true) ∧ Below (plus W7 g d).heap.size (plus W7 g d) w') := fun u g d hu => by
          obtain ⟨us, B5, N5, O5, R5, M5⟩ := hu.found (Ow.start W7) ⟨⟨g, d⟩, rfl⟩
          have hl : (wds 0 0).length ≤ 1000 := by rw [wds_len]; omega
          exact (same_to _ _ (wds 0 0) (wds 0 0) _ (by omega) (by omega) (hmL.out.here ((Ow.start W7).plus g d) sub_nil) ((R5.msgl (M5 W7)).here O5 (by intro x hx; rcases List.mem_append.1 hx with hx | hx <;> simp [hx])) true (by simp)).mono fun e w' hh => ⟨hh.1, hh.2.below⟩
        clear H7' hbk hbr
        refine wp_region_rq (by kernel_rfl) (by kernel_rfl) (by kernel_rfl) ?_
        repeat (first
          | (refine B_skip ?_ ?_; (· rfl); (try simp only [Act.put, List.setIfInBounds_toArray, List.set_cons_zero, List.set_cons_succ]))
          | (refine B_move rfl ?_ ?_; (· rfl); (try simp only [Act.eval, Act.put, Array.getD_eq_getD_getElem?, List.getElem?_toArray, List.getElem?_cons_succ, List.getElem?_cons_zero, Option.getD_some, List.setIfInBounds_toArray, List.set_cons_zero, List.set_cons_succ]))
          | (refine B_plain ?_ ?_; (· rfl); intro K hK; go_big_quiet_op; with_reducible refine hK _ ?_; clear hK K)
          | (refine B_callR (CloL W7.heap.size (wds 0 0)) (stays_cloL _ _) (f := 18) rfl rfl (by kernel_rfl) ?_ (fun xq => ?_) ?_; (· rfl); (· ((simp only [List.map_toArray, List.map_cons, List.map_nil, Act.eval, Array.getD_eq_getD_getElem?, List.getElem?_toArray, List.getElem?_cons_succ, List.getElem?_cons_zero, Option.getD_some]); (with_reducible apply retR); with_reducible exact T4.out _ _)))
          | (refine B_callRX (v := .bool true) (f := 17) rfl (by kernel_rfl) ?_ (fun xq vs hvs => ?_) ?_; (· rfl); (· (obtain ⟨a1, _, rfl, e1, a2, _, rfl, e2, e3⟩ := hvs; cases e3; obtain rfl : a1 = .slice none 0 0 := e1; (with_reducible apply retB); exact T5.out a2 _ _ e2)); (try simp only [Act.put, List.setIfInBounds_toArray, List.set_cons_zero, List.set_cons_succ])))
        refine B_nil ?_ rfl ?_ ?_
        · kernel_rfl
        · rfl
        rintro _ ⟨⟨g8, d8⟩, rfl⟩
        simp only [fin, Act.put, List.setIfInBounds_toArray, List.set_cons_zero, List.set_cons_succ]
        intro u8 hu8
        clear hu8
        go_wp2
        go_ret
        exact ⟨rfl, (H7.out.of_below (bplus (Below.refl _ _) g8 d8)).below⟩
      · generalize X4 = X3 at *
        obtain ⟨C, s, u⟩ := H5.out
        have hwl : (fT a b k).waits.length = min k a := wds_len _ _
        have hdue : dueT (fT a b k) 1 = true := by
          unfold dueT
          have h1 : decide ((fT a b k).gone < (fT a b k).waits.length) = true := decide_eq_true (by rw [hwl]; show 0 < min k a; omega)
          rw [h1]; simp
        refine (s.tickYes 1 (by omega) HTW.out hdue 0 0 (by rw [hwl]; simp [fT]) rfl (wds 0 (min k a)) rfl (tickT (fT a b k) 1) rfl).mono ?_
        rintro e w6 ⟨v6, X6, rfl, hs6, s6, m6⟩
        obtain ⟨a6, c6, rfl⟩ := m6.slice
        have hll : (wds 0 (min k a)).length = min k a := wds_len _ _
        have H6 : Hid (S2 w6 w X6 p (tickT (fT a b k) 1) q (fT a b k)) := ⟨C, s6, u.mono hs6⟩
        have HX6 := Lib.hid (hs6 _ HX3.out)
        have hmn : min (k : Int) (a : Int) = ((min k a : Nat) : Int) := by omega
        rw [hll] at m6
        rw [hll]
        have HM6 := Lib.hid m6
        have c0 := (s6.has (hs6 _ HX3.out)).cell 0
        have lt0 := (s6.has (hs6 _ HX3.out)).lt
        clear s u s6 m6 hs6 H5
        go_wp2_with fail
        refine wp_opq (fun W => S2 W w (⟨w6.heap.size, 36, #[.int .i64 (0 : Nat), .slice a6 (min k a) c6, .int .i64 (0 : Nat)]⟩ :: X6) p (tickT (fT a b k) 1) q (fT a b k)) (S2.key (by exact H6.out) _ _ _ rfl) ?_
        intro W7 H7'
        have H7 := Lib.hid H7'
        have hbk := H7'.has (List.mem_cons_self ..)
        have k1 := hbk.cell 1
        have ltk := hbk.lt
        have hbr := H7'.has (List.mem_cons_of_mem _ HX6.out)
        have r0 := hbr.cell 0
        have ltr := hbr.lt
        have hmL : Hid (MsgL W7 [] (.slice a6 (min k a) c6) (wds 0 (min k a))) := H7'.here (HM6.out.mono (fun x hx => List.mem_cons_of_mem _ hx))
        have T4 : Hid (∀ g d, Calls Try.prog 18 #[.int .u8 0, .int .i64 (min k a : Nat)] (plus W7 g d) fun x w' => ∃ u, x = .returned u ∧ Below (plus W7 g d).heap.size (plus W7 g d) w' ∧ CloL W7.heap.size (wds 0 (min k a)) u w') := fun g d =>
          (lists_to 0 (min k a) (by omega) (by omega) (plus W7 g d)).mono (by
            rintro x w' ⟨u, h1, h2, h3⟩
            exact ⟨u, h1, h2, h3.base (by simp)⟩)
        have T5 : Hid (∀ u g d, CloL W7.heap.size (wds 0 (min k a)) u (plus W7 g d) → Calls Try.prog 17 #[.slice a6 (min k a) c6, u] (plus W7 g d) fun x w' => x = .returned (.bool true) ∧ Below (plus W7 g d).heap.size (plus W7 g d) w') := fun u g d hu => by
          obtain ⟨us, B5, N5, O5, R5, M5⟩ := hu.found (Ow.start W7) ⟨⟨g, d⟩, rfl⟩
          have hl : (wds 0 (min k a)).length ≤ 1000 := by rw [wds_len]; omega
          exact (same_to _ _ (wds 0 (min k a)) (wds 0 (min k a)) _ (by omega) (by omega) (hmL.out.here ((Ow.start W7).plus g d) sub_nil) ((R5.msgl (M5 W7)).here O5 (by intro x hx; rcases List.mem_append.1 hx with hx | hx <;> simp [hx])) true (by simp)).mono fun e w' hh => ⟨hh.1, hh.2.below⟩
        clear H7' hbk hbr
        refine wp_region_rq (by kernel_rfl) (by kernel_rfl) (by kernel_rfl) ?_
        repeat (first
          | (refine B_skip ?_ ?_; (· rfl); (try simp only [Act.put, List.setIfInBounds_toArray, List.set_cons_zero, List.set_cons_succ]))
          | (refine B_move rfl ?_ ?_; (· rfl); (try simp only [Act.eval, Act.put, Array.getD_eq_getD_getElem?, List.getElem?_toArray, List.getElem?_cons_succ, List.getElem?_cons_zero, Option.getD_some, List.setIfInBounds_toArray, List.set_cons_zero, List.set_cons_succ]))
          | (refine B_plain ?_ ?_; (· rfl); intro K hK; go_big_quiet_op; with_reducible refine hK _ ?_; clear hK K)
          | (refine B_callR (CloL W7.heap.size (wds 0 (min k a))) (stays_cloL _ _) (f := 18) rfl rfl (by kernel_rfl) ?_ (fun xq => ?_) ?_; (· rfl); (· ((simp only [List.map_toArray, List.map_cons, List.map_nil, Act.eval, Array.getD_eq_getD_getElem?, List.getElem?_toArray, List.getElem?_cons_succ, List.getElem?_cons_zero, Option.getD_some]); (with_reducible apply retR); with_reducible exact T4.out _ _)))
          | (refine B_callRX (v := .bool true) (f := 17) rfl (by kernel_rfl) ?_ (fun xq vs hvs => ?_) ?_; (· rfl); (· (obtain ⟨a1, _, rfl, e1, a2, _, rfl, e2, e3⟩ := hvs; cases e3; obtain rfl : a1 = .slice a6 (min k a) c6 := e1; (with_reducible apply retB); exact T5.out a2 _ _ e2)); (try simp only [Act.put, List.setIfInBounds_toArray, List.set_cons_zero, List.set_cons_succ])))
        refine B_nil ?_ rfl ?_ ?_
        · kernel_rfl
        · rfl
        rintro _ ⟨⟨g8, d8⟩, rfl⟩
        simp only [fin, Act.put, List.setIfInBounds_toArray, List.set_cons_zero, List.set_cons_succ]
        intro u8 hu8
        clear hu8
        go_wp2
        go_ret
        exact ⟨rfl, (H7.out.of_below (bplus (Below.refl _ _) g8 d8)).below⟩

end Go.Proofs.Ytgjodjkmefdilaa
