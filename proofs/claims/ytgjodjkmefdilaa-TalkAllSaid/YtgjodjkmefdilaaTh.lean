/- talk: contract of Hear. -/
import Derived.Test.YtgjodjkmefdilaaTe
import Derived.Test.YtgjodjkmefdilaaTr
import Derived.Test.YtgjodjkmefdilaaTi
namespace Go.Proofs.Ytgjodjkmefdilaa
set_option linter.unusedSimpArgs false
set_option linter.unusedVariables false
open Go.RowKit

/-- What Hear makes of a Talker: what was heard there; that something came; what came. -/
def hearA (T : TS) (he : Nat) : TS := if T.said < he + T.waits.length then { T with waits := T.waits.drop (he + T.waits.length - T.said), gone := T.gone - (he + T.waits.length - T.said) } else T
def hearB (T : TS) (ms : List (List UInt8)) : TS := if 0 < ms.length then { T with owes := true } else T
def hearC (T : TS) (fi : Nat) (ms : List (List UInt8)) : TS := { T with got := T.got ++ ms.drop (T.heard - fi), heard := max T.heard (fi + ms.length) }
def hearT (T : TS) (fi : Nat) (ms : List (List UInt8)) (he : Nat) : TS := if T.heard < fi then hearB (hearA T he) ms else hearC (hearB (hearA T he) ms) fi ms

set_option maxRecDepth 100000 in
set_option maxHeartbeats 2000000 in
theorem hear_no (p : Nat) (T : TS) (B F L : List Blk) (w w0 : World) (O : Ow w w0 (B ++ F)) (hT : TkB w0 L p T B) (fi he : Int) (v : Value) (ms : List (List UInt8)) (hn : ms.length ≤ 1000000000) (hv : MsgL w [] v ms) (hb : rightT T fi ms he = false) :
    Calls Try.prog 20 #[ptr p, .agg #[.int .i64 fi, v, .int .i64 he]] w fun e w' => e = .returned (.int .i64 2) ∧ Ow w' w [] := by
  obtain ⟨ao, cap, rfl⟩ := hv.slice
  have R := Lib.hid (right_to p T B F L (w.alloc (.cells #[.int .i64 fi, .slice ao ms.length cap, .int .i64 he] 36)) w0 (O.alloc _) hT fi he (.slice ao ms.length cap) ms hn (hv.here ((Ow.start w).alloc _) sub_nil) false hb)
  clear O hT hv hb
  go_enter Try.func20, Try.ntmps20
  go_wp2_with fail
  refine R.out.mono ?_
  rintro e w1 ⟨rfl, O1⟩
  have HO := Lib.hid (((Ow.start w).alloc (.cells #[.int .i64 fi, .slice ao ms.length cap, .int .i64 he] 36)).of_below O1.below)
  clear O1 R
  go_wp2
  go_ret
  exact ⟨rfl, HO.out⟩

set_option maxRecDepth 100000 in
set_option maxHeartbeats 4000000 in
theorem hear_yes (p : Nat) (T : TS) (B F L Lm : List Blk) (w w0 : World) (O : Ow w w0 (B ++ F)) (hT : TkB w0 L p T B) (hL : ∀ x ∈ L, x ∈ F) (fi he : Nat) (v : Value) (ms : List (List UInt8)) (hn : ms.length ≤ 64) (hv : MsgL w0 Lm v ms) (hLm : ∀ x ∈ Lm, x ∈ F)
    (hms : ∀ i, (ms.getD i []).length ≤ 4096) (hfi : fi ≤ 9223372036854775807) (hW : TW 1000000 T) (hb : rightT T fi ms he = true) (hhe : he ≤ T.said) (T' : TS) (hT' : hearT T fi ms he = T') (c : Int) (hc : (if T.heard < fi then 20 else 0 : Int) = c) :
    Calls Try.prog 20 #[ptr p, .agg #[.int .i64 fi, v, .int .i64 he]] w fun e w' => e = .returned (.int .i64 c) ∧ ∃ N B', Ow w' w0 (B' ++ (N ++ F)) ∧ TkB w0 (N ++ L) p T' B' := by
  obtain ⟨ao, cap, rfl⟩ := hv.slice
  have hv0 : MsgL w [] (.slice ao ms.length cap) ms := hv.here O (by intro x hx; simp [hLm x hx])
  have R := Lib.hid (right_to p T B F L (w.alloc (.cells #[.int .i64 fi, .slice ao ms.length cap, .int .i64 he] 36)) w0 (O.alloc _) hT fi he (.slice ao ms.length cap) ms (by omega) (hv0.here ((Ow.start w).alloc _) sub_nil) true hb)
  obtain ⟨vw, ws, Bw, vg, gs, Bg, Rw, Mw, Rg, Mg, O', HB, -⟩ := hT.open_ O
  obtain ⟨aw, cw, rfl⟩ := Rw.slice
  obtain ⟨ag, cg, rfl⟩ := Rg.slice
  have hw := hW.waits
  have hm := hW.most
  have hg := hW.gone
  have hle := hW.le
  have hsd := hW.said
  have hhd := hW.heard
  have hgt := hW.got
  have HO := Lib.hid (O'.key #[.int .i64 fi, .slice ao ms.length cap, .int .i64 he] 36 w.heap.size rfl)
  have HRW := Lib.hid Rw
  have HMW := Lib.hid Mw
  have HRG := Lib.hid Rg
  have HMG := Lib.hid Mg
  have HL := Lib.hid hL
  have HLM := Lib.hid hLm
  have HV := Lib.hid hv
  have HMS := Lib.hid hms
  have HT' := Lib.hid hT'
  have HC := Lib.hid hc
  clear O hT hW O' HB Rw Mw Rg Mg hL hb hLm hv hv0 hms hT' hc
  go_enter Try.func20, Try.ntmps20
  go_wp2_with fail
  refine R.out.mono ?_
  rintro e w1 ⟨rfl, O1⟩
  have O2 := HO.out.of_below O1.below
  have HBq := O2.has (List.mem_cons_self ..)
  have HBp := O2.has (List.mem_cons_of_mem _ (List.mem_cons_self ..))
  have q0 := HBq.cell 0
  have q1 := HBq.cell 1
  have q2 := HBq.cell 2
  have ltq := HBq.lt
  have p2 := HBp.cell 2
  have p4 := HBp.cell 4
  have p5 := HBp.cell 5
  have p6 := HBp.cell 6
  have g9 := HBp.frozen 9
  have p9 := HBp.cell 9
  have ltp := HBp.lt
  simp only [tcs] at p2 p4 p5 p6 p9
  have HO2 := Lib.hid (O2.perm (L' := ⟨p, 84, tcs T (.slice aw T.waits.length cw) (.slice ag T.got.length cg)⟩ :: (⟨w.heap.size, 36, #[.int .i64 fi, .slice ao ms.length cap, .int .i64 he]⟩ :: (Bw ++ (Bg ++ F)))) (perm_cnt fun x => by simp only [cnt_append, cnt_cons, cnt_nil] <;> omega))
  clear O1 O2 HBq HBp R HO
  by_cases hpos : T.said < he + T.waits.length
  · obtain ⟨n, hn1⟩ : ∃ n : Nat, he + T.waits.length = T.said + n := ⟨he + T.waits.length - T.said, by omega⟩
    have hn2 : (he : Int) - ((T.said : Int) - (T.waits.length : Int)) = (n : Int) := by omega
    have hn3 : decide ((0 : Int) < (n : Int)) = true := decide_eq_true (by omega)
    obtain ⟨T2, HT2⟩ : ∃ T2, Hid (hearB (hearA T he) ms = T2) := ⟨_, rfl⟩
    have hmx : max (0 : Int) ((T.gone : Int) - (n : Int)) = ((T.gone - n : Nat) : Int) := by omega
    have hnw : n ≤ T.waits.length := by omega
    go_wp2
    refine wp_region_rq (by kernel_rfl) (by kernel_rfl) (by kernel_rfl) ?_
    repeat (first
      | (refine B_skip ?_ ?_; (· rfl); (try simp only [Act.put, List.setIfInBounds_toArray, List.set_cons_zero, List.set_cons_succ]))
      | (refine B_move rfl ?_ ?_; (· rfl); (try simp only [Act.eval, Act.put, Array.getD_eq_getD_getElem?, List.getElem?_toArray, List.getElem?_cons_succ, List.getElem?_cons_zero, Option.getD_some, List.setIfInBounds_toArray, List.set_cons_zero, List.set_cons_succ]))
      | (refine B_plain ?_ ?_; (· rfl); intro K hK; go_big_quiet_op; with_reducible refine hK _ ?_; clear hK K)
      | (refine B_nilck rfl rfl ?_ ?_; (· rfl); (try simp only [Act.put, List.setIfInBounds_toArray, List.set_cons_zero, List.set_cons_succ])))
    refine B_nil ?_ rfl ?_ ?_
    · kernel_rfl
    · rfl
    rintro _ ⟨⟨g1, d1⟩, rfl⟩
    simp only [fin, Act.put, List.setIfInBounds_toArray, List.set_cons_zero, List.set_cons_succ]
    go_wp2_with fail
    have O3 := (HO2.out.plus g1 d1).perm (L' := Bw ++ (⟨p, 84, tcs T (.slice aw T.waits.length cw) (.slice ag T.got.length cg)⟩ :: (⟨w.heap.size, 36, #[.int .i64 fi, .slice ao ms.length cap, .int .i64 he]⟩ :: (Bg ++ F)))) (perm_cnt fun x => by simp only [cnt_append, cnt_cons, cnt_nil] <;> omega)
    refine (delete_row _ _ n ws _ _ (by omega) hnw HRW.out HMW.out.one _ w0 O3).mono ?_
    rintro e w2 ⟨v', B1, rfl, R1, O4⟩
    obtain ⟨aw1, cw1, rfl⟩ := R1.slice
    have HBp := O4.has (List.mem_append_right _ (List.mem_cons_self ..))
    have HBq := O4.has (List.mem_append_right _ (List.mem_cons_of_mem _ (List.mem_cons_self ..)))
    have q0 := HBq.cell 0
    have q1 := HBq.cell 1
    have ltq := HBq.lt
    have p3 := HBp.cell 3
    have p6 := HBp.cell 6
    have g2 := HBp.frozen 2
    have g3 := HBp.frozen 3
    have g9 := HBp.frozen 9
    have p2 := HBp.cell 2
    have p9 := HBp.cell 9
    have ltp := HBp.lt
    have hpq : p ≠ w.heap.size := by
      have := O4.mem.apart
      simp only [List.pairwise_append, List.pairwise_cons] at this
      exact this.2.1.1 ⟨w.heap.size, 36, #[.int .i64 fi, .slice ao ms.length cap, .int .i64 he]⟩ (List.mem_cons_self ..)
    have hqp : w.heap.size ≠ p := Ne.symm hpq
    simp only [tcs] at p2 p3 p6 p9
    have HO4 := Lib.hid O4.unfront
    have e2 : he + T.waits.length - T.said = n := by omega
    have hlw : (T.waits.drop n).length = T.waits.length - n := by simp
    have HR0 := Lib.hid R1
    rcases Nat.eq_zero_or_pos ms.length with hs0 | hs0
    · have hd0 : decide ((0 : Int) < (ms.length : Int)) = false := decide_eq_false (by omega)
      have hT2 : T2 = { T with waits := T.waits.drop n, gone := T.gone - n } := by
        rw [← HT2.out]; unfold hearA hearB; rw [if_pos hpos, e2, if_neg (by omega)]
      have hh2 : T2.heard = T.heard := by rw [hT2]
      have hg2 : T2.got = T.got := by rw [hT2]
      have hw2 : T2.waits = T.waits.drop n := by rw [hT2]
      have hwl2 : T2.waits.length = T.waits.length - n := by rw [hw2, hlw]
      obtain ⟨ws1, HR1, HMW1⟩ : ∃ ws1, Hid (Row 34 1 (.slice aw1 T2.waits.length cw1) T2.waits.length ws1 B1) ∧ Hid (Msgs w0 L ws1 T2.waits) := ⟨ws.drop n, by rw [hwl2]; exact HR0, by rw [hw2]; exact HMW.out.drop n⟩
      go_wp2
      refine wp_opq (fun W => Ow W w0 (⟨p, 84, tcs T2 (.slice aw1 T2.waits.length cw1) (.slice ag T.got.length cg)⟩ :: (⟨w.heap.size, 36, #[.int .i64 fi, .slice ao ms.length cap, .int .i64 he]⟩ :: (B1 ++ (Bg ++ F))))) (((HO4.out.set 2 _).set 3 _).as (L' := ⟨p, 84, tcs T2 (.slice aw1 T2.waits.length cw1) (.slice ag T.got.length cg)⟩ :: (B1 ++ (⟨w.heap.size, 36, #[.int .i64 fi, .slice ao ms.length cap, .int .i64 he]⟩ :: (Bg ++ F)))) (by rw [hwl2, hT2] <;> simp [tcs]) |>.perm (perm_cnt fun x => by simp only [cnt_append, cnt_cons, cnt_nil] <;> omega)) ?_
      intro W3 O3
      have HBp := O3.has (List.mem_cons_self ..)
      have HBq := O3.has (List.mem_cons_of_mem _ (List.mem_cons_self ..))
      have q0 := HBq.cell 0
      have q1 := HBq.cell 1
      have ltq := HBq.lt
      have p6 := HBp.cell 6
      have ltp := HBp.lt
      simp only [tcs] at p6
      rw [hh2] at p6
      have HO3 := Lib.hid O3
      clear O3 HBp HBq
      by_cases hE : T.heard < fi
      · have hd2 : decide ((T.heard : Int) < (fi : Int)) = true := decide_eq_true (by omega)
        have hcE : c = 20 := by rw [← HC.out, if_pos hE]
        refine wp_region_rq (by kernel_rfl) (by kernel_rfl) (by kernel_rfl) ?_
        repeat (first
          | (refine B_skip ?_ ?_; (· rfl); (try simp only [Act.put, List.setIfInBounds_toArray, List.set_cons_zero, List.set_cons_succ]))
          | (refine B_move rfl ?_ ?_; (· rfl); (try simp only [Act.eval, Act.put, Array.getD_eq_getD_getElem?, List.getElem?_toArray, List.getElem?_cons_succ, List.getElem?_cons_zero, Option.getD_some, List.setIfInBounds_toArray, List.set_cons_zero, List.set_cons_succ]))
          | (refine B_plain ?_ ?_; (· rfl); intro K hK; go_big_quiet_op; with_reducible refine hK _ ?_; clear hK K)
          | (refine B_nilck rfl rfl ?_ ?_; (· rfl); (try simp only [Act.put, List.setIfInBounds_toArray, List.set_cons_zero, List.set_cons_succ])))
        refine B_nil ?_ rfl ?_ ?_
        · kernel_rfl
        · rfl
        rintro _ ⟨⟨g2, d2⟩, rfl⟩
        simp only [fin, Act.put, List.setIfInBounds_toArray, List.set_cons_zero, List.set_cons_succ]
        go_wp2
        go_ret
        have eT : T2 = T' := by rw [← HT'.out]; unfold hearT; rw [if_pos hE, HT2.out]
        subst eT
        refine ⟨by rw [hcE]; rfl, [], ⟨p, 84, tcs T2 (.slice aw1 T2.waits.length cw1) (.slice ag T.got.length cg)⟩ :: (B1 ++ Bg), (((HO3.out.perm (L' := ⟨w.heap.size, 36, #[.int .i64 fi, .slice ao ms.length cap, .int .i64 he]⟩ :: (⟨p, 84, tcs T2 (.slice aw1 T2.waits.length cw1) (.slice ag T.got.length cg)⟩ :: (B1 ++ (Bg ++ F)))) (perm_cnt fun x => by simp only [cnt_append, cnt_cons, cnt_nil] <;> omega)).drop1.plus _ _).perm (perm_cnt fun x => by simp only [cnt_append, cnt_cons, cnt_nil] <;> omega)), _, ws1, B1, _, gs, Bg, rfl, HR1.out, HMW1.out, ?_, ?_⟩
        · rw [hg2]; exact HRG.out
        · rw [hg2]; exact HMG.out
      · have hd2 : decide ((T.heard : Int) < (fi : Int)) = false := decide_eq_false (by omega)
        have hcE : c = 0 := by rw [← HC.out, if_neg hE]
        refine wp_region_rq (by kernel_rfl) (by kernel_rfl) (by kernel_rfl) ?_
        repeat (first
          | (refine B_skip ?_ ?_; (· rfl); (try simp only [Act.put, List.setIfInBounds_toArray, List.set_cons_zero, List.set_cons_succ]))
          | (refine B_move rfl ?_ ?_; (· rfl); (try simp only [Act.eval, Act.put, Array.getD_eq_getD_getElem?, List.getElem?_toArray, List.getElem?_cons_succ, List.getElem?_cons_zero, Option.getD_some, List.setIfInBounds_toArray, List.set_cons_zero, List.set_cons_succ]))
          | (refine B_plain ?_ ?_; (· rfl); intro K hK; go_big_quiet_op; with_reducible refine hK _ ?_; clear hK K)
          | (refine B_nilck rfl rfl ?_ ?_; (· rfl); (try simp only [Act.put, List.setIfInBounds_toArray, List.set_cons_zero, List.set_cons_succ])))
        refine B_nil ?_ rfl ?_ ?_
        · kernel_rfl
        · rfl
        rintro _ ⟨⟨g2, d2⟩, rfl⟩
        simp only [fin, Act.put, List.setIfInBounds_toArray, List.set_cons_zero, List.set_cons_succ]
        go_wp2_with fail
        go_loopw [72] (fun i wr => i = .int .i64 0 ∧ Ow wr w0 (⟨p, 84, tcs T2 (.slice aw1 T2.waits.length cw1) (.slice ag T.got.length cg)⟩ :: (⟨w.heap.size, 36, #[.int .i64 fi, .slice ao ms.length cap, .int .i64 he]⟩ :: (B1 ++ (Bg ++ F))))) (fun i _ => 0)
        case atStart => exact ⟨rfl, HO3.out.plus _ _⟩
        case round =>
          obtain ⟨rfl, O5⟩ := hrel
          have HO5 := Lib.hid O5
          clear O5
          go_wp2
          go_ret
          have em : ms = [] := List.eq_nil_of_length_eq_zero hs0
          have eT : T2 = T' := by
            rw [← HT'.out]; unfold hearT hearC; rw [if_neg hE, HT2.out, em, hh2]
            have : max T.heard (fi + 0) = T.heard := by omega
            simp only [List.drop_nil, List.append_nil, List.length_nil, this]
            rw [← hh2]
          subst eT
          refine ⟨by rw [hcE]; rfl, [], ⟨p, 84, tcs T2 (.slice aw1 T2.waits.length cw1) (.slice ag T.got.length cg)⟩ :: (B1 ++ Bg), ((HO5.out.perm (L' := ⟨w.heap.size, 36, #[.int .i64 fi, .slice ao ms.length cap, .int .i64 he]⟩ :: (⟨p, 84, tcs T2 (.slice aw1 T2.waits.length cw1) (.slice ag T.got.length cg)⟩ :: (B1 ++ (Bg ++ F)))) (perm_cnt fun x => by simp only [cnt_append, cnt_cons, cnt_nil] <;> omega)).drop1.perm (perm_cnt fun x => by simp only [cnt_append, cnt_cons, cnt_nil] <;> omega)), _, ws1, B1, _, gs, Bg, rfl, HR1.out, HMW1.out, ?_, ?_⟩
          · rw [hg2]; exact HRG.out
          · rw [hg2]; exact HMG.out
    · have hd0 : decide ((0 : Int) < (ms.length : Int)) = true := decide_eq_true (by omega)
      have hT2 : T2 = { T with waits := T.waits.drop n, gone := T.gone - n, owes := true } := by
        rw [← HT2.out]; unfold hearA hearB; rw [if_pos hpos, e2, if_pos (by omega)]
      have hh2 : T2.heard = T.heard := by rw [hT2]
      have hg2 : T2.got = T.got := by rw [hT2]
      have hw2 : T2.waits = T.waits.drop n := by rw [hT2]
      have hwl2 : T2.waits.length = T.waits.length - n := by rw [hw2, hlw]
      obtain ⟨ws1, HR1, HMW1⟩ : ∃ ws1, Hid (Row 34 1 (.slice aw1 T2.waits.length cw1) T2.waits.length ws1 B1) ∧ Hid (Msgs w0 L ws1 T2.waits) := ⟨ws.drop n, by rw [hwl2]; exact HR0, by rw [hw2]; exact HMW.out.drop n⟩
      go_wp2
      refine wp_opq (fun W => Ow W w0 (⟨p, 84, tcs T2 (.slice aw1 T2.waits.length cw1) (.slice ag T.got.length cg)⟩ :: (⟨w.heap.size, 36, #[.int .i64 fi, .slice ao ms.length cap, .int .i64 he]⟩ :: (B1 ++ (Bg ++ F))))) ((((HO4.out.set 2 _).set 3 _).set 9 _).as (L' := ⟨p, 84, tcs T2 (.slice aw1 T2.waits.length cw1) (.slice ag T.got.length cg)⟩ :: (B1 ++ (⟨w.heap.size, 36, #[.int .i64 fi, .slice ao ms.length cap, .int .i64 he]⟩ :: (Bg ++ F)))) (by rw [hwl2, hT2] <;> simp [tcs]) |>.perm (perm_cnt fun x => by simp only [cnt_append, cnt_cons, cnt_nil] <;> omega)) ?_
      intro W3 O3
      have HBp := O3.has (List.mem_cons_self ..)
      have HBq := O3.has (List.mem_cons_of_mem _ (List.mem_cons_self ..))
      have q0 := HBq.cell 0
      have q1 := HBq.cell 1
      have ltq := HBq.lt
      have p6 := HBp.cell 6
      have ltp := HBp.lt
      simp only [tcs] at p6
      rw [hh2] at p6
      have HO3 := Lib.hid O3
      clear O3 HBp HBq
      by_cases hE : T.heard < fi
      · have hd2 : decide ((T.heard : Int) < (fi : Int)) = true := decide_eq_true (by omega)
        have hcE : c = 20 := by rw [← HC.out, if_pos hE]
        refine wp_region_rq (by kernel_rfl) (by kernel_rfl) (by kernel_rfl) ?_
        repeat (first
          | (refine B_skip ?_ ?_; (· rfl); (try simp only [Act.put, List.setIfInBounds_toArray, List.set_cons_zero, List.set_cons_succ]))
          | (refine B_move rfl ?_ ?_; (· rfl); (try simp only [Act.eval, Act.put, Array.getD_eq_getD_getElem?, List.getElem?_toArray, List.getElem?_cons_succ, List.getElem?_cons_zero, Option.getD_some, List.setIfInBounds_toArray, List.set_cons_zero, List.set_cons_succ]))
          | (refine B_plain ?_ ?_; (· rfl); intro K hK; go_big_quiet_op; with_reducible refine hK _ ?_; clear hK K)
          | (refine B_nilck rfl rfl ?_ ?_; (· rfl); (try simp only [Act.put, List.setIfInBounds_toArray, List.set_cons_zero, List.set_cons_succ])))
        refine B_nil ?_ rfl ?_ ?_
        · kernel_rfl
        · rfl
        rintro _ ⟨⟨g2, d2⟩, rfl⟩
        simp only [fin, Act.put, List.setIfInBounds_toArray, List.set_cons_zero, List.set_cons_succ]
        go_wp2
        go_ret
        have eT : T2 = T' := by rw [← HT'.out]; unfold hearT; rw [if_pos hE, HT2.out]
        subst eT
        refine ⟨by rw [hcE]; rfl, [], ⟨p, 84, tcs T2 (.slice aw1 T2.waits.length cw1) (.slice ag T.got.length cg)⟩ :: (B1 ++ Bg), (((HO3.out.perm (L' := ⟨w.heap.size, 36, #[.int .i64 fi, .slice ao ms.length cap, .int .i64 he]⟩ :: (⟨p, 84, tcs T2 (.slice aw1 T2.waits.length cw1) (.slice ag T.got.length cg)⟩ :: (B1 ++ (Bg ++ F)))) (perm_cnt fun x => by simp only [cnt_append, cnt_cons, cnt_nil] <;> omega)).drop1.plus _ _).perm (perm_cnt fun x => by simp only [cnt_append, cnt_cons, cnt_nil] <;> omega)), _, ws1, B1, _, gs, Bg, rfl, HR1.out, HMW1.out, ?_, ?_⟩
        · rw [hg2]; exact HRG.out
        · rw [hg2]; exact HMG.out
      · have hd2 : decide ((T.heard : Int) < (fi : Int)) = false := decide_eq_false (by omega)
        have hcE : c = 0 := by rw [← HC.out, if_neg hE]
        refine wp_region_rq (by kernel_rfl) (by kernel_rfl) (by kernel_rfl) ?_
        repeat (first
          | (refine B_skip ?_ ?_; (· rfl); (try simp only [Act.put, List.setIfInBounds_toArray, List.set_cons_zero, List.set_cons_succ]))
          | (refine B_move rfl ?_ ?_; (· rfl); (try simp only [Act.eval, Act.put, Array.getD_eq_getD_getElem?, List.getElem?_toArray, List.getElem?_cons_succ, List.getElem?_cons_zero, Option.getD_some, List.setIfInBounds_toArray, List.set_cons_zero, List.set_cons_succ]))
          | (refine B_plain ?_ ?_; (· rfl); intro K hK; go_big_quiet_op; with_reducible refine hK _ ?_; clear hK K)
          | (refine B_nilck rfl rfl ?_ ?_; (· rfl); (try simp only [Act.put, List.setIfInBounds_toArray, List.set_cons_zero, List.set_cons_succ])))
        refine B_nil ?_ rfl ?_ ?_
        · kernel_rfl
        · rfl
        rintro _ ⟨⟨g2, d2⟩, rfl⟩
        simp only [fin, Act.put, List.setIfInBounds_toArray, List.set_cons_zero, List.set_cons_succ]
        go_wp2_with fail
        go_loopw [72] (fun i wr => ∃ (k h : Nat) (gl : List (List UInt8)) (ak : Option Addr) (ck : Nat) (us : List Value) (B5 N : List Blk), i = .int .i64 k ∧ k ≤ ms.length ∧ h = max T.heard (fi + k) ∧ gl = T.got ++ (ms.take k).drop (T.heard - fi) ∧
          Ow wr w0 (⟨p, 84, tcs { T2 with heard := h } (.slice aw1 T2.waits.length cw1) (.slice ak gl.length ck)⟩ :: (⟨w.heap.size, 36, #[.int .i64 fi, .slice ao ms.length cap, .int .i64 he]⟩ :: (B1 ++ (B5 ++ (N ++ F))))) ∧ Row 34 1 (.slice ak gl.length ck) gl.length us B5 ∧ Msgs w0 (N ++ L) us gl) (fun i _ => ms.length - (intOf i).toNat)
        case atStart => exact ⟨0, T.heard, T.got, ag, cg, gs, Bg, [], rfl, by omega, by omega, by simp, ((HO3.out.plus _ _).as (L' := ⟨p, 84, tcs { T2 with heard := T.heard } (.slice aw1 T2.waits.length cw1) (.slice ag T.got.length cg)⟩ :: (⟨w.heap.size, 36, #[.int .i64 fi, .slice ao ms.length cap, .int .i64 he]⟩ :: (B1 ++ (Bg ++ F)))) (by rw [← hh2])).perm (perm_cnt fun x => by simp only [cnt_append, cnt_cons, cnt_nil] <;> omega), HRG.out, HMG.out⟩
        case round =>
          obtain ⟨k, h, gl, ak, ck, us, B5, N, rfl, hk, hh, hgl, O5, R5, M5⟩ := hrel
          have HBp := O5.has (List.mem_cons_self ..)
          have HBq := O5.has (List.mem_cons_of_mem _ (List.mem_cons_self ..))
          have q0 := HBq.cell 0
          have ltq := HBq.lt
          have p5 := HBp.cell 5
          have p6 := HBp.cell 6
          have ltp := HBp.lt
          simp only [tcs] at p5 p6
          have HO5 := Lib.hid O5
          have HR5 := Lib.hid R5
          have HM5 := Lib.hid M5
          have HGL := Lib.hid hgl
          have HH := Lib.hid hh
          have hhb : h ≤ 4611686018427387968 := by omega
          have hhl : fi + k ≤ h := by omega
          clear hh
          by_cases hlt : k < ms.length
          · obtain ⟨r, o, am, cm, rfl, hr, hc, hmm⟩ := HV.out.at_ O5 (by intro x hx; simp [HLM.out x hx]) k hlt
            obtain ⟨m, HMk⟩ : ∃ m, Hid (ms.getD k [] = m) := ⟨_, rfl⟩
            have hml := HMS.out k
            rw [HMk.out] at hc hmm hml
            have HMM := Lib.hid hmm
            clear O5 R5 M5 HBp HBq hgl hmm
            by_cases hge : h ≤ fi + k
            · have hd3 : decide ((h : Int) ≤ (fi : Int) + (k : Int)) = true := decide_eq_true (by omega)
              go_wp2
              refine wp_region_rq (by kernel_rfl) (by kernel_rfl) (by kernel_rfl) ?_
              repeat (first
                | (refine B_skip ?_ ?_; (· rfl); (try simp only [Act.put, List.setIfInBounds_toArray, List.set_cons_zero, List.set_cons_succ]))
                | (refine B_move rfl ?_ ?_; (· rfl); (try simp only [Act.eval, Act.put, Array.getD_eq_getD_getElem?, List.getElem?_toArray, List.getElem?_cons_succ, List.getElem?_cons_zero, Option.getD_some, List.setIfInBounds_toArray, List.set_cons_zero, List.set_cons_succ]))
                | (refine B_plain ?_ ?_; (· rfl); intro K hK; go_big_quiet_op; with_reducible refine hK _ ?_; clear hK K)
                | (refine B_nilck rfl rfl ?_ ?_; (· rfl); (try simp only [Act.put, List.setIfInBounds_toArray, List.set_cons_zero, List.set_cons_succ])))
              refine B_nil ?_ rfl ?_ ?_
              · kernel_rfl
              · rfl
              rintro _ ⟨⟨g3, d3⟩, rfl⟩
              simp only [fin, Act.put, List.setIfInBounds_toArray, List.set_cons_zero, List.set_cons_succ]
              go_wp2
              refine wp_opq (fun W => Ow W w0 (⟨p, 84, tcs { T2 with heard := h } (.slice aw1 T2.waits.length cw1) (.slice ak gl.length ck)⟩ :: (⟨w.heap.size, 36, #[.int .i64 fi, .slice (some ⟨r, o, none⟩) ms.length cap, .int .i64 he]⟩ :: (B1 ++ (B5 ++ (N ++ F))))) ∧ BSl W (.slice am m.length cm) m) ⟨HO5.out.plus _ _, (HMM.out.bsl HO5.out (by intro x hx; simp [HLM.out x hx])).plus _ _⟩ ?_
              rintro w5 ⟨O6, V6⟩
              have HBp := O6.has (List.mem_cons_self ..)
              have p5 := HBp.cell 5
              have ltp := HBp.lt
              simp only [tcs] at p5
              have HO6 := Lib.hid O6
              have T3 : Hid (∀ g d, Calls Try.prog 38 #[.slice am m.length cm] (plus w5 g d) fun e w' => ∃ u, e = .returned u ∧ Below (plus w5 g d).heap.size (plus w5 g d) w' ∧ Clo 5 w5.heap.size m u w') := fun g d => by
                refine (cloneB_any _ m (by omega) _ (V6.plus g d)).mono ?_
                rintro e w' ⟨u, h1, h2, h3⟩
                exact ⟨u, h1, h2, h3.base (by simp)⟩
              clear O6 V6 HBp
              refine wp_region_rdk 8 5 rfl rfl (by kernel_rfl) (by kernel_rfl) (by kernel_rfl) (by kernel_rfl) (by kernel_rfl) (by rfl) ?_
              simp only [List.take_succ_cons, List.take_zero, Act.put, List.setIfInBounds_toArray, List.set_cons_zero, List.set_cons_succ]
              repeat (first
                | (refine B_skip ?_ ?_; (· rfl); (try simp only [Act.put, List.setIfInBounds_toArray, List.set_cons_zero, List.set_cons_succ]))
                | (refine B_move rfl ?_ ?_; (· rfl); (try simp only [Act.eval, Act.put, Array.getD_eq_getD_getElem?, List.getElem?_toArray, List.getElem?_cons_succ, List.getElem?_cons_zero, Option.getD_some, List.setIfInBounds_toArray, List.set_cons_zero, List.set_cons_succ]))
                | (refine B_plain ?_ ?_; (· rfl); intro K hK; go_big_quiet_op; with_reducible refine hK _ ?_; clear hK K)
                | (refine B_callR (Clo 5 w5.heap.size m) (stays_clo _ _ _) (f := 38) rfl rfl (by kernel_rfl) ?_ (fun xq => ?_) ?_; (· rfl); (· ((simp only [List.map_toArray, List.map_cons, List.map_nil, Act.eval, Array.getD_eq_getD_getElem?, List.getElem?_toArray, List.getElem?_cons_succ, List.getElem?_cons_zero, Option.getD_some]); (with_reducible apply retR); with_reducible exact T3.out _ _)))
                | (refine B_nilck rfl rfl ?_ ?_; (· rfl); (try simp only [Act.put, List.setIfInBounds_toArray, List.set_cons_zero, List.set_cons_succ]))
                | (refine B_newslP elt_msg rfl (s := 94) rfl rfl (stays_clo _ _ _) (clo_slice _ _ _) ?_ ?_; (· rfl)))
              refine B_nil ?_ rfl ?_ ?_
              · kernel_rfl
              · rfl
              rintro _ ⟨⟨g6, d6⟩, rfl⟩
              simp only [fin, Act.put, List.setIfInBounds_toArray, List.set_cons_zero, List.set_cons_succ]
              rintro _ ⟨b, u, rfl, hb1, hb2, hu⟩ _ -
              obtain ⟨N1, ON, MN⟩ := hu.found HO6.out ⟨⟨_, _⟩, rfl⟩
              have ON1 := Lib.hid (ON.perm (L' := B5 ++ (⟨p, 84, tcs { T2 with heard := h } (.slice aw1 T2.waits.length cw1) (.slice ak gl.length ck)⟩ :: (⟨w.heap.size, 36, #[.int .i64 fi, .slice (some ⟨r, o, none⟩) ms.length cap, .int .i64 he]⟩ :: (B1 ++ (N1 ++ (N ++ F)))))) (perm_cnt fun x => by simp only [cnt_append, cnt_cons, cnt_nil] <;> omega))
              have hglen : gl.length ≤ 2000000 := by
                have h1 : gl.length = T.got.length + ((ms.take k).drop (T.heard - fi)).length := by rw [HGL.out, List.length_append]
                have h2 : ((ms.take k).drop (T.heard - fi)).length ≤ ms.length := by simp; omega
                omega
              refine step_one (n := 4) (k := 9) (by kernel_rfl) (by rfl) (by rfl) ?_
              intro K hK
              refine wp_append_row (.tmp 92) (.tmp 95) 25 rfl elt_msg ON1.out.mem ON1.out.split _ _ _ (by rfl) HR5.out _ _ _ [u] (by rfl) (by simp) (by simp) (blk_news hb2) (by simp [MN.one]) (by unfold maxLen; omega) (by omega) _ rfl _ rfl (fun ao' cap' B' w' R' M' hB' => hK _ _ ?_)
              clear hK K
              have O7 : Ow w' w0 (B' ++ (⟨p, 84, tcs { T2 with heard := h } (.slice aw1 T2.waits.length cw1) (.slice ak gl.length ck)⟩ :: (⟨w.heap.size, 36, #[.int .i64 fi, .slice (some ⟨r, o, none⟩) ms.length cap, .int .i64 he]⟩ :: (B1 ++ (N1 ++ (N ++ F)))))) := Ow.mk3 M' hB' (fun x hx => ON1.out.new x (List.mem_append_right _ hx))
              have HB3 := O7.has (List.mem_append_right _ (List.mem_cons_self ..))
              have lt3 := HB3.lt
              have c35 := HB3.cell 5
              have f35 := HB3.frozen 5
              simp only [tcs] at c35
              have HO7 := Lib.hid O7
              have HR7 := Lib.hid R'
              clear O7 R' M' hB' HB3
              refine step_one (n := 3) (k := 10) (by kernel_rfl) (by rfl) (by rfl) ?_
              intro K hK
              go_simp
              refine hK _ _ ?_
              clear hK K
              refine step_one (n := 2) (k := 11) (by kernel_rfl) (by rfl) (by rfl) ?_
              intro K hK
              go_simp
              refine hK _ _ ?_
              clear hK K
              refine step_one (n := 1) (k := 12) (by kernel_rfl) (by rfl) (by rfl) ?_
              intro K hK
              go_simp
              refine hK _ _ ?_
              clear hK K
              refine last_one (k := 13) (by kernel_rfl) (by kernel_rfl) (by rfl) ?_ ?_
              · rfl
              intro K hK
              go_simp
              refine hK _ _ ?_
              clear hK K
              refine ⟨rfl, ?_⟩
              refine then_go (by assumption) ?_
              refine wp_opq (fun W => Ow W w0 (⟨p, 84, #[.int .i64 T2.most, .int .i64 T2.again, .slice aw1 T2.waits.length cw1, .int .i64 T2.gone, .int .i64 T2.said, .slice ao' (gl.length + 1) cap', .int .i64 h, .int .i64 T2.last, .bool T2.went, .bool T2.owes]⟩ :: (B' ++ (⟨w.heap.size, 36, #[.int .i64 fi, .slice (some ⟨r, o, none⟩) ms.length cap, .int .i64 he]⟩ :: (B1 ++ (N1 ++ (N ++ F))))))) ((HO7.out.unfront.set 5 _).as (by simp [tcs])) ?_
              intro w8 O8
              have HB8 := O8.has (List.mem_cons_self ..)
              have lt8 := HB8.lt
              have c86 := HB8.cell 6
              have f86 := HB8.frozen 6
              have HO8 := Lib.hid O8
              clear O8 HB8
              have hh1 : (h : Int) + 1 ≤ 4611686018428387904 := by omega
              go_wp2
              have hh := HH.out
              refine ⟨⟨k + 1, h + 1, gl ++ [m], ao', cap', us ++ [u], B', N1 ++ N, by simp, by omega, by omega, ?_, ?_, ?_, ?_⟩, by simp [intOf]; omega⟩
              · rw [HGL.out, take_snoc ms [] k hlt, HMk.out, List.drop_append_of_le_length (by simp; omega), List.append_assoc]
              · refine ((HO8.out.set 6 (.int .i64 ((h : Int) + 1))).as (L' := ⟨p, 84, tcs { T2 with heard := h + 1 } (.slice aw1 T2.waits.length cw1) (.slice ao' (gl ++ [m]).length cap')⟩ :: (B' ++ (⟨w.heap.size, 36, #[.int .i64 fi, .slice (some ⟨r, o, none⟩) ms.length cap, .int .i64 he]⟩ :: (B1 ++ (N1 ++ (N ++ F)))))) (by simp [tcs])).perm (perm_cnt fun x => by simp only [cnt_append, cnt_cons, cnt_nil] <;> omega)
              · simpa using HR7.out
              · exact (HM5.out.mono (by intro x hx; rcases List.mem_append.1 hx with hx | hx <;> simp [hx])).snoc (MN.mono (by intro x hx; simp [hx]))
            · have hd3 : decide ((h : Int) ≤ (fi : Int) + (k : Int)) = false := decide_eq_false (by omega)
              go_wp2
              refine wp_region_rq (by kernel_rfl) (by kernel_rfl) (by kernel_rfl) ?_
              repeat (first
                | (refine B_skip ?_ ?_; (· rfl); (try simp only [Act.put, List.setIfInBounds_toArray, List.set_cons_zero, List.set_cons_succ]))
                | (refine B_move rfl ?_ ?_; (· rfl); (try simp only [Act.eval, Act.put, Array.getD_eq_getD_getElem?, List.getElem?_toArray, List.getElem?_cons_succ, List.getElem?_cons_zero, Option.getD_some, List.setIfInBounds_toArray, List.set_cons_zero, List.set_cons_succ]))
                | (refine B_plain ?_ ?_; (· rfl); intro K hK; go_big_quiet_op; with_reducible refine hK _ ?_; clear hK K)
                | (refine B_nilck rfl rfl ?_ ?_; (· rfl); (try simp only [Act.put, List.setIfInBounds_toArray, List.set_cons_zero, List.set_cons_succ])))
              refine B_nil ?_ rfl ?_ ?_
              · kernel_rfl
              · rfl
              rintro _ ⟨⟨g3, d3⟩, rfl⟩
              simp only [fin, Act.put, List.setIfInBounds_toArray, List.set_cons_zero, List.set_cons_succ]
              go_wp2
              have hh := HH.out
              refine ⟨⟨k + 1, h, gl, ak, ck, us, B5, N, by simp, by omega, by omega, ?_, HO5.out.plus _ _, HR5.out, HM5.out⟩, by simp [intOf]; omega⟩
              rw [HGL.out, List.drop_eq_nil_of_le (by simp; omega), List.drop_eq_nil_of_le (by simp; omega)]
          · obtain rfl : k = ms.length := by omega
            clear O5 R5 M5 HBp HBq hgl
            go_wp2
            go_ret
            have eT : { T2 with heard := h, got := gl } = T' := by
              rw [← HT'.out]; unfold hearT hearC; rw [if_neg hE, HT2.out, HGL.out, List.take_length, hg2, hh2, HH.out]
            subst eT
            exact ⟨by rw [hcE]; rfl, N, ⟨p, 84, tcs { T2 with heard := h } (.slice aw1 T2.waits.length cw1) (.slice ak gl.length ck)⟩ :: (B1 ++ B5), ((HO5.out.perm (L' := ⟨w.heap.size, 36, #[.int .i64 fi, .slice ao ms.length cap, .int .i64 he]⟩ :: (⟨p, 84, tcs { T2 with heard := h } (.slice aw1 T2.waits.length cw1) (.slice ak gl.length ck)⟩ :: (B1 ++ (B5 ++ (N ++ F))))) (perm_cnt fun x => by simp only [cnt_append, cnt_cons, cnt_nil] <;> omega)).drop1.perm (perm_cnt fun x => by simp only [cnt_append, cnt_cons, cnt_nil] <;> omega)), _, ws1, B1, _, us, B5, rfl, HR1.out, HMW1.out.mono (by intro x hx; simp [hx]), HR5.out, HM5.out⟩
  · obtain ⟨z, hz⟩ : ∃ z : Int, (he : Int) - ((T.said : Int) - (T.waits.length : Int)) = z := ⟨_, rfl⟩
    have hn3 : decide ((0 : Int) < z) = false := decide_eq_false (by omega)
    have hz0 : ¬ (0 : Int) < z := by omega
    have hz1 : -4611686018427387904 ≤ z := by omega
    obtain ⟨T2, HT2⟩ : ∃ T2, Hid (hearB (hearA T he) ms = T2) := ⟨_, rfl⟩
    rcases Nat.eq_zero_or_pos ms.length with hs0 | hs0
    · have hd0 : decide ((0 : Int) < (ms.length : Int)) = false := decide_eq_false (by omega)
      have hT2 : T2 = T := by
        rw [← HT2.out]; unfold hearA hearB; rw [if_neg hpos, if_neg (by omega)]
      have hh2 : T2.heard = T.heard := by rw [hT2]
      have hg2 : T2.got = T.got := by rw [hT2]
      have hw2 : T2.waits = T.waits := by rw [hT2]
      obtain ⟨aw1, cw1, ws1, B1, eaw, ecw, eB, HR1, HMW1⟩ : ∃ aw1 cw1 ws1 B1, aw = aw1 ∧ cw = cw1 ∧ Bw = B1 ∧ Hid (Row 34 1 (.slice aw1 T2.waits.length cw1) T2.waits.length ws1 B1) ∧ Hid (Msgs w0 L ws1 T2.waits) := ⟨aw, cw, ws, Bw, rfl, rfl, rfl, by rw [hw2]; exact HRW, by rw [hw2]; exact HMW⟩
      go_wp2
      refine wp_region_rq (by kernel_rfl) (by kernel_rfl) (by kernel_rfl) ?_
      repeat (first
        | (refine B_skip ?_ ?_; (· rfl); (try simp only [Act.put, List.setIfInBounds_toArray, List.set_cons_zero, List.set_cons_succ]))
        | (refine B_move rfl ?_ ?_; (· rfl); (try simp only [Act.eval, Act.put, Array.getD_eq_getD_getElem?, List.getElem?_toArray, List.getElem?_cons_succ, List.getElem?_cons_zero, Option.getD_some, List.setIfInBounds_toArray, List.set_cons_zero, List.set_cons_succ]))
        | (refine B_plain ?_ ?_; (· rfl); intro K hK; go_big_quiet_op; with_reducible refine hK _ ?_; clear hK K)
        | (refine B_nilck rfl rfl ?_ ?_; (· rfl); (try simp only [Act.put, List.setIfInBounds_toArray, List.set_cons_zero, List.set_cons_succ])))
      refine B_nil ?_ rfl ?_ ?_
      · kernel_rfl
      · rfl
      rintro _ ⟨⟨g1, d1⟩, rfl⟩
      simp only [fin, Act.put, List.setIfInBounds_toArray, List.set_cons_zero, List.set_cons_succ]
      go_wp2
      subst eaw ecw eB
      refine wp_opq (fun W => Ow W w0 (⟨p, 84, tcs T2 (.slice aw T2.waits.length cw) (.slice ag T.got.length cg)⟩ :: (⟨w.heap.size, 36, #[.int .i64 fi, .slice ao ms.length cap, .int .i64 he]⟩ :: (Bw ++ (Bg ++ F))))) ((HO2.out.plus _ _).as (L' := ⟨p, 84, tcs T2 (.slice aw T2.waits.length cw) (.slice ag T.got.length cg)⟩ :: (⟨w.heap.size, 36, #[.int .i64 fi, .slice ao ms.length cap, .int .i64 he]⟩ :: (Bw ++ (Bg ++ F)))) (by rw [hw2, hT2]) |>.perm (perm_cnt fun x => by simp only [cnt_append, cnt_cons, cnt_nil] <;> omega)) ?_
      intro W3 O3
      have HBp := O3.has (List.mem_cons_self ..)
      have HBq := O3.has (List.mem_cons_of_mem _ (List.mem_cons_self ..))
      have q0 := HBq.cell 0
      have q1 := HBq.cell 1
      have ltq := HBq.lt
      have p6 := HBp.cell 6
      have ltp := HBp.lt
      simp only [tcs] at p6
      rw [hh2] at p6
      have HO3 := Lib.hid O3
      clear O3 HBp HBq
      by_cases hE : T.heard < fi
      · have hd2 : decide ((T.heard : Int) < (fi : Int)) = true := decide_eq_true (by omega)
        have hcE : c = 20 := by rw [← HC.out, if_pos hE]
        refine wp_region_rq (by kernel_rfl) (by kernel_rfl) (by kernel_rfl) ?_
        repeat (first
          | (refine B_skip ?_ ?_; (· rfl); (try simp only [Act.put, List.setIfInBounds_toArray, List.set_cons_zero, List.set_cons_succ]))
          | (refine B_move rfl ?_ ?_; (· rfl); (try simp only [Act.eval, Act.put, Array.getD_eq_getD_getElem?, List.getElem?_toArray, List.getElem?_cons_succ, List.getElem?_cons_zero, Option.getD_some, List.setIfInBounds_toArray, List.set_cons_zero, List.set_cons_succ]))
          | (refine B_plain ?_ ?_; (· rfl); intro K hK; go_big_quiet_op; with_reducible refine hK _ ?_; clear hK K)
          | (refine B_nilck rfl rfl ?_ ?_; (· rfl); (try simp only [Act.put, List.setIfInBounds_toArray, List.set_cons_zero, List.set_cons_succ])))
        refine B_nil ?_ rfl ?_ ?_
        · kernel_rfl
        · rfl
        rintro _ ⟨⟨g2, d2⟩, rfl⟩
        simp only [fin, Act.put, List.setIfInBounds_toArray, List.set_cons_zero, List.set_cons_succ]
        go_wp2
        go_ret
        have eT : T2 = T' := by rw [← HT'.out]; unfold hearT; rw [if_pos hE, HT2.out]
        subst eT
        refine ⟨by rw [hcE]; rfl, [], ⟨p, 84, tcs T2 (.slice aw T2.waits.length cw) (.slice ag T.got.length cg)⟩ :: (Bw ++ Bg), (((HO3.out.perm (L' := ⟨w.heap.size, 36, #[.int .i64 fi, .slice ao ms.length cap, .int .i64 he]⟩ :: (⟨p, 84, tcs T2 (.slice aw T2.waits.length cw) (.slice ag T.got.length cg)⟩ :: (Bw ++ (Bg ++ F)))) (perm_cnt fun x => by simp only [cnt_append, cnt_cons, cnt_nil] <;> omega)).drop1.plus _ _).perm (perm_cnt fun x => by simp only [cnt_append, cnt_cons, cnt_nil] <;> omega)), _, ws1, Bw, _, gs, Bg, rfl, HR1.out, HMW1.out, ?_, ?_⟩
        · rw [hg2]; exact HRG.out
        · rw [hg2]; exact HMG.out
      · have hd2 : decide ((T.heard : Int) < (fi : Int)) = false := decide_eq_false (by omega)
        have hcE : c = 0 := by rw [← HC.out, if_neg hE]
        refine wp_region_rq (by kernel_rfl) (by kernel_rfl) (by kernel_rfl) ?_
        repeat (first
          | (refine B_skip ?_ ?_; (· rfl); (try simp only [Act.put, List.setIfInBounds_toArray, List.set_cons_zero, List.set_cons_succ]))
          | (refine B_move rfl ?_ ?_; (· rfl); (try simp only [Act.eval, Act.put, Array.getD_eq_getD_getElem?, List.getElem?_toArray, List.getElem?_cons_succ, List.getElem?_cons_zero, Option.getD_some, List.setIfInBounds_toArray, List.set_cons_zero, List.set_cons_succ]))
          | (refine B_plain ?_ ?_; (· rfl); intro K hK; go_big_quiet_op; with_reducible refine hK _ ?_; clear hK K)
          | (refine B_nilck rfl rfl ?_ ?_; (· rfl); (try simp only [Act.put, List.setIfInBounds_toArray, List.set_cons_zero, List.set_cons_succ])))
        refine B_nil ?_ rfl ?_ ?_
        · kernel_rfl
        · rfl
        rintro _ ⟨⟨g2, d2⟩, rfl⟩
        simp only [fin, Act.put, List.setIfInBounds_toArray, List.set_cons_zero, List.set_cons_succ]
        go_wp2_with fail
        go_loopw [72] (fun i wr => i = .int .i64 0 ∧ Ow wr w0 (⟨p, 84, tcs T2 (.slice aw T2.waits.length cw) (.slice ag T.got.length cg)⟩ :: (⟨w.heap.size, 36, #[.int .i64 fi, .slice ao ms.length cap, .int .i64 he]⟩ :: (Bw ++ (Bg ++ F))))) (fun i _ => 0)
        case atStart => exact ⟨rfl, HO3.out.plus _ _⟩
        case round =>
          obtain ⟨rfl, O5⟩ := hrel
          have HO5 := Lib.hid O5
          clear O5
          go_wp2
          go_ret
          have em : ms = [] := List.eq_nil_of_length_eq_zero hs0
          have eT : T2 = T' := by
            rw [← HT'.out]; unfold hearT hearC; rw [if_neg hE, HT2.out, em, hh2]
            have : max T.heard (fi + 0) = T.heard := by omega
            simp only [List.drop_nil, List.append_nil, List.length_nil, this]
            rw [← hh2]
          subst eT
          refine ⟨by rw [hcE]; rfl, [], ⟨p, 84, tcs T2 (.slice aw T2.waits.length cw) (.slice ag T.got.length cg)⟩ :: (Bw ++ Bg), ((HO5.out.perm (L' := ⟨w.heap.size, 36, #[.int .i64 fi, .slice ao ms.length cap, .int .i64 he]⟩ :: (⟨p, 84, tcs T2 (.slice aw T2.waits.length cw) (.slice ag T.got.length cg)⟩ :: (Bw ++ (Bg ++ F)))) (perm_cnt fun x => by simp only [cnt_append, cnt_cons, cnt_nil] <;> omega)).drop1.perm (perm_cnt fun x => by simp only [cnt_append, cnt_cons, cnt_nil] <;> omega)), _, ws1, Bw, _, gs, Bg, rfl, HR1.out, HMW1.out, ?_, ?_⟩
          · rw [hg2]; exact HRG.out
          · rw [hg2]; exact HMG.out
    · have hd0 : decide ((0 : Int) < (ms.length : Int)) = true := decide_eq_true (by omega)
      have hT2 : T2 = { T with owes := true } := by
        rw [← HT2.out]; unfold hearA hearB; rw [if_neg hpos, if_pos (by omega)]
      have hh2 : T2.heard = T.heard := by rw [hT2]
      have hg2 : T2.got = T.got := by rw [hT2]
      have hw2 : T2.waits = T.waits := by rw [hT2]
      obtain ⟨aw1, cw1, ws1, B1, eaw, ecw, eB, HR1, HMW1⟩ : ∃ aw1 cw1 ws1 B1, aw = aw1 ∧ cw = cw1 ∧ Bw = B1 ∧ Hid (Row 34 1 (.slice aw1 T2.waits.length cw1) T2.waits.length ws1 B1) ∧ Hid (Msgs w0 L ws1 T2.waits) := ⟨aw, cw, ws, Bw, rfl, rfl, rfl, by rw [hw2]; exact HRW, by rw [hw2]; exact HMW⟩
      go_wp2
      refine wp_region_rq (by kernel_rfl) (by kernel_rfl) (by kernel_rfl) ?_
      repeat (first
        | (refine B_skip ?_ ?_; (· rfl); (try simp only [Act.put, List.setIfInBounds_toArray, List.set_cons_zero, List.set_cons_succ]))
        | (refine B_move rfl ?_ ?_; (· rfl); (try simp only [Act.eval, Act.put, Array.getD_eq_getD_getElem?, List.getElem?_toArray, List.getElem?_cons_succ, List.getElem?_cons_zero, Option.getD_some, List.setIfInBounds_toArray, List.set_cons_zero, List.set_cons_succ]))
        | (refine B_plain ?_ ?_; (· rfl); intro K hK; go_big_quiet_op; with_reducible refine hK _ ?_; clear hK K)
        | (refine B_nilck rfl rfl ?_ ?_; (· rfl); (try simp only [Act.put, List.setIfInBounds_toArray, List.set_cons_zero, List.set_cons_succ])))
      refine B_nil ?_ rfl ?_ ?_
      · kernel_rfl
      · rfl
      rintro _ ⟨⟨g1, d1⟩, rfl⟩
      simp only [fin, Act.put, List.setIfInBounds_toArray, List.set_cons_zero, List.set_cons_succ]
      go_wp2
      subst eaw ecw eB
      refine wp_opq (fun W => Ow W w0 (⟨p, 84, tcs T2 (.slice aw T2.waits.length cw) (.slice ag T.got.length cg)⟩ :: (⟨w.heap.size, 36, #[.int .i64 fi, .slice ao ms.length cap, .int .i64 he]⟩ :: (Bw ++ (Bg ++ F))))) (((HO2.out.set 9 _).plus _ _).as (L' := ⟨p, 84, tcs T2 (.slice aw T2.waits.length cw) (.slice ag T.got.length cg)⟩ :: (⟨w.heap.size, 36, #[.int .i64 fi, .slice ao ms.length cap, .int .i64 he]⟩ :: (Bw ++ (Bg ++ F)))) (by rw [hw2, hT2] <;> simp [tcs]) |>.perm (perm_cnt fun x => by simp only [cnt_append, cnt_cons, cnt_nil] <;> omega)) ?_
      intro W3 O3
      have HBp := O3.has (List.mem_cons_self ..)
      have HBq := O3.has (List.mem_cons_of_mem _ (List.mem_cons_self ..))
      have q0 := HBq.cell 0
      have q1 := HBq.cell 1
      have ltq := HBq.lt
      have p6 := HBp.cell 6
      have ltp := HBp.lt
      simp only [tcs] at p6
      rw [hh2] at p6
      have HO3 := Lib.hid O3
      clear O3 HBp HBq
      by_cases hE : T.heard < fi
      · have hd2 : decide ((T.heard : Int) < (fi : Int)) = true := decide_eq_true (by omega)
        have hcE : c = 20 := by rw [← HC.out, if_pos hE]
        refine wp_region_rq (by kernel_rfl) (by kernel_rfl) (by kernel_rfl) ?_
        repeat (first
          | (refine B_skip ?_ ?_; (· rfl); (try simp only [Act.put, List.setIfInBounds_toArray, List.set_cons_zero, List.set_cons_succ]))
          | (refine B_move rfl ?_ ?_; (· rfl); (try simp only [Act.eval, Act.put, Array.getD_eq_getD_getElem?, List.getElem?_toArray, List.getElem?_cons_succ, List.getElem?_cons_zero, Option.getD_some, List.setIfInBounds_toArray, List.set_cons_zero, List.set_cons_succ]))
          | (refine B_plain ?_ ?_; (· rfl); intro K hK; go_big_quiet_op; with_reducible refine hK _ ?_; clear hK K)
          | (refine B_nilck rfl rfl ?_ ?_; (· rfl); (try simp only [Act.put, List.setIfInBounds_toArray, List.set_cons_zero, List.set_cons_succ])))
        refine B_nil ?_ rfl ?_ ?_
        · kernel_rfl
        · rfl
        rintro _ ⟨⟨g2, d2⟩, rfl⟩
        simp only [fin, Act.put, List.setIfInBounds_toArray, List.set_cons_zero, List.set_cons_succ]
        go_wp2
        go_ret
        have eT : T2 = T' := by rw [← HT'.out]; unfold hearT; rw [if_pos hE, HT2.out]
        subst eT
        refine ⟨by rw [hcE]; rfl, [], ⟨p, 84, tcs T2 (.slice aw T2.waits.length cw) (.slice ag T.got.length cg)⟩ :: (Bw ++ Bg), (((HO3.out.perm (L' := ⟨w.heap.size, 36, #[.int .i64 fi, .slice ao ms.length cap, .int .i64 he]⟩ :: (⟨p, 84, tcs T2 (.slice aw T2.waits.length cw) (.slice ag T.got.length cg)⟩ :: (Bw ++ (Bg ++ F)))) (perm_cnt fun x => by simp only [cnt_append, cnt_cons, cnt_nil] <;> omega)).drop1.plus _ _).perm (perm_cnt fun x => by simp only [cnt_append, cnt_cons, cnt_nil] <;> omega)), _, ws1, Bw, _, gs, Bg, rfl, HR1.out, HMW1.out, ?_, ?_⟩
        · rw [hg2]; exact HRG.out
        · rw [hg2]; exact HMG.out
      · have hd2 : decide ((T.heard : Int) < (fi : Int)) = false := decide_eq_false (by omega)
        have hcE : c = 0 := by rw [← HC.out, if_neg hE]
        refine wp_region_rq (by kernel_rfl) (by kernel_rfl) (by kernel_rfl) ?_
        repeat (first
          | (refine B_skip ?_ ?_; (· rfl); (try simp only [Act.put, List.setIfInBounds_toArray, List.set_cons_zero, List.set_cons_succ]))
          | (refine B_move rfl ?_ ?_; (· rfl); (try simp only [Act.eval, Act.put, Array.getD_eq_getD_getElem?, List.getElem?_toArray, List.getElem?_cons_succ, List.getElem?_cons_zero, Option.getD_some, List.setIfInBounds_toArray, List.set_cons_zero, List.set_cons_succ]))
          | (refine B_plain ?_ ?_; (· rfl); intro K hK; go_big_quiet_op; with_reducible refine hK _ ?_; clear hK K)
          | (refine B_nilck rfl rfl ?_ ?_; (· rfl); (try simp only [Act.put, List.setIfInBounds_toArray, List.set_cons_zero, List.set_cons_succ])))
        refine B_nil ?_ rfl ?_ ?_
        · kernel_rfl
        · rfl
        rintro _ ⟨⟨g2, d2⟩, rfl⟩
        simp only [fin, Act.put, List.setIfInBounds_toArray, List.set_cons_zero, List.set_cons_succ]
        go_wp2_with fail
        go_loopw [72] (fun i wr => ∃ (k h : Nat) (gl : List (List UInt8)) (ak : Option Addr) (ck : Nat) (us : List Value) (B5 N : List Blk), i = .int .i64 k ∧ k ≤ ms.length ∧ h = max T.heard (fi + k) ∧ gl = T.got ++ (ms.take k).drop (T.heard - fi) ∧
          Ow wr w0 (⟨p, 84, tcs { T2 with heard := h } (.slice aw T2.waits.length cw) (.slice ak gl.length ck)⟩ :: (⟨w.heap.size, 36, #[.int .i64 fi, .slice ao ms.length cap, .int .i64 he]⟩ :: (Bw ++ (B5 ++ (N ++ F))))) ∧ Row 34 1 (.slice ak gl.length ck) gl.length us B5 ∧ Msgs w0 (N ++ L) us gl) (fun i _ => ms.length - (intOf i).toNat)
        case atStart => exact ⟨0, T.heard, T.got, ag, cg, gs, Bg, [], rfl, by omega, by omega, by simp, ((HO3.out.plus _ _).as (L' := ⟨p, 84, tcs { T2 with heard := T.heard } (.slice aw T2.waits.length cw) (.slice ag T.got.length cg)⟩ :: (⟨w.heap.size, 36, #[.int .i64 fi, .slice ao ms.length cap, .int .i64 he]⟩ :: (Bw ++ (Bg ++ F)))) (by rw [← hh2])).perm (perm_cnt fun x => by simp only [cnt_append, cnt_cons, cnt_nil] <;> omega), HRG.out, HMG.out⟩
        case round =>
          obtain ⟨k, h, gl, ak, ck, us, B5, N, rfl, hk, hh, hgl, O5, R5, M5⟩ := hrel
          have HBp := O5.has (List.mem_cons_self ..)
          have HBq := O5.has (List.mem_cons_of_mem _ (List.mem_cons_self ..))
          have q0 := HBq.cell 0
          have ltq := HBq.lt
          have p5 := HBp.cell 5
          have p6 := HBp.cell 6
          have ltp := HBp.lt
          simp only [tcs] at p5 p6
          have HO5 := Lib.hid O5
          have HR5 := Lib.hid R5
          have HM5 := Lib.hid M5
          have HGL := Lib.hid hgl
          have HH := Lib.hid hh
          have hhb : h ≤ 4611686018427387968 := by omega
          have hhl : fi + k ≤ h := by omega
          clear hh
          by_cases hlt : k < ms.length
          · obtain ⟨r, o, am, cm, rfl, hr, hc, hmm⟩ := HV.out.at_ O5 (by intro x hx; simp [HLM.out x hx]) k hlt
            obtain ⟨m, HMk⟩ : ∃ m, Hid (ms.getD k [] = m) := ⟨_, rfl⟩
            have hml := HMS.out k
            rw [HMk.out] at hc hmm hml
            have HMM := Lib.hid hmm
            clear O5 R5 M5 HBp HBq hgl hmm
            by_cases hge : h ≤ fi + k
            · have hd3 : decide ((h : Int) ≤ (fi : Int) + (k : Int)) = true := decide_eq_true (by omega)
              go_wp2
              refine wp_region_rq (by kernel_rfl) (by kernel_rfl) (by kernel_rfl) ?_
              repeat (first
                | (refine B_skip ?_ ?_; (· rfl); (try simp only [Act.put, List.setIfInBounds_toArray, List.set_cons_zero, List.set_cons_succ]))
                | (refine B_move rfl ?_ ?_; (· rfl); (try simp only [Act.eval, Act.put, Array.getD_eq_getD_getElem?, List.getElem?_toArray, List.getElem?_cons_succ, List.getElem?_cons_zero, Option.getD_some, List.setIfInBounds_toArray, List.set_cons_zero, List.set_cons_succ]))
                | (refine B_plain ?_ ?_; (· rfl); intro K hK; go_big_quiet_op; with_reducible refine hK _ ?_; clear hK K)
                | (refine B_nilck rfl rfl ?_ ?_; (· rfl); (try simp only [Act.put, List.setIfInBounds_toArray, List.set_cons_zero, List.set_cons_succ])))
              refine B_nil ?_ rfl ?_ ?_
              · kernel_rfl
              · rfl
              rintro _ ⟨⟨g3, d3⟩, rfl⟩
              simp only [fin, Act.put, List.setIfInBounds_toArray, List.set_cons_zero, List.set_cons_succ]
              go_wp2
              refine wp_opq (fun W => Ow W w0 (⟨p, 84, tcs { T2 with heard := h } (.slice aw T2.waits.length cw) (.slice ak gl.length ck)⟩ :: (⟨w.heap.size, 36, #[.int .i64 fi, .slice (some ⟨r, o, none⟩) ms.length cap, .int .i64 he]⟩ :: (Bw ++ (B5 ++ (N ++ F))))) ∧ BSl W (.slice am m.length cm) m) ⟨HO5.out.plus _ _, (HMM.out.bsl HO5.out (by intro x hx; simp [HLM.out x hx])).plus _ _⟩ ?_
              rintro w5 ⟨O6, V6⟩
              have HBp := O6.has (List.mem_cons_self ..)
              have p5 := HBp.cell 5
              have ltp := HBp.lt
              simp only [tcs] at p5
              have HO6 := Lib.hid O6
              have T3 : Hid (∀ g d, Calls Try.prog 38 #[.slice am m.length cm] (plus w5 g d) fun e w' => ∃ u, e = .returned u ∧ Below (plus w5 g d).heap.size (plus w5 g d) w' ∧ Clo 5 w5.heap.size m u w') := fun g d => by
                refine (cloneB_any _ m (by omega) _ (V6.plus g d)).mono ?_
                rintro e w' ⟨u, h1, h2, h3⟩
                exact ⟨u, h1, h2, h3.base (by simp)⟩
              clear O6 V6 HBp
              refine wp_region_rdk 8 5 rfl rfl (by kernel_rfl) (by kernel_rfl) (by kernel_rfl) (by kernel_rfl) (by kernel_rfl) (by rfl) ?_
              simp only [List.take_succ_cons, List.take_zero, Act.put, List.setIfInBounds_toArray, List.set_cons_zero, List.set_cons_succ]
              repeat (first
                | (refine B_skip ?_ ?_; (· rfl); (try simp only [Act.put, List.setIfInBounds_toArray, List.set_cons_zero, List.set_cons_succ]))
                | (refine B_move rfl ?_ ?_; (· rfl); (try simp only [Act.eval, Act.put, Array.getD_eq_getD_getElem?, List.getElem?_toArray, List.getElem?_cons_succ, List.getElem?_cons_zero, Option.getD_some, List.setIfInBounds_toArray, List.set_cons_zero, List.set_cons_succ]))
                | (refine B_plain ?_ ?_; (· rfl); intro K hK; go_big_quiet_op; with_reducible refine hK _ ?_; clear hK K)
                | (refine B_callR (Clo 5 w5.heap.size m) (stays_clo _ _ _) (f := 38) rfl rfl (by kernel_rfl) ?_ (fun xq => ?_) ?_; (· rfl); (· ((simp only [List.map_toArray, List.map_cons, List.map_nil, Act.eval, Array.getD_eq_getD_getElem?, List.getElem?_toArray, List.getElem?_cons_succ, List.getElem?_cons_zero, Option.getD_some]); (with_reducible apply retR); with_reducible exact T3.out _ _)))
                | (refine B_nilck rfl rfl ?_ ?_; (· rfl); (try simp only [Act.put, List.setIfInBounds_toArray, List.set_cons_zero, List.set_cons_succ]))
                | (refine B_newslP elt_msg rfl (s := 94) rfl rfl (stays_clo _ _ _) (clo_slice _ _ _) ?_ ?_; (· rfl)))
              refine B_nil ?_ rfl ?_ ?_
              · kernel_rfl
              · rfl
              rintro _ ⟨⟨g6, d6⟩, rfl⟩
              simp only [fin, Act.put, List.setIfInBounds_toArray, List.set_cons_zero, List.set_cons_succ]
              rintro _ ⟨b, u, rfl, hb1, hb2, hu⟩ _ -
              obtain ⟨N1, ON, MN⟩ := hu.found HO6.out ⟨⟨_, _⟩, rfl⟩
              have ON1 := Lib.hid (ON.perm (L' := B5 ++ (⟨p, 84, tcs { T2 with heard := h } (.slice aw T2.waits.length cw) (.slice ak gl.length ck)⟩ :: (⟨w.heap.size, 36, #[.int .i64 fi, .slice (some ⟨r, o, none⟩) ms.length cap, .int .i64 he]⟩ :: (Bw ++ (N1 ++ (N ++ F)))))) (perm_cnt fun x => by simp only [cnt_append, cnt_cons, cnt_nil] <;> omega))
              have hglen : gl.length ≤ 2000000 := by
                have h1 : gl.length = T.got.length + ((ms.take k).drop (T.heard - fi)).length := by rw [HGL.out, List.length_append]
                have h2 : ((ms.take k).drop (T.heard - fi)).length ≤ ms.length := by simp; omega
                omega
              refine step_one (n := 4) (k := 9) (by kernel_rfl) (by rfl) (by rfl) ?_
              intro K hK
              refine wp_append_row (.tmp 92) (.tmp 95) 25 rfl elt_msg ON1.out.mem ON1.out.split _ _ _ (by rfl) HR5.out _ _ _ [u] (by rfl) (by simp) (by simp) (blk_news hb2) (by simp [MN.one]) (by unfold maxLen; omega) (by omega) _ rfl _ rfl (fun ao' cap' B' w' R' M' hB' => hK _ _ ?_)
              clear hK K
              have O7 : Ow w' w0 (B' ++ (⟨p, 84, tcs { T2 with heard := h } (.slice aw T2.waits.length cw) (.slice ak gl.length ck)⟩ :: (⟨w.heap.size, 36, #[.int .i64 fi, .slice (some ⟨r, o, none⟩) ms.length cap, .int .i64 he]⟩ :: (Bw ++ (N1 ++ (N ++ F)))))) := Ow.mk3 M' hB' (fun x hx => ON1.out.new x (List.mem_append_right _ hx))
              have HB3 := O7.has (List.mem_append_right _ (List.mem_cons_self ..))
              have lt3 := HB3.lt
              have c35 := HB3.cell 5
              have f35 := HB3.frozen 5
              simp only [tcs] at c35
              have HO7 := Lib.hid O7
              have HR7 := Lib.hid R'
              clear O7 R' M' hB' HB3
              refine step_one (n := 3) (k := 10) (by kernel_rfl) (by rfl) (by rfl) ?_
              intro K hK
              go_simp
              refine hK _ _ ?_
              clear hK K
              refine step_one (n := 2) (k := 11) (by kernel_rfl) (by rfl) (by rfl) ?_
              intro K hK
              go_simp
              refine hK _ _ ?_
              clear hK K
              refine step_one (n := 1) (k := 12) (by kernel_rfl) (by rfl) (by rfl) ?_
              intro K hK
              go_simp
              refine hK _ _ ?_
              clear hK K
              refine last_one (k := 13) (by kernel_rfl) (by kernel_rfl) (by rfl) ?_ ?_
              · rfl
              intro K hK
              go_simp
              refine hK _ _ ?_
              clear hK K
              refine ⟨rfl, ?_⟩
              refine then_go (by assumption) ?_
              refine wp_opq (fun W => Ow W w0 (⟨p, 84, #[.int .i64 T2.most, .int .i64 T2.again, .slice aw T2.waits.length cw, .int .i64 T2.gone, .int .i64 T2.said, .slice ao' (gl.length + 1) cap', .int .i64 h, .int .i64 T2.last, .bool T2.went, .bool T2.owes]⟩ :: (B' ++ (⟨w.heap.size, 36, #[.int .i64 fi, .slice (some ⟨r, o, none⟩) ms.length cap, .int .i64 he]⟩ :: (Bw ++ (N1 ++ (N ++ F))))))) ((HO7.out.unfront.set 5 _).as (by simp [tcs])) ?_
              intro w8 O8
              have HB8 := O8.has (List.mem_cons_self ..)
              have lt8 := HB8.lt
              have c86 := HB8.cell 6
              have f86 := HB8.frozen 6
              have HO8 := Lib.hid O8
              clear O8 HB8
              have hh1 : (h : Int) + 1 ≤ 4611686018428387904 := by omega
              go_wp2
              have hh := HH.out
              refine ⟨⟨k + 1, h + 1, gl ++ [m], ao', cap', us ++ [u], B', N1 ++ N, by simp, by omega, by omega, ?_, ?_, ?_, ?_⟩, by simp [intOf]; omega⟩
              · rw [HGL.out, take_snoc ms [] k hlt, HMk.out, List.drop_append_of_le_length (by simp; omega), List.append_assoc]
              · refine ((HO8.out.set 6 (.int .i64 ((h : Int) + 1))).as (L' := ⟨p, 84, tcs { T2 with heard := h + 1 } (.slice aw T2.waits.length cw) (.slice ao' (gl ++ [m]).length cap')⟩ :: (B' ++ (⟨w.heap.size, 36, #[.int .i64 fi, .slice (some ⟨r, o, none⟩) ms.length cap, .int .i64 he]⟩ :: (Bw ++ (N1 ++ (N ++ F)))))) (by simp [tcs])).perm (perm_cnt fun x => by simp only [cnt_append, cnt_cons, cnt_nil] <;> omega)
              · simpa using HR7.out
              · exact (HM5.out.mono (by intro x hx; rcases List.mem_append.1 hx with hx | hx <;> simp [hx])).snoc (MN.mono (by intro x hx; simp [hx]))
            · have hd3 : decide ((h : Int) ≤ (fi : Int) + (k : Int)) = false := decide_eq_false (by omega)
              go_wp2
              refine wp_region_rq (by kernel_rfl) (by kernel_rfl) (by kernel_rfl) ?_
              repeat (first
                | (refine B_skip ?_ ?_; (· rfl); (try simp only [Act.put, List.setIfInBounds_toArray, List.set_cons_zero, List.set_cons_succ]))
                | (refine B_move rfl ?_ ?_; (· rfl); (try simp only [Act.eval, Act.put, Array.getD_eq_getD_getElem?, List.getElem?_toArray, List.getElem?_cons_succ, List.getElem?_cons_zero, Option.getD_some, List.setIfInBounds_toArray, List.set_cons_zero, List.set_cons_succ]))
                | (refine B_plain ?_ ?_; (· rfl); intro K hK; go_big_quiet_op; with_reducible refine hK _ ?_; clear hK K)
                | (refine B_nilck rfl rfl ?_ ?_; (· rfl); (try simp only [Act.put, List.setIfInBounds_toArray, List.set_cons_zero, List.set_cons_succ])))
              refine B_nil ?_ rfl ?_ ?_
              · kernel_rfl
              · rfl
              rintro _ ⟨⟨g3, d3⟩, rfl⟩
              simp only [fin, Act.put, List.setIfInBounds_toArray, List.set_cons_zero, List.set_cons_succ]
              go_wp2
              have hh := HH.out
              refine ⟨⟨k + 1, h, gl, ak, ck, us, B5, N, by simp, by omega, by omega, ?_, HO5.out.plus _ _, HR5.out, HM5.out⟩, by simp [intOf]; omega⟩
              rw [HGL.out, List.drop_eq_nil_of_le (by simp; omega), List.drop_eq_nil_of_le (by simp; omega)]
          · obtain rfl : k = ms.length := by omega
            clear O5 R5 M5 HBp HBq hgl
            go_wp2
            go_ret
            have eT : { T2 with heard := h, got := gl } = T' := by
              rw [← HT'.out]; unfold hearT hearC; rw [if_neg hE, HT2.out, HGL.out, List.take_length, hg2, hh2, HH.out]
            subst eT
            exact ⟨by rw [hcE]; rfl, N, ⟨p, 84, tcs { T2 with heard := h } (.slice aw T2.waits.length cw) (.slice ak gl.length ck)⟩ :: (Bw ++ B5), ((HO5.out.perm (L' := ⟨w.heap.size, 36, #[.int .i64 fi, .slice ao ms.length cap, .int .i64 he]⟩ :: (⟨p, 84, tcs { T2 with heard := h } (.slice aw T2.waits.length cw) (.slice ak gl.length ck)⟩ :: (Bw ++ (B5 ++ (N ++ F))))) (perm_cnt fun x => by simp only [cnt_append, cnt_cons, cnt_nil] <;> omega)).drop1.perm (perm_cnt fun x => by simp only [cnt_append, cnt_cons, cnt_nil] <;> omega)), _, ws1, Bw, _, us, B5, rfl, HR1.out, HMW1.out.mono (by intro x hx; simp [hx]), HR5.out, HM5.out⟩

end Go.Proofs.Ytgjodjkmefdilaa
