/- The law TalkNews: its walk. -/
import Derived.Test.YtgjodjkmefdilaaTx
namespace Go.Proofs.Ytgjodjkmefdilaa
set_option linter.unusedSimpArgs false
set_option linter.unusedVariables false
open Go.RowKit

set_option maxRecDepth 100000 in
set_option maxHeartbeats 1000000 in
theorem tick_nil (now : Int) (w : World) : Calls Try.prog 19 #[.pointer none, .int .i64 now] w fun e w' => e = .returned (.tuple #[.agg #[.int .i64 0, .slice none 0 0, .int .i64 0], .bool false]) ∧ Ow w' w [] := by
  have HS := Lib.hid ((Ow.start w).alloc (.cells #[.int .i64 0, .slice none 0 0, .int .i64 0] 36))
  go_enter Try.func19, Try.ntmps19
  go_wp2
  refine bodyPost_ret (v := .tuple #[.agg #[.int .i64 0, .slice none 0 0, .int .i64 0], .bool false]) (by simp [results, Try.results19, go_sem]) rfl ⟨rfl, HS.out⟩
set_option maxRecDepth 100000 in
set_option maxHeartbeats 1000000 in
theorem hear_nil (cs : Array Value) (w : World) : Calls Try.prog 20 #[.pointer none, .agg #[.int .i64 0, .slice none 0 0, .int .i64 0]] w fun e w' => e = .returned (.int .i64 1) ∧ Ow w' w [] := by
  have HS := Lib.hid ((Ow.start w).alloc (.cells #[.int .i64 0, .slice none 0 0, .int .i64 0] 36))
  go_enter Try.func20, Try.ntmps20
  go_wp2
  go_ret
  exact ⟨rfl, HS.out⟩

theorem bsl_row {w w0 : World} {X : List Blk} {b : Nat} {t : TypeId} {cs : Array Value} (O : Ow w w0 X) (hb : (⟨b, t, cs⟩ : Blk) ∈ X) (m : List UInt8) (hcs : cs = (bcs m).toArray) (n : Nat) (hn : m.length = n) (c : Nat) (hc : n ≤ c) : BSl w (.slice (some ⟨b, 0, none⟩) n c) m := by
  subst hn hcs
  refine ⟨_, c, rfl, ⟨hc, fun h => by cases h⟩, .inr ⟨b, 0, rfl, (O.has hb).lt, fun i hi => ?_⟩⟩
  rw [Nat.zero_add, (O.has hb).cell]
  simpa using bcs_get m i hi
def nwL : List UInt8 := [1, 2]
theorem Ow.trans {w w1 w2 : World} (h : Ow w1 w []) (k : Ow w2 w1 []) : Ow w2 w [] := h.of_below k.below
/-- A message that lies in blocks of its own. -/
theorem Msg.own {N : List Blk} {v : Value} {m : List UInt8} (w : World) (h : ∀ w1, Msg w1 N v m) (hm : 0 < m.length) : ∃ r o t cs cap, v = .slice (some ⟨r, o, none⟩) m.length cap ∧ (⟨r, t, cs⟩ : Blk) ∈ N ∧ ∀ j u, (bcs m)[j]? = some u → cs[o + j]? = some u := by
  obtain ⟨h0, ao, cap, h1, h2, h3⟩ := h { w with heap := #[] }
  rcases h3 with h3 | ⟨r, o, rfl, h5⟩
  · omega
  · rcases h5 with ⟨h6, _⟩ | ⟨t, cs, h6, h7⟩
    · simp at h6
    · exact ⟨r, o, t, cs, cap, h1, h6, h7⟩



set_option maxRecDepth 100000 in
set_option maxHeartbeats 8000000 in
theorem talkNews_no (a b : Int) (z : Int) (w : World) (ha : (Lit.int .i64 a).wf = true) (hb : (Lit.int .i64 b).wf = true) (h : ¬(1 ≤ a ∧ a ≤ 64 ∧ 1 ≤ b ∧ b ≤ 1000)) :
    Calls Try.prog 10 #[.int .i64 a, .int .i64 b, .int .u8 z] w fun e w' => e = .returned (.bool true) ∧ Below w.heap.size w w' := by
  have HN := Lib.hid (new_no a b w ha hb h)
  have HB1 := Lib.hid (Ow.start w)
  go_enter Try.func10, Try.ntmps10
  go_wp2_with fail
  refine HN.out.mono ?_
  rintro e w1 ⟨rfl, rfl⟩
  have h1 : decide (1 ≤ a) = true ∨ decide (1 ≤ a) = false := by cases decide (1 ≤ a) <;> simp
  have h2 : decide (a ≤ 64) = true ∨ decide (a ≤ 64) = false := by cases decide (a ≤ 64) <;> simp
  have h3 : decide (1 ≤ b) = true ∨ decide (1 ≤ b) = false := by cases decide (1 ≤ b) <;> simp
  have h4 : decide (b ≤ 1000) = true ∨ decide (b ≤ 1000) = false := by cases decide (b ≤ 1000) <;> simp
  rcases h1 with h1 | h1
  · rcases h2 with h2 | h2
    · rcases h3 with h3 | h3
      · have h4 : decide (b ≤ 1000) = false := by simp at h1 h2 h3 ⊢; omega
        go_wp2_with fail
        refine (tick_nil 1 _).mono ?_
        rintro e w2 ⟨rfl, O2⟩
        have HB2 := Lib.hid (HB1.out.trans O2)
        clear O2 HB1
        go_wp2_with fail
        refine (told_to _).mono ?_
        rintro e w3 ⟨rfl, hb3⟩
        have HB3 := Lib.hid (HB2.out.alloc (.cells #[.int .i64 0, .slice none 0 0, .int .i64 0] 36) |>.of_below hb3)
        clear hb3 HB2
        go_wp2_with fail
        refine (say_nil _ _).mono ?_
        rintro e w4 ⟨rfl, rfl⟩
        go_wp2_with fail
        refine (hear_nil #[] _).mono ?_
        rintro e w5 ⟨rfl, O5⟩
        have HB5 := Lib.hid (HB3.out.of_below O5.below)
        clear O5 HB3
        go_wp2_with fail
        refine (got_nil _).mono ?_
        rintro e w6 ⟨rfl, rfl⟩
        go_wp2_with fail
        refine (idle_nil _).mono ?_
        rintro e w7 ⟨rfl, rfl⟩
        go_wp2_with fail
        refine (tclone_nil _).mono ?_
        rintro e w8 ⟨rfl, rfl⟩
        go_wp2_with fail
        refine (tsame_nn _).mono ?_
        rintro e w9 ⟨rfl, rfl⟩
        go_wp2
        go_ret
        exact ⟨rfl, HB5.out.below⟩
      · skip
        go_wp2_with fail
        refine (tick_nil 1 _).mono ?_
        rintro e w2 ⟨rfl, O2⟩
        have HB2 := Lib.hid (HB1.out.trans O2)
        clear O2 HB1
        go_wp2_with fail
        refine (told_to _).mono ?_
        rintro e w3 ⟨rfl, hb3⟩
        have HB3 := Lib.hid (HB2.out.alloc (.cells #[.int .i64 0, .slice none 0 0, .int .i64 0] 36) |>.of_below hb3)
        clear hb3 HB2
        go_wp2_with fail
        refine (say_nil _ _).mono ?_
        rintro e w4 ⟨rfl, rfl⟩
        go_wp2_with fail
        refine (hear_nil #[] _).mono ?_
        rintro e w5 ⟨rfl, O5⟩
        have HB5 := Lib.hid (HB3.out.of_below O5.below)
        clear O5 HB3
        go_wp2_with fail
        refine (got_nil _).mono ?_
        rintro e w6 ⟨rfl, rfl⟩
        go_wp2_with fail
        refine (idle_nil _).mono ?_
        rintro e w7 ⟨rfl, rfl⟩
        go_wp2_with fail
        refine (tclone_nil _).mono ?_
        rintro e w8 ⟨rfl, rfl⟩
        go_wp2_with fail
        refine (tsame_nn _).mono ?_
        rintro e w9 ⟨rfl, rfl⟩
        go_wp2
        go_ret
        exact ⟨rfl, HB5.out.below⟩
    · skip
      go_wp2_with fail
      refine (tick_nil 1 _).mono ?_
      rintro e w2 ⟨rfl, O2⟩
      have HB2 := Lib.hid (HB1.out.trans O2)
      clear O2 HB1
      go_wp2_with fail
      refine (told_to _).mono ?_
      rintro e w3 ⟨rfl, hb3⟩
      have HB3 := Lib.hid (HB2.out.alloc (.cells #[.int .i64 0, .slice none 0 0, .int .i64 0] 36) |>.of_below hb3)
      clear hb3 HB2
      go_wp2_with fail
      refine (say_nil _ _).mono ?_
      rintro e w4 ⟨rfl, rfl⟩
      go_wp2_with fail
      refine (hear_nil #[] _).mono ?_
      rintro e w5 ⟨rfl, O5⟩
      have HB5 := Lib.hid (HB3.out.of_below O5.below)
      clear O5 HB3
      go_wp2_with fail
      refine (got_nil _).mono ?_
      rintro e w6 ⟨rfl, rfl⟩
      go_wp2_with fail
      refine (idle_nil _).mono ?_
      rintro e w7 ⟨rfl, rfl⟩
      go_wp2_with fail
      refine (tclone_nil _).mono ?_
      rintro e w8 ⟨rfl, rfl⟩
      go_wp2_with fail
      refine (tsame_nn _).mono ?_
      rintro e w9 ⟨rfl, rfl⟩
      go_wp2
      go_ret
      exact ⟨rfl, HB5.out.below⟩
  · skip
    go_wp2_with fail
    refine (tick_nil 1 _).mono ?_
    rintro e w2 ⟨rfl, O2⟩
    have HB2 := Lib.hid (HB1.out.trans O2)
    clear O2 HB1
    go_wp2_with fail
    refine (told_to _).mono ?_
    rintro e w3 ⟨rfl, hb3⟩
    have HB3 := Lib.hid (HB2.out.alloc (.cells #[.int .i64 0, .slice none 0 0, .int .i64 0] 36) |>.of_below hb3)
    clear hb3 HB2
    go_wp2_with fail
    refine (say_nil _ _).mono ?_
    rintro e w4 ⟨rfl, rfl⟩
    go_wp2_with fail
    refine (hear_nil #[] _).mono ?_
    rintro e w5 ⟨rfl, O5⟩
    have HB5 := Lib.hid (HB3.out.of_below O5.below)
    clear O5 HB3
    go_wp2_with fail
    refine (got_nil _).mono ?_
    rintro e w6 ⟨rfl, rfl⟩
    go_wp2_with fail
    refine (idle_nil _).mono ?_
    rintro e w7 ⟨rfl, rfl⟩
    go_wp2_with fail
    refine (tclone_nil _).mono ?_
    rintro e w8 ⟨rfl, rfl⟩
    go_wp2_with fail
    refine (tsame_nn _).mono ?_
    rintro e w9 ⟨rfl, rfl⟩
    go_wp2
    go_ret
    exact ⟨rfl, HB5.out.below⟩

set_option maxRecDepth 100000 in
set_option maxHeartbeats 8000000 in
theorem talkNews_yes (a b : Nat) (z : Int) (w : World) (ha : 1 ≤ a) (ha2 : a ≤ 64) (hb : 1 ≤ b) (hb2 : b ≤ 1000) :
    Calls Try.prog 10 #[.int .i64 a, .int .i64 b, .int .u8 z] w fun e w' => e = .returned (.bool true) ∧ Below w.heap.size w w' := by
  have HS := Lib.hid (Ow.start w)
  have h1 : decide ((1 : Int) ≤ (a : Int)) = true := decide_eq_true (by omega)
  have h2 : decide ((a : Int) ≤ 64) = true := decide_eq_true (by omega)
  have h3 : decide ((1 : Int) ≤ (b : Int)) = true := decide_eq_true (by omega)
  have h4 : decide ((b : Int) ≤ 1000) = true := decide_eq_true (by omega)
  have W0 : TW 1000000 (newT a b) := newT_ok a b ha ha2 hb2 _
  have W1' : TW 1000000 (sayT (newT a b) nwL) := ((newT_ok a b ha ha2 hb2 9).say nwL).mono (by omega)
  obtain ⟨T1, HT1⟩ : ∃ T1, Hid (sayT (newT a b) nwL = T1) := ⟨_, rfl⟩
  have hT1 : T1 = { newT a b with waits := [nwL], said := 1 } := by
    rw [← HT1.out]; unfold sayT; rw [if_neg (by decide), if_neg (by simp [newT]; omega)]; simp [newT]
  have W1 := Lib.hid W1'
  rw [HT1.out] at W1
  have W2 := Lib.hid (W1.out.tick 0 (by omega))
  have hw : T1.waits = [nwL] := by rw [hT1]
  have hs : T1.said = 1 := by rw [hT1]
  have hh : T1.heard = 0 := by rw [hT1]; rfl
  have hg : T1.gone = 0 := by rw [hT1]; rfl
  have hag : T1.again = b := by rw [hT1]; rfl
  have HD1 : Hid (dueT T1 0 = true) := by show _ = _; unfold dueT; rw [hw, hg]; simp
  have HD2 : Hid (dueT (tickT T1 0) 5000 = true) := by
    show _ = _
    unfold dueT tickT
    simp only [hw, hag]
    simp; omega
  have HT1' : Hid ({ newT a b with waits := (newT a b).waits ++ [nwL], said := (newT a b).said + 1 } = T1) := by show _ = _; rw [hT1]; simp [newT]
  clear hT1 W1'
  go_enter Try.func10, Try.ntmps10
  go_wp2_with fail
  refine (new_yes a b _ w [] HS.out ha ha2 hb hb2).mono ?_
  rintro e w1 ⟨p, A, rfl, O1, t1⟩
  have HO1 := Lib.hid O1
  have HTk := Lib.hid t1
  clear O1 t1
  go_wp2_with fail
  refine (tick_nil 1 _).mono ?_
  rintro e w2 ⟨rfl, O2⟩
  have HO2 := Lib.hid (HO1.out.of_below O2.below)
  clear O2 HO1
  go_wp2_with fail
  refine (told_to _).mono ?_
  rintro e w3 ⟨rfl, hb3⟩
  have HB3 := Lib.hid ((HO2.out.alloc (.cells #[.int .i64 0, .slice none 0 0, .int .i64 0] 36)).of_below hb3)
  clear hb3 HO2
  go_wp2_with fail
  refine (say_nil _ _).mono ?_
  rintro e w4 ⟨rfl, rfl⟩
  go_wp2_with fail
  refine (hear_nil #[] _).mono ?_
  rintro e w5 ⟨rfl, O5⟩
  have HB5 := Lib.hid (HB3.out.of_below O5.below)
  clear O5 HB3
  go_wp2_with fail
  refine (got_nil _).mono ?_
  rintro e w6 ⟨rfl, rfl⟩
  go_wp2_with fail
  refine (idle_nil _).mono ?_
  rintro e w7 ⟨rfl, rfl⟩
  go_wp2_with fail
  refine (tclone_nil _).mono ?_
  rintro e w8 ⟨rfl, rfl⟩
  go_wp2_with fail
  refine (tsame_nn _).mono ?_
  rintro e w9 ⟨rfl, rfl⟩
  have HO5 := Lib.hid (HB5.out.key #[.int .u8 1, .int .u8 2] 5 w9.heap.size rfl)
  clear HB5
  go_wp2_with fail
  refine (tsame_np p _).mono ?_
  rintro e w10 ⟨rfl, rfl⟩
  go_wp2_with fail
  have hv := Lib.hid (bsl_row HO5.out (List.mem_cons_self ..) nwL (by rfl) 2 rfl 2 (Nat.le_refl _))
  refine (say_ok p (newT a b) A [⟨w9.heap.size, 5, #[.int .u8 1, .int .u8 2]⟩] [] _ nwL (by decide) (by simp [newT]; omega) W0.most W0.said _ w (HO5.out.perm (perm_cnt fun x => by simp only [cnt_append, cnt_cons, cnt_nil] <;> omega)) (by simp) HTk.out hv.out T1 HT1'.out).mono ?_
  rintro e w11 ⟨rfl, N, B, O11, t11⟩
  have HO11 := Lib.hid (O11.perm (L' := ⟨w9.heap.size, 5, #[.int .u8 1, .int .u8 2]⟩ :: (B ++ N)) (perm_cnt fun x => by simp only [cnt_append, cnt_cons, cnt_nil] <;> omega))
  have HBm := O11.has (b := w9.heap.size) (t := 5) (cs := #[.int .u8 1, .int .u8 2]) (by simp)
  have m0 := HBm.cell 0
  have f0 := HBm.frozen 0
  have ltm := HBm.lt
  have HT11 := Lib.hid t11
  clear O11 t11 HBm hv HO5 HTk
  go_wp2_with fail
  -- the first packet
  have HO12 : Hid (∀ x, Ow (w11.setCell ⟨w9.heap.size, 0, none⟩ x) w (B ++ N)) := fun x => (HO11.out.set 0 x).drop1
  refine calls_opq (fun W => Ow W w (B ++ N)) (HO12.out _) ?_
  intro w12 O12
  refine (tick_yes p T1 B N N w12 w O12 (HT11.out.mono (fun x hx => by simpa using hx)) (fun x hx => hx) 0 (by omega) W1.out HD1.out).mono ?_
  rintro e w13 ⟨u, us, C, N2, B2, rfl, O13, t13, R13, M13⟩
  have e0 : ((T1.said - T1.waits.length : Nat) : Int) = ((0 : Nat) : Int) := by rw [hs, hw]; rfl
  rw [e0, hh]
  have e1 : T1.waits.length = 1 := by rw [hw]; rfl
  rw [e1] at R13
  rw [hw] at M13
  have R13' := R13
  cases R13' with
  | one c n cc cur k1 k2 k3 =>
  obtain ⟨v, hv, hvm⟩ := (M13 w).get 0 (by simp)
  have hlc : cur[0]? = some v := by
    have := hv
    rw [List.getElem?_take] at this
    simpa using this
  obtain ⟨r, o, tr, cr, capr, rfl, hN2, hcr⟩ := Msg.own w (v := v) (m := nwL) (fun w1 => by
    obtain ⟨v2, hv2, hm2⟩ := (M13 w1).get 0 (by simp)
    rw [hv] at hv2
    cases hv2
    exact hm2) (by decide)
  obtain ⟨s1, s2, rfl⟩ := List.append_of_mem hN2
  have cr1 : cr[o + 1]? = some (.int .u8 2) := hcr 1 _ rfl
  have ML13 : Hid (MsgL w ([⟨c, 34, cur⟩] ++ (s1 ++ ⟨r, tr, cr⟩ :: s2)) (.slice (some ⟨c, 0, none⟩) 1 cc) [nwL]) := R13.msgl (M13 w)
  have HO13 := Lib.hid (O13.key #[.int .i64 (0 : Nat), .slice (some ⟨c, 0, none⟩) 1 cc, .int .i64 (0 : Nat)] 36 w13.heap.size rfl)
  have HT13 := Lib.hid t13
  have HB1 := O13.has (b := c) (t := 34) (cs := cur) (by simp)
  clear O12 O13 t13 R13 M13 hv hvm hcr hN2 HO12 HO11 HT11 m0 f0 ltm HB1
  have hms := Lib.hid (ML13.out.here HO13.out (by intro x hx; simp at hx ⊢; rcases hx with hx | hx | hx | hx <;> simp [hx]))
  have hml : Hid (MsgL (((w13.alloc (.cells #[.int .i64 (0 : Nat), .slice (some ⟨c, 0, none⟩) 1 cc, .int .i64 (0 : Nat)] 36)).alloc (.cells #[.int .u8 1, .int .u8 2] 5)).alloc (.cells #[.slice (some ⟨w13.heap.size + 1, 0, none⟩) 2 2] 34)) [] (.slice (some ⟨w13.heap.size + 1 + 1, 0, none⟩) 1 1) [nwL]) :=
    msgl_one (by simp) (by rw [World.cell?_alloc_at _ _ _ _ (by simp)]; rfl) ((bsl_row ((Ow.start (w13.alloc (.cells #[.int .i64 (0 : Nat), .slice (some ⟨c, 0, none⟩) 1 cc, .int .i64 (0 : Nat)] 36))).key #[.int .u8 1, .int .u8 2] 5 (w13.heap.size + 1) (by simp)) (List.mem_cons_self ..) nwL (by rfl) 2 rfl 2 (Nat.le_refl _)).alloc _)
  have hmr := Lib.hid (hms.out.here (((Ow.start (w13.alloc (.cells #[.int .i64 (0 : Nat), .slice (some ⟨c, 0, none⟩) 1 cc, .int .i64 (0 : Nat)] 36))).alloc (.cells #[.int .u8 1, .int .u8 2] 5)).alloc (.cells #[.slice (some ⟨w13.heap.size + 1, 0, none⟩) 2 2] 34)) sub_nil)
  go_wp2_with fail
  refine (same_to _ _ [nwL] [nwL] _ (by simp) (by simp) hmr.out hml.out true (by rfl)).mono ?_
  rintro e w14 ⟨rfl, O14⟩
  have HO14' := (((HO13.out.alloc (.cells #[.int .u8 1, .int .u8 2] 5)).alloc (.cells #[.slice (some ⟨w13.heap.size + 1, 0, none⟩) 2 2] 34)).of_below O14.below)
  have HO14 := Lib.hid (HO14'.perm (L' := ⟨r, tr, cr⟩ :: (⟨w13.heap.size, 36, #[.int .i64 (0 : Nat), .slice (some ⟨c, 0, none⟩) 1 cc, .int .i64 (0 : Nat)]⟩ :: (⟨c, 34, cur⟩ :: (B2 ++ ((s1 ++ s2) ++ N))))) (perm_cnt fun x => by simp only [cnt_append, cnt_cons, cnt_nil] <;> omega))
  have hbr := HO14.out.has (List.mem_cons_self ..)
  have hbk := HO14.out.has (List.mem_cons_of_mem _ (List.mem_cons_self ..))
  have hbc := HO14.out.has (List.mem_cons_of_mem _ (List.mem_cons_of_mem _ (List.mem_cons_self ..)))
  have x1 := hbk.cell 1
  have lk := hbk.lt
  have y0 : w14.cell? ⟨c, 0, none⟩ = some (.slice (some ⟨r, o, none⟩) 2 capr) := (hbc.cell 0).trans hlc
  have lc := hbc.lt
  have z1 : w14.cell? ⟨r, o + 1, none⟩ = some (.int .u8 2) := (hbr.cell (o + 1)).trans cr1
  have fz1 := hbr.frozen (o + 1)
  have lr := hbr.lt
  clear O14 HO14' hml hmr hbr hbk hbc HO13 ML13 hms
  go_wp2_with fail
  refine wp_region_rc 13 1 (by kernel_rfl) (by kernel_rfl) (by kernel_rfl) (by kernel_rfl) ?_
  simp only [List.take_succ_cons, List.take_zero]
  repeat (first
    | (refine B_skip ?_ ?_; (· rfl); (try simp only [Act.put, List.setIfInBounds_toArray, List.set_cons_zero, List.set_cons_succ]))
    | (refine B_move rfl ?_ ?_; (· rfl); (try simp only [Act.eval, Act.put, Array.getD_eq_getD_getElem?, List.getElem?_toArray, List.getElem?_cons_succ, List.getElem?_cons_zero, Option.getD_some, List.setIfInBounds_toArray, List.set_cons_zero, List.set_cons_succ]))
    | (refine B_plain ?_ ?_; (· rfl); intro K hK; go_big_quiet_op; with_reducible refine hK _ ?_; clear hK K)
    | (fail))
  refine B_nil ?_ rfl ?_ ?_
  · kernel_rfl
  · rfl
  rintro _ ⟨⟨g5, d5⟩, rfl⟩
  simp only [fin, Act.put, List.setIfInBounds_toArray, List.set_cons_zero, List.set_cons_succ]
  refine last_one (k := 13) (by kernel_rfl) (by kernel_rfl) (by rfl) ?_ ?_
  · rfl
  intro K hK
  go_simp
  refine hK _ _ ?_
  clear hK K
  have HO15 : Hid (∀ x, Ow (plus (w14.setCell ⟨r, o + 1, none⟩ x) g5 d5) w (B2 ++ (⟨c, 34, cur⟩ :: (⟨w13.heap.size, 36, #[.int .i64 (0 : Nat), .slice (some ⟨c, 0, none⟩) 1 cc, .int .i64 (0 : Nat)]⟩ :: ((s1 ++ s2) ++ N))))) := fun x => ((HO14.out.set (o + 1) x).plus g5 d5).drop1.perm (perm_cnt fun x => by simp only [cnt_append, cnt_cons, cnt_nil] <;> omega)
  go_wp2_with fail
  refine calls_opq (fun W => Ow W w (B2 ++ (⟨c, 34, cur⟩ :: (⟨w13.heap.size, 36, #[.int .i64 (0 : Nat), .slice (some ⟨c, 0, none⟩) 1 cc, .int .i64 (0 : Nat)]⟩ :: ((s1 ++ s2) ++ N))))) (HO15.out _) ?_
  intro w16 O16
  refine (tick_yes p (tickT T1 0) B2 (⟨c, 34, cur⟩ :: (⟨w13.heap.size, 36, #[.int .i64 (0 : Nat), .slice (some ⟨c, 0, none⟩) 1 cc, .int .i64 (0 : Nat)]⟩ :: ((s1 ++ s2) ++ N))) N w16 w O16 HT13.out (fun x hx => by simp [hx]) 5000 (by omega) W2.out HD2.out).mono ?_
  rintro e w17 ⟨u, us, C, N3, B3, rfl, O17, t17, R17, M17⟩
  have e2 : (((tickT T1 0).said - (tickT T1 0).waits.length : Nat) : Int) = ((0 : Nat) : Int) := by rw [show (tickT T1 0).said = 1 from hs, show (tickT T1 0).waits = [nwL] from hw]; rfl
  have e3 : (tickT T1 0).waits.length = 1 := by rw [show (tickT T1 0).waits = [nwL] from hw]; rfl
  rw [e2, show (tickT T1 0).heard = 0 from hh]
  rw [e3] at R17
  rw [show (tickT T1 0).waits = [nwL] from hw] at M17
  obtain ⟨au, cu, rfl⟩ := R17.slice
  have hm17 : Hid (MsgL w17 [] (.slice au 1 cu) [nwL]) := (R17.msgl (ms := [nwL]) (M17 w)).here O17 (by intro x hx; simp at hx ⊢; rcases hx with hx | hx <;> simp [hx])
  have HO17 := Lib.hid O17
  clear O16 O17 t17 R17 M17 HO15 HT13
  have hml : Hid (MsgL (((w17.alloc (.cells #[.int .i64 (0 : Nat), .slice au 1 cu, .int .i64 (0 : Nat)] 36)).alloc (.cells #[.int .u8 1, .int .u8 2] 5)).alloc (.cells #[.slice (some ⟨w17.heap.size + 1, 0, none⟩) 2 2] 34)) [] (.slice (some ⟨w17.heap.size + 1 + 1, 0, none⟩) 1 1) [nwL]) :=
    msgl_one (by simp) (by rw [World.cell?_alloc_at _ _ _ _ (by simp)]; rfl) ((bsl_row ((Ow.start (w17.alloc (.cells #[.int .i64 (0 : Nat), .slice au 1 cu, .int .i64 (0 : Nat)] 36))).key #[.int .u8 1, .int .u8 2] 5 (w17.heap.size + 1) (by simp)) (List.mem_cons_self ..) nwL (by rfl) 2 rfl 2 (Nat.le_refl _)).alloc _)
  have hmr := Lib.hid (hm17.out.here ((((Ow.start w17).alloc (.cells #[.int .i64 (0 : Nat), .slice au 1 cu, .int .i64 (0 : Nat)] 36)).alloc (.cells #[.int .u8 1, .int .u8 2] 5)).alloc (.cells #[.slice (some ⟨w17.heap.size + 1, 0, none⟩) 2 2] 34)) sub_nil)
  go_wp2_with fail
  refine (same_to _ _ [nwL] [nwL] _ (by simp) (by simp) hmr.out hml.out true (by rfl)).mono ?_
  rintro e w18 ⟨rfl, O18⟩
  have HO18 := Lib.hid ((((HO17.out.alloc (.cells #[.int .i64 (0 : Nat), .slice au 1 cu, .int .i64 (0 : Nat)] 36)).alloc (.cells #[.int .u8 1, .int .u8 2] 5)).alloc (.cells #[.slice (some ⟨w17.heap.size + 1, 0, none⟩) 2 2] 34)).of_below O18.below)
  clear O18
  go_wp2
  go_ret
  exact ⟨rfl, HO18.out.below⟩

end Go.Proofs.Ytgjodjkmefdilaa
