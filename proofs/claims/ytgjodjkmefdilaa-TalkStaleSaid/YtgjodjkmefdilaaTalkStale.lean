/- The law TalkStale: its walk. -/
import Derived.Test.YtgjodjkmefdilaaTalkAgain
namespace Go.Proofs.Ytgjodjkmefdilaa
set_option linter.unusedSimpArgs false
set_option linter.unusedVariables false
open Go.RowKit

theorem wp_call_op {P : Program} {o : Oper} {f : FuncId} {xs : Array Operand} {ts : Array TypeId} (ho : o.op = .call { callee := .value (.func f), args := xs, argTypes := ts }) (he : entersB P f = true) {a : Act} {w : World} {K : Act → World → Prop} {Q : Exit → Act → World → Prop} (args : Array Value) (hargs : xs.map a.eval = args)
    (h : Calls P f args w (fun e w' => ∃ v, e = .returned v ∧ K (a.put o.dst v) w')) : o.wp P a w K Q := by
  subst hargs
  unfold Oper.wp
  rw [run_enter ho he]
  simp only [Oper.upon]
  refine Calls.mono h ?_
  rintro e w' ⟨v, rfl, hk⟩
  exact hk
/-- A store into a block that was made on the way. -/
theorem wp_store_S2 {P : Program} {W w w0 : World} {X : List Blk} {p q : Nat} {T U : TS} (h : S2 W w0 X p T q U) (hx : Ext W w) {o : Oper} {a : Act} {Q : Exit → Act → World → Prop} {K : Act → World → Prop} (ty : TypeId) (x y : Operand) (ho : o.op = .store ty x y) {b : Nat} {t : TypeId} {cs : Array Value} (hb : W.heap.size ≤ b) (hh : w.heap[b]? = some (.cells cs t (0, 0)))
    (hax : a.eval x = .pointer (some ⟨b, 0, none⟩)) (vs : Array Value) (hy : a.eval y = .agg vs) (hi : (P.info? ty).map (·.size) = some cs.size) (hs : vs.size = cs.size) (h1 : ∀ v ∈ vs.toList, v.oneCell' = true)
    (k : ∀ w', S2 w' w0 (⟨b, t, vs⟩ :: X) p T q U → K (a.put o.dst undef) w') : o.wp P a w K Q := by
  obtain ⟨C, ⟨A, O, t1⟩, u⟩ := h
  have O1 := O.found (B := [⟨b, t, cs⟩]) hx (by simp) (fun y hy => by simp at hy; subst hy; exact ⟨hb, hh⟩)
  refine wp_store_blk ty x y ho (B := []) O1.mem hax vs hy hi hs h1 (fun w' M' => k w' ?_)
  have O2 : Ow w' w0 (⟨b, t, vs⟩ :: (A ++ (C ++ X))) := ⟨M', New.cons (O1.new ⟨b, t, cs⟩ (by simp)) O.new⟩
  exact ⟨C, ⟨A, O2.perm (perm_cnt fun x => by simp only [cnt_append, cnt_cons, cnt_nil] <;> omega), t1.mono fun x hx => by simp [hx]⟩, u.mono fun x hx => by simp [hx]⟩
/-- One end, that only said. -/
def stT (L : List (List UInt8)) : TS := { newT 64 3 with waits := L, said := L.length }
/-- The other one, that only heard. -/
def bT (g : List (List UInt8)) (h : Nat) (o : Bool) : TS := { newT 64 3 with got := g, heard := h, owes := o }
theorem stT_say (L : List (List UInt8)) (m : List UInt8) (hm : m.length ≤ 4096) (hL : L.length < 64) : sayT (stT L) m = stT (L ++ [m]) ∧ sayE (stT L) m = 0 := by
  unfold sayT sayE
  rw [if_neg (by omega), if_neg (by simp [stT, newT]; omega), if_neg (by omega), if_neg (by simp [stT, newT]; omega)]
  simp [stT]
theorem stT_ok (L : List (List UInt8)) (hL : L.length ≤ 64) (h : ∀ m ∈ L, m.length ≤ 4096) : TW 1000000 (stT L) :=
  ⟨by simp [stT, newT], by simp [stT, newT], by simp [stT, newT], by simp [stT, newT]; omega, by simp [stT, newT], by simp [stT]; omega, by simp [stT], by simp [stT, newT], by simp [stT, newT], by simp [stT, newT], h, by simp [stT, newT]⟩
theorem bT_ok (g : List (List UInt8)) (h : Nat) (o : Bool) (hg : g.length ≤ 1000000) (hh : h ≤ 1000000) (hm : ∀ m ∈ g, m.length ≤ 4096) : TW 1000000 (bT g h o) :=
  ⟨by simp [bT, newT], by simp [bT, newT], by simp [bT, newT], by simp [bT, newT], by simp [bT, newT], by simp [bT, newT], by simp [bT, newT], hh, by simp [bT, newT], hg, by simp [bT, newT], hm⟩
theorem bT_hear (g : List (List UInt8)) (h : Nat) (o : Bool) (ms : List (List UInt8)) : hearT (bT g h o) 0 ms 0 = bT (g ++ ms.drop h) (max h ms.length) (o || decide (0 < ms.length)) := by
  have e1 : hearA (bT g h o) 0 = bT g h o := by unfold hearA; rw [if_neg (by simp [bT, newT])]
  have e2 : hearB (bT g h o) ms = bT g h (o || decide (0 < ms.length)) := by
    unfold hearB
    by_cases hl : 0 < ms.length
    · rw [if_pos hl]; simp [bT, hl]
    · rw [if_neg hl]; simp [hl]
  unfold hearT
  rw [if_neg (by omega), e1, e2]
  unfold hearC
  simp [bT]
theorem bT_right (g : List (List UInt8)) (h : Nat) (o : Bool) (ms : List (List UInt8)) (hn : ms.length ≤ 64) (hm : ∀ m ∈ ms, m.length ≤ 4096) : rightT (bT g h o) (0 : Nat) ms (0 : Nat) = true := by
  have hl : longL ms = false := longL_no fun j hj => getD_len hm j
  unfold rightT
  rw [hl]
  simp [hn]
theorem bT_got (g : List (List UInt8)) (h : Nat) (o : Bool) : gotT (bT g h o) = bT [] h o := rfl

set_option maxRecDepth 100000 in
set_option maxHeartbeats 8000000 in
theorem talkStale_any (v : Value) (c : Int) (n : Nat) (F : Nat → Value × List UInt8) (w : World) (hn : n ≤ 9223372036854775807) (hv : VSl w v n (fun i => (F i).1)) (hF : ∀ i, i < n → BSl w (F i).1 (F i).2) (hFl : ∀ i, i < n → (F i).2.length ≤ 9223372036854775807) :
    Calls Try.prog 7 #[v, .int .i64 c] w fun e w' => e = .returned (.bool true) ∧ Below w.heap.size w w' := by
  obtain ⟨ao, cap, rfl⟩ : ∃ ao cap, v = .slice ao n cap := by obtain ⟨a, c, e, _⟩ := hv; exact ⟨a, c, e⟩
  have HV := Lib.hid hv
  have HF := Lib.hid hF
  have HFL := Lib.hid hFl
  have HS := Lib.hid (Ow.start w)
  clear hv hF hFl
  go_enter Try.func7, Try.ntmps7
  go_wp2_with fail
  refine (new_yes 64 3 _ w [] HS.out (by omega) (by omega) (by omega) (by omega)).mono ?_
  rintro e w1 ⟨p, A, rfl, O1, t1⟩
  go_wp2_with fail
  refine (new_yes 64 3 _ w (A ++ []) O1 (by omega) (by omega) (by omega) (by omega)).mono ?_
  rintro e w2 ⟨q, B, rfl, O2, u1⟩
  have H2 : Hid (S2 w2 w [] p (stT []) q (bT [] 0 false)) := ⟨B, ⟨A, O2.perm (perm_cnt fun x => by simp only [cnt_append, cnt_cons, cnt_nil] <;> omega), t1⟩, u1⟩
  clear O1 O2 t1 u1
  go_wp2_with fail
  refine (told_to _).mono ?_
  rintro e w3 ⟨rfl, hb3⟩
  have H3 := Lib.hid (H2.out.of_below hb3)
  clear hb3 H2
  go_wp2_with fail
  go_loopw [9] (fun vi wr => ∃ (k : Nat) (X : List Blk) (L : List (List UInt8)), vi = .int .i64 k ∧ k ≤ n ∧ k ≤ 40 ∧ L.length = k ∧ (∀ m ∈ L, m.length ≤ 50) ∧ S2 wr w X p (stT L) q (bT [] 0 false)) (fun i _ => 40 - (intOf i).toNat)
  case atStart => exact ⟨0, [], [], rfl, by omega, by omega, rfl, by simp, H3.out⟩
  case round =>
    obtain ⟨k, X, L, rfl, hk, hk4, hLk, hL, s⟩ := hrel
    have Hs := Lib.hid s
    have HLL := Lib.hid hL
    clear s hL
    by_cases hlt : k < n ∧ k < 40
    · have hlt1 := hlt.1
      have hlt2 := hlt.2
      have HB0 := Hs.out.below
      obtain ⟨r, o, rfl, hr0, hc0⟩ : ∃ r o, ao = some ⟨r, o, none⟩ ∧ r < w.heap.size ∧ w.cell? ⟨r, o + k, none⟩ = some (F k).1 := by
        obtain ⟨ao', cap', e, _, h3⟩ := HV.out
        cases e
        rcases h3 with h3 | ⟨r, o, h3, h4, h5⟩
        · omega
        · exact ⟨r, o, h3, h4, h5 k hlt1⟩
      have hbm := HF.out k hlt1
      have hlm := HFL.out k hlt1
      obtain ⟨vm, HM⟩ : ∃ m, Hid ((F k).2 = m) := ⟨_, rfl⟩
      rw [HM.out] at hbm hlm
      obtain ⟨ak, ck, ek, hck, -⟩ := hbm.open_
      rw [ek] at hc0 hbm
      obtain ⟨Y, OY, hY⟩ := Hs.out.ow
      have hc : wr.cell? ⟨r, o + k, none⟩ = some (.slice ak vm.length ck) := (OY.old hr0 _).trans hc0
      have hr : r < wr.heap.size := Nat.lt_of_lt_of_le hr0 OY.mem.size
      obtain ⟨m, HMm⟩ : ∃ m, Hid (vm.take 50 = m) := ⟨_, rfl⟩
      have hml : min vm.length 50 = m.length := by rw [← HMm.out]; simp; omega
      have hm4 : m.length ≤ 50 := by omega
      have hmi : min (vm.length : Int) 50 = (m.length : Int) := by omega
      have hmc : m.length ≤ ck := by omega
      have HVm : Hid (BSl wr (.slice ak m.length ck) m) := by
        have := bsl_take hbm m.length (by omega)
        have e : vm.take m.length = m := by rw [← HMm.out]; simp
        rw [e] at this
        exact this.below HB0
      have hsay := stT_say L m (by omega) (by omega)
      have HSAY := Lib.hid hsay
      have HTW := Lib.hid (stT_ok L (by omega) (fun m hm => Nat.le_trans (HLL.out m hm) (by omega)))
      clear hc0 hr0 HB0 hbm OY hsay hlt
      go_wp2_with fail
      refine wp_region_rc 12 2 (by kernel_rfl) (by kernel_rfl) (by kernel_rfl) (by kernel_rfl) ?_
      simp only [List.take_succ_cons, List.take_zero]
      repeat (first
        | (refine B_skip ?_ ?_; (· rfl); (try simp only [Act.put, List.setIfInBounds_toArray, List.set_cons_zero, List.set_cons_succ]))
        | (refine B_move rfl ?_ ?_; (· rfl); (try simp only [Act.eval, Act.put, Array.getD_eq_getD_getElem?, List.getElem?_toArray, List.getElem?_cons_succ, List.getElem?_cons_zero, Option.getD_some, List.setIfInBounds_toArray, List.set_cons_zero, List.set_cons_succ]))
        | (refine B_plain ?_ ?_; (· rfl); intro K hK; go_big_quiet_op; with_reducible refine hK _ ?_; clear hK K)
        | (fail))
      refine B_nil ?_ rfl ?_ ?_
      · kernel_rfl
      · rfl
      rintro _ ⟨⟨g3, d3⟩, rfl⟩
      simp only [fin, Act.put, List.setIfInBounds_toArray, List.set_cons_zero, List.set_cons_succ]
      refine step_one (n := 1) (k := 12) (by kernel_rfl) (by rfl) (by rfl) ?_
      intro K hK
      obtain ⟨C, s, u⟩ := Hs.out
      refine wp_call_op (f := 22) rfl (by kernel_rfl) #[ptr p, .slice ak m.length ck] (by (simp only [List.map_toArray, List.map_cons, List.map_nil, Act.eval, Array.getD_eq_getD_getElem?, List.getElem?_toArray, List.getElem?_cons_succ, List.getElem?_cons_zero, Option.getD_some])) (((s.plus g3 d3).say (.slice ak m.length ck) m (HVm.out.plus g3 d3) HTW.out 0 HSAY.out.2 _ HSAY.out.1).mono ?_)
      rintro e w4 ⟨rfl, X4, hs4, s4⟩
      refine ⟨_, rfl, hK _ _ ?_⟩
      have HS4 : Hid (S2 w4 w X4 p (stT (L ++ [m])) q (bT [] 0 false)) := ⟨C, s4, u.mono hs4⟩
      clear hK K s u s4 hs4
      refine last_one (k := 13) (by kernel_rfl) (by kernel_rfl) (by rfl) ?_ ?_
      · rfl
      intro K hK
      go_simp
      refine hK _ _ ?_
      clear hK K
      go_wp2
      exact ⟨⟨k + 1, X4, L ++ [m], by simp, by omega, by omega, by simp [hLk], fun x hx => by
        rcases List.mem_append.1 hx with hx | hx
        · exact HLL.out x hx
        · simp at hx; subst hx; exact hm4, HS4.out⟩, by simp [intOf]; omega⟩
    · have HTW := Lib.hid (stT_ok L (by omega) (fun m hm => Nat.le_trans (HLL.out m hm) (by omega)))
      by_cases hkn : k < n
      · have hk40 : ¬ k < 40 := by omega
        have hk0 : 0 < k := by omega
        have hd0 : decide ((0 : Int) < (k : Int)) = true := decide_eq_true (by omega)
        have hdue : dueT (stT L) 0 = true := by
          unfold dueT
          have h1 : decide ((stT L).gone < (stT L).waits.length) = true := decide_eq_true (by show 0 < L.length; omega)
          rw [h1]; simp
        have hd1 : ((k : Int) == 0) = false := by simp; omega
        go_wp2_with fail
        obtain ⟨C, s, u⟩ := Hs.out
        refine (s.tickYes 0 (by omega) HTW.out hdue 0 0 (by simp [stT]) rfl L rfl (tickT (stT L) 0) rfl).mono ?_
        rintro e w4 ⟨v4, X4, rfl, hs4, s4, m4⟩
        obtain ⟨av, cv, rfl⟩ := m4.slice
        rw [hLk] at m4
        rw [hLk]
        have hcv : k ≤ cv := by
          obtain ⟨vs4, hsl, -⟩ := m4
          obtain ⟨a4, c4, e4, h4, -⟩ := hsl.slice
          cases e4; omega
        have H4 : Hid (S2 (w4.alloc (.cells #[.int .i64 (0 : Nat), .slice av k cv, .int .i64 (0 : Nat)] 36)) w (⟨w4.heap.size, 36, #[.int .i64 (0 : Nat), .slice av k cv, .int .i64 (0 : Nat)]⟩ :: X4) p (tickT (stT L) 0) q (bT [] 0 false)) := S2.key ⟨C, s4, u.mono hs4⟩ _ _ _ rfl
        have HM4 := Lib.hid m4
        have ez := cut_eq c k hk0 (by omega)
        have hz : cutN c k < k := Nat.mod_lt _ hk0
        generalize cutN c k = z at ez hz
        have ewk : IntKind.u64.wrap (k : Int) = (k : Int) := by simp [IntKind.wrap, IntKind.bits, IntKind.signed]; omega
        have HM4z : Hid (MsgL w X4 (.slice av z cv) (L.take z)) := Lib.hid (by
          have := m4.part (c := cv) 0 z (by omega) (by omega) av (fun ad had _ => by rw [had]; simp [Addr.add]) (fun hav => by
            obtain ⟨vs4, hsl, -⟩ := m4
            obtain ⟨a4, c4, e4, h4, h5⟩ := hsl.slice
            cases e4
            have := h5 hav
            omega)
          simpa using this)
        clear s u s4 hs4 m4 Hs
        go_wp2_with fail
        refine wp_opq (fun W => S2 W w (⟨w4.heap.size, 36, #[.int .i64 (0 : Nat), .slice av k cv, .int .i64 (0 : Nat)]⟩ :: X4) p (tickT (stT L) 0) q (bT [] 0 false)) H4.out ?_
        intro W5 H5'
        have H5 := Lib.hid H5'
        have HX5 : Hid (⟨w4.heap.size, 36, #[.int .i64 (0 : Nat), .slice av k cv, .int .i64 (0 : Nat)]⟩ ∈ (⟨w4.heap.size, 36, #[.int .i64 (0 : Nat), .slice av k cv, .int .i64 (0 : Nat)]⟩ :: X4)) := List.mem_cons_self ..
        clear H5' H4
        have hbP5 := H5.out.has HX5.out
        have P50 := hbP5.cell 0
        have P51 := hbP5.cell 1
        have P52 := hbP5.cell 2
        have P5l := hbP5.lt
        clear hbP5
        refine wp_region_rc 10 1 (by kernel_rfl) (by kernel_rfl) (by kernel_rfl) (by kernel_rfl) ?_
        simp only [List.take_succ_cons, List.take_zero]
        repeat (first
          | (refine B_skip ?_ ?_; (· rfl); (try simp only [Act.put, List.setIfInBounds_toArray, List.set_cons_zero, List.set_cons_succ]))
          | (refine B_move rfl ?_ ?_; (· rfl); (try simp only [Act.eval, Act.put, Array.getD_eq_getD_getElem?, List.getElem?_toArray, List.getElem?_cons_succ, List.getElem?_cons_zero, Option.getD_some, List.setIfInBounds_toArray, List.set_cons_zero, List.set_cons_succ]))
          | (refine B_plain ?_ ?_; (· rfl); intro K hK; go_big_quiet_op; with_reducible refine hK _ ?_; clear hK K)
          | (refine B_new (t := 36) (z := .agg #[.int .i64 0, .slice none 0 0, .int .i64 0]) rfl rfl (by kernel_rfl) ?_ ?_; (· rfl)))
        refine B_nil ?_ rfl ?_ ?_
        · kernel_rfl
        · rfl
        rintro _ ⟨⟨g4, d4⟩, rfl⟩
        simp only [fin, Act.put, List.setIfInBounds_toArray, List.set_cons_zero, List.set_cons_succ]
        rintro _ ⟨b, rfl, hb1, hb2⟩
        refine last_one (k := 10) (by kernel_rfl) (by kernel_rfl) (by rfl) ?_ ?_
        · rfl
        intro K hK
        refine wp_store_S2 H5.out ⟨⟨g4, d4⟩, rfl⟩ 36 (.tmp 13) (.tmp 93) (by rfl) hb1 hb2 (by rfl) #[.int .i64 (0 : Nat), .slice av z cv, .int .i64 (0 : Nat)] (by rfl) (by kernel_rfl) (by rfl) (by simp [Value.oneCell']) (fun W6 H6' => hK _ _ ?_)
        have H6 := Lib.hid H6'
        obtain ⟨X6, HX6⟩ : ∃ X, X = (⟨b, 36, #[.int .i64 (0 : Nat), .slice av z cv, .int .i64 (0 : Nat)]⟩ :: (⟨w4.heap.size, 36, #[.int .i64 (0 : Nat), .slice av k cv, .int .i64 (0 : Nat)]⟩ :: X4)) := ⟨_, rfl⟩
        rw [← HX6] at H6
        have HL6 : Hid (⟨b, 36, #[.int .i64 (0 : Nat), .slice av z cv, .int .i64 (0 : Nat)]⟩ ∈ X6) := by show _ ∈ _; rw [HX6]; exact List.mem_cons_self ..
        have HP6 : Hid (⟨w4.heap.size, 36, #[.int .i64 (0 : Nat), .slice av k cv, .int .i64 (0 : Nat)]⟩ ∈ X6) := by show _ ∈ _; rw [HX6]; exact List.mem_cons_of_mem _ (List.mem_cons_self ..)
        have HM6 : Hid (MsgL w X6 (.slice av k cv) L) := HM4.out.mono (by rw [HX6]; intro x hx; simp [hx])
        have HM6z : Hid (MsgL w X6 (.slice av z cv) (L.take z)) := HM4z.out.mono (by rw [HX6]; intro x hx; simp [hx])
        clear hK K H6' HX6 H5 HX5 P50 P51 P52 P5l hb1 hb2 HM4 HM4z
        have htl : (L.take z).length = z := by simp; omega
        have HLm : Hid (∀ m ∈ L, m.length ≤ 4096) := fun m hm => Nat.le_trans (HLL.out m hm) (by omega)
        have HLt : Hid (∀ m ∈ L.take z, m.length ≤ 4096) := fun m hm => HLm.out m (List.mem_of_mem_take hm)
        have hbL6 := H6.out.has HL6.out
        have L60 := hbL6.cell 0
        have L61 := hbL6.cell 1
        have L62 := hbL6.cell 2
        have L6l := hbL6.lt
        clear hbL6
        go_wp2_with fail
        obtain ⟨C, s, u⟩ := H6.out.swap
        refine (s.hearYes 0 0 _ (L.take z) HM6z.out (by omega) (bT_ok _ _ _ (by simp) (by omega) (by simp)) (bT_right _ _ _ _ (by omega) HLt.out) (bT (L.take z) z (decide (0 < z))) (by rw [bT_hear]; simp [htl]) 0 rfl).mono ?_
        rintro e W7 ⟨rfl, X7, hs7, s7⟩
        have H7 : Hid (S2 W7 w X7 p (tickT (stT L) 0) q (bT (L.take z) z (decide (0 < z)))) := S2.swap ⟨C, s7, u.mono hs7⟩
        have HP7 := Lib.hid (hs7 _ HP6.out)
        have HL7 := Lib.hid (hs7 _ HL6.out)
        have HM7 := Lib.hid (HM6.out.mono hs7)
        have HM7z := Lib.hid (HM6z.out.mono hs7)
        clear HP6 HL6 HM6 HM6z
        clear s u s7 hs7 H6 L60 L61 L62 L6l
        go_wp2_with fail
        obtain ⟨C, s, u⟩ := H7.out.swap
        refine (s.got (bT [] z (decide (0 < z))) rfl (L.take z) rfl).mono ?_
        rintro e W8 ⟨v8, X8, rfl, hs8, s8, m8⟩
        obtain ⟨a8, c8, rfl⟩ := m8.slice
        rw [show ((L.take z)).length = z by exact htl]
        have H8 : Hid (S2 W8 w X8 p (tickT (stT L) 0) q (bT [] z (decide (0 < z)))) := S2.swap ⟨C, s8, u.mono hs8⟩
        have HP8 := Lib.hid (hs8 _ HP7.out)
        have HL8 := Lib.hid (hs8 _ HL7.out)
        have HM8 := Lib.hid (HM7.out.mono hs8)
        have HM8z := Lib.hid (HM7z.out.mono hs8)
        clear HP7 HL7 HM7 HM7z
        clear s u s8 hs8 m8 H7
        have hsubz : (k : Int) - (z : Int) = ((k - z : Nat) : Int) := by omega
        have hbP8 := H8.out.has HP8.out
        have P80 := hbP8.cell 0
        have P81 := hbP8.cell 1
        have P82 := hbP8.cell 2
        have P8l := hbP8.lt
        clear hbP8
        go_wp2_with fail
        obtain ⟨C, s, u⟩ := H8.out.swap
        refine (s.hearYes 0 0 _ L HM8.out (by omega) (bT_ok _ _ _ (by simp) (by omega) (by simp)) (bT_right _ _ _ _ (by omega) HLm.out) (bT (L.drop z) k true) (by rw [bT_hear]; rw [List.nil_append, hLk, show max z k = k by omega, show (decide (0 < z) || decide (0 < k)) = true by simp; omega]) 0 rfl).mono ?_
        rintro e W9 ⟨rfl, X9, hs9, s9⟩
        have H9 : Hid (S2 W9 w X9 p (tickT (stT L) 0) q (bT (L.drop z) k true)) := S2.swap ⟨C, s9, u.mono hs9⟩
        have HP9 := Lib.hid (hs9 _ HP8.out)
        have HL9 := Lib.hid (hs9 _ HL8.out)
        have HM9 := Lib.hid (HM8.out.mono hs9)
        have HM9z := Lib.hid (HM8z.out.mono hs9)
        clear HP8 HL8 HM8 HM8z
        clear s u s9 hs9 H8 P80 P81 P82 P8l
        go_wp2_with fail
        obtain ⟨C, s, u⟩ := H9.out.swap
        refine (s.got (bT [] k true) rfl (L.drop z) rfl).mono ?_
        rintro e W10 ⟨v10, X10, rfl, hs10, s10, m10⟩
        obtain ⟨a10, c10, rfl⟩ := m10.slice
        rw [show ((L.drop z)).length = (k - z) by simp [hLk]]
        have H10 : Hid (S2 W10 w X10 p (tickT (stT L) 0) q (bT [] k true)) := S2.swap ⟨C, s10, u.mono hs10⟩
        have HP10 := Lib.hid (hs10 _ HP9.out)
        have HL10 := Lib.hid (hs10 _ HL9.out)
        have HM10 := Lib.hid (HM9.out.mono hs10)
        have HM10z := Lib.hid (HM9z.out.mono hs10)
        clear HP9 HL9 HM9 HM9z
        clear s u s10 hs10 m10 H9
        have hbP10 := H10.out.has HP10.out
        have P100 := hbP10.cell 0
        have P101 := hbP10.cell 1
        have P102 := hbP10.cell 2
        have P10l := hbP10.lt
        clear hbP10
        go_wp2_with fail
        obtain ⟨C, s, u⟩ := H10.out.swap
        refine (s.hearYes 0 0 _ L HM10.out (by omega) (bT_ok _ _ _ (by simp) (by omega) (by simp)) (bT_right _ _ _ _ (by omega) HLm.out) (bT [] k true) (by rw [bT_hear]; rw [hLk, List.drop_eq_nil_of_le (by omega), show max k k = k by omega]; simp) 0 rfl).mono ?_
        rintro e W11 ⟨rfl, X11, hs11, s11⟩
        have H11 : Hid (S2 W11 w X11 p (tickT (stT L) 0) q (bT [] k true)) := S2.swap ⟨C, s11, u.mono hs11⟩
        have HP11 := Lib.hid (hs11 _ HP10.out)
        have HL11 := Lib.hid (hs11 _ HL10.out)
        have HM11 := Lib.hid (HM10.out.mono hs11)
        have HM11z := Lib.hid (HM10z.out.mono hs11)
        clear HP10 HL10 HM10 HM10z
        clear s u s11 hs11 H10 P100 P101 P102 P10l
        have hbL11 := H11.out.has HL11.out
        have L110 := hbL11.cell 0
        have L111 := hbL11.cell 1
        have L112 := hbL11.cell 2
        have L11l := hbL11.lt
        clear hbL11
        go_wp2_with fail
        obtain ⟨C, s, u⟩ := H11.out.swap
        refine (s.hearYes 0 0 _ (L.take z) HM11z.out (by omega) (bT_ok _ _ _ (by simp) (by omega) (by simp)) (bT_right _ _ _ _ (by omega) HLt.out) (bT [] k true) (by rw [bT_hear]; rw [htl, List.drop_eq_nil_of_le (by omega), show max k z = k by omega]; simp) 0 rfl).mono ?_
        rintro e W12 ⟨rfl, X12, hs12, s12⟩
        have H12 : Hid (S2 W12 w X12 p (tickT (stT L) 0) q (bT [] k true)) := S2.swap ⟨C, s12, u.mono hs12⟩
        have HP12 := Lib.hid (hs12 _ HP11.out)
        have HL12 := Lib.hid (hs12 _ HL11.out)
        have HM12 := Lib.hid (HM11.out.mono hs12)
        have HM12z := Lib.hid (HM11z.out.mono hs12)
        clear HP11 HL11 HM11 HM11z
        clear s u s12 hs12 H11 L110 L111 L112 L11l
        go_wp2_with fail
        obtain ⟨C, s, u⟩ := H12.out.swap
        refine (s.got (bT [] k true) rfl [] rfl).mono ?_
        rintro e W13 ⟨v13, X13, rfl, hs13, s13, m13⟩
        obtain ⟨a13, c13, rfl⟩ := m13.slice
        rw [show ([]).length = 0 by rfl]
        have H13 : Hid (S2 W13 w X13 p (tickT (stT L) 0) q (bT [] k true)) := S2.swap ⟨C, s13, u.mono hs13⟩
        have HP13 := Lib.hid (hs13 _ HP12.out)
        have HL13 := Lib.hid (hs13 _ HL12.out)
        have HM13 := Lib.hid (HM12.out.mono hs13)
        have HM13z := Lib.hid (HM12z.out.mono hs13)
        clear HP12 HL12 HM12 HM12z
        clear s u s13 hs13 m13 H12
        go_wp2_with fail
        obtain ⟨C, s, u⟩ := H13.out.swap
        refine (s.tickYes 1 (by omega) (bT_ok _ _ _ (by simp) (by omega) (by simp)) (by unfold dueT; rfl) 0 k (by simp [bT, newT]) rfl [] rfl (tickT (bT [] k true) 1) rfl).mono ?_
        rintro e W14 ⟨v14, X14, rfl, hs14, s14, m14⟩
        obtain ⟨a14, c14, rfl⟩ := m14.slice
        have H14 : Hid (S2 (W14.alloc (.cells #[.int .i64 (0 : Nat), .slice a14 0 c14, .int .i64 k] 36)) w X14 p (tickT (stT L) 0) q (tickT (bT [] k true) 1)) := S2.alloc (S2.swap ⟨C, s14, u.mono hs14⟩) _
        have HM14 := Lib.hid m14
        clear s u s14 hs14 m14 H13
        go_wp2_with fail
        obtain ⟨C, s, u⟩ := H14.out
        refine (s.hearYes 0 k _ [] HM14.out (by omega) (HTW.out.tick 0 (by omega)) (by unfold rightT longL; simp [tickT, stT]; omega) (hearT (tickT (stT L) 0) 0 [] k) rfl 0 rfl).mono ?_
        rintro e W15 ⟨rfl, X15, hs15, s15⟩
        have HS15 := Lib.hid s15
        have hidl : ((hearT (tickT (stT L) 0) 0 [] k).waits.length == 0) = true := by
          unfold hearT hearB hearC hearA
          simp [tickT, stT, newT, hLk]
          split <;> simp <;> omega
        clear s u s15 hs15 H14
        go_wp2_with fail
        refine (HS15.out.idle true hidl).mono ?_
        rintro e W16 ⟨rfl, rfl⟩
        go_wp2
        go_ret
        exact ⟨rfl, HS15.out.below⟩
      · rcases Nat.eq_zero_or_pos k with hk0 | hk0
        · skip
          subst hk0
          have hLn : L = [] := List.eq_nil_of_length_eq_zero hLk
          have hd0 : decide ((0 : Int) < ((0 : Nat) : Int)) = false := by simp
          go_wp2_with fail
          obtain ⟨C, s, u⟩ := Hs.out
          refine (s.tickNo 0 (by omega) HTW.out (by rw [hLn]; rfl)).mono ?_
          rintro e w4 ⟨rfl, s4⟩
          have HS4 := Lib.hid (s4.alloc (.cells #[.int .i64 0, .slice none 0 0, .int .i64 0] 36))
          have idl := HS4.out.idle true (by rw [hLn]; rfl)
          clear s u s4
          go_wp2_with fail
          all_goals (refine idl.mono ?_; rintro e w5 ⟨rfl, rfl⟩; go_wp2; go_ret; exact ⟨rfl, HS4.out.below⟩)
        · skip
          have hd0 : decide ((0 : Int) < (k : Int)) = true := decide_eq_true (by omega)
          have hdue : dueT (stT L) 0 = true := by
            unfold dueT
            have h1 : decide ((stT L).gone < (stT L).waits.length) = true := decide_eq_true (by show 0 < L.length; omega)
            rw [h1]; simp
          have hd1 : ((k : Int) == 0) = false := by simp; omega
          go_wp2_with fail
          obtain ⟨C, s, u⟩ := Hs.out
          refine (s.tickYes 0 (by omega) HTW.out hdue 0 0 (by simp [stT]) rfl L rfl (tickT (stT L) 0) rfl).mono ?_
          rintro e w4 ⟨v4, X4, rfl, hs4, s4, m4⟩
          obtain ⟨av, cv, rfl⟩ := m4.slice
          rw [hLk] at m4
          rw [hLk]
          have hcv : k ≤ cv := by
            obtain ⟨vs4, hsl, -⟩ := m4
            obtain ⟨a4, c4, e4, h4, -⟩ := hsl.slice
            cases e4; omega
          have H4 : Hid (S2 (w4.alloc (.cells #[.int .i64 (0 : Nat), .slice av k cv, .int .i64 (0 : Nat)] 36)) w (⟨w4.heap.size, 36, #[.int .i64 (0 : Nat), .slice av k cv, .int .i64 (0 : Nat)]⟩ :: X4) p (tickT (stT L) 0) q (bT [] 0 false)) := S2.key ⟨C, s4, u.mono hs4⟩ _ _ _ rfl
          have HM4 := Lib.hid m4
          have ez := cut_eq c k hk0 (by omega)
          have hz : cutN c k < k := Nat.mod_lt _ hk0
          generalize cutN c k = z at ez hz
          have ewk : IntKind.u64.wrap (k : Int) = (k : Int) := by simp [IntKind.wrap, IntKind.bits, IntKind.signed]; omega
          have HM4z : Hid (MsgL w X4 (.slice av z cv) (L.take z)) := Lib.hid (by
            have := m4.part (c := cv) 0 z (by omega) (by omega) av (fun ad had _ => by rw [had]; simp [Addr.add]) (fun hav => by
              obtain ⟨vs4, hsl, -⟩ := m4
              obtain ⟨a4, c4, e4, h4, h5⟩ := hsl.slice
              cases e4
              have := h5 hav
              omega)
            simpa using this)
          clear s u s4 hs4 m4 Hs
          go_wp2_with fail
          refine wp_opq (fun W => S2 W w (⟨w4.heap.size, 36, #[.int .i64 (0 : Nat), .slice av k cv, .int .i64 (0 : Nat)]⟩ :: X4) p (tickT (stT L) 0) q (bT [] 0 false)) H4.out ?_
          intro W5 H5'
          have H5 := Lib.hid H5'
          have HX5 : Hid (⟨w4.heap.size, 36, #[.int .i64 (0 : Nat), .slice av k cv, .int .i64 (0 : Nat)]⟩ ∈ (⟨w4.heap.size, 36, #[.int .i64 (0 : Nat), .slice av k cv, .int .i64 (0 : Nat)]⟩ :: X4)) := List.mem_cons_self ..
          clear H5' H4
          have hbP5 := H5.out.has HX5.out
          have P50 := hbP5.cell 0
          have P51 := hbP5.cell 1
          have P52 := hbP5.cell 2
          have P5l := hbP5.lt
          clear hbP5
          refine wp_region_rc 10 1 (by kernel_rfl) (by kernel_rfl) (by kernel_rfl) (by kernel_rfl) ?_
          simp only [List.take_succ_cons, List.take_zero]
          repeat (first
            | (refine B_skip ?_ ?_; (· rfl); (try simp only [Act.put, List.setIfInBounds_toArray, List.set_cons_zero, List.set_cons_succ]))
            | (refine B_move rfl ?_ ?_; (· rfl); (try simp only [Act.eval, Act.put, Array.getD_eq_getD_getElem?, List.getElem?_toArray, List.getElem?_cons_succ, List.getElem?_cons_zero, Option.getD_some, List.setIfInBounds_toArray, List.set_cons_zero, List.set_cons_succ]))
            | (refine B_plain ?_ ?_; (· rfl); intro K hK; go_big_quiet_op; with_reducible refine hK _ ?_; clear hK K)
            | (refine B_new (t := 36) (z := .agg #[.int .i64 0, .slice none 0 0, .int .i64 0]) rfl rfl (by kernel_rfl) ?_ ?_; (· rfl)))
          refine B_nil ?_ rfl ?_ ?_
          · kernel_rfl
          · rfl
          rintro _ ⟨⟨g4, d4⟩, rfl⟩
          simp only [fin, Act.put, List.setIfInBounds_toArray, List.set_cons_zero, List.set_cons_succ]
          rintro _ ⟨b, rfl, hb1, hb2⟩
          refine last_one (k := 10) (by kernel_rfl) (by kernel_rfl) (by rfl) ?_ ?_
          · rfl
          intro K hK
          refine wp_store_S2 H5.out ⟨⟨g4, d4⟩, rfl⟩ 36 (.tmp 13) (.tmp 93) (by rfl) hb1 hb2 (by rfl) #[.int .i64 (0 : Nat), .slice av z cv, .int .i64 (0 : Nat)] (by rfl) (by kernel_rfl) (by rfl) (by simp [Value.oneCell']) (fun W6 H6' => hK _ _ ?_)
          have H6 := Lib.hid H6'
          obtain ⟨X6, HX6⟩ : ∃ X, X = (⟨b, 36, #[.int .i64 (0 : Nat), .slice av z cv, .int .i64 (0 : Nat)]⟩ :: (⟨w4.heap.size, 36, #[.int .i64 (0 : Nat), .slice av k cv, .int .i64 (0 : Nat)]⟩ :: X4)) := ⟨_, rfl⟩
          rw [← HX6] at H6
          have HL6 : Hid (⟨b, 36, #[.int .i64 (0 : Nat), .slice av z cv, .int .i64 (0 : Nat)]⟩ ∈ X6) := by show _ ∈ _; rw [HX6]; exact List.mem_cons_self ..
          have HP6 : Hid (⟨w4.heap.size, 36, #[.int .i64 (0 : Nat), .slice av k cv, .int .i64 (0 : Nat)]⟩ ∈ X6) := by show _ ∈ _; rw [HX6]; exact List.mem_cons_of_mem _ (List.mem_cons_self ..)
          have HM6 : Hid (MsgL w X6 (.slice av k cv) L) := HM4.out.mono (by rw [HX6]; intro x hx; simp [hx])
          have HM6z : Hid (MsgL w X6 (.slice av z cv) (L.take z)) := HM4z.out.mono (by rw [HX6]; intro x hx; simp [hx])
          clear hK K H6' HX6 H5 HX5 P50 P51 P52 P5l hb1 hb2 HM4 HM4z
          have htl : (L.take z).length = z := by simp; omega
          have HLm : Hid (∀ m ∈ L, m.length ≤ 4096) := fun m hm => Nat.le_trans (HLL.out m hm) (by omega)
          have HLt : Hid (∀ m ∈ L.take z, m.length ≤ 4096) := fun m hm => HLm.out m (List.mem_of_mem_take hm)
          have hbL6 := H6.out.has HL6.out
          have L60 := hbL6.cell 0
          have L61 := hbL6.cell 1
          have L62 := hbL6.cell 2
          have L6l := hbL6.lt
          clear hbL6
          go_wp2_with fail
          obtain ⟨C, s, u⟩ := H6.out.swap
          refine (s.hearYes 0 0 _ (L.take z) HM6z.out (by omega) (bT_ok _ _ _ (by simp) (by omega) (by simp)) (bT_right _ _ _ _ (by omega) HLt.out) (bT (L.take z) z (decide (0 < z))) (by rw [bT_hear]; simp [htl]) 0 rfl).mono ?_
          rintro e W7 ⟨rfl, X7, hs7, s7⟩
          have H7 : Hid (S2 W7 w X7 p (tickT (stT L) 0) q (bT (L.take z) z (decide (0 < z)))) := S2.swap ⟨C, s7, u.mono hs7⟩
          have HP7 := Lib.hid (hs7 _ HP6.out)
          have HL7 := Lib.hid (hs7 _ HL6.out)
          have HM7 := Lib.hid (HM6.out.mono hs7)
          have HM7z := Lib.hid (HM6z.out.mono hs7)
          clear HP6 HL6 HM6 HM6z
          clear s u s7 hs7 H6 L60 L61 L62 L6l
          go_wp2_with fail
          obtain ⟨C, s, u⟩ := H7.out.swap
          refine (s.got (bT [] z (decide (0 < z))) rfl (L.take z) rfl).mono ?_
          rintro e W8 ⟨v8, X8, rfl, hs8, s8, m8⟩
          obtain ⟨a8, c8, rfl⟩ := m8.slice
          rw [show ((L.take z)).length = z by exact htl]
          have H8 : Hid (S2 W8 w X8 p (tickT (stT L) 0) q (bT [] z (decide (0 < z)))) := S2.swap ⟨C, s8, u.mono hs8⟩
          have HP8 := Lib.hid (hs8 _ HP7.out)
          have HL8 := Lib.hid (hs8 _ HL7.out)
          have HM8 := Lib.hid (HM7.out.mono hs8)
          have HM8z := Lib.hid (HM7z.out.mono hs8)
          clear HP7 HL7 HM7 HM7z
          clear s u s8 hs8 m8 H7
          have hsubz : (k : Int) - (z : Int) = ((k - z : Nat) : Int) := by omega
          have hbP8 := H8.out.has HP8.out
          have P80 := hbP8.cell 0
          have P81 := hbP8.cell 1
          have P82 := hbP8.cell 2
          have P8l := hbP8.lt
          clear hbP8
          go_wp2_with fail
          obtain ⟨C, s, u⟩ := H8.out.swap
          refine (s.hearYes 0 0 _ L HM8.out (by omega) (bT_ok _ _ _ (by simp) (by omega) (by simp)) (bT_right _ _ _ _ (by omega) HLm.out) (bT (L.drop z) k true) (by rw [bT_hear]; rw [List.nil_append, hLk, show max z k = k by omega, show (decide (0 < z) || decide (0 < k)) = true by simp; omega]) 0 rfl).mono ?_
          rintro e W9 ⟨rfl, X9, hs9, s9⟩
          have H9 : Hid (S2 W9 w X9 p (tickT (stT L) 0) q (bT (L.drop z) k true)) := S2.swap ⟨C, s9, u.mono hs9⟩
          have HP9 := Lib.hid (hs9 _ HP8.out)
          have HL9 := Lib.hid (hs9 _ HL8.out)
          have HM9 := Lib.hid (HM8.out.mono hs9)
          have HM9z := Lib.hid (HM8z.out.mono hs9)
          clear HP8 HL8 HM8 HM8z
          clear s u s9 hs9 H8 P80 P81 P82 P8l
          go_wp2_with fail
          obtain ⟨C, s, u⟩ := H9.out.swap
          refine (s.got (bT [] k true) rfl (L.drop z) rfl).mono ?_
          rintro e W10 ⟨v10, X10, rfl, hs10, s10, m10⟩
          obtain ⟨a10, c10, rfl⟩ := m10.slice
          rw [show ((L.drop z)).length = (k - z) by simp [hLk]]
          have H10 : Hid (S2 W10 w X10 p (tickT (stT L) 0) q (bT [] k true)) := S2.swap ⟨C, s10, u.mono hs10⟩
          have HP10 := Lib.hid (hs10 _ HP9.out)
          have HL10 := Lib.hid (hs10 _ HL9.out)
          have HM10 := Lib.hid (HM9.out.mono hs10)
          have HM10z := Lib.hid (HM9z.out.mono hs10)
          clear HP9 HL9 HM9 HM9z
          clear s u s10 hs10 m10 H9
          have hbP10 := H10.out.has HP10.out
          have P100 := hbP10.cell 0
          have P101 := hbP10.cell 1
          have P102 := hbP10.cell 2
          have P10l := hbP10.lt
          clear hbP10
          go_wp2_with fail
          obtain ⟨C, s, u⟩ := H10.out.swap
          refine (s.hearYes 0 0 _ L HM10.out (by omega) (bT_ok _ _ _ (by simp) (by omega) (by simp)) (bT_right _ _ _ _ (by omega) HLm.out) (bT [] k true) (by rw [bT_hear]; rw [hLk, List.drop_eq_nil_of_le (by omega), show max k k = k by omega]; simp) 0 rfl).mono ?_
          rintro e W11 ⟨rfl, X11, hs11, s11⟩
          have H11 : Hid (S2 W11 w X11 p (tickT (stT L) 0) q (bT [] k true)) := S2.swap ⟨C, s11, u.mono hs11⟩
          have HP11 := Lib.hid (hs11 _ HP10.out)
          have HL11 := Lib.hid (hs11 _ HL10.out)
          have HM11 := Lib.hid (HM10.out.mono hs11)
          have HM11z := Lib.hid (HM10z.out.mono hs11)
          clear HP10 HL10 HM10 HM10z
          clear s u s11 hs11 H10 P100 P101 P102 P10l
          have hbL11 := H11.out.has HL11.out
          have L110 := hbL11.cell 0
          have L111 := hbL11.cell 1
          have L112 := hbL11.cell 2
          have L11l := hbL11.lt
          clear hbL11
          go_wp2_with fail
          obtain ⟨C, s, u⟩ := H11.out.swap
          refine (s.hearYes 0 0 _ (L.take z) HM11z.out (by omega) (bT_ok _ _ _ (by simp) (by omega) (by simp)) (bT_right _ _ _ _ (by omega) HLt.out) (bT [] k true) (by rw [bT_hear]; rw [htl, List.drop_eq_nil_of_le (by omega), show max k z = k by omega]; simp) 0 rfl).mono ?_
          rintro e W12 ⟨rfl, X12, hs12, s12⟩
          have H12 : Hid (S2 W12 w X12 p (tickT (stT L) 0) q (bT [] k true)) := S2.swap ⟨C, s12, u.mono hs12⟩
          have HP12 := Lib.hid (hs12 _ HP11.out)
          have HL12 := Lib.hid (hs12 _ HL11.out)
          have HM12 := Lib.hid (HM11.out.mono hs12)
          have HM12z := Lib.hid (HM11z.out.mono hs12)
          clear HP11 HL11 HM11 HM11z
          clear s u s12 hs12 H11 L110 L111 L112 L11l
          go_wp2_with fail
          obtain ⟨C, s, u⟩ := H12.out.swap
          refine (s.got (bT [] k true) rfl [] rfl).mono ?_
          rintro e W13 ⟨v13, X13, rfl, hs13, s13, m13⟩
          obtain ⟨a13, c13, rfl⟩ := m13.slice
          rw [show ([]).length = 0 by rfl]
          have H13 : Hid (S2 W13 w X13 p (tickT (stT L) 0) q (bT [] k true)) := S2.swap ⟨C, s13, u.mono hs13⟩
          have HP13 := Lib.hid (hs13 _ HP12.out)
          have HL13 := Lib.hid (hs13 _ HL12.out)
          have HM13 := Lib.hid (HM12.out.mono hs13)
          have HM13z := Lib.hid (HM12z.out.mono hs13)
          clear HP12 HL12 HM12 HM12z
          clear s u s13 hs13 m13 H12
          go_wp2_with fail
          obtain ⟨C, s, u⟩ := H13.out.swap
          refine (s.tickYes 1 (by omega) (bT_ok _ _ _ (by simp) (by omega) (by simp)) (by unfold dueT; rfl) 0 k (by simp [bT, newT]) rfl [] rfl (tickT (bT [] k true) 1) rfl).mono ?_
          rintro e W14 ⟨v14, X14, rfl, hs14, s14, m14⟩
          obtain ⟨a14, c14, rfl⟩ := m14.slice
          have H14 : Hid (S2 (W14.alloc (.cells #[.int .i64 (0 : Nat), .slice a14 0 c14, .int .i64 k] 36)) w X14 p (tickT (stT L) 0) q (tickT (bT [] k true) 1)) := S2.alloc (S2.swap ⟨C, s14, u.mono hs14⟩) _
          have HM14 := Lib.hid m14
          clear s u s14 hs14 m14 H13
          go_wp2_with fail
          obtain ⟨C, s, u⟩ := H14.out
          refine (s.hearYes 0 k _ [] HM14.out (by omega) (HTW.out.tick 0 (by omega)) (by unfold rightT longL; simp [tickT, stT]; omega) (hearT (tickT (stT L) 0) 0 [] k) rfl 0 rfl).mono ?_
          rintro e W15 ⟨rfl, X15, hs15, s15⟩
          have HS15 := Lib.hid s15
          have hidl : ((hearT (tickT (stT L) 0) 0 [] k).waits.length == 0) = true := by
            unfold hearT hearB hearC hearA
            simp [tickT, stT, newT, hLk]
            split <;> simp <;> omega
          clear s u s15 hs15 H14
          go_wp2_with fail
          refine (HS15.out.idle true hidl).mono ?_
          rintro e W16 ⟨rfl, rfl⟩
          go_wp2
          go_ret
          exact ⟨rfl, HS15.out.below⟩

end Go.Proofs.Ytgjodjkmefdilaa
