/- talk: all contracts of a Talker in one form. -/
import Derived.Test.YtgjodjkmefdilaaTn
import Derived.Test.YtgjodjkmefdilaaTq
namespace Go.Proofs.Ytgjodjkmefdilaa
set_option linter.unusedSimpArgs false
set_option linter.unusedVariables false
open Go.RowKit

set_option maxRecDepth 100000 in
set_option maxHeartbeats 1000000 in
theorem say_nil (v : Value) (w : World) : Calls Try.prog 22 #[.pointer none, v] w fun e w' => e = .returned (.int .i64 1) ∧ w' = w := by
  go_enter Try.func22, Try.ntmps22
  go_wp2
  go_ret
  exact ⟨rfl, rfl⟩
set_option maxRecDepth 100000 in
set_option maxHeartbeats 1000000 in
theorem say_long (p : Nat) (v : Value) (m : List UInt8) (hm : 4096 < m.length) (w : World) (hv : BSl w v m) :
    Calls Try.prog 22 #[ptr p, v] w fun e w' => e = .returned (.int .i64 5) ∧ w' = w := by
  obtain ⟨ao1, cap1, rfl, -⟩ := hv.open_
  have hd : decide ((4096 : Int) < (m.length : Int)) = true := decide_eq_true (by omega)
  clear hv
  go_enter Try.func22, Try.ntmps22
  go_wp2
  go_ret
  exact ⟨rfl, rfl⟩
set_option maxRecDepth 100000 in
set_option maxHeartbeats 1000000 in
theorem say_full (p : Nat) (T : TS) (B F L : List Blk) (v : Value) (m : List UInt8) (hm : m.length ≤ 4096) (hw : T.most ≤ T.waits.length) (w w0 : World) (O : Ow w w0 (B ++ F)) (hT : TkB w0 L p T B) (hv : BSl w v m) :
    Calls Try.prog 22 #[ptr p, v] w fun e w' => e = .returned (.int .i64 8) ∧ Ow w' w [] := by
  obtain ⟨vw, ws, Bw, vg, gs, Bg, Rw, Mw, Rg, Mg, O', HB, -⟩ := hT.open_ O
  have c0 := HB.cell 0
  have c2 := HB.cell 2
  have hlt := HB.lt
  obtain ⟨ao, cap, rfl⟩ := Rw.slice
  simp only [tcs] at c0 c2
  obtain ⟨ao1, cap1, rfl, -⟩ := hv.open_
  have hd : decide ((4096 : Int) < (m.length : Int)) = false := decide_eq_false (by omega)
  have hd2 : decide ((T.most : Int) ≤ (T.waits.length : Int)) = true := decide_eq_true (by omega)
  have HS := Lib.hid (Ow.start w)
  clear O O' HB Rw Mw Rg Mg hT hv
  go_enter Try.func22, Try.ntmps22
  go_wp2
  refine wp_region_rq (by kernel_rfl) (by kernel_rfl) (by kernel_rfl) ?_
  repeat (first
    | (refine B_skip ?_ ?_; (· rfl); (try simp only [Act.put, List.setIfInBounds_toArray, List.set_cons_zero, List.set_cons_succ]))
    | (refine B_move rfl ?_ ?_; (· rfl); (try simp only [Act.eval, Act.put, Array.getD_eq_getD_getElem?, List.getElem?_toArray, List.getElem?_cons_succ, List.getElem?_cons_zero, Option.getD_some, List.setIfInBounds_toArray, List.set_cons_zero, List.set_cons_succ]))
    | (refine B_plain ?_ ?_; (· rfl); intro K hK; go_big_quiet_op; with_reducible refine hK _ ?_; clear hK K)
    | (refine B_nilck rfl rfl ?_ ?_; (· rfl); (try simp only [Act.put, List.setIfInBounds_toArray, List.set_cons_zero, List.set_cons_succ])))
  refine B_nil ?_ rfl ?_ ?_
  · kernel_rfl
  · rfl
  rintro _ ⟨⟨g1, d1⟩, rfl⟩
  simp only [fin, Act.put, List.setIfInBounds_toArray, List.set_cons_zero, List.set_cons_succ]
  go_wp2
  go_ret
  exact ⟨rfl, HS.out.plus _ _⟩
theorem TW.mono {b c : Nat} {T : TS} (h : TW b T) (hb : b ≤ c) : TW c T := ⟨h.most, h.most0, h.again, h.waits, h.gone, Nat.le_trans h.said hb, h.le, Nat.le_trans h.heard hb, h.last, Nat.le_trans h.got hb, h.wlen, h.glen⟩
/-- Say, of whatever message. -/
theorem say_any (p : Nat) (T : TS) (B F L : List Blk) (v : Value) (m : List UInt8) (w w0 : World) (O : Ow w w0 (B ++ F)) (hT : TkB w0 L p T B) (hL : ∀ x ∈ L, x ∈ F) (hv : BSl w v m) (hW : TW 1000000 T) (E : Nat) (hE : sayE T m = E) (T' : TS) (hT' : sayT T m = T') :
    Calls Try.prog 22 #[ptr p, v] w fun e w' => e = .returned (.int .i64 E) ∧ ∃ N B', Ow w' w0 (B' ++ (N ++ F)) ∧ TkB w0 (N ++ L) p T' B' := by
  subst hE hT'
  unfold sayE sayT
  by_cases h1 : 4096 < m.length
  · rw [if_pos h1, if_pos h1]
    refine (say_long p v m h1 w hv).mono ?_
    rintro e w' ⟨rfl, rfl⟩
    exact ⟨rfl, [], B, O, hT⟩
  · rw [if_neg h1, if_neg h1]
    by_cases h2 : T.most ≤ T.waits.length
    · rw [if_pos h2, if_pos h2]
      refine (say_full p T B F L v m (by omega) h2 w w0 O hT hv).mono ?_
      rintro e w' ⟨rfl, O'⟩
      exact ⟨rfl, [], B, O.of_below O'.below, hT⟩
    · rw [if_neg h2, if_neg h2]
      exact say_ok p T B F L v m (by omega) (by omega) hW.most hW.said w w0 O hL hT hv _ rfl
theorem wpList_store_ow {P : Program} {w w0 : World} {ops : Array Oper} {rest : List Oper} {o : Oper} {a : Act} {Q : Exit → Act → World → Prop} (hgd : o.guard = none) (ty : TypeId) (x y : Operand) (ho : o.op = .store ty x y) {L : List Blk} {b : Nat} {t : TypeId} {cs : Array Value} (O : Ow w w0 (⟨b, t, cs⟩ :: L))
    (hx : a.eval x = .pointer (some ⟨b, 0, none⟩)) (vs : Array Value) (hy : a.eval y = .agg vs) (hi : (P.info? ty).map (·.size) = some cs.size) (hs : vs.size = cs.size) (h1 : ∀ v ∈ vs.toList, v.oneCell' = true)
    (h : ∀ w', Ow w' w0 (⟨b, t, vs⟩ :: L) → wpList P ops Q rest (a.put o.dst undef) w') : wpList P ops Q (o :: rest) a w :=
  wpList_store_blk (B := []) hgd ty x y ho O.mem hx vs hy hi hs h1 fun w' M' => h w' ⟨M', New.cons (O.new ⟨b, t, cs⟩ (List.mem_cons_self ..)) fun x hx => O.new x (List.mem_cons_of_mem _ hx)⟩
theorem newT_ok (a b : Nat) (ha : 1 ≤ a) (ha2 : a ≤ 64) (hb : b ≤ 1000) (c : Nat) : TW c (newT a b) :=
  ⟨ha2, ha, hb, by simp [newT], by simp [newT], by simp [newT], by simp [newT], by simp [newT], by simp [newT], by simp [newT], by simp [newT], by simp [newT]⟩
theorem TW.say {b : Nat} {T : TS} (h : TW b T) (m : List UInt8) : TW (b + 1) (sayT T m) := by
  unfold sayT
  by_cases h1 : 4096 < m.length
  · rw [if_pos h1]; exact h.mono (by omega)
  · rw [if_neg h1]
    by_cases h2 : T.most ≤ T.waits.length
    · rw [if_pos h2]; exact h.mono (by omega)
    · rw [if_neg h2]
      have := h.gone; have := h.said; have := h.le; have := h.heard; have := h.got
      refine ⟨h.most, h.most0, h.again, by simp; omega, by simp; omega, by simp; omega, by simp; omega, by simp; omega, h.last, by simp; omega, fun x hx => ?_, h.glen⟩
      simp at hx
      rcases hx with hx | rfl
      · exact h.wlen x hx
      · omega
theorem TW.tick {b : Nat} {T : TS} (h : TW b T) (now : Nat) (hn : now ≤ 4611686018427387904) : TW b (tickT T now) :=
  ⟨h.most, h.most0, h.again, h.waits, Nat.le_refl _, h.said, h.le, h.heard, hn, h.got, h.wlen, h.glen⟩
theorem TW.gotten {b : Nat} {T : TS} (h : TW b T) : TW b (gotT T) :=
  ⟨h.most, h.most0, h.again, h.waits, h.gone, h.said, h.le, h.heard, h.last, by simp [gotT], h.wlen, by simp [gotT]⟩
theorem TW.afterA {b : Nat} {T : TS} (h : TW b T) (he : Nat) (hhe : he ≤ T.said) : TW b (hearA T he) := by
  unfold hearA
  split
  · have := h.gone; have := h.le; have := h.waits; have := h.said
    refine ⟨h.most, h.most0, h.again, ?_, ?_, h.said, ?_, h.heard, h.last, h.got, fun x hx => h.wlen x (List.mem_of_mem_drop hx), h.glen⟩ <;> simp <;> omega
  · exact h
theorem TW.afterB {b : Nat} {T : TS} (h : TW b T) (ms : List (List UInt8)) : TW b (hearB T ms) := by
  unfold hearB
  split
  · exact ⟨h.most, h.most0, h.again, h.waits, h.gone, h.said, h.le, h.heard, h.last, h.got, h.wlen, h.glen⟩
  · exact h
theorem TW.afterHear {b : Nat} {T : TS} (h : TW b T) (fi : Nat) (ms : List (List UInt8)) (he : Nat) (hhe : he ≤ T.said) (hn : ms.length ≤ 64) (hms : ∀ m ∈ ms, m.length ≤ 4096) : TW (b + 64) (hearT T fi ms he) := by
  have h2 := (h.afterA he hhe).afterB ms
  unfold hearT
  have e1 : (hearA T he).heard = T.heard := by unfold hearA; split <;> rfl
  have e2 : (hearB (hearA T he) ms).heard = T.heard := by rw [← e1]; unfold hearB; split <;> rfl
  split
  · exact h2.mono (by omega)
  · rename_i hc
    have k1 := h2.heard; have k2 := h2.got; have k3 := h2.said
    unfold hearC
    refine ⟨h2.most, h2.most0, h2.again, h2.waits, h2.gone, Nat.le_trans h2.said (by omega), h2.le, ?_, h2.last, ?_, h2.wlen, fun x hx => ?_⟩
    · simp; omega
    · simp; omega
    · rcases List.mem_append.1 hx with hx | hx
      · exact h2.glen x hx
      · exact hms x (List.mem_of_mem_drop hx)

/-- What is left of a number of 64 bits, as the laws take it. -/
def cutN (x : Int) (m : Nat) : Nat := (x % 18446744073709551616).toNat % m

theorem cut_eq (x : Int) (m : Nat) (hm : 0 < m) (hm2 : m ≤ 1000000) : wrap64 ((IntKind.u64.wrap x).tmod (m : Int)) = (cutN x m : Int) := by
  have e : IntKind.u64.wrap x = x % 18446744073709551616 := by simp [IntKind.wrap, IntKind.bits, IntKind.signed]
  have h0 : 0 ≤ x % 18446744073709551616 := Int.emod_nonneg _ (by omega)
  rw [e, Int.tmod_eq_emod_of_nonneg h0]
  have h1 : (x % 18446744073709551616) % (m : Int) = (cutN x m : Int) := by
    unfold cutN
    rw [Int.natCast_emod, Int.toNat_of_nonneg h0]
  rw [h1]
  have h2 : cutN x m < m := Nat.mod_lt _ hm
  unfold wrap64
  omega

set_option maxRecDepth 100000 in
set_option maxHeartbeats 2000000 in
theorem begin_to (x y : Int) (w w0 : World) (F : List Blk) (O : Ow w w0 F) (a b : Nat) (ha : 1 + cutN x 64 = a) (hb : 1 + cutN y 1000 = b) :
    Calls Try.prog 11 #[.agg #[.int .i64 x, .int .i64 y]] w fun e w' => ∃ p B, e = .returned (.tuple #[ptr p, .agg #[.int .i64 a, .int .i64 b, .slice none 0 0, .int .i64 0, .int .i64 0, .slice none 0 0, .int .i64 0, .int .i64 0, .bool false, .bool false]]) ∧ Ow w' w0 (B ++ F) ∧ TkB w0 [] p (newT a b) B := by
  have HO := Lib.hid ((O.alloc (.cells #[.int .i64 x, .int .i64 y] 22)).key #[.int .i64 0, .int .i64 0, .slice none 0 0, .int .i64 0, .int .i64 0, .slice none 0 0, .int .i64 0, .int .i64 0, .bool false, .bool false] 27 (w.heap.size + 1) (by simp))
  have ex := cut_eq x 64 (by omega) (by omega)
  have ey := cut_eq y 1000 (by omega) (by omega)
  have hx : cutN x 64 < 64 := Nat.mod_lt _ (by omega)
  have hy : cutN y 1000 < 1000 := Nat.mod_lt _ (by omega)
  generalize cutN x 64 = cx at *
  generalize cutN y 1000 = cy at *
  have hax : (1 : Int) + (cx : Int) = (a : Int) := by omega
  have hby : (1 : Int) + (cy : Int) = (b : Int) := by omega
  have ex' : wrap64 ((IntKind.u64.wrap x).tmod 64) = (cx : Int) := ex
  have ey' : wrap64 ((IntKind.u64.wrap y).tmod 1000) = (cy : Int) := ey
  clear ex ey
  clear O
  go_enter Try.func11, Try.ntmps11
  go_wp2_with fail
  refine wp_region_rq (by kernel_rfl) (by kernel_rfl) (by kernel_rfl) ?_
  repeat (first
    | (refine B_skip ?_ ?_; (· rfl); (try simp only [Act.put, List.setIfInBounds_toArray, List.set_cons_zero, List.set_cons_succ]))
    | (refine B_move rfl ?_ ?_; (· rfl); (try simp only [Act.eval, Act.put, Array.getD_eq_getD_getElem?, List.getElem?_toArray, List.getElem?_cons_succ, List.getElem?_cons_zero, Option.getD_some, List.setIfInBounds_toArray, List.set_cons_zero, List.set_cons_succ]))
    | (refine B_plain ?_ ?_; (· rfl); intro K hK; go_big_quiet_op; with_reducible refine hK _ ?_; clear hK K)
    | (refine B_nilck rfl rfl ?_ ?_; (· rfl); (try simp only [Act.put, List.setIfInBounds_toArray, List.set_cons_zero, List.set_cons_succ])))
  refine B_nil ?_ rfl ?_ ?_
  · kernel_rfl
  · rfl
  rintro _ ⟨⟨g1, d1⟩, rfl⟩
  simp only [fin, Act.put, List.setIfInBounds_toArray, List.set_cons_zero, List.set_cons_succ]
  go_wp2_with fail
  refine (new_yes a b _ w0 _ (HO.out.plus g1 d1) (by omega) (by omega) (by omega) (by omega)).mono ?_
  rintro e w2 ⟨p, B, rfl, O2, T2⟩
  have HO2 := Lib.hid O2.unfront
  have HT2 := Lib.hid T2
  clear O2 T2
  go_wp2_with (refine wpList_store_ow rfl 27 (.tmp 3) (.tmp 29) rfl HO2.out (by rfl) #[.int .i64 a, .int .i64 b, .slice none 0 0, .int .i64 0, .int .i64 0, .slice none 0 0, .int .i64 0, .int .i64 0, .bool false, .bool false] (by rfl) (by kernel_rfl) (by rfl) (by simp [Value.oneCell']) ?_; intro w3 O3)
  have HB := O3.has (List.mem_cons_self ..)
  have d0 := HB.cell 0
  have d1 := HB.cell 1
  have d2 := HB.cell 2
  have d3 := HB.cell 3
  have d4 := HB.cell 4
  have d5 := HB.cell 5
  have d6 := HB.cell 6
  have d7 := HB.cell 7
  have d8 := HB.cell 8
  have d9 := HB.cell 9
  have HO3 := Lib.hid O3
  clear O3 HB
  go_wp2
  refine bodyPost_ret (v := .tuple #[ptr p, .agg #[.int .i64 a, .int .i64 b, .slice none 0 0, .int .i64 0, .int .i64 0, .slice none 0 0, .int .i64 0, .int .i64 0, .bool false, .bool false]]) (by simp [results, Try.results11, go_sem, d0, d1, d2, d3, d4, d5, d6, d7, d8, d9]) rfl ?_
  exact ⟨p, B, rfl, HO3.out.drop1, HT2.out⟩

/-- A Talker p that is T, beside the blocks C (of another one), and X. -/
def S1 (w w0 : World) (C X : List Blk) (p : Nat) (T : TS) : Prop := ∃ A, Ow w w0 (A ++ (C ++ X)) ∧ TkB w0 X p T A
def Sub (X Y : List Blk) : Prop := ∀ x ∈ X, x ∈ Y
theorem Sub.refl (X : List Blk) : Sub X X := fun _ h => h
theorem Sub.trans {X Y Z : List Blk} (h : Sub X Y) (k : Sub Y Z) : Sub X Z := fun x hx => k x (h x hx)
theorem Sub.app (N X : List Blk) : Sub X (N ++ X) := fun x hx => by simp [hx]
section
variable {w w0 : World} {C X : List Blk} {p : Nat} {T : TS}
theorem S1.of_below {w' : World} (h : S1 w w0 C X p T) (hb : Below w.heap.size w w') : S1 w' w0 C X p T := by
  obtain ⟨A, O, t⟩ := h; exact ⟨A, O.of_below hb, t⟩
theorem S1.plus (h : S1 w w0 C X p T) (g : Array Obj) (d : Nat) : S1 (Go.Proofs.Ytgjodjkmefdilaa.plus w g d) w0 C X p T := by
  obtain ⟨A, O, t⟩ := h; exact ⟨A, O.plus g d, t⟩
theorem S1.alloc (h : S1 w w0 C X p T) (o : Obj) : S1 (w.alloc o) w0 C X p T := by
  obtain ⟨A, O, t⟩ := h; exact ⟨A, O.alloc o, t⟩
theorem S1.below (h : S1 w w0 C X p T) : Below w0.heap.size w0 w := by
  obtain ⟨A, O, t⟩ := h; exact O.below
theorem S1.ow (h : S1 w w0 C X p T) : ∃ Y, Ow w w0 Y ∧ Sub X Y := by
  obtain ⟨A, O, t⟩ := h; exact ⟨_, O, fun x hx => by simp [hx]⟩
theorem S1.bsl (h : S1 w w0 C X p T) {v : Value} {m : List UInt8} (hm : Msg w0 X v m) : BSl w v m := by
  obtain ⟨Y, O, hs⟩ := h.ow; exact hm.bsl O hs
theorem S1.here (h : S1 w w0 C X p T) {v : Value} {ms : List (List UInt8)} (hm : MsgL w0 X v ms) : MsgL w [] v ms := by
  obtain ⟨Y, O, hs⟩ := h.ow; exact hm.here O hs
theorem MsgL.sub {Y : List Blk} {v : Value} {ms : List (List UInt8)} (hm : MsgL w0 X v ms) (h : Sub X Y) : MsgL w0 Y v ms := hm.mono h

theorem S1.say (h : S1 w w0 C X p T) (v : Value) (m : List UInt8) (hv : BSl w v m) (hW : TW 1000000 T) (E : Nat) (hE : sayE T m = E) (T' : TS) (hT' : sayT T m = T') :
    Calls Try.prog 22 #[ptr p, v] w fun e w' => e = .returned (.int .i64 E) ∧ ∃ X', Sub X X' ∧ S1 w' w0 C X' p T' := by
  obtain ⟨A, O, t⟩ := h
  refine (say_any p T A (C ++ X) X v m w w0 O t (fun x hx => by simp [hx]) hv hW E hE T' hT').mono ?_
  rintro e w' ⟨rfl, N, B', O', t'⟩
  exact ⟨rfl, N ++ X, Sub.app N X, B', O'.perm (perm_cnt fun x => by simp only [cnt_append, cnt_cons, cnt_nil] <;> omega), t'⟩
theorem S1.tickNo (h : S1 w w0 C X p T) (now : Nat) (hn : now ≤ 4611686018427387904) (hW : TW 1000000 T) (hd : dueT T now = false) :
    Calls Try.prog 19 #[ptr p, .int .i64 now] w fun e w' => e = .returned (.tuple #[.agg #[.int .i64 0, .slice none 0 0, .int .i64 0], .bool false]) ∧ S1 w' w0 C X p T := by
  obtain ⟨A, O, t⟩ := h
  refine (tick_no p T A (C ++ X) X w w0 O t now hn hW hd).mono ?_
  rintro e w' ⟨rfl, hb⟩
  exact ⟨rfl, A, O.of_below hb, t⟩
theorem S1.tickYes (h : S1 w w0 C X p T) (now : Nat) (hn : now ≤ 4611686018427387904) (hW : TW 1000000 T) (hd : dueT T now = true) (fi hd' : Nat) (hfi : T.said - T.waits.length = fi) (hhd : T.heard = hd') (ms : List (List UInt8)) (hms : T.waits = ms) (T' : TS) (hT' : tickT T now = T') :
    Calls Try.prog 19 #[ptr p, .int .i64 now] w fun e w' => ∃ u X', e = .returned (.tuple #[.agg #[.int .i64 fi, u, .int .i64 hd'], .bool true]) ∧ Sub X X' ∧ S1 w' w0 C X' p T' ∧ MsgL w0 X' u ms := by
  subst hfi hhd hms hT'
  obtain ⟨A, O, t⟩ := h
  refine (tick_yes p T A (C ++ X) X w w0 O t (fun x hx => by simp [hx]) now hn hW hd).mono ?_
  rintro e w' ⟨u, us, D, N, B', rfl, O', t', R, M⟩
  exact ⟨u, D ++ (N ++ X), rfl, fun x hx => by simp [hx], ⟨B', O'.perm (perm_cnt fun x => by simp only [cnt_append, cnt_cons, cnt_nil] <;> omega), t'.mono (fun x hx => by simp [hx])⟩, (R.msgl (M w0)).mono (fun x hx => by
    rcases List.mem_append.1 hx with hx | hx <;> simp [hx])⟩
theorem S1.hearNo (h : S1 w w0 C X p T) (fi he : Int) (v : Value) (ms : List (List UInt8)) (hn : ms.length ≤ 1000000000) (hv : MsgL w [] v ms) (hb : rightT T fi ms he = false) :
    Calls Try.prog 20 #[ptr p, .agg #[.int .i64 fi, v, .int .i64 he]] w fun e w' => e = .returned (.int .i64 2) ∧ S1 w' w0 C X p T := by
  obtain ⟨A, O, t⟩ := h
  refine (hear_no p T A (C ++ X) X w w0 O t fi he v ms hn hv hb).mono ?_
  rintro e w' ⟨rfl, hb⟩
  exact ⟨rfl, A, O.of_below hb.below, t⟩
theorem rightT_out {T : TS} {fi : Int} {ms : List (List UInt8)} {he : Int} (h : rightT T fi ms he = true) : ∃ f g : Nat, fi = f ∧ he = g ∧ g ≤ T.said ∧ ms.length ≤ 64 ∧ ∀ m ∈ ms, m.length ≤ 4096 := by
  unfold rightT longL at h
  simp only [Bool.and_eq_true, decide_eq_true_eq, Bool.not_eq_true', List.any_eq_false] at h
  obtain ⟨⟨⟨⟨h1, h2⟩, h3⟩, h4⟩, h5⟩ := h
  refine ⟨fi.toNat, he.toNat, by omega, by omega, by omega, h3, fun m hm => ?_⟩
  have := h4 m hm
  omega
theorem S1.hearYes (h : S1 w w0 C X p T) (fi he : Nat) (v : Value) (ms : List (List UInt8)) (hv : MsgL w0 X v ms) (hfi : fi ≤ 9223372036854775807) (hW : TW 1000000 T) (hb : rightT T fi ms he = true) (T' : TS) (hT' : hearT T fi ms he = T') (c : Int) (hc : (if T.heard < fi then 20 else 0 : Int) = c) :
    Calls Try.prog 20 #[ptr p, .agg #[.int .i64 fi, v, .int .i64 he]] w fun e w' => e = .returned (.int .i64 c) ∧ ∃ X', Sub X X' ∧ S1 w' w0 C X' p T' := by
  obtain ⟨f, g, h1, h2, h3, h4, h5⟩ := rightT_out hb
  obtain ⟨A, O, t⟩ := h
  refine (hear_yes p T A (C ++ X) X X w w0 O t (fun x hx => by simp [hx]) fi he v ms h4 hv (fun x hx => by simp [hx]) (getD_len h5) hfi hW hb (by omega) T' hT' c hc).mono ?_
  rintro e w' ⟨rfl, N, B', O', t'⟩
  exact ⟨rfl, N ++ X, Sub.app N X, B', O'.perm (perm_cnt fun x => by simp only [cnt_append, cnt_cons, cnt_nil] <;> omega), t'⟩
theorem S1.got (h : S1 w w0 C X p T) (T' : TS) (hT' : gotT T = T') (ms : List (List UInt8)) (hms : T.got = ms) :
    Calls Try.prog 21 #[ptr p] w fun e w' => ∃ v X', e = .returned v ∧ Sub X X' ∧ S1 w' w0 C X' p T' ∧ MsgL w0 X' v ms := by
  subst hT' hms
  obtain ⟨A, O, t⟩ := h
  refine (got_to p T A (C ++ X) X w w0 O t).mono ?_
  rintro e w' ⟨v, N, B', rfl, O', t', M⟩
  exact ⟨v, N ++ X, rfl, Sub.app N X, ⟨B', O'.perm (perm_cnt fun x => by simp only [cnt_append, cnt_cons, cnt_nil] <;> omega), t'.mono (Sub.app N X)⟩, M⟩
theorem S1.idle (h : S1 w w0 C X p T) (b : Bool) (hb : (T.waits.length == 0) = b) :
    Calls Try.prog 15 #[ptr p] w fun e w' => e = .returned (.bool b) ∧ w' = w := by
  obtain ⟨A, O, t⟩ := h
  exact idle_to p T A (C ++ X) X w w0 O t b hb
theorem S1.clone (h : S1 w w0 C X p T) (hW : TW 1000000 T) :
    Calls Try.prog 25 #[ptr p] w fun e w' => ∃ q X' A D, e = .returned (ptr q) ∧ Sub X X' ∧ Ow w' w0 (A ++ (D ++ (C ++ X'))) ∧ TkB w0 X' p T A ∧ TkB w0 X' q T D := by
  obtain ⟨A, O, t⟩ := h
  refine (tclone_to p T A (C ++ X) X w w0 O t (fun x hx => by simp [hx]) hW).mono ?_
  rintro e w' ⟨q, D, N, rfl, O', t'⟩
  exact ⟨q, N ++ X, A, D, rfl, Sub.app N X, O'.perm (perm_cnt fun x => by simp only [cnt_append, cnt_cons, cnt_nil] <;> omega), t.mono (Sub.app N X), t'.mono (fun x hx => by simp [hx])⟩
end

/-- Two Talkers. -/
def S2 (w w0 : World) (X : List Blk) (p : Nat) (T : TS) (q : Nat) (U : TS) : Prop := ∃ C, S1 w w0 C X p T ∧ TkB w0 X q U C
section
variable {w w0 : World} {X : List Blk} {p q : Nat} {T U : TS}
theorem S2.swap (h : S2 w w0 X p T q U) : S2 w w0 X q U p T := by
  obtain ⟨C, ⟨A, O, t⟩, u⟩ := h
  exact ⟨A, ⟨C, O.perm (perm_cnt fun x => by simp only [cnt_append, cnt_cons, cnt_nil] <;> omega), u⟩, t⟩
theorem S2.of_below {w' : World} (h : S2 w w0 X p T q U) (hb : Below w.heap.size w w') : S2 w' w0 X p T q U := by
  obtain ⟨C, s, u⟩ := h; exact ⟨C, s.of_below hb, u⟩
theorem S2.key (h : S2 w w0 X p T q U) (cs : Array Value) (t : TypeId) (b : Nat) (hb : b = w.heap.size) : S2 (w.alloc (.cells cs t)) w0 (⟨b, t, cs⟩ :: X) p T q U := by
  obtain ⟨C, ⟨A, O, t1⟩, u⟩ := h
  exact ⟨C, ⟨A, (O.key cs t b hb).perm (perm_cnt fun x => by simp only [cnt_append, cnt_cons, cnt_nil] <;> omega), t1.mono fun x hx => by simp [hx]⟩, u.mono fun x hx => by simp [hx]⟩
theorem S2.has (h : S2 w w0 X p T q U) {b : Nat} {t : TypeId} {cs : Array Value} (hx : (⟨b, t, cs⟩ : Blk) ∈ X) : HasBlk w b t cs := by
  obtain ⟨C, ⟨A, O, t1⟩, u⟩ := h
  exact O.has (by simp [hx])
theorem S2.ow (h : S2 w w0 X p T q U) : ∃ Y, Ow w w0 Y ∧ Sub X Y := by
  obtain ⟨C, s, u⟩ := h; exact s.ow
theorem S2.here (h : S2 w w0 X p T q U) {v : Value} {ms : List (List UInt8)} (hm : MsgL w0 X v ms) : MsgL w [] v ms := by
  obtain ⟨C, s, u⟩ := h; exact s.here hm
theorem S2.below (h : S2 w w0 X p T q U) : Below w0.heap.size w0 w := by
  obtain ⟨C, s, u⟩ := h; exact s.below
theorem S2.alloc (h : S2 w w0 X p T q U) (o : Obj) : S2 (w.alloc o) w0 X p T q U := h.of_below (balloc (Below.refl _ _) o)
theorem S2.left (h : S2 w w0 X p T q U) : ∃ C, S1 w w0 C X p T := by
  obtain ⟨C, s, u⟩ := h; exact ⟨C, s⟩
end

end Go.Proofs.Ytgjodjkmefdilaa
