/- guard: the law's do of any kind; its seen. -/
import Derived.Test.YtghaiplhakeahaaGd
import Derived.Test.YtghaiplhakeahaaGv
import Derived.Test.YtghaiplhakeahaaOrw
import Derived.LaidEqlPtr
namespace Go.Proofs.Ytghaiplhakeahaa
set_option linter.unusedSimpArgs false
set_option linter.unusedVariables false
open Go.RowKit

theorem do_any (kd wh n m b : Int) (ac : Option Addr) (cc : Nat) (l : List UInt8) (hcc : l.length ≤ cc) (w w0 : World) (C X : List Blk) (p : Nat) (G : GS) (R : RS) (hv : Value) (h : Gu w w0 C X p G) (hs : Sl w0 X hv R.towers (ics R.has)) (hr : GR G R) (hc : Msg w0 X (.slice ac l.length cc) l) :
    Calls Try.prog 48 #[ptr p, .agg #[.int .i64 R.towers, .int .i64 R.need, .int .i64 R.newest, .string ⟨R.claim.toArray⟩, hv, .bool R.sl, .int .i64 R.fr, .int .i64 R.to], .agg #[.int .i64 kd, .int .i64 wh, .int .i64 n, .int .i64 m, .int .i64 b, .slice ac l.length cc]] w fun e w' => ∃ G' R' hv' X', e = .returned (.tuple #[.agg #[.int .i64 R'.towers, .int .i64 R'.need, .int .i64 R'.newest, .string ⟨R'.claim.toArray⟩, hv', .bool R'.sl, .int .i64 R'.fr, .int .i64 R'.to], .bool true]) ∧ Sub X X' ∧ Gu w' w0 C X' p G' ∧ Sl w0 X' hv' R'.towers (ics R'.has) ∧ GR G' R' := by
  have h4 : cutN kd 4 < 4 := Nat.mod_lt _ (by omega)
  have hk : cutN kd 4 = 0 ∨ cutN kd 4 = 1 ∨ cutN kd 4 = 2 ∨ cutN kd 4 = 3 := by omega
  rcases hk with hk | hk | hk | hk
  · exact do_note kd wh n m b hk ac cc l hcc w w0 C X p G R hv h hs hr hc
  · exact do_ack kd wh n m b hk ac l.length cc w w0 C X p G R hv h hs hr
  · exact do_sleep kd wh n m b hk ac l.length cc w w0 C X p G R hv h hs hr
  · exact do_wake kd wh n m b hk ac l.length cc w w0 C X p G R hv h hs hr
theorem run_ov_conv {P : Program} {o : Oper} {a : Act} {w w' : World} {K : Act → World → Prop} {Q : Exit → Act → World → Prop} {src dst : TypeId} {x : Operand} {u v : Value} (ho : o.op = .convert src dst x) (hr : (convert src dst u).run P w = .ok v w') (hx : a.eval x = u) (h : K (a.put o.dst v) w') : o.wp P a w K Q := by
  unfold Oper.wp
  simp only [execOp, ho, hx, Sem.run_bind, hr, Result.andThen, Sem.run_pure]
  exact h
theorem run_strG (W : World) (v : Value) (l : List UInt8) (h : BSl W v l) : (convert 26 9 v).run Try.prog W = .ok (.string { data := l.toArray }) W :=
  run_str W _ _ _ v l Try.underlying26 Try.underlying5 Try.underlying9 h
theorem btrans {w W W' : World} (h : Below w.heap.size w W) (k : Below W.heap.size W W') : Below w.heap.size w W' := h.trans ⟨k.os, k.tape, k.output, k.size, fun i hi => k.block i (Nat.lt_of_lt_of_le hi h.size)⟩
theorem bsetCells {n b : Nat} {w : World} : ∀ {vs : List Value} {W : World}, Below n w W → n ≤ b → ∀ (o : Nat) (_ : Unit), Below n w (W.setCells b o vs)
  | [], _, h, _, _, _ => h
  | v :: vs, W, h, hb, o, _ => bsetCells (vs := vs) (h.setCell hb v) hb (o + 1) ()
theorem Gu.storeB {w w0 : World} {C X : List Blk} {p : Nat} {G : GS} {cs : Array Value} {b : Nat} {t : TypeId} (h : Gu w w0 (⟨b, t, cs⟩ :: C) X p G) {P : Program} {o : Oper} {a : Act} {K : Act → World → Prop} {Q : Exit → Act → World → Prop} (ty : TypeId) (x y : Operand) (ho : o.op = .store ty x y)
    (hx : a.eval x = .pointer (some ⟨b, 0, none⟩)) (us : Array Value) (hy : a.eval y = .agg us) (hi : (P.info? ty).map (·.size) = some us.size) (hs : us.size = cs.size) (h1 : ∀ v ∈ us.toList, v.oneCell' = true)
    (k : ∀ w', w' = w.setCells b 0 us.toList → Gu w' w0 (⟨b, t, us⟩ :: C) X p G → K (a.put o.dst undef) w') : o.wp P a w K Q := by
  obtain ⟨bv, O, m⟩ := h
  have O2 := O.perm (L' := ⟨b, t, cs⟩ :: (⟨p, 132, gcs G bv⟩ :: (C ++ X))) (perm_cnt fun x => by simp only [cnt_append, cnt_cons, cnt_nil] <;> omega)
  refine wp_store_mid ty x y ho b 0 us hx hy (O2.mem.thereAt (List.mem_cons_self ..) 0 _ (by omega)) hi (by have := all_oneCell_toArray h1; simpa using this) (k _ rfl ⟨bv, ?_, m⟩)
  have O' : Ow (w.setCells b 0 us.toList) w0 (⟨b, t, writeAt cs 0 us.toList⟩ :: (⟨p, 132, gcs G bv⟩ :: (C ++ X))) := ⟨Mem.cells (B := []) us.toList 0 O2.mem, New.cons (O2.new ⟨b, t, cs⟩ (List.mem_cons_self ..)) fun x hx => O2.new x (List.mem_cons_of_mem _ hx)⟩
  rw [writeAt_all _ _ (by simpa using hs)] at O'
  simp only [Array.toArray_toList] at O'
  exact O'.perm (perm_cnt fun x => by simp only [cnt_append, cnt_cons, cnt_nil] <;> omega)
theorem Gu.ans {w w' w0 : World} {C X : List Blk} {p : Nat} {G : GS} {l : List UInt8} {u : Value} (h : Gu w w0 C X p G) (hb : Below w.heap.size w w') (hu : Ans w.heap.size l u w') : ∃ X', Sub X X' ∧ Gu w' w0 C X' p G ∧ Msg w0 X' u l := by
  obtain ⟨bv, O, m⟩ := h
  obtain ⟨B, O', M⟩ := hu.found O (Ext.of_below hb)
  exact ⟨B ++ X, Sub.app B X, ⟨bv, O'.perm (perm_cnt fun x => by simp only [cnt_append, cnt_cons, cnt_nil] <;> omega), m.mono (Sub.app B X)⟩, (M w0).mono fun x hx => by simp [hx]⟩
set_option maxRecDepth 100000 in
set_option maxHeartbeats 4000000 in
theorem seen_no (now : Int) (w w0 : World) (C X : List Blk) (p : Nat) (G : GS) (R : RS) (hv : Value) (h : Gu w w0 C X p G) (hs : Sl w0 X hv R.towers (ics R.has)) (hr : GR G R) (hn : R.newest < 0) :
    Calls Try.prog 49 #[ptr p, .agg #[.int .i64 R.towers, .int .i64 R.need, .int .i64 R.newest, .string ⟨R.claim.toArray⟩, hv, .bool R.sl, .int .i64 R.fr, .int .i64 R.to], .int .i64 now] w fun e w' => e = .returned (.bool true) ∧ Below w.heap.size w w' := by
  have HtG : Hid (G.towers ≤ 16) := by show _ ≤ _; rw [hr.tow]; exact hr.tt
  obtain ⟨ah, ch, rfl, -⟩ := hs.slice
  have HR := Lib.hid hr
  have htt : R.towers ≤ 16 := hr.tt
  obtain ⟨bS, HbS⟩ : ∃ b, Hid (safeB G = b) := ⟨_, rfl⟩
  have HbS2 : Hid (rsafeB R = bS) := by show _ = _; rw [← hr.safe, HbS.out]
  obtain ⟨L, HL⟩ : ∃ b, Hid (dueL G = b) := ⟨_, rfl⟩
  have HL2 : Hid (rdueL R = L) := by show _ = _; rw [← hr.due, HL.out]
  have HLL : Hid (L.length ≤ 1000000) := by show _ ≤ _; have := dueL_len G; have := HtG.out; rw [HL.out] at *; omega
  obtain ⟨bA, HbA⟩ : ∃ b, Hid (asleepE G now = b) := ⟨_, rfl⟩
  have HbA2 : Hid (rasleepE R now = bA) := by show _ = _; rw [← hr.asleep, HbA.out]
  have HN := Lib.hid hr.has_neg
  have HO := Lib.hid hr.has_out
  have HG := Lib.hid h
  have H1 := Lib.hid (h.key #[.int .i64 R.towers, .int .i64 R.need, .int .i64 R.newest, .string ⟨R.claim.toArray⟩, .slice ah R.towers ch, .bool R.sl, .int .i64 R.fr, .int .i64 R.to] 61 w.heap.size rfl)
  have HSl := Lib.hid hs
  have hnt : G.noted = false := by rw [hr.nt]; exact decide_eq_false (by omega)
  have hge : decide ((0 : Int) ≤ R.newest) = false := decide_eq_false (by omega)
  clear h hs hr
  go_enter Try.func49, Try.ntmps49
  go_wp2_with fail
  refine (newest_no p G _ w0 _ _ H1.out hnt).mono ?_
  rintro e w1 ⟨rfl, hb1⟩
  obtain ⟨X3, HX3⟩ : ∃ y, Hid (y = (⟨w1.heap.size, 29, #[.int .u8 0, .int .u8 0, .int .u8 0, .int .u8 0, .int .u8 0, .int .u8 0, .int .u8 0, .int .u8 0, .int .i64 0, .slice none 0 0]⟩ :: (⟨w.heap.size, 61, #[.int .i64 R.towers, .int .i64 R.need, .int .i64 R.newest, .string ⟨R.claim.toArray⟩, .slice ah R.towers ch, .bool R.sl, .int .i64 R.fr, .int .i64 R.to]⟩ :: X))) := ⟨_, rfl⟩
  have H2 := Lib.hid ((H1.out.of_below hb1).key #[.int .u8 0, .int .u8 0, .int .u8 0, .int .u8 0, .int .u8 0, .int .u8 0, .int .u8 0, .int .u8 0, .int .i64 0, .slice none 0 0] 29 w1.heap.size rfl)
  rw [← HX3.out] at H2
  have HX4 : Hid ((⟨w.heap.size, 61, #[.int .i64 R.towers, .int .i64 R.need, .int .i64 R.newest, .string ⟨R.claim.toArray⟩, .slice ah R.towers ch, .bool R.sl, .int .i64 R.fr, .int .i64 R.to]⟩ : Blk) ∈ X3) := by rw [HX3.out]; exact List.mem_cons_of_mem _ (List.mem_cons_self ..)
  have HX5 : Hid ((⟨w1.heap.size, 29, #[.int .u8 0, .int .u8 0, .int .u8 0, .int .u8 0, .int .u8 0, .int .u8 0, .int .u8 0, .int .u8 0, .int .i64 0, .slice none 0 0]⟩ : Blk) ∈ X3) := by rw [HX3.out]; exact List.mem_cons_self ..
  have HS3 : Hid (Sl w0 X3 (.slice ah R.towers ch) R.towers (ics R.has)) := HSl.out.mono fun x hx => by rw [HX3.out]; simp [hx]
  have HB2 : Hid (Below w.heap.size w (w1.alloc (.cells #[.int .u8 0, .int .u8 0, .int .u8 0, .int .u8 0, .int .u8 0, .int .u8 0, .int .u8 0, .int .u8 0, .int .i64 0, .slice none 0 0] 29))) := by obtain ⟨g, d, rfl⟩ := plus_of_below hb1; exact balloc (bplus (balloc (Below.refl _ _) _) _ _) _
  clear hb1 H1 HX3 HSl
  go_wp2_with fail
  refine wp_opq (fun W => Gu W w0 C X3 p G ∧ Below w.heap.size w W) ⟨H2.out, HB2.out⟩ ?_
  rintro W ⟨hW, hBW⟩
  have HW := Lib.hid hW
  have HBW := Lib.hid hBW
  clear hW hBW H2 HB2
  have hcx4 : (⟨w.heap.size, 61, #[.int .i64 R.towers, .int .i64 R.need, .int .i64 R.newest, .string ⟨R.claim.toArray⟩, .slice ah R.towers ch, .bool R.sl, .int .i64 R.fr, .int .i64 R.to]⟩ : Blk) ∈ X3 := HX4.out
  have T1 : Hid (∀ g d, Calls Try.prog 33 #[ptr p] (plus W g d) fun e w' => e = .returned (.bool bS) ∧ Below (plus W g d).heap.size (plus W g d) w') := fun g d => safe_to p G _ w0 _ X3 (HW.out.plus g d) HtG.out bS HbS.out
  have HSW : Hid (∀ g d, Sl (plus W g d) [] (.slice ah R.towers ch) R.towers (ics R.has)) := fun g d => (HW.out.plus g d).sl HS3.out
  have T2 : Hid (∀ g d, Calls Try.prog 76 #[.agg #[.int .i64 R.towers, .int .i64 R.need, .int .i64 R.newest, .string ⟨R.claim.toArray⟩, .slice ah R.towers ch, .bool R.sl, .int .i64 R.fr, .int .i64 R.to]] (plus W g d) fun e w' => e = .returned (.bool bS) ∧ Below (plus W g d).heap.size (plus W g d) w') := fun g d => rsafe_to R _ _ HR.out.len HR.out.tt (HSW.out g d) bS HbS2.out
  have T3 : Hid (∀ g d, Calls Try.prog 32 #[ptr p] (plus W g d) fun e w' => ∃ u, e = .returned u ∧ Below (plus W g d).heap.size (plus W g d) w' ∧ Own 3 1 W.heap.size L.length (ics L) u w') := fun g d => by
    refine (due_to p G _ w0 _ X3 (HW.out.plus g d) HtG.out L HL.out).mono ?_
    rintro e w' ⟨u, h1, h2, h3⟩
    exact ⟨u, h1, h2, h3.base (by simp)⟩
  have T4 : Hid (∀ g d, Calls Try.prog 77 #[.agg #[.int .i64 R.towers, .int .i64 R.need, .int .i64 R.newest, .string ⟨R.claim.toArray⟩, .slice ah R.towers ch, .bool R.sl, .int .i64 R.fr, .int .i64 R.to]] (plus W g d) fun e w' => ∃ u, e = .returned u ∧ Below (plus W g d).heap.size (plus W g d) w' ∧ Own 3 1 W.heap.size L.length (ics L) u w') := fun g d => by
    refine (rdue_to R _ _ HR.out.len HR.out.tt (HSW.out g d) L HL2.out).mono ?_
    rintro e w' ⟨u, h1, h2, h3⟩
    exact ⟨u, h1, h2, h3.base (by simp)⟩
  have T5 : Hid (∀ u v g d, Own 3 1 W.heap.size L.length (ics L) u (plus W g d) → Own 3 1 W.heap.size L.length (ics L) v (plus W g d) → Calls Try.prog 31 #[u, v] (plus W g d) fun e w' => e = .returned (.bool true) ∧ Below (plus W g d).heap.size (plus W g d) w') := fun u v g d hu hv => rsame_to u v L L HLL.out HLL.out _ hu.sl hv.sl true (by simp)
  have T6 : Hid (∀ g d, Calls Try.prog 45 #[ptr p, .int .i64 now] (plus W g d) fun e w' => e = .returned (.bool bA) ∧ Below (plus W g d).heap.size (plus W g d) w') := fun g d => (asleep_to p G now _ w0 _ X3 (HW.out.plus g d) bA HbA.out).mono fun e w' hh => ⟨hh.1, by rw [hh.2]; exact Below.refl _ _⟩
  have T7 : Hid (∀ g d, Calls Try.prog 78 #[.agg #[.int .i64 R.towers, .int .i64 R.need, .int .i64 R.newest, .string ⟨R.claim.toArray⟩, .slice ah R.towers ch, .bool R.sl, .int .i64 R.fr, .int .i64 R.to], .int .i64 now] (plus W g d) fun e w' => e = .returned (.bool bA) ∧ Below (plus W g d).heap.size (plus W g d) w') := fun g d => rasleep_to R _ now _ ⟨_, _, _, rfl⟩ bA HbA2.out
  have T8 : Hid (∀ g d, Calls Try.prog 44 #[ptr p, .int .i64 (-1)] (plus W g d) fun e w' => e = .returned (.int .i64 (-1)) ∧ Below (plus W g d).heap.size (plus W g d) w') := fun g d => (has_to p G (-1) _ w0 _ X3 (HW.out.plus g d) HtG.out (-1) HN.out).mono fun e w' hh => ⟨hh.1, by rw [hh.2]; exact Below.refl _ _⟩
  have T9 : Hid (∀ g d, Calls Try.prog 44 #[ptr p, .int .i64 R.towers] (plus W g d) fun e w' => e = .returned (.int .i64 (-1)) ∧ Below (plus W g d).heap.size (plus W g d) w') := fun g d => (has_to p G R.towers _ w0 _ X3 (HW.out.plus g d) HtG.out (-1) HO.out).mono fun e w' hh => ⟨hh.1, by rw [hh.2]; exact Below.refl _ _⟩
  have hb4 : HasBlk W w.heap.size 61 #[.int .i64 R.towers, .int .i64 R.need, .int .i64 R.newest, .string ⟨R.claim.toArray⟩, .slice ah R.towers ch, .bool R.sl, .int .i64 R.fr, .int .i64 R.to] := HW.out.hasX HX4.out
  (have x0 := hb4.cell 0); (have x1 := hb4.cell 1); (have x2 := hb4.cell 2); (have x3 := hb4.cell 3); (have x4 := hb4.cell 4); (have x5 := hb4.cell 5); (have x6 := hb4.cell 6); (have x7 := hb4.cell 7); (have l4 := hb4.lt)
  simp only [List.getElem?_toArray, List.getElem?_cons_succ, List.getElem?_cons_zero] at x0 x1 x2 x3 x4 x5 x6 x7
  clear hb4 hcx4
  go_wp2_with fail
  refine wp_region_rq (by kernel_rfl) (by kernel_rfl) (by kernel_rfl) ?_
  repeat (first
    | (refine B_skip ?_ ?_; (· rfl); (try simp only [Act.put, List.setIfInBounds_toArray, List.set_cons_zero, List.set_cons_succ]))
    | (refine B_move rfl ?_ ?_; (· rfl); (try simp only [Act.eval, Act.put, Array.getD_eq_getD_getElem?, List.getElem?_toArray, List.getElem?_cons_succ, List.getElem?_cons_zero, Option.getD_some, List.setIfInBounds_toArray, List.set_cons_zero, List.set_cons_succ]))
    | (refine B_plain ?_ ?_; (· rfl); intro K hK; go_big_quiet_op; with_reducible refine hK _ ?_; clear hK K)
    | (refine B_callX (v := ?_) (f := 33) rfl (by kernel_rfl) ?_ (fun xq => ?_) ?_; rotate_left; (· rfl); (· ((simp only [List.map_toArray, List.map_cons, List.map_nil, Act.eval, Array.getD_eq_getD_getElem?, List.getElem?_toArray, List.getElem?_cons_succ, List.getElem?_cons_zero, Option.getD_some]); with_reducible apply retB; with_reducible exact (T1.out _ _))); (try simp only [Act.put, List.setIfInBounds_toArray, List.set_cons_zero, List.set_cons_succ]))
    | (refine B_callX (v := ?_) (f := 76) rfl (by kernel_rfl) ?_ (fun xq => ?_) ?_; rotate_left; (· rfl); (· ((simp only [List.map_toArray, List.map_cons, List.map_nil, Act.eval, Array.getD_eq_getD_getElem?, List.getElem?_toArray, List.getElem?_cons_succ, List.getElem?_cons_zero, Option.getD_some]); with_reducible apply retB; with_reducible exact (T2.out _ _))); (try simp only [Act.put, List.setIfInBounds_toArray, List.set_cons_zero, List.set_cons_succ]))
    | (refine B_callR (Own 3 1 W.heap.size L.length (ics L)) (stays_own _ _ _ _ _) (f := 32) rfl rfl (by kernel_rfl) ?_ (fun xq => ?_) ?_; (· rfl); (· ((simp only [List.map_toArray, List.map_cons, List.map_nil, Act.eval, Array.getD_eq_getD_getElem?, List.getElem?_toArray, List.getElem?_cons_succ, List.getElem?_cons_zero, Option.getD_some]); (with_reducible apply retR); with_reducible exact T3.out _ _)))
    | (refine B_callR (Own 3 1 W.heap.size L.length (ics L)) (stays_own _ _ _ _ _) (f := 77) rfl rfl (by kernel_rfl) ?_ (fun xq => ?_) ?_; (· rfl); (· ((simp only [List.map_toArray, List.map_cons, List.map_nil, Act.eval, Array.getD_eq_getD_getElem?, List.getElem?_toArray, List.getElem?_cons_succ, List.getElem?_cons_zero, Option.getD_some]); (with_reducible apply retR); with_reducible exact T4.out _ _)))
    | (refine B_callRX (v := .bool true) (f := 31) rfl (by kernel_rfl) ?_ (fun xq vs hvs => ?_) ?_; (· rfl); (· (obtain ⟨a1, _, rfl, q1, a2, _, rfl, q2, q3⟩ := hvs; cases q3; (with_reducible apply retB); exact T5.out a1 a2 _ _ q1 q2)); (try simp only [Act.put, List.setIfInBounds_toArray, List.set_cons_zero, List.set_cons_succ]))
    | (refine B_callX (v := ?_) (f := 45) rfl (by kernel_rfl) ?_ (fun xq => ?_) ?_; rotate_left; (· rfl); (· ((simp only [List.map_toArray, List.map_cons, List.map_nil, Act.eval, Array.getD_eq_getD_getElem?, List.getElem?_toArray, List.getElem?_cons_succ, List.getElem?_cons_zero, Option.getD_some]); with_reducible apply retB; with_reducible exact (T6.out _ _))); (try simp only [Act.put, List.setIfInBounds_toArray, List.set_cons_zero, List.set_cons_succ]))
    | (refine B_callX (v := ?_) (f := 78) rfl (by kernel_rfl) ?_ (fun xq => ?_) ?_; rotate_left; (· rfl); (· ((simp only [List.map_toArray, List.map_cons, List.map_nil, Act.eval, Array.getD_eq_getD_getElem?, List.getElem?_toArray, List.getElem?_cons_succ, List.getElem?_cons_zero, Option.getD_some]); with_reducible apply retB; with_reducible exact (T7.out _ _))); (try simp only [Act.put, List.setIfInBounds_toArray, List.set_cons_zero, List.set_cons_succ]))
    | (refine B_callX (v := ?_) (f := 44) rfl (by kernel_rfl) ?_ (fun xq => ?_) ?_; rotate_left; (· rfl); (· ((simp only [List.map_toArray, List.map_cons, List.map_nil, Act.eval, Array.getD_eq_getD_getElem?, List.getElem?_toArray, List.getElem?_cons_succ, List.getElem?_cons_zero, Option.getD_some]); with_reducible apply retB; with_reducible exact (T8.out _ _))); (try simp only [Act.put, List.setIfInBounds_toArray, List.set_cons_zero, List.set_cons_succ]))
    | (refine B_callX (v := ?_) (f := 44) rfl (by kernel_rfl) ?_ (fun xq => ?_) ?_; rotate_left; (· rfl); (· ((simp only [List.map_toArray, List.map_cons, List.map_nil, Act.eval, Array.getD_eq_getD_getElem?, List.getElem?_toArray, List.getElem?_cons_succ, List.getElem?_cons_zero, Option.getD_some]); with_reducible apply retB; with_reducible exact (T9.out _ _))); (try simp only [Act.put, List.setIfInBounds_toArray, List.set_cons_zero, List.set_cons_succ])))
  refine B_nil ?_ rfl ?_ ?_
  · kernel_rfl
  · rfl
  rintro _ ⟨⟨g2, d2⟩, rfl⟩
  simp only [fin, Act.put, List.setIfInBounds_toArray, List.set_cons_zero, List.set_cons_succ]
  intros
  have H5 := Lib.hid (HW.out.plus g2 d2)
  have HB5 : Hid (Below w.heap.size w (plus W g2 d2)) := bplus HBW.out _ _
  clear HBW T1 T2 T3 T4 T5 T6 T7 T8 T9 HW HSW x0 x1 x2 x3 x4 x5 x6 x7 l4
  go_wp2_with fail
  go_loopw [9] (fun vi wr => ∃ (k : Nat), vi = .int .i64 k ∧ k ≤ R.towers ∧ Gu wr w0 C X3 p G ∧ Below w.heap.size w wr) (fun i _ => R.towers - (intOf i).toNat)
  case atStart => exact ⟨0, rfl, Nat.zero_le _, H5.out, HB5.out⟩
  case round =>
    obtain ⟨k, rfl, hk, h6, hB6⟩ := hrel
    have HB6 := Lib.hid hB6
    have H6 := Lib.hid h6
    have hb4 : HasBlk wr w.heap.size 61 #[.int .i64 R.towers, .int .i64 R.need, .int .i64 R.newest, .string ⟨R.claim.toArray⟩, .slice ah R.towers ch, .bool R.sl, .int .i64 R.fr, .int .i64 R.to] := H6.out.hasX HX4.out
    (have x0 := hb4.cell 0); (have x1 := hb4.cell 1); (have x2 := hb4.cell 2); (have x3 := hb4.cell 3); (have x4 := hb4.cell 4); (have x5 := hb4.cell 5); (have x6 := hb4.cell 6); (have x7 := hb4.cell 7); (have l4 := hb4.lt)
    simp only [List.getElem?_toArray, List.getElem?_cons_succ, List.getElem?_cons_zero] at x0 x1 x2 x3 x4 x5 x6 x7
    clear h6 hb4 hB6
    by_cases hlt : k < R.towers
    · have hdk : decide ((k : Int) < (R.towers : Int)) = true := decide_eq_true (by omega)
      obtain ⟨Y, OY, hY, -⟩ := H6.out.ow
      obtain ⟨r, o, rfl, hr, hc⟩ := HS3.out.at_ OY hY k hlt
      have ck := hc _ (ics_get R.has k (by have := HR.out.len; omega))
      obtain ⟨z, HZ⟩ : ∃ z, Hid (R.has.getD k 0 = z) := ⟨_, rfl⟩
      rw [HZ.out] at ck
      have HE : Hid (hasE G k = z) := by show _ = _; rw [HR.out.has_in k hlt, HZ.out]
      clear hc OY hY
      have T : Hid (∀ g d, Calls Try.prog 44 #[ptr p, .int .i64 k] (plus wr g d) fun e w' => e = .returned (.int .i64 z) ∧ Below (plus wr g d).heap.size (plus wr g d) w') := fun g d => (has_to p G k _ w0 _ X3 (H6.out.plus g d) HtG.out z HE.out).mono fun e w' hh => ⟨hh.1, by rw [hh.2]; exact Below.refl _ _⟩
      go_wp2_with fail
      refine wp_region_rq (by kernel_rfl) (by kernel_rfl) (by kernel_rfl) ?_
      repeat (first
        | (refine B_skip ?_ ?_; (· rfl); (try simp only [Act.put, List.setIfInBounds_toArray, List.set_cons_zero, List.set_cons_succ]))
        | (refine B_move rfl ?_ ?_; (· rfl); (try simp only [Act.eval, Act.put, Array.getD_eq_getD_getElem?, List.getElem?_toArray, List.getElem?_cons_succ, List.getElem?_cons_zero, Option.getD_some, List.setIfInBounds_toArray, List.set_cons_zero, List.set_cons_succ]))
        | (refine B_plain ?_ ?_; (· rfl); intro K hK; go_big_quiet_op; with_reducible refine hK _ ?_; clear hK K)
        | (refine B_callX (v := ?_) (f := 44) rfl (by kernel_rfl) ?_ (fun xq => ?_) ?_; rotate_left; (· rfl); (· ((simp only [List.map_toArray, List.map_cons, List.map_nil, Act.eval, Array.getD_eq_getD_getElem?, List.getElem?_toArray, List.getElem?_cons_succ, List.getElem?_cons_zero, Option.getD_some]); with_reducible apply retB; with_reducible exact (T.out _ _))); (try simp only [Act.put, List.setIfInBounds_toArray, List.set_cons_zero, List.set_cons_succ])))
      refine B_nil ?_ rfl ?_ ?_
      · kernel_rfl
      · rfl
      rintro _ ⟨⟨g7, d7⟩, rfl⟩
      simp only [fin, Act.put, List.setIfInBounds_toArray, List.set_cons_zero, List.set_cons_succ]
      go_wp2
      exact ⟨⟨k + 1, by simp, by omega, H6.out.plus _ _, bplus HB6.out _ _⟩, by simp [intOf]; omega⟩
    · obtain rfl : k = R.towers := by omega
      have hdk : decide ((R.towers : Int) < (R.towers : Int)) = false := decide_eq_false (by omega)
      have hb5 : HasBlk wr w1.heap.size 29 #[.int .u8 0, .int .u8 0, .int .u8 0, .int .u8 0, .int .u8 0, .int .u8 0, .int .u8 0, .int .u8 0, .int .i64 0, .slice none 0 0] := H6.out.hasX HX5.out
      (have b0 := hb5.cell 8); (have b1 := hb5.cell 9); (have l5 := hb5.lt)
      simp only [List.getElem?_toArray, List.getElem?_cons_succ, List.getElem?_cons_zero] at b0 b1
      clear hb5
      go_wp2
      go_ret
      exact ⟨rfl, HB6.out⟩
set_option maxRecDepth 100000 in
set_option maxHeartbeats 4000000 in
theorem seen_yes (now : Int) (w w0 : World) (C X : List Blk) (p : Nat) (G : GS) (R : RS) (hv : Value) (h : Gu w w0 C X p G) (hs : Sl w0 X hv R.towers (ics R.has)) (hr : GR G R) (hn : 0 ≤ R.newest) :
    Calls Try.prog 49 #[ptr p, .agg #[.int .i64 R.towers, .int .i64 R.need, .int .i64 R.newest, .string ⟨R.claim.toArray⟩, hv, .bool R.sl, .int .i64 R.fr, .int .i64 R.to], .int .i64 now] w fun e w' => e = .returned (.bool true) ∧ Below w.heap.size w w' := by
  have HtG : Hid (G.towers ≤ 16) := by show _ ≤ _; rw [hr.tow]; exact hr.tt
  obtain ⟨ah, ch, rfl, -⟩ := hs.slice
  have HR := Lib.hid hr
  have htt : R.towers ≤ 16 := hr.tt
  obtain ⟨bS, HbS⟩ : ∃ b, Hid (safeB G = b) := ⟨_, rfl⟩
  have HbS2 : Hid (rsafeB R = bS) := by show _ = _; rw [← hr.safe, HbS.out]
  obtain ⟨L, HL⟩ : ∃ b, Hid (dueL G = b) := ⟨_, rfl⟩
  have HL2 : Hid (rdueL R = L) := by show _ = _; rw [← hr.due, HL.out]
  have HLL : Hid (L.length ≤ 1000000) := by show _ ≤ _; have := dueL_len G; have := HtG.out; rw [HL.out] at *; omega
  obtain ⟨bA, HbA⟩ : ∃ b, Hid (asleepE G now = b) := ⟨_, rfl⟩
  have HbA2 : Hid (rasleepE R now = bA) := by show _ = _; rw [← hr.asleep, HbA.out]
  have HN := Lib.hid hr.has_neg
  have HO := Lib.hid hr.has_out
  have HG := Lib.hid h
  have H1 := Lib.hid (h.key #[.int .i64 R.towers, .int .i64 R.need, .int .i64 R.newest, .string ⟨R.claim.toArray⟩, .slice ah R.towers ch, .bool R.sl, .int .i64 R.fr, .int .i64 R.to] 61 w.heap.size rfl)
  have HSl := Lib.hid hs
  have hnt : G.noted = true := by rw [hr.nt]; exact decide_eq_true hn
  have hge : decide ((0 : Int) ≤ R.newest) = true := decide_eq_true hn
  have HGN : Hid (G.num = R.newest) := by show _ = _; rw [hr.num]; omega
  have HGH : Hid (G.hint = thintF nonceX) := by show _ = _; rw [hr.hint, if_pos hn]
  have HGB : Hid (G.box = tboxF nonceX R.claim) := by show _ = _; rw [hr.box, if_pos hn]
  have HBL : Hid (G.box.length ≤ 1000) := hr.boxlen
  have HIN : Hid (isNum R.newest = true) := by have := hr.high; show _ = _; simp [isNum]; omega
  clear h hs hr
  go_enter Try.func49, Try.ntmps49
  go_wp2_with fail
  refine (newest_yes p G _ w0 _ _ H1.out hnt (by have := HBL.out; omega)).mono ?_
  rintro e w1 ⟨u, rfl, hb1, hu⟩
  obtain ⟨bv, O1, m1⟩ := H1.out
  obtain ⟨NB, O2, M2⟩ := hu.found O1 (Ext.of_below hb1)
  have h2 : Gu w1 w0 C (NB ++ (⟨w.heap.size, 61, #[.int .i64 R.towers, .int .i64 R.need, .int .i64 R.newest, .string ⟨R.claim.toArray⟩, .slice ah R.towers ch, .bool R.sl, .int .i64 R.fr, .int .i64 R.to]⟩ :: X)) p G := ⟨bv, O2.perm (perm_cnt fun x => by simp only [cnt_append, cnt_cons, cnt_nil] <;> omega), m1.mono (Sub.app _ _)⟩
  obtain ⟨au, cu, rfl⟩ := M2.slice
  obtain ⟨X3, HX3⟩ : ∃ y, Hid (y = (⟨w1.heap.size, 29, #[.int .u8 (by8 G.hint 0), .int .u8 (by8 G.hint 1), .int .u8 (by8 G.hint 2), .int .u8 (by8 G.hint 3), .int .u8 (by8 G.hint 4), .int .u8 (by8 G.hint 5), .int .u8 (by8 G.hint 6), .int .u8 (by8 G.hint 7), .int .i64 G.num, .slice au G.box.length cu]⟩ :: (NB ++ (⟨w.heap.size, 61, #[.int .i64 R.towers, .int .i64 R.need, .int .i64 R.newest, .string ⟨R.claim.toArray⟩, .slice ah R.towers ch, .bool R.sl, .int .i64 R.fr, .int .i64 R.to]⟩ :: X)))) := ⟨_, rfl⟩
  have H2 := Lib.hid (h2.key #[.int .u8 (by8 G.hint 0), .int .u8 (by8 G.hint 1), .int .u8 (by8 G.hint 2), .int .u8 (by8 G.hint 3), .int .u8 (by8 G.hint 4), .int .u8 (by8 G.hint 5), .int .u8 (by8 G.hint 6), .int .u8 (by8 G.hint 7), .int .i64 G.num, .slice au G.box.length cu] 29 w1.heap.size rfl)
  rw [← HX3.out] at H2
  have HX4 : Hid ((⟨w.heap.size, 61, #[.int .i64 R.towers, .int .i64 R.need, .int .i64 R.newest, .string ⟨R.claim.toArray⟩, .slice ah R.towers ch, .bool R.sl, .int .i64 R.fr, .int .i64 R.to]⟩ : Blk) ∈ X3) := by rw [HX3.out]; exact List.mem_cons_of_mem _ (List.mem_append_right _ (List.mem_cons_self ..))
  have HX5 : Hid ((⟨w1.heap.size, 29, #[.int .u8 (by8 G.hint 0), .int .u8 (by8 G.hint 1), .int .u8 (by8 G.hint 2), .int .u8 (by8 G.hint 3), .int .u8 (by8 G.hint 4), .int .u8 (by8 G.hint 5), .int .u8 (by8 G.hint 6), .int .u8 (by8 G.hint 7), .int .i64 G.num, .slice au G.box.length cu]⟩ : Blk) ∈ X3) := by rw [HX3.out]; exact List.mem_cons_self ..
  have HS3 : Hid (Sl w0 X3 (.slice ah R.towers ch) R.towers (ics R.has)) := HSl.out.mono fun x hx => by rw [HX3.out]; simp [hx]
  have HM3 : Hid (Msg w0 X3 (.slice au G.box.length cu) G.box) := M2.mono fun x hx => by rw [HX3.out]; simp [hx]
  have HB2 : Hid (Below w.heap.size w (w1.alloc (.cells #[.int .u8 (by8 G.hint 0), .int .u8 (by8 G.hint 1), .int .u8 (by8 G.hint 2), .int .u8 (by8 G.hint 3), .int .u8 (by8 G.hint 4), .int .u8 (by8 G.hint 5), .int .u8 (by8 G.hint 6), .int .u8 (by8 G.hint 7), .int .i64 G.num, .slice au G.box.length cu] 29))) := by obtain ⟨g, d, rfl⟩ := plus_of_below hb1; exact balloc (bplus (balloc (Below.refl _ _) _) _ _) _
  clear hb1 H1 HX3 HSl hu O1 m1 O2 M2 h2
  go_wp2_with fail
  refine wp_opq (fun W => Gu W w0 C X3 p G ∧ Below w.heap.size w W) ⟨H2.out, HB2.out⟩ ?_
  rintro W ⟨hW, hBW⟩
  have HW := Lib.hid hW
  have HBW := Lib.hid hBW
  clear hW hBW H2 HB2
  have hcx4 : (⟨w.heap.size, 61, #[.int .i64 R.towers, .int .i64 R.need, .int .i64 R.newest, .string ⟨R.claim.toArray⟩, .slice ah R.towers ch, .bool R.sl, .int .i64 R.fr, .int .i64 R.to]⟩ : Blk) ∈ X3 := HX4.out
  have T1 : Hid (∀ g d, Calls Try.prog 33 #[ptr p] (plus W g d) fun e w' => e = .returned (.bool bS) ∧ Below (plus W g d).heap.size (plus W g d) w') := fun g d => safe_to p G _ w0 _ X3 (HW.out.plus g d) HtG.out bS HbS.out
  have HSW : Hid (∀ g d, Sl (plus W g d) [] (.slice ah R.towers ch) R.towers (ics R.has)) := fun g d => (HW.out.plus g d).sl HS3.out
  have T2 : Hid (∀ g d, Calls Try.prog 76 #[.agg #[.int .i64 R.towers, .int .i64 R.need, .int .i64 R.newest, .string ⟨R.claim.toArray⟩, .slice ah R.towers ch, .bool R.sl, .int .i64 R.fr, .int .i64 R.to]] (plus W g d) fun e w' => e = .returned (.bool bS) ∧ Below (plus W g d).heap.size (plus W g d) w') := fun g d => rsafe_to R _ _ HR.out.len HR.out.tt (HSW.out g d) bS HbS2.out
  have T3 : Hid (∀ g d, Calls Try.prog 32 #[ptr p] (plus W g d) fun e w' => ∃ u, e = .returned u ∧ Below (plus W g d).heap.size (plus W g d) w' ∧ Own 3 1 W.heap.size L.length (ics L) u w') := fun g d => by
    refine (due_to p G _ w0 _ X3 (HW.out.plus g d) HtG.out L HL.out).mono ?_
    rintro e w' ⟨u, h1, h2, h3⟩
    exact ⟨u, h1, h2, h3.base (by simp)⟩
  have T4 : Hid (∀ g d, Calls Try.prog 77 #[.agg #[.int .i64 R.towers, .int .i64 R.need, .int .i64 R.newest, .string ⟨R.claim.toArray⟩, .slice ah R.towers ch, .bool R.sl, .int .i64 R.fr, .int .i64 R.to]] (plus W g d) fun e w' => ∃ u, e = .returned u ∧ Below (plus W g d).heap.size (plus W g d) w' ∧ Own 3 1 W.heap.size L.length (ics L) u w') := fun g d => by
    refine (rdue_to R _ _ HR.out.len HR.out.tt (HSW.out g d) L HL2.out).mono ?_
    rintro e w' ⟨u, h1, h2, h3⟩
    exact ⟨u, h1, h2, h3.base (by simp)⟩
  have T5 : Hid (∀ u v g d, Own 3 1 W.heap.size L.length (ics L) u (plus W g d) → Own 3 1 W.heap.size L.length (ics L) v (plus W g d) → Calls Try.prog 31 #[u, v] (plus W g d) fun e w' => e = .returned (.bool true) ∧ Below (plus W g d).heap.size (plus W g d) w') := fun u v g d hu hv => rsame_to u v L L HLL.out HLL.out _ hu.sl hv.sl true (by simp)
  have T6 : Hid (∀ g d, Calls Try.prog 45 #[ptr p, .int .i64 now] (plus W g d) fun e w' => e = .returned (.bool bA) ∧ Below (plus W g d).heap.size (plus W g d) w') := fun g d => (asleep_to p G now _ w0 _ X3 (HW.out.plus g d) bA HbA.out).mono fun e w' hh => ⟨hh.1, by rw [hh.2]; exact Below.refl _ _⟩
  have T7 : Hid (∀ g d, Calls Try.prog 78 #[.agg #[.int .i64 R.towers, .int .i64 R.need, .int .i64 R.newest, .string ⟨R.claim.toArray⟩, .slice ah R.towers ch, .bool R.sl, .int .i64 R.fr, .int .i64 R.to], .int .i64 now] (plus W g d) fun e w' => e = .returned (.bool bA) ∧ Below (plus W g d).heap.size (plus W g d) w') := fun g d => rasleep_to R _ now _ ⟨_, _, _, rfl⟩ bA HbA2.out
  have T8 : Hid (∀ g d, Calls Try.prog 44 #[ptr p, .int .i64 (-1)] (plus W g d) fun e w' => e = .returned (.int .i64 (-1)) ∧ Below (plus W g d).heap.size (plus W g d) w') := fun g d => (has_to p G (-1) _ w0 _ X3 (HW.out.plus g d) HtG.out (-1) HN.out).mono fun e w' hh => ⟨hh.1, by rw [hh.2]; exact Below.refl _ _⟩
  have T9 : Hid (∀ g d, Calls Try.prog 44 #[ptr p, .int .i64 R.towers] (plus W g d) fun e w' => e = .returned (.int .i64 (-1)) ∧ Below (plus W g d).heap.size (plus W g d) w') := fun g d => (has_to p G R.towers _ w0 _ X3 (HW.out.plus g d) HtG.out (-1) HO.out).mono fun e w' hh => ⟨hh.1, by rw [hh.2]; exact Below.refl _ _⟩
  have hb4 : HasBlk W w.heap.size 61 #[.int .i64 R.towers, .int .i64 R.need, .int .i64 R.newest, .string ⟨R.claim.toArray⟩, .slice ah R.towers ch, .bool R.sl, .int .i64 R.fr, .int .i64 R.to] := HW.out.hasX HX4.out
  (have x0 := hb4.cell 0); (have x1 := hb4.cell 1); (have x2 := hb4.cell 2); (have x3 := hb4.cell 3); (have x4 := hb4.cell 4); (have x5 := hb4.cell 5); (have x6 := hb4.cell 6); (have x7 := hb4.cell 7); (have l4 := hb4.lt)
  simp only [List.getElem?_toArray, List.getElem?_cons_succ, List.getElem?_cons_zero] at x0 x1 x2 x3 x4 x5 x6 x7
  clear hb4 hcx4
  go_wp2_with fail
  refine wp_region_rq (by kernel_rfl) (by kernel_rfl) (by kernel_rfl) ?_
  repeat (first
    | (refine B_skip ?_ ?_; (· rfl); (try simp only [Act.put, List.setIfInBounds_toArray, List.set_cons_zero, List.set_cons_succ]))
    | (refine B_move rfl ?_ ?_; (· rfl); (try simp only [Act.eval, Act.put, Array.getD_eq_getD_getElem?, List.getElem?_toArray, List.getElem?_cons_succ, List.getElem?_cons_zero, Option.getD_some, List.setIfInBounds_toArray, List.set_cons_zero, List.set_cons_succ]))
    | (refine B_plain ?_ ?_; (· rfl); intro K hK; go_big_quiet_op; with_reducible refine hK _ ?_; clear hK K)
    | (refine B_callX (v := ?_) (f := 33) rfl (by kernel_rfl) ?_ (fun xq => ?_) ?_; rotate_left; (· rfl); (· ((simp only [List.map_toArray, List.map_cons, List.map_nil, Act.eval, Array.getD_eq_getD_getElem?, List.getElem?_toArray, List.getElem?_cons_succ, List.getElem?_cons_zero, Option.getD_some]); with_reducible apply retB; with_reducible exact (T1.out _ _))); (try simp only [Act.put, List.setIfInBounds_toArray, List.set_cons_zero, List.set_cons_succ]))
    | (refine B_callX (v := ?_) (f := 76) rfl (by kernel_rfl) ?_ (fun xq => ?_) ?_; rotate_left; (· rfl); (· ((simp only [List.map_toArray, List.map_cons, List.map_nil, Act.eval, Array.getD_eq_getD_getElem?, List.getElem?_toArray, List.getElem?_cons_succ, List.getElem?_cons_zero, Option.getD_some]); with_reducible apply retB; with_reducible exact (T2.out _ _))); (try simp only [Act.put, List.setIfInBounds_toArray, List.set_cons_zero, List.set_cons_succ]))
    | (refine B_callR (Own 3 1 W.heap.size L.length (ics L)) (stays_own _ _ _ _ _) (f := 32) rfl rfl (by kernel_rfl) ?_ (fun xq => ?_) ?_; (· rfl); (· ((simp only [List.map_toArray, List.map_cons, List.map_nil, Act.eval, Array.getD_eq_getD_getElem?, List.getElem?_toArray, List.getElem?_cons_succ, List.getElem?_cons_zero, Option.getD_some]); (with_reducible apply retR); with_reducible exact T3.out _ _)))
    | (refine B_callR (Own 3 1 W.heap.size L.length (ics L)) (stays_own _ _ _ _ _) (f := 77) rfl rfl (by kernel_rfl) ?_ (fun xq => ?_) ?_; (· rfl); (· ((simp only [List.map_toArray, List.map_cons, List.map_nil, Act.eval, Array.getD_eq_getD_getElem?, List.getElem?_toArray, List.getElem?_cons_succ, List.getElem?_cons_zero, Option.getD_some]); (with_reducible apply retR); with_reducible exact T4.out _ _)))
    | (refine B_callRX (v := .bool true) (f := 31) rfl (by kernel_rfl) ?_ (fun xq vs hvs => ?_) ?_; (· rfl); (· (obtain ⟨a1, _, rfl, q1, a2, _, rfl, q2, q3⟩ := hvs; cases q3; (with_reducible apply retB); exact T5.out a1 a2 _ _ q1 q2)); (try simp only [Act.put, List.setIfInBounds_toArray, List.set_cons_zero, List.set_cons_succ]))
    | (refine B_callX (v := ?_) (f := 45) rfl (by kernel_rfl) ?_ (fun xq => ?_) ?_; rotate_left; (· rfl); (· ((simp only [List.map_toArray, List.map_cons, List.map_nil, Act.eval, Array.getD_eq_getD_getElem?, List.getElem?_toArray, List.getElem?_cons_succ, List.getElem?_cons_zero, Option.getD_some]); with_reducible apply retB; with_reducible exact (T6.out _ _))); (try simp only [Act.put, List.setIfInBounds_toArray, List.set_cons_zero, List.set_cons_succ]))
    | (refine B_callX (v := ?_) (f := 78) rfl (by kernel_rfl) ?_ (fun xq => ?_) ?_; rotate_left; (· rfl); (· ((simp only [List.map_toArray, List.map_cons, List.map_nil, Act.eval, Array.getD_eq_getD_getElem?, List.getElem?_toArray, List.getElem?_cons_succ, List.getElem?_cons_zero, Option.getD_some]); with_reducible apply retB; with_reducible exact (T7.out _ _))); (try simp only [Act.put, List.setIfInBounds_toArray, List.set_cons_zero, List.set_cons_succ]))
    | (refine B_callX (v := ?_) (f := 44) rfl (by kernel_rfl) ?_ (fun xq => ?_) ?_; rotate_left; (· rfl); (· ((simp only [List.map_toArray, List.map_cons, List.map_nil, Act.eval, Array.getD_eq_getD_getElem?, List.getElem?_toArray, List.getElem?_cons_succ, List.getElem?_cons_zero, Option.getD_some]); with_reducible apply retB; with_reducible exact (T8.out _ _))); (try simp only [Act.put, List.setIfInBounds_toArray, List.set_cons_zero, List.set_cons_succ]))
    | (refine B_callX (v := ?_) (f := 44) rfl (by kernel_rfl) ?_ (fun xq => ?_) ?_; rotate_left; (· rfl); (· ((simp only [List.map_toArray, List.map_cons, List.map_nil, Act.eval, Array.getD_eq_getD_getElem?, List.getElem?_toArray, List.getElem?_cons_succ, List.getElem?_cons_zero, Option.getD_some]); with_reducible apply retB; with_reducible exact (T9.out _ _))); (try simp only [Act.put, List.setIfInBounds_toArray, List.set_cons_zero, List.set_cons_succ])))
  refine B_nil ?_ rfl ?_ ?_
  · kernel_rfl
  · rfl
  rintro _ ⟨⟨g2, d2⟩, rfl⟩
  simp only [fin, Act.put, List.setIfInBounds_toArray, List.set_cons_zero, List.set_cons_succ]
  intros
  have H5 := Lib.hid (HW.out.plus g2 d2)
  have HB5 : Hid (Below w.heap.size w (plus W g2 d2)) := bplus HBW.out _ _
  clear HBW T1 T2 T3 T4 T5 T6 T7 T8 T9 HW HSW x0 x1 x2 x3 x4 x5 x6 x7 l4
  go_wp2_with fail
  go_loopw [9] (fun vi wr => ∃ (k : Nat), vi = .int .i64 k ∧ k ≤ R.towers ∧ Gu wr w0 C X3 p G ∧ Below w.heap.size w wr) (fun i _ => R.towers - (intOf i).toNat)
  case atStart => exact ⟨0, rfl, Nat.zero_le _, H5.out, HB5.out⟩
  case round =>
    obtain ⟨k, rfl, hk, h6, hB6⟩ := hrel
    have HB6 := Lib.hid hB6
    have H6 := Lib.hid h6
    have hb4 : HasBlk wr w.heap.size 61 #[.int .i64 R.towers, .int .i64 R.need, .int .i64 R.newest, .string ⟨R.claim.toArray⟩, .slice ah R.towers ch, .bool R.sl, .int .i64 R.fr, .int .i64 R.to] := H6.out.hasX HX4.out
    (have x0 := hb4.cell 0); (have x1 := hb4.cell 1); (have x2 := hb4.cell 2); (have x3 := hb4.cell 3); (have x4 := hb4.cell 4); (have x5 := hb4.cell 5); (have x6 := hb4.cell 6); (have x7 := hb4.cell 7); (have l4 := hb4.lt)
    simp only [List.getElem?_toArray, List.getElem?_cons_succ, List.getElem?_cons_zero] at x0 x1 x2 x3 x4 x5 x6 x7
    clear h6 hb4 hB6
    by_cases hlt : k < R.towers
    · have hdk : decide ((k : Int) < (R.towers : Int)) = true := decide_eq_true (by omega)
      obtain ⟨Y, OY, hY, -⟩ := H6.out.ow
      obtain ⟨r, o, rfl, hr, hc⟩ := HS3.out.at_ OY hY k hlt
      have ck := hc _ (ics_get R.has k (by have := HR.out.len; omega))
      obtain ⟨z, HZ⟩ : ∃ z, Hid (R.has.getD k 0 = z) := ⟨_, rfl⟩
      rw [HZ.out] at ck
      have HE : Hid (hasE G k = z) := by show _ = _; rw [HR.out.has_in k hlt, HZ.out]
      clear hc OY hY
      have T : Hid (∀ g d, Calls Try.prog 44 #[ptr p, .int .i64 k] (plus wr g d) fun e w' => e = .returned (.int .i64 z) ∧ Below (plus wr g d).heap.size (plus wr g d) w') := fun g d => (has_to p G k _ w0 _ X3 (H6.out.plus g d) HtG.out z HE.out).mono fun e w' hh => ⟨hh.1, by rw [hh.2]; exact Below.refl _ _⟩
      go_wp2_with fail
      refine wp_region_rq (by kernel_rfl) (by kernel_rfl) (by kernel_rfl) ?_
      repeat (first
        | (refine B_skip ?_ ?_; (· rfl); (try simp only [Act.put, List.setIfInBounds_toArray, List.set_cons_zero, List.set_cons_succ]))
        | (refine B_move rfl ?_ ?_; (· rfl); (try simp only [Act.eval, Act.put, Array.getD_eq_getD_getElem?, List.getElem?_toArray, List.getElem?_cons_succ, List.getElem?_cons_zero, Option.getD_some, List.setIfInBounds_toArray, List.set_cons_zero, List.set_cons_succ]))
        | (refine B_plain ?_ ?_; (· rfl); intro K hK; go_big_quiet_op; with_reducible refine hK _ ?_; clear hK K)
        | (refine B_callX (v := ?_) (f := 44) rfl (by kernel_rfl) ?_ (fun xq => ?_) ?_; rotate_left; (· rfl); (· ((simp only [List.map_toArray, List.map_cons, List.map_nil, Act.eval, Array.getD_eq_getD_getElem?, List.getElem?_toArray, List.getElem?_cons_succ, List.getElem?_cons_zero, Option.getD_some]); with_reducible apply retB; with_reducible exact (T.out _ _))); (try simp only [Act.put, List.setIfInBounds_toArray, List.set_cons_zero, List.set_cons_succ])))
      refine B_nil ?_ rfl ?_ ?_
      · kernel_rfl
      · rfl
      rintro _ ⟨⟨g7, d7⟩, rfl⟩
      simp only [fin, Act.put, List.setIfInBounds_toArray, List.set_cons_zero, List.set_cons_succ]
      go_wp2
      exact ⟨⟨k + 1, by simp, by omega, H6.out.plus _ _, bplus HB6.out _ _⟩, by simp [intOf]; omega⟩
    · obtain rfl : k = R.towers := by omega
      have hdk : decide ((R.towers : Int) < (R.towers : Int)) = false := decide_eq_false (by omega)
      obtain ⟨cs, HCS⟩ : ∃ y : ByteArray, Hid ((⟨R.claim.toArray⟩ : ByteArray) = y) := ⟨_, rfl⟩
      have HSL : Hid (strL cs = R.claim) := by rw [← HCS.out]; show _ = _; simp [strL]
      have hex := fun W : World => run_bytes (P := Try.prog) W 9 26 5 cs Try.underlying9 Try.underlying26 Try.underlying5
      have HEX := Lib.hid hex
      obtain ⟨hh, HH⟩ : ∃ y, Hid (thintF nonceX = y) := ⟨_, rfl⟩
      obtain ⟨hy, HY⟩ : ∃ y, Hid (tboxF nonceX R.claim = y) := ⟨_, rfl⟩
      have HX4' : Hid ((⟨w.heap.size, 61, #[.int .i64 R.towers, .int .i64 R.need, .int .i64 R.newest, .string cs, .slice ah R.towers ch, .bool R.sl, .int .i64 R.fr, .int .i64 R.to]⟩ : Blk) ∈ X3) := by have h0 := HX4.out; rw [HCS.out] at h0; exact h0
      rw [HCS.out] at x3
      clear hex x1 x4 x5 x6 x7
      go_wp2_with fail
      refine wp_opq (fun W => Gu W w0 C X3 p G ∧ Below w.heap.size w W) ⟨H6.out, HB6.out⟩ ?_
      intro W7 h7
      have H7 := Lib.hid h7
      clear h7
      refine wp_region_ov (fun L (x : Value × Value × Nat) => [(L 0, 85, .agg #[.int .u8 (by8 nonceX 0), .int .u8 (by8 nonceX 1), .int .u8 (by8 nonceX 2), .int .u8 (by8 nonceX 3), .int .u8 (by8 nonceX 4), .int .u8 (by8 nonceX 5), .int .u8 (by8 nonceX 6), .int .u8 (by8 nonceX 7)]), (L 1, 86, .pointer (some ⟨w.heap.size, 2, none⟩)), (L 2, 87, .int .i64 R.newest), (L 3, 88, .pointer (some ⟨w.heap.size, 3, none⟩)), (L 4, 89, .string cs), (L 5, 90, x.1), (L 6, 91, .tuple #[.agg #[.int .u8 (by8 hh 0), .int .u8 (by8 hh 1), .int .u8 (by8 hh 2), .int .u8 (by8 hh 3), .int .u8 (by8 hh 4), .int .u8 (by8 hh 5), .int .u8 (by8 hh 6), .int .u8 (by8 hh 7), .int .i64 R.newest, x.2.1], .int .i64 0]), (L 7, 84, .tuple #[.agg #[.int .u8 (by8 hh 0), .int .u8 (by8 hh 1), .int .u8 (by8 hh 2), .int .u8 (by8 hh 3), .int .u8 (by8 hh 4), .int .u8 (by8 hh 5), .int .u8 (by8 hh 6), .int .u8 (by8 hh 7), .int .i64 R.newest, x.2.1], .int .i64 0]), (L 8, 92, .agg #[.int .u8 (by8 hh 0), .int .u8 (by8 hh 1), .int .u8 (by8 hh 2), .int .u8 (by8 hh 3), .int .u8 (by8 hh 4), .int .u8 (by8 hh 5), .int .u8 (by8 hh 6), .int .u8 (by8 hh 7), .int .i64 R.newest, x.2.1]), (L 9, 93, .int .i64 0), (L 10, 10, ptr x.2.2), (L 12, 11, .int .i64 0)])
        (fun L x W => ∃ X4, Sub X3 X4 ∧ Gu W w0 (bif L 10 then (⟨x.2.2, 29, bif L 11 then #[.int .u8 (by8 hh 0), .int .u8 (by8 hh 1), .int .u8 (by8 hh 2), .int .u8 (by8 hh 3), .int .u8 (by8 hh 4), .int .u8 (by8 hh 5), .int .u8 (by8 hh 6), .int .u8 (by8 hh 7), .int .i64 R.newest, x.2.1] else #[.int .u8 0, .int .u8 0, .int .u8 0, .int .u8 0, .int .u8 0, .int .u8 0, .int .u8 0, .int .u8 0, .int .i64 0, .slice none 0 0]⟩ :: C) else C) X4 p G ∧ (L 5 = true → L 6 = false → BSl W x.1 R.claim) ∧ (L 6 = true → Msg w0 X4 x.2.1 hy) ∧ Below w.heap.size w W ∧ (L 10 = true → w.heap.size ≤ x.2.2)) (undef, undef, 0) (by kernel_rfl) (by kernel_rfl) (by rfl) ⟨X3, Sub.refl _, H7.out.1.drew, fun h => by simp at h, fun h => by simp at h, H7.out.2.drew, fun h => by simp at h⟩ ?_ ⟨?_, ?_, ?_, ?_, ?_, ?_, ?_, ?_, ?_, ?_, ?_, ?_, ?_, trivial⟩
      rotate_left
      · intro L x W hW hC hL hd K hK; (try simp [depsB, Region.binds] at hd); (try simp only [Nat.reduceAdd] at hK hL)
        simp only [ovl, Array.getD_eq_getD_getElem?, List.getElem?_toArray, List.getElem?_cons_succ, List.getElem?_cons_zero, Option.getD_some, List.setIfInBounds_toArray, List.set_cons_zero, List.set_cons_succ]; (try simp only [hd, cond_true, cond_false])
        obtain ⟨X4, hs4, hW1, hW3, hW4, hW5, hW6⟩ := hW
        refine wp_call_in 39 (by rfl) (by kernel_rfl) #[] (by (simp only [List.map_toArray, List.map_cons, List.map_nil, Act.eval, Array.getD_eq_getD_getElem?, List.getElem?_toArray, List.getElem?_cons_succ, List.getElem?_cons_zero, Option.getD_some])) ((nonce_to W).mono ?_)
        rintro e W4 ⟨rfl, hb4⟩
        refine ⟨_, rfl, ?_⟩
        (have h := hK x W4 ⟨X4, hs4, hW1.of_below hb4, fun h h' => (hW3 h h').below hb4, hW4, btrans hW5 hb4, hW6⟩); simp only [ovl, Array.getD_eq_getD_getElem?, List.getElem?_toArray, List.getElem?_cons_succ, List.getElem?_cons_zero, Option.getD_some, List.setIfInBounds_toArray, List.set_cons_zero, List.set_cons_succ] at h; (try simp (decide := true) only [upd, hd, cond_true, cond_false, Bool.true_or, Bool.false_or, decide_true, decide_false] at h); exact h
      iterate 4 (· (intro L x W hW hC hL hd K hK; (try simp [depsB, Region.binds] at hd); (try simp only [Nat.reduceAdd] at hK hL); simp only [ovl, Array.getD_eq_getD_getElem?, List.getElem?_toArray, List.getElem?_cons_succ, List.getElem?_cons_zero, Option.getD_some, List.setIfInBounds_toArray, List.set_cons_zero, List.set_cons_succ]; (try simp only [hd, cond_true, cond_false]); (have hW0 := hW); (obtain ⟨X4, hs4, hW1, -⟩ := hW); (have hb5 : HasBlk W w.heap.size 61 #[.int .i64 R.towers, .int .i64 R.need, .int .i64 R.newest, .string cs, .slice ah R.towers ch, .bool R.sl, .int .i64 R.fr, .int .i64 R.to] := hW1.hasX (hs4 _ HX4'.out)); (have k2 := hb5.cell 2); (have k3 := hb5.cell 3); (have l5 := hb5.lt); clear hb5 hW1 hs4; go_simp; (have h := hK x W hW0); simp only [ovl, Array.getD_eq_getD_getElem?, List.getElem?_toArray, List.getElem?_cons_succ, List.getElem?_cons_zero, Option.getD_some, List.setIfInBounds_toArray, List.set_cons_zero, List.set_cons_succ] at h; (try simp (decide := true) only [upd, hd, cond_true, cond_false, Bool.true_or, Bool.false_or, decide_true, decide_false] at h); exact h))
      · intro L x W hW hC hL hd K hK; (try simp [depsB, Region.binds] at hd); (try simp only [Nat.reduceAdd] at hK hL)
        (have h6 : L 6 = false := by cases hl : L 6 with | false => rfl | true => have hx := hC 6 _ rfl hl; simp [depsB, Region.binds, hL, hd] at hx); (replace hd := And.intro hd h6); (have h7 : L 7 = false := by cases hl : L 7 with | false => rfl | true => have hx := hC 7 _ rfl hl; simp [depsB, Region.binds, hL, hd] at hx); (replace hd := And.intro hd h7); (have h8 : L 8 = false := by cases hl : L 8 with | false => rfl | true => have hx := hC 8 _ rfl hl; simp [depsB, Region.binds, hL, hd] at hx); (replace hd := And.intro hd h8); (have h9 : L 9 = false := by cases hl : L 9 with | false => rfl | true => have hx := hC 9 _ rfl hl; simp [depsB, Region.binds, hL, hd] at hx); (replace hd := And.intro hd h9); (have h11 : L 11 = false := by cases hl : L 11 with | false => rfl | true => have hx := hC 11 _ rfl hl; simp [depsB, Region.binds, hL, hd] at hx); (replace hd := And.intro hd h11)
        simp only [ovl, Array.getD_eq_getD_getElem?, List.getElem?_toArray, List.getElem?_cons_succ, List.getElem?_cons_zero, Option.getD_some, List.setIfInBounds_toArray, List.set_cons_zero, List.set_cons_succ]; (try simp only [hd, cond_true, cond_false])
        obtain ⟨X4, hs4, hW1, hW3, hW4, hW5, hW6⟩ := hW
        obtain ⟨v5, g5, d5, e5, b5, -⟩ := HEX.out W
        refine run_ov_conv rfl e5 rfl ?_
        rw [HSL.out] at b5
        (have h := hK (v5, x.2) _ ⟨X4, hs4, hW1.plus g5 d5, fun _ _ => b5, hW4, bplus hW5 g5 d5, hW6⟩); simp only [ovl, Array.getD_eq_getD_getElem?, List.getElem?_toArray, List.getElem?_cons_succ, List.getElem?_cons_zero, Option.getD_some, List.setIfInBounds_toArray, List.set_cons_zero, List.set_cons_succ] at h; (try simp (decide := true) only [upd, hd, cond_true, cond_false, Bool.true_or, Bool.false_or, decide_true, decide_false] at h); exact h
      · intro L x W hW hC hL hd K hK; (try simp [depsB, Region.binds] at hd); (try simp only [Nat.reduceAdd] at hK hL)
        (have h7 : L 7 = false := by cases hl : L 7 with | false => rfl | true => have hx := hC 7 _ rfl hl; simp [depsB, Region.binds, hL, hd] at hx); (replace hd := And.intro hd h7); (have h8 : L 8 = false := by cases hl : L 8 with | false => rfl | true => have hx := hC 8 _ rfl hl; simp [depsB, Region.binds, hL, hd] at hx); (replace hd := And.intro hd h8); (have h11 : L 11 = false := by cases hl : L 11 with | false => rfl | true => have hx := hC 11 _ rfl hl; simp [depsB, Region.binds, hL, hd] at hx); (replace hd := And.intro hd h11)
        simp only [ovl, Array.getD_eq_getD_getElem?, List.getElem?_toArray, List.getElem?_cons_succ, List.getElem?_cons_zero, Option.getD_some, List.setIfInBounds_toArray, List.set_cons_zero, List.set_cons_succ]; (try simp only [hd, cond_true, cond_false])
        obtain ⟨X4, hs4, hW1, hW3, hW4, hW5, hW6⟩ := hW
        simp only [hd, cond_false] at hW1
        have hB := hW3 (by simp only [hd]) hL
        refine wp_call_in 16 (by rfl) (by kernel_rfl) #[.agg #[.int .u8 (by8 nonceX 0), .int .u8 (by8 nonceX 1), .int .u8 (by8 nonceX 2), .int .u8 (by8 nonceX 3), .int .u8 (by8 nonceX 4), .int .u8 (by8 nonceX 5), .int .u8 (by8 nonceX 6), .int .u8 (by8 nonceX 7)], .int .i64 R.newest, x.1] (by (simp only [List.map_toArray, List.map_cons, List.map_nil, Act.eval, Array.getD_eq_getD_getElem?, List.getElem?_toArray, List.getElem?_cons_succ, List.getElem?_cons_zero, Option.getD_some])) ((make_to nonceX R.newest _ R.claim HIN.out (by have := HR.out.cl; omega) hh HH.out hy HY.out W hB).mono ?_)
        rintro e W4 ⟨u, rfl, hb4, hu⟩
        obtain ⟨X5, hs5, hg5, hm5⟩ := hW1.ans hb4 hu
        refine ⟨_, rfl, ?_⟩
        (have h := hK (x.1, u, x.2.2) W4 ⟨X5, hs4.trans hs5, by simpa [upd, hd] using hg5, fun _ h => by simp [upd] at h, fun _ => hm5, btrans hW5 hb4, hW6⟩); simp only [ovl, Array.getD_eq_getD_getElem?, List.getElem?_toArray, List.getElem?_cons_succ, List.getElem?_cons_zero, Option.getD_some, List.setIfInBounds_toArray, List.set_cons_zero, List.set_cons_succ] at h; (try simp (decide := true) only [upd, hd, cond_true, cond_false, Bool.true_or, Bool.false_or, decide_true, decide_false] at h); exact h
      iterate 3 (· (intro L x W hW hC hL hd K hK; (try simp [depsB, Region.binds] at hd); (try simp only [Nat.reduceAdd] at hK hL); simp only [ovl, Array.getD_eq_getD_getElem?, List.getElem?_toArray, List.getElem?_cons_succ, List.getElem?_cons_zero, Option.getD_some, List.setIfInBounds_toArray, List.set_cons_zero, List.set_cons_succ]; (try simp only [hd, cond_true, cond_false]); (have hW0 := hW); clear hW; go_simp; (have h := hK x W hW0); simp only [ovl, Array.getD_eq_getD_getElem?, List.getElem?_toArray, List.getElem?_cons_succ, List.getElem?_cons_zero, Option.getD_some, List.setIfInBounds_toArray, List.set_cons_zero, List.set_cons_succ] at h; (try simp (decide := true) only [upd, hd, cond_true, cond_false, Bool.true_or, Bool.false_or, decide_true, decide_false] at h); exact h))
      · intro L x W hW hC hL hd K hK; (try simp [depsB, Region.binds] at hd); (try simp only [Nat.reduceAdd] at hK hL)
        (have h11 : L 11 = false := by cases hl : L 11 with | false => rfl | true => have hx := hC 11 _ rfl hl; simp [depsB, Region.binds, hL, hd] at hx); (replace hd := And.intro hd h11)
        simp only [ovl, Array.getD_eq_getD_getElem?, List.getElem?_toArray, List.getElem?_cons_succ, List.getElem?_cons_zero, Option.getD_some, List.setIfInBounds_toArray, List.set_cons_zero, List.set_cons_succ]; (try simp only [hd, cond_true, cond_false])
        obtain ⟨X4, hs4, hW1, hW3, hW4, hW5, hW6⟩ := hW
        simp only [hL, cond_false] at hW1
        refine wp_alloc_op 29 (.agg #[.int .u8 0, .int .u8 0, .int .u8 0, .int .u8 0, .int .u8 0, .int .u8 0, .int .u8 0, .int .u8 0, .int .i64 0, .slice none 0 0]) (by rfl) (by kernel_rfl) ?_
        (have h := hK (x.1, x.2.1, W.heap.size) _ ⟨X4, hs4, by simpa [upd, hd, Value.cells] using hW1.park rfl, fun h h' => (hW3 h h').alloc _, hW4, balloc hW5 _, fun _ => hW5.size⟩); simp only [ovl, Array.getD_eq_getD_getElem?, List.getElem?_toArray, List.getElem?_cons_succ, List.getElem?_cons_zero, Option.getD_some, List.setIfInBounds_toArray, List.set_cons_zero, List.set_cons_succ] at h; (try simp (decide := true) only [upd, hd, cond_true, cond_false, Bool.true_or, Bool.false_or, decide_true, decide_false] at h); exact h
      · intro L x W hW hC hL hd K hK; (try simp [depsB, Region.binds] at hd); (try simp only [Nat.reduceAdd] at hK hL)
        simp only [ovl, Array.getD_eq_getD_getElem?, List.getElem?_toArray, List.getElem?_cons_succ, List.getElem?_cons_zero, Option.getD_some, List.setIfInBounds_toArray, List.set_cons_zero, List.set_cons_succ]; (try simp only [hd, cond_true, cond_false])
        obtain ⟨X4, hs4, hW1, hW3, hW4, hW5, hW6⟩ := hW
        simp only [hL, hd, cond_false, cond_true] at hW1
        have h6 : L 6 = true := by simp only [hd]
        have h1 : x.2.1.oneCell' = true := (hW4 h6).one
        refine hW1.storeB 29 (.tmp 10) (.tmp 92) (by rfl) (by rfl) #[.int .u8 (by8 hh 0), .int .u8 (by8 hh 1), .int .u8 (by8 hh 2), .int .u8 (by8 hh 3), .int .u8 (by8 hh 4), .int .u8 (by8 hh 5), .int .u8 (by8 hh 6), .int .u8 (by8 hh 7), .int .i64 R.newest, x.2.1] (by rfl) (by kernel_rfl) (by rfl) (apc_one _ _ _ h1) (fun W' e' h' => ?_)
        subst e'
        (have h := hK x _ ⟨X4, hs4, by simpa [upd, hd] using h', fun _ h => by simp [upd, h6] at h, hW4, bsetCells hW5 (hW6 (by simp only [hd])) _ (), hW6⟩); simp only [ovl, Array.getD_eq_getD_getElem?, List.getElem?_toArray, List.getElem?_cons_succ, List.getElem?_cons_zero, Option.getD_some, List.setIfInBounds_toArray, List.set_cons_zero, List.set_cons_succ] at h; (try simp (decide := true) only [upd, hd, cond_true, cond_false, Bool.true_or, Bool.false_or, decide_true, decide_false] at h); exact h
      iterate 1 (· (intro L x W hW hC hL hd K hK; (try simp [depsB, Region.binds] at hd); (try simp only [Nat.reduceAdd] at hK hL); simp only [ovl, Array.getD_eq_getD_getElem?, List.getElem?_toArray, List.getElem?_cons_succ, List.getElem?_cons_zero, Option.getD_some, List.setIfInBounds_toArray, List.set_cons_zero, List.set_cons_succ]; (try simp only [hd, cond_true, cond_false]); (have hW0 := hW); clear hW; go_simp; (have h := hK x W hW0); simp only [ovl, Array.getD_eq_getD_getElem?, List.getElem?_toArray, List.getElem?_cons_succ, List.getElem?_cons_zero, Option.getD_some, List.setIfInBounds_toArray, List.set_cons_zero, List.set_cons_succ] at h; (try simp (decide := true) only [upd, hd, cond_true, cond_false, Bool.true_or, Bool.false_or, decide_true, decide_false] at h); exact h))
      intro x W9 hW9
      obtain ⟨a1, a2, b9⟩ := x
      simp only [ovl, cond_true, Array.getD_eq_getD_getElem?, List.getElem?_toArray, List.getElem?_cons_succ, List.getElem?_cons_zero, Option.getD_some, List.setIfInBounds_toArray, List.set_cons_zero, List.set_cons_succ]
      simp only [cond_true] at hW9
      obtain ⟨X9, hs9, h9, -, hm9, hB9, -⟩ := hW9
      have HB9 := Lib.hid hB9
      have m9 := hm9 trivial
      have e1 := run_strG W9 _ _ (h9.bsl m9)
      have e2 : (convert 26 9 (.slice au G.box.length cu)).run Try.prog W9 = .ok (.string { data := hy.toArray }) W9 := by
        have h0 := run_strG W9 _ _ (h9.bsl (HM3.out.mono hs9))
        rw [HGB.out, HY.out] at h0 ⊢
        exact h0
      have hb9 := h9.has (b := b9) (t := 29) (cs := #[.int .u8 (by8 hh 0), .int .u8 (by8 hh 1), .int .u8 (by8 hh 2), .int .u8 (by8 hh 3), .int .u8 (by8 hh 4), .int .u8 (by8 hh 5), .int .u8 (by8 hh 6), .int .u8 (by8 hh 7), .int .i64 R.newest, a2]) (List.mem_cons_self ..)
      have hb5 : HasBlk W9 w1.heap.size 29 #[.int .u8 (by8 G.hint 0), .int .u8 (by8 G.hint 1), .int .u8 (by8 G.hint 2), .int .u8 (by8 G.hint 3), .int .u8 (by8 G.hint 4), .int .u8 (by8 G.hint 5), .int .u8 (by8 G.hint 6), .int .u8 (by8 G.hint 7), .int .i64 G.num, .slice au G.box.length cu] := h9.hasX (hs9 _ HX5.out)
      rw [HGH.out, HGN.out, HH.out] at hb5
      (have y0 := hb9.cell 0); (have y1 := hb9.cell 1); (have y2 := hb9.cell 2); (have y3 := hb9.cell 3); (have y4 := hb9.cell 4); (have y5 := hb9.cell 5); (have y6 := hb9.cell 6); (have y7 := hb9.cell 7); (have y8 := hb9.cell 8); (have y9 := hb9.cell 9)
      (have z0 := hb5.cell 0); (have z1 := hb5.cell 1); (have z2 := hb5.cell 2); (have z3 := hb5.cell 3); (have z4 := hb5.cell 4); (have z5 := hb5.cell 5); (have z6 := hb5.cell 6); (have z7 := hb5.cell 7); (have z8 := hb5.cell 8); (have z9 := hb5.cell 9)
      have l5 := hb5.lt
      have l9 := hb9.lt
      have H9 := Lib.hid (h9.dropC (B := [_]))
      have HS9 := Lib.hid hs9
      simp only [List.getElem?_toArray, List.getElem?_cons_succ, List.getElem?_cons_zero] at y0 y1 y2 y3 y4 y5 y6 y7 y8 y9 z0 z1 z2 z3 z4 z5 z6 z7 z8 z9
      clear h9 hs9 hm9 m9 hb9 hb5 H7 hB9
      go_wp2
      go_ret
      exact ⟨rfl, HB9.out⟩

section
open Go.ChangeShapes Go.WideShapes Go.ChangeAt Go.RowKit

/-- An operation, the value of its claim beside it. -/
structure OpG where
  kd : Int
  wh : Int
  n : Int
  m : Int
  b : Int
  l : List UInt8
  v : Value
instance : Inhabited OpG := ⟨⟨0, 0, 0, 0, 0, [], undef⟩⟩
def OpG.cells (o : OpG) : List Value := [.int .i64 o.kd, .int .i64 o.wh, .int .i64 o.n, .int .i64 o.m, .int .i64 o.b, o.v]
section
variable {H : Type} {enc : TypeId × Value → H} {w : World} {base : Nat} {held : Bool}
theorem cg_int : Try.prog.cellsOf 3 = 1 := by kernel_rfl
theorem cg_bs : Try.prog.cellsOf 26 = 1 := by kernel_rfl
theorem cg_u8 : Try.prog.cellsOf 5 = 1 := by kernel_rfl
theorem cg_op : Try.prog.cellsOf 99 = 6 := by kernel_rfl
set_option maxRecDepth 100000 in
theorem trod_opg {fuel : Nat} {cs : List Value} {x : DataW H × List MemPlace} (hl : cs.length = 6) (h : DataW.trod enc Try.prog w base (fun _ => true) held fuel 99 cs = some x) : ∃ o : OpG, cs = o.cells ∧ Msg w [] o.v o.l := by
  obtain ⟨xs, n, -, -, -, hxl, hf⟩ := DataW.trod_struct Try.underlying99 h
  match cs, hl with
  | [v0, v1, v2, v3, v4, v5], _ =>
    match xs, hxl with
    | [y0, y1, y2, y3, y4, y5], _ =>
      have f0 : DataW.trod enc Try.prog w base (fun _ => true) held n 3 (([v0, v1, v2, v3, v4, v5].drop 0).take (Try.prog.cellsOf 3)) = some y0 := hf 0 _ rfl
      have f1 : DataW.trod enc Try.prog w base (fun _ => true) held n 3 (([v0, v1, v2, v3, v4, v5].drop 1).take (Try.prog.cellsOf 3)) = some y1 := hf 1 _ rfl
      have f2 : DataW.trod enc Try.prog w base (fun _ => true) held n 3 (([v0, v1, v2, v3, v4, v5].drop 2).take (Try.prog.cellsOf 3)) = some y2 := hf 2 _ rfl
      have f3 : DataW.trod enc Try.prog w base (fun _ => true) held n 3 (([v0, v1, v2, v3, v4, v5].drop 3).take (Try.prog.cellsOf 3)) = some y3 := hf 3 _ rfl
      have f4 : DataW.trod enc Try.prog w base (fun _ => true) held n 3 (([v0, v1, v2, v3, v4, v5].drop 4).take (Try.prog.cellsOf 3)) = some y4 := hf 4 _ rfl
      have f5 : DataW.trod enc Try.prog w base (fun _ => true) held n 26 (([v0, v1, v2, v3, v4, v5].drop 5).take (Try.prog.cellsOf 26)) = some y5 := hf 5 _ rfl
      rw [cg_int] at f0 f1 f2 f3 f4
      rw [cg_bs] at f5
      simp only [List.drop_succ_cons, List.drop_zero, List.take_succ_cons, List.take_zero] at f0 f1 f2 f3 f4 f5
      obtain ⟨k0, e0, -, -⟩ := DataW.trod_int Try.underlying3 f0
      obtain ⟨k1, e1, -, -⟩ := DataW.trod_int Try.underlying3 f1
      obtain ⟨k2, e2, -, -⟩ := DataW.trod_int Try.underlying3 f2
      obtain ⟨k3, e3, -, -⟩ := DataW.trod_int Try.underlying3 f3
      obtain ⟨k4, e4, -, -⟩ := DataW.trod_int Try.underlying3 f4
      obtain ⟨l, hm, -⟩ := trod_bsl Try.underlying26 Try.underlying5 cg_u8 f5
      simp at e0 e1 e2 e3 e4
      subst e0 e1 e2 e3 e4
      exact ⟨⟨k0, k1, k2, k3, k4, l, v5⟩, rfl, Msg.of_bsl hm⟩
end
open Go.RowKit
/-- The other guard's pointer. -/
theorem gptr_ne {w w0 : World} {C X : List Blk} {p q : Nat} {G H : GS} (h : Gw2 w w0 C X p G q H) : (binOp .eql 59 (ptr q) (ptr p)).run Try.prog w = .ok (.bool false) w := by
  obtain ⟨v1, v2, O, -, -⟩ := h
  have hp := O.has (b := p) (List.mem_cons_self ..)
  have hq := O.has (b := q) (List.mem_cons_of_mem _ (List.mem_cons_self ..))
  have hne : p ≠ q := (List.pairwise_cons.1 O.mem.apart).1 _ (List.mem_cons_self ..)
  have hs : (Try.prog.info? 132).map (fun i => i.size) = some 39 := by kernel_rfl
  cases hi : Try.prog.info? 132 with
  | none => rw [hi] at hs; cases hs
  | some j =>
    rw [hi] at hs
    simp at hs
    exact run_eql_ptr_other w Try.underlying59 hi (by omega) (fun h => hne (by cases h; rfl)) hq hp
theorem Gw2.same {w w0 : World} {C X : List Blk} {p q : Nat} {G H : GS} (h : Gw2 w w0 C X p G q H) (b : Bool) (hb : sameG G H = b) : Calls Try.prog 47 #[ptr p, ptr q] w fun e w' => e = .returned (.bool b) ∧ Below w.heap.size w w' := by
  obtain ⟨v1, v2, O, m1, m2⟩ := h
  refine (gsame_to w w0 _ X p q G H v1 v2 O (fun x hx => by simp [hx]) (by simp) (by simp) m1 m2 b hb).mono ?_
  rintro e w' ⟨rfl, O'⟩
  exact ⟨rfl, O'.below⟩
theorem sameG_comm (G H : GS) : sameG G H = sameG H G := by
  unfold sameG
  have he : ((List.range 16).all fun i => G.said i == H.said i) = ((List.range 16).all fun i => H.said i == G.said i) := by
    congr 1
    funext i
    exact Bool.beq_comm
  rw [Bool.eq_iff_iff, decide_eq_true_iff, decide_eq_true_iff, he]
  constructor <;> (intro h; simp only [h, and_self])
theorem sameG_self (G : GS) : sameG G G = true := by
  unfold sameG
  simp
theorem seen_any (now : Int) (w w0 : World) (C X : List Blk) (p : Nat) (G : GS) (R : RS) (hv : Value) (h : Gu w w0 C X p G) (hs : Sl w0 X hv R.towers (ics R.has)) (hr : GR G R) :
    Calls Try.prog 49 #[ptr p, .agg #[.int .i64 R.towers, .int .i64 R.need, .int .i64 R.newest, .string ⟨R.claim.toArray⟩, hv, .bool R.sl, .int .i64 R.fr, .int .i64 R.to], .int .i64 now] w fun e w' => e = .returned (.bool true) ∧ Below w.heap.size w w' := by
  by_cases hn : R.newest < 0
  · exact seen_no now w w0 C X p G R hv h hs hr hn
  · exact seen_yes now w w0 C X p G R hv h hs hr (by omega)


end

end Go.Proofs.Ytghaiplhakeahaa
