/- The law TowerMakes: its walk. -/
import Derived.Test.YtghaiplhakeahaaYz
import Derived.Test.YtghaiplhakeahaaTowerSees
namespace Go.Proofs.Ytghaiplhakeahaa
set_option linter.unusedSimpArgs false
set_option linter.unusedVariables false
open Go.RowKit Go.WideMaps Go.ChangeMaps Go.Maps

section
variable {ops : Array Oper} {w0 : World} {Q : Slots → Prop} {a : Act} {R : List (Tmp × Pred)} {o : Oper} {rest : List Oper}
/-- A conversion whose operand is known. -/
theorem B_conv {P : Program} {src dst : TypeId} {x : Operand} {u v : Value} (ho : o.op = .convert src dst x) (hB : sideB true ops R a o = true) (hx : a.eval x = u) (hrun : ∀ g d, (convert src dst u).run P (plus w0 g d) = .ok v (plus w0 g d)) (hr : wpS P ops w0 Q rest (mix (a.put o.dst v) R)) : wpS P ops w0 Q (o :: rest) (mix a R) := by
  refine B_plain (by simp [hB, plainOp, ho]) (fun K hK => ⟨v, ?_, hK _ hr⟩)
  rintro w ⟨y, rfl⟩
  unfold Oper.quietAt
  simp only [execOp, ho, hx, Sem.run_bind, hrun, Result.andThen, Sem.run_pure]
  exact ⟨rfl, rfl⟩
end
/-- An append of which is known what it answers. -/
theorem append_ranE {P : Program} {ops : Array Oper} {rest : List Oper} {o : Oper} {a : Act} {Q : Exit → Act → World → Prop} {w : World} {v u : Value} {Φ : Value → World → Prop} (hgd : o.guard = none) (s x : Operand) (t tx : TypeId) (ho : o.op = .call { callee := .builtin .append, args := #[s, x], argTypes := #[t, tx] })
    (hs : a.eval s = v) (hx : a.eval x = u) (H : ∃ v' W', (Builtin.append_ #[t, tx] o.type #[v, u]).run P w = .ok v' W' ∧ Φ v' W') (h : ∀ v' W', Φ v' W' → wpList P ops Q rest (a.put o.dst v') W') : wpList P ops Q (o :: rest) a w := by
  obtain ⟨v', W', h1, h2⟩ := H
  exact append_ran hgd s x t tx ho hs hx h1 (h v' W' h2)
set_option maxRecDepth 100000 in
set_option maxHeartbeats 8000000 in
theorem towerMakes_any (x : BitVec 64) (n b : Int) (s : ByteArray) (bl : Bool) (hsz : s.size ≤ maxLen) (w : World) :
    Calls Try.prog 3 #[.agg #[.int .u8 (by8 x 0), .int .u8 (by8 x 1), .int .u8 (by8 x 2), .int .u8 (by8 x 3), .int .u8 (by8 x 4), .int .u8 (by8 x 5), .int .u8 (by8 x 6), .int .u8 (by8 x 7)], .agg #[.int .i64 n, .int .i64 b, .string s, .bool bl]] w fun e w' => e = .returned (.bool true) ∧ Below w.heap.size w w' := by
  have hml : s.size ≤ 9223372036854775807 := by unfold maxLen at hsz; omega
  clear hsz
  by_cases h500 : 500 < s.size
  · have hd : decide ((500 : Int) < (s.size : Int)) = true := decide_eq_true (by omega)
    go_enter Try.func3, Try.ntmps3
    go_wp2_with fail
    refine wp_region_rq (by kernel_rfl) (by kernel_rfl) (by kernel_rfl) ?_
    repeat (first
      | (refine B_skip ?_ ?_; (· rfl); (try simp only [Act.put, List.setIfInBounds_toArray, List.set_cons_zero, List.set_cons_succ]))
      | (refine B_move rfl ?_ ?_; (· rfl); (try simp only [Act.eval, Act.put, Array.getD_eq_getD_getElem?, List.getElem?_toArray, List.getElem?_cons_succ, List.getElem?_cons_zero, Option.getD_some, List.setIfInBounds_toArray, List.set_cons_zero, List.set_cons_succ]))
      | (refine B_plain ?_ ?_; (· rfl); intro K hK; go_big_quiet_op; with_reducible refine hK _ ?_; clear hK K)
      | (fail))
    refine B_nil ?_ rfl ?_ ?_
    · kernel_rfl
    · rfl
    rintro _ ⟨⟨g1, d1⟩, rfl⟩
    simp only [fin, Act.put, List.setIfInBounds_toArray, List.set_cons_zero, List.set_cons_succ]
    go_wp2_with fail
    refine (told51_to _).mono ?_
    rintro e w3 ⟨rfl, hb3⟩; obtain ⟨g3, d3, rfl⟩ := plus_of_below hb3; clear hb3
    go_wp2
    go_ret
    exact ⟨rfl, by (repeat' (first | (with_reducible exact Below.refl _ _) | (with_reducible refine bplus ?_ _ _) | (with_reducible refine balloc ?_ _) | (with_reducible refine Below.drew ?_) | (with_reducible refine bdrewN ?_ _) | (with_reducible refine Below.setCell ?_ (by go_size) _)))⟩
  have hd : decide ((500 : Int) < (s.size : Int)) = false := decide_eq_false (by omega)
  obtain ⟨zz, hzz, hzl⟩ : ∃ zz, (List.replicate 32769 0 : List UInt8) = zz ∧ zz.length = 32769 := ⟨_, rfl, List.length_replicate⟩
  obtain ⟨bv, bg, bd, hconv, hB⟩ := conv_zeros s 32769 (by omega) (by omega)
  rw [hzz] at hB
  obtain ⟨ll, hll⟩ : ∃ ll, strL s ++ zz = ll := ⟨_, rfl⟩
  have HLL : Hid (32768 < ll.length) := by show 32768 < ll.length; rw [← hll, List.length_append, hzl]; omega
  rw [hll] at hB
  clear hzz hll hzl
  have HCB : Hid (∀ A g d, BSl (plus A (g ++ bg (plus A g d)) (bd (plus A g d))) (bv (plus A g d)) (strL s)) := fun A g d => by
    have := (hB (plus A g d)).1
    rwa [plus_plus] at this
  have HSL : Hid (∀ A g d, ∃ cap, bv (plus A g d) = .slice (some ⟨(plus A g d).heap.size, 0, none⟩) s.size cap) := fun A g d => (hB (plus A g d)).2.1
  have HAP : Hid (∀ A g d, ∃ v' W', (Builtin.append_ #[26, 3] 26 #[bv (plus A g d), .int .i64 32769]).run Try.prog (plus A (g ++ bg (plus A g d)) (bd (plus A g d))) = .ok v' W' ∧ (Below (plus A g d).heap.size (plus A g d) W' ∧ BSl W' v' ll)) := fun A g d => by
    have := (hB (plus A g d)).2.2
    rwa [plus_plus] at this
  clear hB
  have hlen : (strL s).length ≤ 500 := by rw [strL_len]; omega
  obtain ⟨h, HX⟩ : ∃ h, Hid (thintF x = h) := ⟨_, rfl⟩
  have HO := Lib.hid (((Ow.start w).key #[.int .u8 (by8 x 0), .int .u8 (by8 x 1), .int .u8 (by8 x 2), .int .u8 (by8 x 3), .int .u8 (by8 x 4), .int .u8 (by8 x 5), .int .u8 (by8 x 6), .int .u8 (by8 x 7)] 22 w.heap.size rfl).key #[.int .i64 n, .int .i64 b, .string s, .bool bl] 24 (w.heap.size + 1) (by simp))
  by_cases hn : isNum n = false
  · have HN := Lib.hid hn
    clear hn
    cases bl with
    | false =>
      go_enter Try.func3, Try.ntmps3
      go_wp2_with fail
      refine wp_region_rq (by kernel_rfl) (by kernel_rfl) (by kernel_rfl) ?_
      repeat (first
        | (refine B_skip ?_ ?_; (· rfl); (try simp only [Act.put, List.setIfInBounds_toArray, List.set_cons_zero, List.set_cons_succ]))
        | (refine B_move rfl ?_ ?_; (· rfl); (try simp only [Act.eval, Act.put, Array.getD_eq_getD_getElem?, List.getElem?_toArray, List.getElem?_cons_succ, List.getElem?_cons_zero, Option.getD_some, List.setIfInBounds_toArray, List.set_cons_zero, List.set_cons_succ]))
        | (refine B_plain ?_ ?_; (· rfl); intro K hK; go_big_quiet_op; with_reducible refine hK _ ?_; clear hK K)
        | (fail))
      refine B_nil ?_ rfl ?_ ?_
      · kernel_rfl
      · rfl
      rintro _ ⟨⟨g1, d1⟩, rfl⟩
      simp only [fin, Act.put, List.setIfInBounds_toArray, List.set_cons_zero, List.set_cons_succ]
      go_wp2_with fail
      refine (make_range x n _ HN.out _).mono ?_
      rintro e w4 ⟨rfl, hb4⟩
      have HV4 := Lib.hid (BSl.below (HCB.out _ _ _) hb4)
      have hO4 := Ow.of_below (HO.out.of_below (by (repeat' (first | (with_reducible exact Below.refl _ _) | (with_reducible refine bplus ?_ _ _) | (with_reducible refine balloc ?_ _) | (with_reducible refine Below.drew ?_) | (with_reducible refine bdrewN ?_ _) | (with_reducible refine Below.setCell ?_ (by go_size) _))))) hb4
      generalize hv8 : bv (plus ((w.alloc (.cells #[.int .u8 (by8 x 0), .int .u8 (by8 x 1), .int .u8 (by8 x 2), .int .u8 (by8 x 3), .int .u8 (by8 x 4), .int .u8 (by8 x 5), .int .u8 (by8 x 6), .int .u8 (by8 x 7)] 22)).alloc (.cells #[.int .i64 n, .int .i64 b, .string s, .bool false] 24)) g1 d1) = v8 at HV4 ⊢
      clear hv8
      have hv8 := HV4.out
      obtain ⟨a8, c8, rfl, -, -⟩ := hv8
      have hU4 : BSl w4 (.slice none 0 0) [] := ⟨none, 0, rfl, ⟨by simp, fun _ => ⟨rfl, rfl⟩⟩, .inl rfl⟩
      obtain ⟨tt, htt⟩ : ∃ tt, ({ data := ([] : List UInt8).toArray } : ByteArray) = tt := ⟨_, rfl⟩
      obtain ⟨z, hz⟩ : ∃ z, z = 0#64 := ⟨_, rfl⟩
      have hz1 : (#[.int .u8 0, .int .u8 0, .int .u8 0, .int .u8 0, .int .u8 0, .int .u8 0, .int .u8 0, .int .u8 0, .int .i64 0, .slice none 0 0] : Array Value) = #[.int .u8 (by8 z 0), .int .u8 (by8 z 1), .int .u8 (by8 z 2), .int .u8 (by8 z 3), .int .u8 (by8 z 4), .int .u8 (by8 z 5), .int .u8 (by8 z 6), .int .u8 (by8 z 7), .int .i64 0, .slice none 0 0] := by rw [hz]; simp [by8_zT]
      have hz2 : (#[.int .u8 0, .int .u8 0, .int .u8 0, .int .u8 0, .int .u8 0, .int .u8 0, .int .u8 0, .int .u8 0, .int .i64 0, .string ByteArray.empty] : Array Value) = #[.int .u8 (by8 z 0), .int .u8 (by8 z 1), .int .u8 (by8 z 2), .int .u8 (by8 z 3), .int .u8 (by8 z 4), .int .u8 (by8 z 5), .int .u8 (by8 z 6), .int .u8 (by8 z 7), .int .i64 0, .string tt] := by rw [hz, ← htt]; simp [by8_zT]; rfl
      rw [hz1]
      have HZ2 := Lib.hid hz2
      clear hz hz1 hz2
      have HU4 := Lib.hid hU4
      have HO4 := Lib.hid (hO4.key #[.int .u8 (by8 z 0), .int .u8 (by8 z 1), .int .u8 (by8 z 2), .int .u8 (by8 z 3), .int .u8 (by8 z 4), .int .u8 (by8 z 5), .int .u8 (by8 z 6), .int .u8 (by8 z 7), .int .i64 0, .slice none 0 0] 29 w4.heap.size rfl)
      (have hq := hO4.has (b := w.heap.size) (t := 22) (cs := #[.int .u8 (by8 x 0), .int .u8 (by8 x 1), .int .u8 (by8 x 2), .int .u8 (by8 x 3), .int .u8 (by8 x 4), .int .u8 (by8 x 5), .int .u8 (by8 x 6), .int .u8 (by8 x 7)]) (by simp)); (have x0 := hq.cell 0); (have x1 := hq.cell 1); (have x2 := hq.cell 2); (have x3 := hq.cell 3); (have x4 := hq.cell 4); (have x5 := hq.cell 5); (have x6 := hq.cell 6); (have x7 := hq.cell 7); (have lx := hq.lt); (simp only [List.getElem?_toArray, List.getElem?_cons_succ, List.getElem?_cons_zero] at x0 x1 x2 x3 x4 x5 x6 x7); clear hq
      obtain ⟨sl, hsl⟩ : ∃ sl, ({ data := (strL s).toArray } : ByteArray) = sl := ⟨_, rfl⟩
      have hcv := run_strT (w4.alloc (.cells #[.int .u8 (by8 z 0), .int .u8 (by8 z 1), .int .u8 (by8 z 2), .int .u8 (by8 z 3), .int .u8 (by8 z 4), .int .u8 (by8 z 5), .int .u8 (by8 z 6), .int .u8 (by8 z 7), .int .i64 0, .slice none 0 0] 29)) _ _ (HV4.out.alloc _)
      rw [hsl] at hcv
      clear hO4 hU4 hb4
      go_wp2_with fail
      refine (rmake_range x n sl HN.out _).mono ?_
      rintro e w5 ⟨rfl, hb5⟩
      rw [HZ2.out]
      have hO5 := HO4.out.of_below hb5
      have HO5 := Lib.hid (hO5.key #[.int .u8 (by8 z 0), .int .u8 (by8 z 1), .int .u8 (by8 z 2), .int .u8 (by8 z 3), .int .u8 (by8 z 4), .int .u8 (by8 z 5), .int .u8 (by8 z 6), .int .u8 (by8 z 7), .int .i64 0, .string tt] 34 w5.heap.size rfl)
      clear x0 x1 x2 x3 x4 x5 x6 x7 lx
      (have hq := hO5.has (b := w.heap.size) (t := 22) (cs := #[.int .u8 (by8 x 0), .int .u8 (by8 x 1), .int .u8 (by8 x 2), .int .u8 (by8 x 3), .int .u8 (by8 x 4), .int .u8 (by8 x 5), .int .u8 (by8 x 6), .int .u8 (by8 x 7)]) (by simp)); (have x0 := hq.cell 0); (have x1 := hq.cell 1); (have x2 := hq.cell 2); (have x3 := hq.cell 3); (have x4 := hq.cell 4); (have x5 := hq.cell 5); (have x6 := hq.cell 6); (have x7 := hq.cell 7); (have lx := hq.lt); (simp only [List.getElem?_toArray, List.getElem?_cons_succ, List.getElem?_cons_zero] at x0 x1 x2 x3 x4 x5 x6 x7); clear hq
      (have hq := hO5.has (b := w4.heap.size) (t := 29) (cs := #[.int .u8 (by8 z 0), .int .u8 (by8 z 1), .int .u8 (by8 z 2), .int .u8 (by8 z 3), .int .u8 (by8 z 4), .int .u8 (by8 z 5), .int .u8 (by8 z 6), .int .u8 (by8 z 7), .int .i64 0, .slice none 0 0]) (by simp)); (have a0 := hq.cell 0); (have a1 := hq.cell 1); (have a2 := hq.cell 2); (have a3 := hq.cell 3); (have a4 := hq.cell 4); (have a5 := hq.cell 5); (have a6 := hq.cell 6); (have a7 := hq.cell 7); (have a8 := hq.cell 8); (have a9 := hq.cell 9); (have la := hq.lt); (simp only [List.getElem?_toArray, List.getElem?_cons_succ, List.getElem?_cons_zero] at a0 a1 a2 a3 a4 a5 a6 a7 a8 a9); clear hq
      have hcv9 : ∀ g d, (convert 26 9 (.slice none 0 0)).run Try.prog (plus (w5.alloc (.cells #[.int .u8 (by8 z 0), .int .u8 (by8 z 1), .int .u8 (by8 z 2), .int .u8 (by8 z 3), .int .u8 (by8 z 4), .int .u8 (by8 z 5), .int .u8 (by8 z 6), .int .u8 (by8 z 7), .int .i64 0, .string tt] 34)) g d) = .ok (.string tt) (plus (w5.alloc (.cells #[.int .u8 (by8 z 0), .int .u8 (by8 z 1), .int .u8 (by8 z 2), .int .u8 (by8 z 3), .int .u8 (by8 z 4), .int .u8 (by8 z 5), .int .u8 (by8 z 6), .int .u8 (by8 z 7), .int .i64 0, .string tt] 34)) g d) := fun g d => by rw [run_strT _ _ _ ((((HU4.out.alloc _).below hb5).alloc _).plus g d), htt]
      have hss : (tt == tt) = true := by rw [← htt, beqS]; simp
      have hhh : (z == z) = true := by simp
      clear hO5 hcv hsl htt HU4 HV4 HO4
      have HCV := Lib.hid hcv9
      clear hcv9
      go_wp2_with fail
      refine wp_region_rq (by kernel_rfl) (by kernel_rfl) (by kernel_rfl) ?_
      repeat (first
        | (refine B_skip ?_ ?_; (· rfl); (try simp only [Act.put, List.setIfInBounds_toArray, List.set_cons_zero, List.set_cons_succ]))
        | (refine B_move rfl ?_ ?_; (· rfl); (try simp only [Act.eval, Act.put, Array.getD_eq_getD_getElem?, List.getElem?_toArray, List.getElem?_cons_succ, List.getElem?_cons_zero, Option.getD_some, List.setIfInBounds_toArray, List.set_cons_zero, List.set_cons_succ]))
        | (refine B_plain ?_ ?_; (· rfl); intro K hK; go_big_quiet_op; with_reducible refine hK _ ?_; clear hK K)
        | (refine B_callX (v := ?_) (f := 18) rfl (by kernel_rfl) ?_ (fun xq => ?_) ?_; rotate_left; (· rfl); (· ((simp only [List.map_toArray, List.map_cons, List.map_nil, Act.eval, Array.getD_eq_getD_getElem?, List.getElem?_toArray, List.getElem?_cons_succ, List.getElem?_cons_zero, Option.getD_some]); with_reducible apply retB; with_reducible exact (hint_to x h HX.out _))); (try simp only [Act.put, List.setIfInBounds_toArray, List.set_cons_zero, List.set_cons_succ]))
        | (refine B_callX (v := ?_) (f := 19) rfl (by kernel_rfl) ?_ (fun xq => ?_) ?_; rotate_left; (· rfl); (· ((simp only [List.map_toArray, List.map_cons, List.map_nil, Act.eval, Array.getD_eq_getD_getElem?, List.getElem?_toArray, List.getElem?_cons_succ, List.getElem?_cons_zero, Option.getD_some]); with_reducible apply retB; with_reducible exact (rhint_to x h HX.out _))); (try simp only [Act.put, List.setIfInBounds_toArray, List.set_cons_zero, List.set_cons_succ]))
        | (refine B_callX (v := ?_) (f := 15) rfl (by kernel_rfl) ?_ (fun xq => ?_) ?_; rotate_left; (· rfl); (· ((simp only [List.map_toArray, List.map_cons, List.map_nil, Act.eval, Array.getD_eq_getD_getElem?, List.getElem?_toArray, List.getElem?_cons_succ, List.getElem?_cons_zero, Option.getD_some]); with_reducible apply retB; with_reducible exact (told51_to _))); (try simp only [Act.put, List.setIfInBounds_toArray, List.set_cons_zero, List.set_cons_succ]))
        | (refine B_conv rfl (by rfl) (by rfl) HCV.out ?_; simp only [Act.put, List.setIfInBounds_toArray, List.set_cons_zero, List.set_cons_succ]))
      refine B_nil ?_ rfl ?_ ?_
      · kernel_rfl
      · rfl
      rintro _ ⟨⟨g9, d9⟩, rfl⟩
      simp only [fin, Act.put, List.setIfInBounds_toArray, List.set_cons_zero, List.set_cons_succ]
      go_wp2
      go_ret
      exact ⟨rfl, (HO5.out.of_below (by (repeat' (first | (with_reducible exact Below.refl _ _) | (with_reducible refine bplus ?_ _ _) | (with_reducible refine balloc ?_ _) | (with_reducible refine Below.drew ?_) | (with_reducible refine bdrewN ?_ _) | (with_reducible refine Below.setCell ?_ (by go_size) _))))).below⟩
    | true =>
      go_enter Try.func3, Try.ntmps3
      go_wp2_with fail
      refine wp_region_rq (by kernel_rfl) (by kernel_rfl) (by kernel_rfl) ?_
      repeat (first
        | (refine B_skip ?_ ?_; (· rfl); (try simp only [Act.put, List.setIfInBounds_toArray, List.set_cons_zero, List.set_cons_succ]))
        | (refine B_move rfl ?_ ?_; (· rfl); (try simp only [Act.eval, Act.put, Array.getD_eq_getD_getElem?, List.getElem?_toArray, List.getElem?_cons_succ, List.getElem?_cons_zero, Option.getD_some, List.setIfInBounds_toArray, List.set_cons_zero, List.set_cons_succ]))
        | (refine B_plain ?_ ?_; (· rfl); intro K hK; go_big_quiet_op; with_reducible refine hK _ ?_; clear hK K)
        | (fail))
      refine B_nil ?_ rfl ?_ ?_
      · kernel_rfl
      · rfl
      rintro _ ⟨⟨g1, d1⟩, rfl⟩
      simp only [fin, Act.put, List.setIfInBounds_toArray, List.set_cons_zero, List.set_cons_succ]
      go_wp2_with (at_builtin; refine append_ranE rfl (.tmp 26) _ 26 3 rfl (by rfl) (by rfl) (HAP.out _ _ _) ?_; rintro v9 w9 ⟨hb9, hB9⟩; (have hB8 := hB9); (obtain ⟨a9, c9, rfl, -, -⟩ := hB8); (have HB9 := Lib.hid hB9); (have HO9 := Lib.hid (Ow.of_below (HO.out.plus _ _) hb9)); (have hq := HO9.out.has (b := w.heap.size) (t := 22) (cs := #[.int .u8 (by8 x 0), .int .u8 (by8 x 1), .int .u8 (by8 x 2), .int .u8 (by8 x 3), .int .u8 (by8 x 4), .int .u8 (by8 x 5), .int .u8 (by8 x 6), .int .u8 (by8 x 7)]) (by simp)); (have x0 := hq.cell 0); (have x1 := hq.cell 1); (have x2 := hq.cell 2); (have x3 := hq.cell 3); (have x4 := hq.cell 4); (have x5 := hq.cell 5); (have x6 := hq.cell 6); (have x7 := hq.cell 7); (have lx := hq.lt); (simp only [List.getElem?_toArray, List.getElem?_cons_succ, List.getElem?_cons_zero] at x0 x1 x2 x3 x4 x5 x6 x7); clear hq; clear hb9 hB9)
      refine (make_range x n _ HN.out _).mono ?_
      rintro e w4 ⟨rfl, hb4⟩
      have HV4 := Lib.hid (HB9.out.below hb4)
      have hO4 := HO9.out.of_below hb4
      clear x0 x1 x2 x3 x4 x5 x6 x7 lx
      have hU4 : BSl w4 (.slice none 0 0) [] := ⟨none, 0, rfl, ⟨by simp, fun _ => ⟨rfl, rfl⟩⟩, .inl rfl⟩
      obtain ⟨tt, htt⟩ : ∃ tt, ({ data := ([] : List UInt8).toArray } : ByteArray) = tt := ⟨_, rfl⟩
      obtain ⟨z, hz⟩ : ∃ z, z = 0#64 := ⟨_, rfl⟩
      have hz1 : (#[.int .u8 0, .int .u8 0, .int .u8 0, .int .u8 0, .int .u8 0, .int .u8 0, .int .u8 0, .int .u8 0, .int .i64 0, .slice none 0 0] : Array Value) = #[.int .u8 (by8 z 0), .int .u8 (by8 z 1), .int .u8 (by8 z 2), .int .u8 (by8 z 3), .int .u8 (by8 z 4), .int .u8 (by8 z 5), .int .u8 (by8 z 6), .int .u8 (by8 z 7), .int .i64 0, .slice none 0 0] := by rw [hz]; simp [by8_zT]
      have hz2 : (#[.int .u8 0, .int .u8 0, .int .u8 0, .int .u8 0, .int .u8 0, .int .u8 0, .int .u8 0, .int .u8 0, .int .i64 0, .string ByteArray.empty] : Array Value) = #[.int .u8 (by8 z 0), .int .u8 (by8 z 1), .int .u8 (by8 z 2), .int .u8 (by8 z 3), .int .u8 (by8 z 4), .int .u8 (by8 z 5), .int .u8 (by8 z 6), .int .u8 (by8 z 7), .int .i64 0, .string tt] := by rw [hz, ← htt]; simp [by8_zT]; rfl
      rw [hz1]
      have HZ2 := Lib.hid hz2
      clear hz hz1 hz2
      have HU4 := Lib.hid hU4
      have HO4 := Lib.hid (hO4.key #[.int .u8 (by8 z 0), .int .u8 (by8 z 1), .int .u8 (by8 z 2), .int .u8 (by8 z 3), .int .u8 (by8 z 4), .int .u8 (by8 z 5), .int .u8 (by8 z 6), .int .u8 (by8 z 7), .int .i64 0, .slice none 0 0] 29 w4.heap.size rfl)
      (have hq := hO4.has (b := w.heap.size) (t := 22) (cs := #[.int .u8 (by8 x 0), .int .u8 (by8 x 1), .int .u8 (by8 x 2), .int .u8 (by8 x 3), .int .u8 (by8 x 4), .int .u8 (by8 x 5), .int .u8 (by8 x 6), .int .u8 (by8 x 7)]) (by simp)); (have x0 := hq.cell 0); (have x1 := hq.cell 1); (have x2 := hq.cell 2); (have x3 := hq.cell 3); (have x4 := hq.cell 4); (have x5 := hq.cell 5); (have x6 := hq.cell 6); (have x7 := hq.cell 7); (have lx := hq.lt); (simp only [List.getElem?_toArray, List.getElem?_cons_succ, List.getElem?_cons_zero] at x0 x1 x2 x3 x4 x5 x6 x7); clear hq
      obtain ⟨sl, hsl⟩ : ∃ sl, ({ data := (ll).toArray } : ByteArray) = sl := ⟨_, rfl⟩
      have hcv := run_strT (w4.alloc (.cells #[.int .u8 (by8 z 0), .int .u8 (by8 z 1), .int .u8 (by8 z 2), .int .u8 (by8 z 3), .int .u8 (by8 z 4), .int .u8 (by8 z 5), .int .u8 (by8 z 6), .int .u8 (by8 z 7), .int .i64 0, .slice none 0 0] 29)) _ _ (HV4.out.alloc _)
      rw [hsl] at hcv
      clear hO4 hU4 hb4
      go_wp2_with fail
      refine (rmake_range x n sl HN.out _).mono ?_
      rintro e w5 ⟨rfl, hb5⟩
      rw [HZ2.out]
      have hO5 := HO4.out.of_below hb5
      have HO5 := Lib.hid (hO5.key #[.int .u8 (by8 z 0), .int .u8 (by8 z 1), .int .u8 (by8 z 2), .int .u8 (by8 z 3), .int .u8 (by8 z 4), .int .u8 (by8 z 5), .int .u8 (by8 z 6), .int .u8 (by8 z 7), .int .i64 0, .string tt] 34 w5.heap.size rfl)
      clear x0 x1 x2 x3 x4 x5 x6 x7 lx
      (have hq := hO5.has (b := w.heap.size) (t := 22) (cs := #[.int .u8 (by8 x 0), .int .u8 (by8 x 1), .int .u8 (by8 x 2), .int .u8 (by8 x 3), .int .u8 (by8 x 4), .int .u8 (by8 x 5), .int .u8 (by8 x 6), .int .u8 (by8 x 7)]) (by simp)); (have x0 := hq.cell 0); (have x1 := hq.cell 1); (have x2 := hq.cell 2); (have x3 := hq.cell 3); (have x4 := hq.cell 4); (have x5 := hq.cell 5); (have x6 := hq.cell 6); (have x7 := hq.cell 7); (have lx := hq.lt); (simp only [List.getElem?_toArray, List.getElem?_cons_succ, List.getElem?_cons_zero] at x0 x1 x2 x3 x4 x5 x6 x7); clear hq
      (have hq := hO5.has (b := w4.heap.size) (t := 29) (cs := #[.int .u8 (by8 z 0), .int .u8 (by8 z 1), .int .u8 (by8 z 2), .int .u8 (by8 z 3), .int .u8 (by8 z 4), .int .u8 (by8 z 5), .int .u8 (by8 z 6), .int .u8 (by8 z 7), .int .i64 0, .slice none 0 0]) (by simp)); (have a0 := hq.cell 0); (have a1 := hq.cell 1); (have a2 := hq.cell 2); (have a3 := hq.cell 3); (have a4 := hq.cell 4); (have a5 := hq.cell 5); (have a6 := hq.cell 6); (have a7 := hq.cell 7); (have a8 := hq.cell 8); (have a9 := hq.cell 9); (have la := hq.lt); (simp only [List.getElem?_toArray, List.getElem?_cons_succ, List.getElem?_cons_zero] at a0 a1 a2 a3 a4 a5 a6 a7 a8 a9); clear hq
      have hcv9 : ∀ g d, (convert 26 9 (.slice none 0 0)).run Try.prog (plus (w5.alloc (.cells #[.int .u8 (by8 z 0), .int .u8 (by8 z 1), .int .u8 (by8 z 2), .int .u8 (by8 z 3), .int .u8 (by8 z 4), .int .u8 (by8 z 5), .int .u8 (by8 z 6), .int .u8 (by8 z 7), .int .i64 0, .string tt] 34)) g d) = .ok (.string tt) (plus (w5.alloc (.cells #[.int .u8 (by8 z 0), .int .u8 (by8 z 1), .int .u8 (by8 z 2), .int .u8 (by8 z 3), .int .u8 (by8 z 4), .int .u8 (by8 z 5), .int .u8 (by8 z 6), .int .u8 (by8 z 7), .int .i64 0, .string tt] 34)) g d) := fun g d => by rw [run_strT _ _ _ ((((HU4.out.alloc _).below hb5).alloc _).plus g d), htt]
      have hss : (tt == tt) = true := by rw [← htt, beqS]; simp
      have hhh : (z == z) = true := by simp
      clear hO5 hcv hsl htt HU4 HV4 HO4
      have HCV := Lib.hid hcv9
      clear hcv9
      go_wp2_with fail
      refine wp_region_rq (by kernel_rfl) (by kernel_rfl) (by kernel_rfl) ?_
      repeat (first
        | (refine B_skip ?_ ?_; (· rfl); (try simp only [Act.put, List.setIfInBounds_toArray, List.set_cons_zero, List.set_cons_succ]))
        | (refine B_move rfl ?_ ?_; (· rfl); (try simp only [Act.eval, Act.put, Array.getD_eq_getD_getElem?, List.getElem?_toArray, List.getElem?_cons_succ, List.getElem?_cons_zero, Option.getD_some, List.setIfInBounds_toArray, List.set_cons_zero, List.set_cons_succ]))
        | (refine B_plain ?_ ?_; (· rfl); intro K hK; go_big_quiet_op; with_reducible refine hK _ ?_; clear hK K)
        | (refine B_callX (v := ?_) (f := 18) rfl (by kernel_rfl) ?_ (fun xq => ?_) ?_; rotate_left; (· rfl); (· ((simp only [List.map_toArray, List.map_cons, List.map_nil, Act.eval, Array.getD_eq_getD_getElem?, List.getElem?_toArray, List.getElem?_cons_succ, List.getElem?_cons_zero, Option.getD_some]); with_reducible apply retB; with_reducible exact (hint_to x h HX.out _))); (try simp only [Act.put, List.setIfInBounds_toArray, List.set_cons_zero, List.set_cons_succ]))
        | (refine B_callX (v := ?_) (f := 19) rfl (by kernel_rfl) ?_ (fun xq => ?_) ?_; rotate_left; (· rfl); (· ((simp only [List.map_toArray, List.map_cons, List.map_nil, Act.eval, Array.getD_eq_getD_getElem?, List.getElem?_toArray, List.getElem?_cons_succ, List.getElem?_cons_zero, Option.getD_some]); with_reducible apply retB; with_reducible exact (rhint_to x h HX.out _))); (try simp only [Act.put, List.setIfInBounds_toArray, List.set_cons_zero, List.set_cons_succ]))
        | (refine B_callX (v := ?_) (f := 15) rfl (by kernel_rfl) ?_ (fun xq => ?_) ?_; rotate_left; (· rfl); (· ((simp only [List.map_toArray, List.map_cons, List.map_nil, Act.eval, Array.getD_eq_getD_getElem?, List.getElem?_toArray, List.getElem?_cons_succ, List.getElem?_cons_zero, Option.getD_some]); with_reducible apply retB; with_reducible exact (told51_to _))); (try simp only [Act.put, List.setIfInBounds_toArray, List.set_cons_zero, List.set_cons_succ]))
        | (refine B_conv rfl (by rfl) (by rfl) HCV.out ?_; simp only [Act.put, List.setIfInBounds_toArray, List.set_cons_zero, List.set_cons_succ]))
      refine B_nil ?_ rfl ?_ ?_
      · kernel_rfl
      · rfl
      rintro _ ⟨⟨g9, d9⟩, rfl⟩
      simp only [fin, Act.put, List.setIfInBounds_toArray, List.set_cons_zero, List.set_cons_succ]
      go_wp2
      go_ret
      exact ⟨rfl, (HO5.out.of_below (by (repeat' (first | (with_reducible exact Below.refl _ _) | (with_reducible refine bplus ?_ _ _) | (with_reducible refine balloc ?_ _) | (with_reducible refine Below.drew ?_) | (with_reducible refine bdrewN ?_ _) | (with_reducible refine Below.setCell ?_ (by go_size) _))))).below⟩
  · have HN : Hid (isNum n = true) := by show _ = _; simpa using hn
    clear hn
    cases bl with
    | false =>
      obtain ⟨y, HYB⟩ : ∃ y, Hid (tboxF x (strL s) = y) := ⟨_, rfl⟩
      go_enter Try.func3, Try.ntmps3
      go_wp2_with fail
      refine wp_region_rq (by kernel_rfl) (by kernel_rfl) (by kernel_rfl) ?_
      repeat (first
        | (refine B_skip ?_ ?_; (· rfl); (try simp only [Act.put, List.setIfInBounds_toArray, List.set_cons_zero, List.set_cons_succ]))
        | (refine B_move rfl ?_ ?_; (· rfl); (try simp only [Act.eval, Act.put, Array.getD_eq_getD_getElem?, List.getElem?_toArray, List.getElem?_cons_succ, List.getElem?_cons_zero, Option.getD_some, List.setIfInBounds_toArray, List.set_cons_zero, List.set_cons_succ]))
        | (refine B_plain ?_ ?_; (· rfl); intro K hK; go_big_quiet_op; with_reducible refine hK _ ?_; clear hK K)
        | (fail))
      refine B_nil ?_ rfl ?_ ?_
      · kernel_rfl
      · rfl
      rintro _ ⟨⟨g1, d1⟩, rfl⟩
      simp only [fin, Act.put, List.setIfInBounds_toArray, List.set_cons_zero, List.set_cons_succ]
      go_wp2_with fail
      refine (make_to x n _ (strL s) HN.out (by omega) h HX.out y HYB.out _ (HCB.out _ _ _)).mono ?_
      rintro e w4 ⟨u4, rfl, hb4, hu4⟩
      have HV4 := Lib.hid (BSl.below (HCB.out _ _ _) hb4)
      have hO4 := Ow.of_below (HO.out.of_below (by (repeat' (first | (with_reducible exact Below.refl _ _) | (with_reducible refine bplus ?_ _ _) | (with_reducible refine balloc ?_ _) | (with_reducible refine Below.drew ?_) | (with_reducible refine bdrewN ?_ _) | (with_reducible refine Below.setCell ?_ (by go_size) _))))) hb4
      generalize hv8 : bv (plus ((w.alloc (.cells #[.int .u8 (by8 x 0), .int .u8 (by8 x 1), .int .u8 (by8 x 2), .int .u8 (by8 x 3), .int .u8 (by8 x 4), .int .u8 (by8 x 5), .int .u8 (by8 x 6), .int .u8 (by8 x 7)] 22)).alloc (.cells #[.int .i64 n, .int .i64 b, .string s, .bool false] 24)) g1 d1) = v8 at HV4 ⊢
      clear hv8
      have hv8 := HV4.out
      obtain ⟨a8, c8, rfl, -, -⟩ := hv8
      have hU4 := hu4.bsl
      obtain ⟨au, cu, rfl, -, -⟩ := hu4.bsl
      obtain ⟨tt, htt⟩ : ∃ tt, ({ data := y.toArray } : ByteArray) = tt := ⟨_, rfl⟩
      have HU4 := Lib.hid hU4
      have HO4 := Lib.hid (hO4.key #[.int .u8 (by8 h 0), .int .u8 (by8 h 1), .int .u8 (by8 h 2), .int .u8 (by8 h 3), .int .u8 (by8 h 4), .int .u8 (by8 h 5), .int .u8 (by8 h 6), .int .u8 (by8 h 7), .int .i64 n, .slice au y.length cu] 29 w4.heap.size rfl)
      (have hq := hO4.has (b := w.heap.size) (t := 22) (cs := #[.int .u8 (by8 x 0), .int .u8 (by8 x 1), .int .u8 (by8 x 2), .int .u8 (by8 x 3), .int .u8 (by8 x 4), .int .u8 (by8 x 5), .int .u8 (by8 x 6), .int .u8 (by8 x 7)]) (by simp)); (have x0 := hq.cell 0); (have x1 := hq.cell 1); (have x2 := hq.cell 2); (have x3 := hq.cell 3); (have x4 := hq.cell 4); (have x5 := hq.cell 5); (have x6 := hq.cell 6); (have x7 := hq.cell 7); (have lx := hq.lt); (simp only [List.getElem?_toArray, List.getElem?_cons_succ, List.getElem?_cons_zero] at x0 x1 x2 x3 x4 x5 x6 x7); clear hq
      obtain ⟨sl, hsl⟩ : ∃ sl, ({ data := (strL s).toArray } : ByteArray) = sl := ⟨_, rfl⟩
      have hcv := run_strT (w4.alloc (.cells #[.int .u8 (by8 h 0), .int .u8 (by8 h 1), .int .u8 (by8 h 2), .int .u8 (by8 h 3), .int .u8 (by8 h 4), .int .u8 (by8 h 5), .int .u8 (by8 h 6), .int .u8 (by8 h 7), .int .i64 n, .slice au y.length cu] 29)) _ _ (HV4.out.alloc _)
      rw [hsl] at hcv
      clear hO4 hU4 hb4 hu4
      go_wp2_with fail
      refine (rmake_to x n sl HN.out (by rw [← hsl, mk_strL]; omega) h HX.out y (by rw [← hsl, mk_strL]; exact HYB.out) _).mono ?_
      rintro e w5 ⟨rfl, hb5⟩
      rw [htt]
      have hO5 := HO4.out.of_below hb5
      have HO5 := Lib.hid (hO5.key #[.int .u8 (by8 h 0), .int .u8 (by8 h 1), .int .u8 (by8 h 2), .int .u8 (by8 h 3), .int .u8 (by8 h 4), .int .u8 (by8 h 5), .int .u8 (by8 h 6), .int .u8 (by8 h 7), .int .i64 n, .string tt] 34 w5.heap.size rfl)
      clear x0 x1 x2 x3 x4 x5 x6 x7 lx
      (have hq := hO5.has (b := w.heap.size) (t := 22) (cs := #[.int .u8 (by8 x 0), .int .u8 (by8 x 1), .int .u8 (by8 x 2), .int .u8 (by8 x 3), .int .u8 (by8 x 4), .int .u8 (by8 x 5), .int .u8 (by8 x 6), .int .u8 (by8 x 7)]) (by simp)); (have x0 := hq.cell 0); (have x1 := hq.cell 1); (have x2 := hq.cell 2); (have x3 := hq.cell 3); (have x4 := hq.cell 4); (have x5 := hq.cell 5); (have x6 := hq.cell 6); (have x7 := hq.cell 7); (have lx := hq.lt); (simp only [List.getElem?_toArray, List.getElem?_cons_succ, List.getElem?_cons_zero] at x0 x1 x2 x3 x4 x5 x6 x7); clear hq
      (have hq := hO5.has (b := w4.heap.size) (t := 29) (cs := #[.int .u8 (by8 h 0), .int .u8 (by8 h 1), .int .u8 (by8 h 2), .int .u8 (by8 h 3), .int .u8 (by8 h 4), .int .u8 (by8 h 5), .int .u8 (by8 h 6), .int .u8 (by8 h 7), .int .i64 n, .slice au y.length cu]) (by simp)); (have a0 := hq.cell 0); (have a1 := hq.cell 1); (have a2 := hq.cell 2); (have a3 := hq.cell 3); (have a4 := hq.cell 4); (have a5 := hq.cell 5); (have a6 := hq.cell 6); (have a7 := hq.cell 7); (have a8 := hq.cell 8); (have a9 := hq.cell 9); (have la := hq.lt); (simp only [List.getElem?_toArray, List.getElem?_cons_succ, List.getElem?_cons_zero] at a0 a1 a2 a3 a4 a5 a6 a7 a8 a9); clear hq
      have hcv9 : ∀ g d, (convert 26 9 (.slice au y.length cu)).run Try.prog (plus (w5.alloc (.cells #[.int .u8 (by8 h 0), .int .u8 (by8 h 1), .int .u8 (by8 h 2), .int .u8 (by8 h 3), .int .u8 (by8 h 4), .int .u8 (by8 h 5), .int .u8 (by8 h 6), .int .u8 (by8 h 7), .int .i64 n, .string tt] 34)) g d) = .ok (.string tt) (plus (w5.alloc (.cells #[.int .u8 (by8 h 0), .int .u8 (by8 h 1), .int .u8 (by8 h 2), .int .u8 (by8 h 3), .int .u8 (by8 h 4), .int .u8 (by8 h 5), .int .u8 (by8 h 6), .int .u8 (by8 h 7), .int .i64 n, .string tt] 34)) g d) := fun g d => by rw [run_strT _ _ _ ((((HU4.out.alloc _).below hb5).alloc _).plus g d), htt]
      have hss : (tt == tt) = true := by rw [← htt, beqS]; simp
      have hhh : (h == h) = true := by simp
      clear hO5 hcv hsl htt HU4 HV4 HO4
      have HCV := Lib.hid hcv9
      clear hcv9
      go_wp2_with fail
      refine wp_region_rq (by kernel_rfl) (by kernel_rfl) (by kernel_rfl) ?_
      repeat (first
        | (refine B_skip ?_ ?_; (· rfl); (try simp only [Act.put, List.setIfInBounds_toArray, List.set_cons_zero, List.set_cons_succ]))
        | (refine B_move rfl ?_ ?_; (· rfl); (try simp only [Act.eval, Act.put, Array.getD_eq_getD_getElem?, List.getElem?_toArray, List.getElem?_cons_succ, List.getElem?_cons_zero, Option.getD_some, List.setIfInBounds_toArray, List.set_cons_zero, List.set_cons_succ]))
        | (refine B_plain ?_ ?_; (· rfl); intro K hK; go_big_quiet_op; with_reducible refine hK _ ?_; clear hK K)
        | (refine B_callX (v := ?_) (f := 18) rfl (by kernel_rfl) ?_ (fun xq => ?_) ?_; rotate_left; (· rfl); (· ((simp only [List.map_toArray, List.map_cons, List.map_nil, Act.eval, Array.getD_eq_getD_getElem?, List.getElem?_toArray, List.getElem?_cons_succ, List.getElem?_cons_zero, Option.getD_some]); with_reducible apply retB; with_reducible exact (hint_to x h HX.out _))); (try simp only [Act.put, List.setIfInBounds_toArray, List.set_cons_zero, List.set_cons_succ]))
        | (refine B_callX (v := ?_) (f := 19) rfl (by kernel_rfl) ?_ (fun xq => ?_) ?_; rotate_left; (· rfl); (· ((simp only [List.map_toArray, List.map_cons, List.map_nil, Act.eval, Array.getD_eq_getD_getElem?, List.getElem?_toArray, List.getElem?_cons_succ, List.getElem?_cons_zero, Option.getD_some]); with_reducible apply retB; with_reducible exact (rhint_to x h HX.out _))); (try simp only [Act.put, List.setIfInBounds_toArray, List.set_cons_zero, List.set_cons_succ]))
        | (refine B_callX (v := ?_) (f := 15) rfl (by kernel_rfl) ?_ (fun xq => ?_) ?_; rotate_left; (· rfl); (· ((simp only [List.map_toArray, List.map_cons, List.map_nil, Act.eval, Array.getD_eq_getD_getElem?, List.getElem?_toArray, List.getElem?_cons_succ, List.getElem?_cons_zero, Option.getD_some]); with_reducible apply retB; with_reducible exact (told51_to _))); (try simp only [Act.put, List.setIfInBounds_toArray, List.set_cons_zero, List.set_cons_succ]))
        | (refine B_conv rfl (by rfl) (by rfl) HCV.out ?_; simp only [Act.put, List.setIfInBounds_toArray, List.set_cons_zero, List.set_cons_succ]))
      refine B_nil ?_ rfl ?_ ?_
      · kernel_rfl
      · rfl
      rintro _ ⟨⟨g9, d9⟩, rfl⟩
      simp only [fin, Act.put, List.setIfInBounds_toArray, List.set_cons_zero, List.set_cons_succ]
      go_wp2
      go_ret
      exact ⟨rfl, (HO5.out.of_below (by (repeat' (first | (with_reducible exact Below.refl _ _) | (with_reducible refine bplus ?_ _ _) | (with_reducible refine balloc ?_ _) | (with_reducible refine Below.drew ?_) | (with_reducible refine bdrewN ?_ _) | (with_reducible refine Below.setCell ?_ (by go_size) _))))).below⟩
    | true =>
      go_enter Try.func3, Try.ntmps3
      go_wp2_with fail
      refine wp_region_rq (by kernel_rfl) (by kernel_rfl) (by kernel_rfl) ?_
      repeat (first
        | (refine B_skip ?_ ?_; (· rfl); (try simp only [Act.put, List.setIfInBounds_toArray, List.set_cons_zero, List.set_cons_succ]))
        | (refine B_move rfl ?_ ?_; (· rfl); (try simp only [Act.eval, Act.put, Array.getD_eq_getD_getElem?, List.getElem?_toArray, List.getElem?_cons_succ, List.getElem?_cons_zero, Option.getD_some, List.setIfInBounds_toArray, List.set_cons_zero, List.set_cons_succ]))
        | (refine B_plain ?_ ?_; (· rfl); intro K hK; go_big_quiet_op; with_reducible refine hK _ ?_; clear hK K)
        | (fail))
      refine B_nil ?_ rfl ?_ ?_
      · kernel_rfl
      · rfl
      rintro _ ⟨⟨g1, d1⟩, rfl⟩
      simp only [fin, Act.put, List.setIfInBounds_toArray, List.set_cons_zero, List.set_cons_succ]
      go_wp2_with (at_builtin; refine append_ranE rfl (.tmp 26) _ 26 3 rfl (by rfl) (by rfl) (HAP.out _ _ _) ?_; rintro v9 w9 ⟨hb9, hB9⟩; (have hB8 := hB9); (obtain ⟨a9, c9, rfl, -, -⟩ := hB8); (have HB9 := Lib.hid hB9); (have HO9 := Lib.hid (Ow.of_below (HO.out.plus _ _) hb9)); (have hq := HO9.out.has (b := w.heap.size) (t := 22) (cs := #[.int .u8 (by8 x 0), .int .u8 (by8 x 1), .int .u8 (by8 x 2), .int .u8 (by8 x 3), .int .u8 (by8 x 4), .int .u8 (by8 x 5), .int .u8 (by8 x 6), .int .u8 (by8 x 7)]) (by simp)); (have x0 := hq.cell 0); (have x1 := hq.cell 1); (have x2 := hq.cell 2); (have x3 := hq.cell 3); (have x4 := hq.cell 4); (have x5 := hq.cell 5); (have x6 := hq.cell 6); (have x7 := hq.cell 7); (have lx := hq.lt); (simp only [List.getElem?_toArray, List.getElem?_cons_succ, List.getElem?_cons_zero] at x0 x1 x2 x3 x4 x5 x6 x7); clear hq; clear hb9 hB9)
      refine (make_long x n a9 _ c9 HLL.out HN.out _).mono ?_
      rintro e w4 ⟨rfl, hb4⟩
      have HV4 := Lib.hid (HB9.out.below hb4)
      have hO4 := HO9.out.of_below hb4
      clear x0 x1 x2 x3 x4 x5 x6 x7 lx
      have hU4 : BSl w4 (.slice none 0 0) [] := ⟨none, 0, rfl, ⟨by simp, fun _ => ⟨rfl, rfl⟩⟩, .inl rfl⟩
      obtain ⟨tt, htt⟩ : ∃ tt, ({ data := ([] : List UInt8).toArray } : ByteArray) = tt := ⟨_, rfl⟩
      obtain ⟨z, hz⟩ : ∃ z, z = 0#64 := ⟨_, rfl⟩
      have hz1 : (#[.int .u8 0, .int .u8 0, .int .u8 0, .int .u8 0, .int .u8 0, .int .u8 0, .int .u8 0, .int .u8 0, .int .i64 0, .slice none 0 0] : Array Value) = #[.int .u8 (by8 z 0), .int .u8 (by8 z 1), .int .u8 (by8 z 2), .int .u8 (by8 z 3), .int .u8 (by8 z 4), .int .u8 (by8 z 5), .int .u8 (by8 z 6), .int .u8 (by8 z 7), .int .i64 0, .slice none 0 0] := by rw [hz]; simp [by8_zT]
      have hz2 : (#[.int .u8 0, .int .u8 0, .int .u8 0, .int .u8 0, .int .u8 0, .int .u8 0, .int .u8 0, .int .u8 0, .int .i64 0, .string ByteArray.empty] : Array Value) = #[.int .u8 (by8 z 0), .int .u8 (by8 z 1), .int .u8 (by8 z 2), .int .u8 (by8 z 3), .int .u8 (by8 z 4), .int .u8 (by8 z 5), .int .u8 (by8 z 6), .int .u8 (by8 z 7), .int .i64 0, .string tt] := by rw [hz, ← htt]; simp [by8_zT]; rfl
      rw [hz1]
      have HZ2 := Lib.hid hz2
      clear hz hz1 hz2
      have HU4 := Lib.hid hU4
      have HO4 := Lib.hid (hO4.key #[.int .u8 (by8 z 0), .int .u8 (by8 z 1), .int .u8 (by8 z 2), .int .u8 (by8 z 3), .int .u8 (by8 z 4), .int .u8 (by8 z 5), .int .u8 (by8 z 6), .int .u8 (by8 z 7), .int .i64 0, .slice none 0 0] 29 w4.heap.size rfl)
      (have hq := hO4.has (b := w.heap.size) (t := 22) (cs := #[.int .u8 (by8 x 0), .int .u8 (by8 x 1), .int .u8 (by8 x 2), .int .u8 (by8 x 3), .int .u8 (by8 x 4), .int .u8 (by8 x 5), .int .u8 (by8 x 6), .int .u8 (by8 x 7)]) (by simp)); (have x0 := hq.cell 0); (have x1 := hq.cell 1); (have x2 := hq.cell 2); (have x3 := hq.cell 3); (have x4 := hq.cell 4); (have x5 := hq.cell 5); (have x6 := hq.cell 6); (have x7 := hq.cell 7); (have lx := hq.lt); (simp only [List.getElem?_toArray, List.getElem?_cons_succ, List.getElem?_cons_zero] at x0 x1 x2 x3 x4 x5 x6 x7); clear hq
      obtain ⟨sl, hsl⟩ : ∃ sl, ({ data := (ll).toArray } : ByteArray) = sl := ⟨_, rfl⟩
      have hcv := run_strT (w4.alloc (.cells #[.int .u8 (by8 z 0), .int .u8 (by8 z 1), .int .u8 (by8 z 2), .int .u8 (by8 z 3), .int .u8 (by8 z 4), .int .u8 (by8 z 5), .int .u8 (by8 z 6), .int .u8 (by8 z 7), .int .i64 0, .slice none 0 0] 29)) _ _ (HV4.out.alloc _)
      rw [hsl] at hcv
      clear hO4 hU4 hb4
      go_wp2_with fail
      refine (rmake_long x n sl HN.out (by rw [← hsl]; show 32768 < ll.length; exact HLL.out) _).mono ?_
      rintro e w5 ⟨rfl, hb5⟩
      rw [HZ2.out]
      have hO5 := HO4.out.of_below hb5
      have HO5 := Lib.hid (hO5.key #[.int .u8 (by8 z 0), .int .u8 (by8 z 1), .int .u8 (by8 z 2), .int .u8 (by8 z 3), .int .u8 (by8 z 4), .int .u8 (by8 z 5), .int .u8 (by8 z 6), .int .u8 (by8 z 7), .int .i64 0, .string tt] 34 w5.heap.size rfl)
      clear x0 x1 x2 x3 x4 x5 x6 x7 lx
      (have hq := hO5.has (b := w.heap.size) (t := 22) (cs := #[.int .u8 (by8 x 0), .int .u8 (by8 x 1), .int .u8 (by8 x 2), .int .u8 (by8 x 3), .int .u8 (by8 x 4), .int .u8 (by8 x 5), .int .u8 (by8 x 6), .int .u8 (by8 x 7)]) (by simp)); (have x0 := hq.cell 0); (have x1 := hq.cell 1); (have x2 := hq.cell 2); (have x3 := hq.cell 3); (have x4 := hq.cell 4); (have x5 := hq.cell 5); (have x6 := hq.cell 6); (have x7 := hq.cell 7); (have lx := hq.lt); (simp only [List.getElem?_toArray, List.getElem?_cons_succ, List.getElem?_cons_zero] at x0 x1 x2 x3 x4 x5 x6 x7); clear hq
      (have hq := hO5.has (b := w4.heap.size) (t := 29) (cs := #[.int .u8 (by8 z 0), .int .u8 (by8 z 1), .int .u8 (by8 z 2), .int .u8 (by8 z 3), .int .u8 (by8 z 4), .int .u8 (by8 z 5), .int .u8 (by8 z 6), .int .u8 (by8 z 7), .int .i64 0, .slice none 0 0]) (by simp)); (have a0 := hq.cell 0); (have a1 := hq.cell 1); (have a2 := hq.cell 2); (have a3 := hq.cell 3); (have a4 := hq.cell 4); (have a5 := hq.cell 5); (have a6 := hq.cell 6); (have a7 := hq.cell 7); (have a8 := hq.cell 8); (have a9 := hq.cell 9); (have la := hq.lt); (simp only [List.getElem?_toArray, List.getElem?_cons_succ, List.getElem?_cons_zero] at a0 a1 a2 a3 a4 a5 a6 a7 a8 a9); clear hq
      have hcv9 : ∀ g d, (convert 26 9 (.slice none 0 0)).run Try.prog (plus (w5.alloc (.cells #[.int .u8 (by8 z 0), .int .u8 (by8 z 1), .int .u8 (by8 z 2), .int .u8 (by8 z 3), .int .u8 (by8 z 4), .int .u8 (by8 z 5), .int .u8 (by8 z 6), .int .u8 (by8 z 7), .int .i64 0, .string tt] 34)) g d) = .ok (.string tt) (plus (w5.alloc (.cells #[.int .u8 (by8 z 0), .int .u8 (by8 z 1), .int .u8 (by8 z 2), .int .u8 (by8 z 3), .int .u8 (by8 z 4), .int .u8 (by8 z 5), .int .u8 (by8 z 6), .int .u8 (by8 z 7), .int .i64 0, .string tt] 34)) g d) := fun g d => by rw [run_strT _ _ _ ((((HU4.out.alloc _).below hb5).alloc _).plus g d), htt]
      have hss : (tt == tt) = true := by rw [← htt, beqS]; simp
      have hhh : (z == z) = true := by simp
      clear hO5 hcv hsl htt HU4 HV4 HO4
      have HCV := Lib.hid hcv9
      clear hcv9
      go_wp2_with fail
      refine wp_region_rq (by kernel_rfl) (by kernel_rfl) (by kernel_rfl) ?_
      repeat (first
        | (refine B_skip ?_ ?_; (· rfl); (try simp only [Act.put, List.setIfInBounds_toArray, List.set_cons_zero, List.set_cons_succ]))
        | (refine B_move rfl ?_ ?_; (· rfl); (try simp only [Act.eval, Act.put, Array.getD_eq_getD_getElem?, List.getElem?_toArray, List.getElem?_cons_succ, List.getElem?_cons_zero, Option.getD_some, List.setIfInBounds_toArray, List.set_cons_zero, List.set_cons_succ]))
        | (refine B_plain ?_ ?_; (· rfl); intro K hK; go_big_quiet_op; with_reducible refine hK _ ?_; clear hK K)
        | (refine B_callX (v := ?_) (f := 18) rfl (by kernel_rfl) ?_ (fun xq => ?_) ?_; rotate_left; (· rfl); (· ((simp only [List.map_toArray, List.map_cons, List.map_nil, Act.eval, Array.getD_eq_getD_getElem?, List.getElem?_toArray, List.getElem?_cons_succ, List.getElem?_cons_zero, Option.getD_some]); with_reducible apply retB; with_reducible exact (hint_to x h HX.out _))); (try simp only [Act.put, List.setIfInBounds_toArray, List.set_cons_zero, List.set_cons_succ]))
        | (refine B_callX (v := ?_) (f := 19) rfl (by kernel_rfl) ?_ (fun xq => ?_) ?_; rotate_left; (· rfl); (· ((simp only [List.map_toArray, List.map_cons, List.map_nil, Act.eval, Array.getD_eq_getD_getElem?, List.getElem?_toArray, List.getElem?_cons_succ, List.getElem?_cons_zero, Option.getD_some]); with_reducible apply retB; with_reducible exact (rhint_to x h HX.out _))); (try simp only [Act.put, List.setIfInBounds_toArray, List.set_cons_zero, List.set_cons_succ]))
        | (refine B_callX (v := ?_) (f := 15) rfl (by kernel_rfl) ?_ (fun xq => ?_) ?_; rotate_left; (· rfl); (· ((simp only [List.map_toArray, List.map_cons, List.map_nil, Act.eval, Array.getD_eq_getD_getElem?, List.getElem?_toArray, List.getElem?_cons_succ, List.getElem?_cons_zero, Option.getD_some]); with_reducible apply retB; with_reducible exact (told51_to _))); (try simp only [Act.put, List.setIfInBounds_toArray, List.set_cons_zero, List.set_cons_succ]))
        | (refine B_conv rfl (by rfl) (by rfl) HCV.out ?_; simp only [Act.put, List.setIfInBounds_toArray, List.set_cons_zero, List.set_cons_succ]))
      refine B_nil ?_ rfl ?_ ?_
      · kernel_rfl
      · rfl
      rintro _ ⟨⟨g9, d9⟩, rfl⟩
      simp only [fin, Act.put, List.setIfInBounds_toArray, List.set_cons_zero, List.set_cons_succ]
      go_wp2
      go_ret
      exact ⟨rfl, (HO5.out.of_below (by (repeat' (first | (with_reducible exact Below.refl _ _) | (with_reducible refine bplus ?_ _ _) | (with_reducible refine balloc ?_ _) | (with_reducible refine Below.drew ?_) | (with_reducible refine bdrewN ?_ _) | (with_reducible refine Below.setCell ?_ (by go_size) _))))).below⟩

end Go.Proofs.Ytghaiplhakeahaa
