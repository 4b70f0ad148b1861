/- The law OnceAhead: its walk. -/
import Derived.Test.YthdcfdfpfagamaaAhd
namespace Go.Proofs.Ythdcfdfpfagamaa
set_option linter.unusedSimpArgs false
set_option linter.unusedVariables false
open Go.RowKit

set_option maxRecDepth 100000 in
set_option maxHeartbeats 4000000 in
theorem onceAhead_any (a b : BitVec 64) (w : World) :
    Calls Try.prog 18 #[.agg #[.int .u8 (by8 a 0), .int .u8 (by8 a 1), .int .u8 (by8 a 2), .int .u8 (by8 a 3), .int .u8 (by8 a 4), .int .u8 (by8 a 5), .int .u8 (by8 a 6), .int .u8 (by8 a 7)], .agg #[.int .u8 (by8 b 0), .int .u8 (by8 b 1), .int .u8 (by8 b 2), .int .u8 (by8 b 3), .int .u8 (by8 b 4), .int .u8 (by8 b 5), .int .u8 (by8 b 6), .int .u8 (by8 b 7)]] w fun e w' => e = .returned (.bool true) ∧ Below w.heap.size w w' := by
  obtain ⟨x, hx⟩ := ahead_ex a b
  obtain ⟨y, hy⟩ := ahead_ex b a
  obtain ⟨z, hz⟩ := ahead_ex a a
  obtain rfl := hz.self
  have HX := Lib.hid hx
  have HY := Lib.hid hy
  have HZ := Lib.hid hz
  clear hx hy hz
  go_enter Try.func18, Try.ntmps18
  go_wp2_with fail
  refine wpk_mem (fun W => Mem W w [(⟨w.heap.size + 1, 22, #[.int .u8 (by8 b 0), .int .u8 (by8 b 1), .int .u8 (by8 b 2), .int .u8 (by8 b 3), .int .u8 (by8 b 4), .int .u8 (by8 b 5), .int .u8 (by8 b 6), .int .u8 (by8 b 7)]⟩ : Blk), (⟨w.heap.size, 22, #[.int .u8 (by8 a 0), .int .u8 (by8 a 1), .int .u8 (by8 a 2), .int .u8 (by8 a 3), .int .u8 (by8 a 4), .int .u8 (by8 a 5), .int .u8 (by8 a 6), .int .u8 (by8 a 7)]⟩ : Blk)]) (((Mem.start w).key #[.int .u8 (by8 a 0), .int .u8 (by8 a 1), .int .u8 (by8 a 2), .int .u8 (by8 a 3), .int .u8 (by8 a 4), .int .u8 (by8 a 5), .int .u8 (by8 a 6), .int .u8 (by8 a 7)] 22 w.heap.size rfl).key #[.int .u8 (by8 b 0), .int .u8 (by8 b 1), .int .u8 (by8 b 2), .int .u8 (by8 b 3), .int .u8 (by8 b 4), .int .u8 (by8 b 5), .int .u8 (by8 b 6), .int .u8 (by8 b 7)] 22 (w.heap.size + 1) (by simp)) ?_
  intro W M
  have HN0 : Hid (New w [(⟨w.heap.size + 1, 22, #[.int .u8 (by8 b 0), .int .u8 (by8 b 1), .int .u8 (by8 b 2), .int .u8 (by8 b 3), .int .u8 (by8 b 4), .int .u8 (by8 b 5), .int .u8 (by8 b 6), .int .u8 (by8 b 7)]⟩ : Blk), (⟨w.heap.size, 22, #[.int .u8 (by8 a 0), .int .u8 (by8 a 1), .int .u8 (by8 a 2), .int .u8 (by8 a 3), .int .u8 (by8 a 4), .int .u8 (by8 a 5), .int .u8 (by8 a 6), .int .u8 (by8 a 7)]⟩ : Blk)]) := New.cons (Nat.le_succ _) (New.cons (Nat.le_refl _) (New.nil _))
  have cA := M.cell (b := w.heap.size) (t := 22) (cs := #[.int .u8 (by8 a 0), .int .u8 (by8 a 1), .int .u8 (by8 a 2), .int .u8 (by8 a 3), .int .u8 (by8 a 4), .int .u8 (by8 a 5), .int .u8 (by8 a 6), .int .u8 (by8 a 7)]) (by simp)
  have cB := M.cell (b := w.heap.size + 1) (t := 22) (cs := #[.int .u8 (by8 b 0), .int .u8 (by8 b 1), .int .u8 (by8 b 2), .int .u8 (by8 b 3), .int .u8 (by8 b 4), .int .u8 (by8 b 5), .int .u8 (by8 b 6), .int .u8 (by8 b 7)]) (by simp)
  have lA : w.heap.size < W.heap.size := M.lt (x := (⟨w.heap.size, 22, #[.int .u8 (by8 a 0), .int .u8 (by8 a 1), .int .u8 (by8 a 2), .int .u8 (by8 a 3), .int .u8 (by8 a 4), .int .u8 (by8 a 5), .int .u8 (by8 a 6), .int .u8 (by8 a 7)]⟩ : Blk)) (by simp)
  have lB : w.heap.size + 1 < W.heap.size := M.lt (x := (⟨w.heap.size + 1, 22, #[.int .u8 (by8 b 0), .int .u8 (by8 b 1), .int .u8 (by8 b 2), .int .u8 (by8 b 3), .int .u8 (by8 b 4), .int .u8 (by8 b 5), .int .u8 (by8 b 6), .int .u8 (by8 b 7)]⟩ : Blk)) (by simp)
  have HM := Lib.hid M
  have HWW := Lib.hid (M.below HN0.out)
  clear M HN0
  refine wp_region_rq (by kernel_rfl) (by kernel_rfl) (by kernel_rfl) ?_
  repeat (first
    | (refine B_skip ?_ ?_; (· rfl); (try simp only [Act.put, List.setIfInBounds_toArray, List.set_cons_zero, List.set_cons_succ]))
    | (refine B_move rfl ?_ ?_; (· rfl); (try simp only [Act.eval, Act.put, Array.getD_eq_getD_getElem?, List.getElem?_toArray, List.getElem?_cons_succ, List.getElem?_cons_zero, Option.getD_some, List.setIfInBounds_toArray, List.set_cons_zero, List.set_cons_succ]))
    | (refine B_plain ?_ ?_; (· rfl); intro K hK; go_big_quiet_op; with_reducible refine hK _ ?_; clear hK K)
    | (refine B_callX (v := ?_) (f := 43) rfl (by kernel_rfl) ?_ (fun xq => ?_) ?_; rotate_left; (· rfl); (· ((simp only [List.map_toArray, List.map_cons, List.map_nil, Act.eval, Array.getD_eq_getD_getElem?, List.getElem?_toArray, List.getElem?_cons_succ, List.getElem?_cons_zero, Option.getD_some]); with_reducible apply retB; with_reducible exact (ahead_to a b x HX.out _))); (try simp only [Act.put, List.setIfInBounds_toArray, List.set_cons_zero, List.set_cons_succ]))
    | (refine B_callX (v := ?_) (f := 43) rfl (by kernel_rfl) ?_ (fun xq => ?_) ?_; rotate_left; (· rfl); (· ((simp only [List.map_toArray, List.map_cons, List.map_nil, Act.eval, Array.getD_eq_getD_getElem?, List.getElem?_toArray, List.getElem?_cons_succ, List.getElem?_cons_zero, Option.getD_some]); with_reducible apply retB; with_reducible exact (ahead_to b a y HY.out _))); (try simp only [Act.put, List.setIfInBounds_toArray, List.set_cons_zero, List.set_cons_succ])))
  refine B_nil ?_ rfl ?_ ?_
  · kernel_rfl
  · rfl
  rintro _ ⟨⟨g1, d1⟩, rfl⟩
  simp only [fin, Act.put, List.setIfInBounds_toArray, List.set_cons_zero, List.set_cons_succ]
  go_wp2_with fail
  refine (refAhead_to a b x HX.out _).mono ?_
  rintro e w2 ⟨rfl, hb2⟩; obtain ⟨g2, d2, rfl⟩ := plus_of_below hb2; clear hb2
  go_wp2_with fail
  refine (refAhead_to b a y HY.out _).mono ?_
  rintro e w3 ⟨rfl, hb3⟩; obtain ⟨g3, d3, rfl⟩ := plus_of_below hb3; clear hb3
  go_wp2_with fail
  refine (ahead_to a a (-1) HZ.out _).mono ?_
  rintro e w4 ⟨rfl, hb4⟩; obtain ⟨g4, d4, rfl⟩ := plus_of_below hb4; clear hb4
  by_cases hab : a = b
  · have hx1 : x = -1 := by have h := HX.out; rw [hab] at h; exact h.self
    have hq : (a == b) = true := by simpa using hab
    subst hx1
    go_wp2_with fail
    refine (known05_any _).mono ?_
    rintro e w5 ⟨rfl, hb5⟩; obtain ⟨g5, d5, rfl⟩ := plus_of_below hb5; clear hb5
    go_wp2
    go_ret
    exact ⟨rfl, bplus HWW.out _ _⟩
  have hq : (a == b) = false := by simpa using hab
  obtain ⟨c1, h1, hx1, hd1⟩ := HX.out.other hab
  obtain ⟨c2, h2, hy1, hd2⟩ := HY.out.other (fun h => hab h.symm)
  subst hx1 hy1
  go_wp2_with fail
  refine wpk_mem (fun W => Mem W w [(⟨w.heap.size + 1, 22, #[.int .u8 (by8 b 0), .int .u8 (by8 b 1), .int .u8 (by8 b 2), .int .u8 (by8 b 3), .int .u8 (by8 b 4), .int .u8 (by8 b 5), .int .u8 (by8 b 6), .int .u8 (by8 b 7)]⟩ : Blk), (⟨w.heap.size, 22, #[.int .u8 (by8 a 0), .int .u8 (by8 a 1), .int .u8 (by8 a 2), .int .u8 (by8 a 3), .int .u8 (by8 a 4), .int .u8 (by8 a 5), .int .u8 (by8 a 6), .int .u8 (by8 a 7)]⟩ : Blk)]) (HM.out.plus _ _) ?_
  intro W4 M4
  have cA := M4.cell (b := w.heap.size) (t := 22) (cs := #[.int .u8 (by8 a 0), .int .u8 (by8 a 1), .int .u8 (by8 a 2), .int .u8 (by8 a 3), .int .u8 (by8 a 4), .int .u8 (by8 a 5), .int .u8 (by8 a 6), .int .u8 (by8 a 7)]) (by simp)
  have cB := M4.cell (b := w.heap.size + 1) (t := 22) (cs := #[.int .u8 (by8 b 0), .int .u8 (by8 b 1), .int .u8 (by8 b 2), .int .u8 (by8 b 3), .int .u8 (by8 b 4), .int .u8 (by8 b 5), .int .u8 (by8 b 6), .int .u8 (by8 b 7)]) (by simp)
  have lA : w.heap.size < W4.heap.size := M4.lt (x := (⟨w.heap.size, 22, #[.int .u8 (by8 a 0), .int .u8 (by8 a 1), .int .u8 (by8 a 2), .int .u8 (by8 a 3), .int .u8 (by8 a 4), .int .u8 (by8 a 5), .int .u8 (by8 a 6), .int .u8 (by8 a 7)]⟩ : Blk)) (by simp)
  have lB : w.heap.size + 1 < W4.heap.size := M4.lt (x := (⟨w.heap.size + 1, 22, #[.int .u8 (by8 b 0), .int .u8 (by8 b 1), .int .u8 (by8 b 2), .int .u8 (by8 b 3), .int .u8 (by8 b 4), .int .u8 (by8 b 5), .int .u8 (by8 b 6), .int .u8 (by8 b 7)]⟩ : Blk)) (by simp)
  have HW4 := Lib.hid (M4.below (New.cons (Nat.le_succ _) (New.cons (Nat.le_refl _) (New.nil _))))
  clear M4 HM HWW
  refine wp_region_ri 6 2 7 8 ?_ (by kernel_rfl) (by kernel_rfl) (by kernel_rfl) (by kernel_rfl) (by kernel_rfl) ?_
  · exact ⟨fun b hb => by simp [undef] at hb, fun b hb => by simp [undef] at hb, fun b c hb => by simp [undef] at hb⟩
  simp only [List.take_succ_cons, List.take_zero]
  repeat (first
    | (refine B_skip ?_ ?_; (· rfl); (try simp only [Act.put, List.setIfInBounds_toArray, List.set_cons_zero, List.set_cons_succ]))
    | (refine B_move rfl ?_ ?_; (· rfl); (try simp only [Act.eval, Act.put, Array.getD_eq_getD_getElem?, List.getElem?_toArray, List.getElem?_cons_succ, List.getElem?_cons_zero, Option.getD_some, List.setIfInBounds_toArray, List.set_cons_zero, List.set_cons_succ]))
    | (refine B_plain ?_ ?_; (· rfl); intro K hK; go_big_quiet_op; with_reducible refine hK _ ?_; clear hK K)
    | (refine B_callX (v := ?_) (f := 25) rfl (by kernel_rfl) ?_ (fun xq => ?_) ?_; rotate_left; (· rfl); (· ((simp only [List.map_toArray, List.map_cons, List.map_nil, Act.eval, Array.getD_eq_getD_getElem?, List.getElem?_toArray, List.getElem?_cons_succ, List.getElem?_cons_zero, Option.getD_some]); with_reducible apply retB; with_reducible exact (reach_any a _))); (try simp only [Act.put, List.setIfInBounds_toArray, List.set_cons_zero, List.set_cons_succ]))
    | (refine B_callX (v := ?_) (f := 25) rfl (by kernel_rfl) ?_ (fun xq => ?_) ?_; rotate_left; (· rfl); (· ((simp only [List.map_toArray, List.map_cons, List.map_nil, Act.eval, Array.getD_eq_getD_getElem?, List.getElem?_toArray, List.getElem?_cons_succ, List.getElem?_cons_zero, Option.getD_some]); with_reducible apply retB; with_reducible exact (reach_any b _))); (try simp only [Act.put, List.setIfInBounds_toArray, List.set_cons_zero, List.set_cons_succ]))
    | (refine B_new (t := 31) (z := .agg #[.int .i64 0, .int .i64 0, .int .i64 0, .int .i64 0, .int .i64 0, .int .i64 0, .int .i64 0, .int .i64 0, .int .i64 0, .int .i64 0, .int .i64 0, .int .i64 0, .int .i64 0, .int .i64 0, .int .i64 0, .int .i64 0, .int .i64 0, .int .i64 0]) rfl rfl (by kernel_rfl) ?_ ?_; (· rfl)))
  refine B_nili ?_ rfl ?_ ?_
  · kernel_rfl
  · rfl
  rintro _ ⟨⟨g6, d6⟩, rfl⟩
  simp only [fin, Act.put, List.setIfInBounds_toArray, List.set_cons_zero, List.set_cons_succ]
  rintro _ ⟨q, rfl, hq, hqb⟩ _ ⟨p, rfl, hp, hpb⟩ hap
  have hne : p ≠ q := hap.ne p q rfl rfl
  have HM1 := Lib.hid ((Mem.start W4).found2 (w := plus W4 g6 d6) (X := [⟨p, 31, #[.int .i64 0, .int .i64 0, .int .i64 0, .int .i64 0, .int .i64 0, .int .i64 0, .int .i64 0, .int .i64 0, .int .i64 0, .int .i64 0, .int .i64 0, .int .i64 0, .int .i64 0, .int .i64 0, .int .i64 0, .int .i64 0, .int .i64 0, .int .i64 0]⟩, ⟨q, 31, #[.int .i64 0, .int .i64 0, .int .i64 0, .int .i64 0, .int .i64 0, .int .i64 0, .int .i64 0, .int .i64 0, .int .i64 0, .int .i64 0, .int .i64 0, .int .i64 0, .int .i64 0, .int .i64 0, .int .i64 0, .int .i64 0, .int .i64 0, .int .i64 0]⟩]) (by (repeat' (first | (with_reducible exact Below.refl _ _) | (with_reducible refine bplus ?_ _ _) | (with_reducible refine balloc ?_ _) | (with_reducible refine Below.drew ?_) | (with_reducible refine bdrewN ?_ _) | (with_reducible refine Below.setCell ?_ (by go_size) _)))) (fun x hx => by
    simp only [List.mem_cons, List.not_mem_nil, or_false] at hx
    rcases hx with rfl | rfl
    · exact ⟨hp, hpb⟩
    · exact ⟨hq, hqb⟩) (by simpa using hne))
  clear hap hpb hqb cA cB lA lB
  refine step_one (n := 1) (k := 6) (by kernel_rfl) (by rfl) (by rfl) ?_
  intro K hK
  refine wp_store_blk 31 (.tmp 7) (.tmp 42) rfl (B := []) HM1.out (by rfl) (dgA a) (by rfl) (by kernel_rfl) (by rw [dgA_size]; rfl) (dgA_one a) (fun w' M' => hK _ _ ?_)
  have HM2 := Lib.hid M'
  clear hK K M' HM1
  refine last_one (k := 7) (by kernel_rfl) (by kernel_rfl) (by rfl) ?_ ?_
  · rfl
  intro K hK
  refine wp_store_blk 31 (.tmp 8) (.tmp 44) rfl (B := [(⟨p, 31, dgA a⟩ : Blk)]) HM2.out (by rfl) (dgA b) (by rfl) (by kernel_rfl) (by rw [dgA_size]; rfl) (dgA_one b) (fun w3 M' => hK _ _ ?_)
  have M3 : Mem w3 W4 [(⟨p, 31, dgA a⟩ : Blk), (⟨q, 31, dgA b⟩ : Blk)] := M'
  clear hK K M' HM2
  simp only [Act.put, List.setIfInBounds_toArray, List.set_cons_zero, List.set_cons_succ]
  have HBW := Lib.hid (Below.trans HW4.out ((M3.below (New.cons hp (New.cons hq (New.nil _)))).mono HW4.out.size))
  obtain ⟨pa1, hpa1⟩ : ∃ n : Nat, dgt a c1 = (n : Int) := ⟨(dgt a c1).toNat, by have := dgt_bd a c1; omega⟩
  obtain ⟨pb1, hpb1⟩ : ∃ n : Nat, dgt b c1 = (n : Int) := ⟨(dgt b c1).toNat, by have := dgt_bd b c1; omega⟩
  obtain ⟨pa2, hpa2⟩ : ∃ n : Nat, dgt a c2 = (n : Int) := ⟨(dgt a c2).toNat, by have := dgt_bd a c2; omega⟩
  obtain ⟨pb2, hpb2⟩ : ∃ n : Nat, dgt b c2 = (n : Int) := ⟨(dgt b c2).toNat, by have := dgt_bd b c2; omega⟩
  have k1 : w3.cell? ⟨p, c1, none⟩ = some (.int .i64 pa1) := by rw [M3.cell (b := p) (t := 31) (cs := dgA a) (by simp) c1, dgA_get a c1 h1, hpa1]
  have k2 : w3.cell? ⟨q, c1, none⟩ = some (.int .i64 pb1) := by rw [M3.cell (b := q) (t := 31) (cs := dgA b) (by simp) c1, dgA_get b c1 h1, hpb1]
  have k3 : w3.cell? ⟨p, c2, none⟩ = some (.int .i64 pa2) := by rw [M3.cell (b := p) (t := 31) (cs := dgA a) (by simp) c2, dgA_get a c2 h2, hpa2]
  have k4 : w3.cell? ⟨q, c2, none⟩ = some (.int .i64 pb2) := by rw [M3.cell (b := q) (t := 31) (cs := dgA b) (by simp) c2, dgA_get b c2 h2, hpb2]
  have lP : p < w3.heap.size := M3.lt (x := (⟨p, 31, dgA a⟩ : Blk)) (by simp)
  have lQ : q < w3.heap.size := M3.lt (x := (⟨q, 31, dgA b⟩ : Blk)) (by simp)
  have h12 : c1 ≠ c2 := by intro h; subst h; omega
  have i1 : (c1 : Int) < 18 := by omega
  have i2 : (c2 : Int) < 18 := by omega
  have i3 : (0 : Int) ≤ (c1 : Int) := by omega
  have i4 : (0 : Int) ≤ (c2 : Int) := by omega
  have i5 : ((c1 : Int) == (c2 : Int)) = false := by rw [beq_eq_false_iff_ne]; omega
  have i7 : (c1 == c2) = false := by rw [beq_eq_false_iff_ne]; exact h12
  have i8 : decide (c1 = c2) = false := by rw [decide_eq_false_iff_not]; exact h12
  have i9 : decide ((c1 : Int) = (c2 : Int)) = false := by rw [decide_eq_false_iff_not]; omega
  have i10 : (c1 != c2) = true := by rw [bne, i7]; rfl
  have i11 : ((c1 : Int) != (c2 : Int)) = true := by rw [bne, i5]; rfl
  have i6 : ¬ ((c1 : Int) = (c2 : Int)) := by omega
  have j1 : pb1 < pa1 := by omega
  have j2 : pa2 < pb2 := by omega
  have j3 : decide ((pb1 : Int) < (pa1 : Int)) = true := by rw [decide_eq_true_iff]; omega
  have j4 : decide ((pa2 : Int) < (pb2 : Int)) = true := by rw [decide_eq_true_iff]; omega
  clear M3 hpa1 hpb1 hpa2 hpb2 hd1 hd2
  go_wp2_with fail
  refine wp_region_rq (by kernel_rfl) (by kernel_rfl) (by kernel_rfl) ?_
  repeat (first
    | (refine B_skip ?_ ?_; (· rfl); (try simp only [Act.put, List.setIfInBounds_toArray, List.set_cons_zero, List.set_cons_succ]))
    | (refine B_move rfl ?_ ?_; (· rfl); (try simp only [Act.eval, Act.put, Array.getD_eq_getD_getElem?, List.getElem?_toArray, List.getElem?_cons_succ, List.getElem?_cons_zero, Option.getD_some, List.setIfInBounds_toArray, List.set_cons_zero, List.set_cons_succ]))
    | (refine B_plain ?_ ?_; (· rfl); intro K hK; go_big_quiet_op; with_reducible refine hK _ ?_; clear hK K)
    | (refine B_callX (v := ?_) (f := 19) rfl (by kernel_rfl) ?_ (fun xq => ?_) ?_; rotate_left; (· rfl); (· ((simp only [List.map_toArray, List.map_cons, List.map_nil, Act.eval, Array.getD_eq_getD_getElem?, List.getElem?_toArray, List.getElem?_cons_succ, List.getElem?_cons_zero, Option.getD_some]); with_reducible apply retB; with_reducible exact (known05_any _))); (try simp only [Act.put, List.setIfInBounds_toArray, List.set_cons_zero, List.set_cons_succ])))
  refine B_nil ?_ rfl ?_ ?_
  · kernel_rfl
  · rfl
  rintro _ ⟨⟨g7, d7⟩, rfl⟩
  simp only [fin, Act.put, List.setIfInBounds_toArray, List.set_cons_zero, List.set_cons_succ]
  go_wp2
  go_ret
  exact ⟨rfl, bplus HBW.out _ _⟩

end Go.Proofs.Ythdcfdfpfagamaa
