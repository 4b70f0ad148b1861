/- The law ChanceFulfils: its walk. -/
import Derived.Test.YtmfogedagepcgaaFct
namespace Go.Proofs.Ytmfogedagepcgaa
set_option linter.unusedSimpArgs false
set_option linter.unusedVariables false
open Go.RowKit

set_option maxRecDepth 100000 in
set_option maxHeartbeats 4000000 in
theorem chanceFulfils_any (s o : BitVec 64) (q : Nat) (w : World) (hq : q ≤ 255) :
    Calls Try.prog 17 #[.agg #[.int .u8 (by8 s 0), .int .u8 (by8 s 1), .int .u8 (by8 s 2), .int .u8 (by8 s 3), .int .u8 (by8 s 4), .int .u8 (by8 s 5), .int .u8 (by8 s 6), .int .u8 (by8 s 7)], .agg #[.int .u8 (by8 o 0), .int .u8 (by8 o 1), .int .u8 (by8 o 2), .int .u8 (by8 o 3), .int .u8 (by8 o 4), .int .u8 (by8 o 5), .int .u8 (by8 o 6), .int .u8 (by8 o 7)], .int .u8 q] w fun e w' => e = .returned (.bool true) ∧ Below w.heap.size w w' := by
  obtain ⟨n, hn, n1, n2⟩ : ∃ n : Nat, 1 + (q : Int) % 60 = (n : Int) ∧ 1 ≤ n ∧ n ≤ 60 := ⟨1 + q % 60, by omega, by omega, by omega⟩
  have n4 : n ≤ 4096 := by omega
  obtain ⟨z0, HZ0⟩ : ∃ z, Hid (chainF s n = z) := ⟨_, rfl⟩
  have HDG := Lib.hid dg_zero
  go_enter Try.func17, Try.ntmps17
  go_wp2_with (first
    | (go_at_call 53; refine (new_yes s n n1 n4 _).mono ?_; rintro e w1 ⟨b, rfl, hb1, hbb, hblk⟩; (have M1 := Lib.hid ((((Mem.start w).key #[.int .u8 (by8 s 0), .int .u8 (by8 s 1), .int .u8 (by8 s 2), .int .u8 (by8 s 3), .int .u8 (by8 s 4), .int .u8 (by8 s 5), .int .u8 (by8 s 6), .int .u8 (by8 s 7)] 43 w.heap.size rfl).key #[.int .u8 (by8 o 0), .int .u8 (by8 o 1), .int .u8 (by8 o 2), .int .u8 (by8 o 3), .int .u8 (by8 o 4), .int .u8 (by8 o 5), .int .u8 (by8 o 6), .int .u8 (by8 o 7)] 43 (w.heap.size + 1) (by simp)).found (Ext.of_below hb1) hbb hblk)); (have HB1 := Lib.hid hblk); (have hbb' : w.heap.size ≤ b := by simp at hbb; omega); clear hb1 hbb hblk)
    | (go_at_call 19; refine (known18_any _).mono ?_; rintro e w2 ⟨rfl, hb2⟩; obtain ⟨g2, d2, rfl⟩ := plus_of_below hb2; clear hb2)
    | (go_at_call 60; refine (tip_to s b n n n4 n4 z0 HZ0.out _ (by exact HB1.out.below (by (repeat' (first | (with_reducible exact Below.refl _ _) | (with_reducible refine bplus ?_ _ _) | (with_reducible refine balloc ?_ _) | (with_reducible refine Below.drew ?_) | (with_reducible refine bdrewN ?_ _) | (with_reducible refine Below.setCell ?_ (by go_size) _)))))).mono ?_; rintro e w3 ⟨rfl, hb3⟩; obtain ⟨g3, d3, rfl⟩ := plus_of_below hb3; clear hb3)
    | (go_at_call 61; refine (anchor_to s b n n n4 n4 z0 HZ0.out _ (by exact HB1.out.below (by (repeat' (first | (with_reducible exact Below.refl _ _) | (with_reducible refine bplus ?_ _ _) | (with_reducible refine balloc ?_ _) | (with_reducible refine Below.drew ?_) | (with_reducible refine bdrewN ?_ _) | (with_reducible refine Below.setCell ?_ (by go_size) _)))))).mono ?_; rintro e w4 ⟨rfl, hb4⟩; obtain ⟨g4, d4, rfl⟩ := plus_of_below hb4; clear hb4))
  go_loopw [46] (fun i wr => ∃ (j k : Nat), i = .int .i64 j ∧ j + k = n ∧ Mem wr w ([] ++ ⟨b, 122, #[.int .u8 (by8 s 0), .int .u8 (by8 s 1), .int .u8 (by8 s 2), .int .u8 (by8 s 3), .int .u8 (by8 s 4), .int .u8 (by8 s 5), .int .u8 (by8 s 6), .int .u8 (by8 s 7), .int .i64 n, .int .i64 k]⟩ :: ⟨w.heap.size + 1, 43, #[.int .u8 (by8 o 0), .int .u8 (by8 o 1), .int .u8 (by8 o 2), .int .u8 (by8 o 3), .int .u8 (by8 o 4), .int .u8 (by8 o 5), .int .u8 (by8 o 6), .int .u8 (by8 o 7)]⟩ :: ⟨w.heap.size, 43, #[.int .u8 (by8 s 0), .int .u8 (by8 s 1), .int .u8 (by8 s 2), .int .u8 (by8 s 3), .int .u8 (by8 s 4), .int .u8 (by8 s 5), .int .u8 (by8 s 6), .int .u8 (by8 s 7)]⟩ :: [])) (fun i _ => n - (intOf i).toNat)
  case atStart => exact ⟨0, n, rfl, by omega, M1.out.plus _ _⟩
  case round =>
    obtain ⟨j, k, rfl, hjk, M⟩ := hrel
    have HM := Lib.hid M
    have HB := Lib.hid (show HasBlk wr b 122 #[.int .u8 (by8 s 0), .int .u8 (by8 s 1), .int .u8 (by8 s 2), .int .u8 (by8 s 3), .int .u8 (by8 s 4), .int .u8 (by8 s 5), .int .u8 (by8 s 6), .int .u8 (by8 s 7), .int .i64 n, .int .i64 k] from M.blk0)
    clear M
    by_cases hlt : j < n
    · obtain ⟨k, rfl⟩ : ∃ k', k = k' + 1 := ⟨k - 1, by omega⟩
      obtain ⟨t, HT⟩ : ∃ z, Hid (chainF s (k + 1) = z) := ⟨_, rfl⟩
      obtain ⟨r, HR⟩ : ∃ z, Hid (chainF s k = z) := ⟨_, rfl⟩
      have HRT : Hid (oneF r = t) := by show _ = _; rw [← HR.out, ← HT.out]; rfl
      have HAY := Lib.hid (ans_yes s t n k (by omega) (by rw [HR.out]; exact HRT.out))
      obtain ⟨f, HF⟩ : ∃ z, Hid (fndF s t n = z) := ⟨_, rfl⟩
      have HQT : Hid ((t == t) = true) := by show _ = _; simp
      have HK4 : Hid (k ≤ 4096) := by show _ ≤ _; omega
      have HFT : Hid (oneF f = t) := by show _ = _; rw [← HF.out]; exact HAY.out.2
      go_wp2_with (first
        | (go_at_call 60; refine (tip_to s b n (k + 1) n4 (by omega) t HT.out _ HB.out).mono ?_; rintro e w5 ⟨rfl, hb5⟩; obtain ⟨g5, d5, rfl⟩ := plus_of_below hb5; clear hb5))
      refine calls_opq (fun W => Mem W w ([⟨wr.heap.size + g5.size, 44, #[.int .u8 (by8 t 0), .int .u8 (by8 t 1), .int .u8 (by8 t 2), .int .u8 (by8 t 3), .int .u8 (by8 t 4), .int .u8 (by8 t 5), .int .u8 (by8 t 6), .int .u8 (by8 t 7)]⟩] ++ ⟨b, 122, #[.int .u8 (by8 s 0), .int .u8 (by8 s 1), .int .u8 (by8 s 2), .int .u8 (by8 s 3), .int .u8 (by8 s 4), .int .u8 (by8 s 5), .int .u8 (by8 s 6), .int .u8 (by8 s 7), .int .i64 n, .int .i64 (k + 1 : Nat)]⟩ :: ⟨w.heap.size + 1, 43, #[.int .u8 (by8 o 0), .int .u8 (by8 o 1), .int .u8 (by8 o 2), .int .u8 (by8 o 3), .int .u8 (by8 o 4), .int .u8 (by8 o 5), .int .u8 (by8 o 6), .int .u8 (by8 o 7)]⟩ :: ⟨w.heap.size, 43, #[.int .u8 (by8 s 0), .int .u8 (by8 s 1), .int .u8 (by8 s 2), .int .u8 (by8 s 3), .int .u8 (by8 s 4), .int .u8 (by8 s 5), .int .u8 (by8 s 6), .int .u8 (by8 s 7)]⟩ :: [])) ((HM.out.plus _ _).key _ _ _ (by simp)) ?_
      intro w5 hM5
      have M5 := Lib.hid hM5
      have hb5 := Lib.hid (show HasBlk w5 b 122 #[.int .u8 (by8 s 0), .int .u8 (by8 s 1), .int .u8 (by8 s 2), .int .u8 (by8 s 3), .int .u8 (by8 s 4), .int .u8 (by8 s 5), .int .u8 (by8 s 6), .int .u8 (by8 s 7), .int .i64 n, .int .i64 (k + 1 : Nat)] from hM5.blk0)
      have hz5 : wr.heap.size + g5.size < w5.heap.size := hM5.lt (x := ⟨wr.heap.size + g5.size, 44, #[.int .u8 (by8 t 0), .int .u8 (by8 t 1), .int .u8 (by8 t 2), .int .u8 (by8 t 3), .int .u8 (by8 t 4), .int .u8 (by8 t 5), .int .u8 (by8 t 6), .int .u8 (by8 t 7)]⟩) (by simp)
      clear hM5
      refine (answer_to s t b n (k + 1) n4 w5 hb5.out f HF.out true HAY.out.1 0 (by rfl)).mono ?_
      rintro e w6 ⟨rfl, hb6⟩; obtain ⟨g6, d6, rfl⟩ := plus_of_below hb6; clear hb6
      go_wp2_with fail
      refine calls_opq (fun W => Mem W w ([⟨w5.heap.size + g6.size, 44, #[.int .u8 (by8 f 0), .int .u8 (by8 f 1), .int .u8 (by8 f 2), .int .u8 (by8 f 3), .int .u8 (by8 f 4), .int .u8 (by8 f 5), .int .u8 (by8 f 6), .int .u8 (by8 f 7)]⟩, ⟨wr.heap.size + g5.size, 44, #[.int .u8 (by8 t 0), .int .u8 (by8 t 1), .int .u8 (by8 t 2), .int .u8 (by8 t 3), .int .u8 (by8 t 4), .int .u8 (by8 t 5), .int .u8 (by8 t 6), .int .u8 (by8 t 7)]⟩] ++ ⟨b, 122, #[.int .u8 (by8 s 0), .int .u8 (by8 s 1), .int .u8 (by8 s 2), .int .u8 (by8 s 3), .int .u8 (by8 s 4), .int .u8 (by8 s 5), .int .u8 (by8 s 6), .int .u8 (by8 s 7), .int .i64 n, .int .i64 (k + 1 : Nat)]⟩ :: ⟨w.heap.size + 1, 43, #[.int .u8 (by8 o 0), .int .u8 (by8 o 1), .int .u8 (by8 o 2), .int .u8 (by8 o 3), .int .u8 (by8 o 4), .int .u8 (by8 o 5), .int .u8 (by8 o 6), .int .u8 (by8 o 7)]⟩ :: ⟨w.heap.size, 43, #[.int .u8 (by8 s 0), .int .u8 (by8 s 1), .int .u8 (by8 s 2), .int .u8 (by8 s 3), .int .u8 (by8 s 4), .int .u8 (by8 s 5), .int .u8 (by8 s 6), .int .u8 (by8 s 7)]⟩ :: [])) ((M5.out.plus _ _).key _ _ _ (by simp)) ?_
      intro w6 M6
      refine (show_mem s b n k (by omega) r HR.out w6 w _ _ M6).mono ?_
      rintro e w7 ⟨rfl, hM7⟩
      have M7 := Lib.hid hM7
      have hz7 : w5.heap.size + g6.size < w7.heap.size := hM7.lt (x := ⟨w5.heap.size + g6.size, 44, #[.int .u8 (by8 f 0), .int .u8 (by8 f 1), .int .u8 (by8 f 2), .int .u8 (by8 f 3), .int .u8 (by8 f 4), .int .u8 (by8 f 5), .int .u8 (by8 f 6), .int .u8 (by8 f 7)]⟩) (by simp)
      clear hM7
      go_wp2
      refine wp_opq (fun W => Mem W w ([⟨w7.heap.size, 44, #[.int .u8 (by8 r 0), .int .u8 (by8 r 1), .int .u8 (by8 r 2), .int .u8 (by8 r 3), .int .u8 (by8 r 4), .int .u8 (by8 r 5), .int .u8 (by8 r 6), .int .u8 (by8 r 7)]⟩, ⟨w5.heap.size + g6.size, 44, #[.int .u8 (by8 f 0), .int .u8 (by8 f 1), .int .u8 (by8 f 2), .int .u8 (by8 f 3), .int .u8 (by8 f 4), .int .u8 (by8 f 5), .int .u8 (by8 f 6), .int .u8 (by8 f 7)]⟩, ⟨wr.heap.size + g5.size, 44, #[.int .u8 (by8 t 0), .int .u8 (by8 t 1), .int .u8 (by8 t 2), .int .u8 (by8 t 3), .int .u8 (by8 t 4), .int .u8 (by8 t 5), .int .u8 (by8 t 6), .int .u8 (by8 t 7)]⟩] ++ ⟨b, 122, #[.int .u8 (by8 s 0), .int .u8 (by8 s 1), .int .u8 (by8 s 2), .int .u8 (by8 s 3), .int .u8 (by8 s 4), .int .u8 (by8 s 5), .int .u8 (by8 s 6), .int .u8 (by8 s 7), .int .i64 n, .int .i64 k]⟩ :: ⟨w.heap.size + 1, 43, #[.int .u8 (by8 o 0), .int .u8 (by8 o 1), .int .u8 (by8 o 2), .int .u8 (by8 o 3), .int .u8 (by8 o 4), .int .u8 (by8 o 5), .int .u8 (by8 o 6), .int .u8 (by8 o 7)]⟩ :: ⟨w.heap.size, 43, #[.int .u8 (by8 s 0), .int .u8 (by8 s 1), .int .u8 (by8 s 2), .int .u8 (by8 s 3), .int .u8 (by8 s 4), .int .u8 (by8 s 5), .int .u8 (by8 s 6), .int .u8 (by8 s 7)]⟩ :: [])) (M7.out.key _ _ _ rfl) ?_
      intro w8 hM8
      have M8 := Lib.hid hM8
      have hb8 := Lib.hid (show HasBlk w8 b 122 #[.int .u8 (by8 s 0), .int .u8 (by8 s 1), .int .u8 (by8 s 2), .int .u8 (by8 s 3), .int .u8 (by8 s 4), .int .u8 (by8 s 5), .int .u8 (by8 s 6), .int .u8 (by8 s 7), .int .i64 n, .int .i64 k] from hM8.blk0)
      have c1 := M8.out.cell (b := w7.heap.size) (t := 44) (cs := #[.int .u8 (by8 r 0), .int .u8 (by8 r 1), .int .u8 (by8 r 2), .int .u8 (by8 r 3), .int .u8 (by8 r 4), .int .u8 (by8 r 5), .int .u8 (by8 r 6), .int .u8 (by8 r 7)]) (by simp)
      have c2 := M8.out.cell (b := w5.heap.size + g6.size) (t := 44) (cs := #[.int .u8 (by8 f 0), .int .u8 (by8 f 1), .int .u8 (by8 f 2), .int .u8 (by8 f 3), .int .u8 (by8 f 4), .int .u8 (by8 f 5), .int .u8 (by8 f 6), .int .u8 (by8 f 7)]) (by simp)
      have c3 := M8.out.cell (b := wr.heap.size + g5.size) (t := 44) (cs := #[.int .u8 (by8 t 0), .int .u8 (by8 t 1), .int .u8 (by8 t 2), .int .u8 (by8 t 3), .int .u8 (by8 t 4), .int .u8 (by8 t 5), .int .u8 (by8 t 6), .int .u8 (by8 t 7)]) (by simp)
      have c4 := M8.out.cell (b := w.heap.size + 1) (t := 43) (cs := #[.int .u8 (by8 o 0), .int .u8 (by8 o 1), .int .u8 (by8 o 2), .int .u8 (by8 o 3), .int .u8 (by8 o 4), .int .u8 (by8 o 5), .int .u8 (by8 o 6), .int .u8 (by8 o 7)]) (by simp)
      have z1 : w7.heap.size < w8.heap.size := M8.out.lt (x := ⟨w7.heap.size, 44, #[.int .u8 (by8 r 0), .int .u8 (by8 r 1), .int .u8 (by8 r 2), .int .u8 (by8 r 3), .int .u8 (by8 r 4), .int .u8 (by8 r 5), .int .u8 (by8 r 6), .int .u8 (by8 r 7)]⟩) (by simp)
      have z2 : w5.heap.size + g6.size < w8.heap.size := M8.out.lt (x := ⟨w5.heap.size + g6.size, 44, #[.int .u8 (by8 f 0), .int .u8 (by8 f 1), .int .u8 (by8 f 2), .int .u8 (by8 f 3), .int .u8 (by8 f 4), .int .u8 (by8 f 5), .int .u8 (by8 f 6), .int .u8 (by8 f 7)]⟩) (by simp)
      have z3 : wr.heap.size + g5.size < w8.heap.size := M8.out.lt (x := ⟨wr.heap.size + g5.size, 44, #[.int .u8 (by8 t 0), .int .u8 (by8 t 1), .int .u8 (by8 t 2), .int .u8 (by8 t 3), .int .u8 (by8 t 4), .int .u8 (by8 t 5), .int .u8 (by8 t 6), .int .u8 (by8 t 7)]⟩) (by simp)
      have z4 : w.heap.size + 1 < w8.heap.size := M8.out.lt (x := ⟨w.heap.size + 1, 43, #[.int .u8 (by8 o 0), .int .u8 (by8 o 1), .int .u8 (by8 o 2), .int .u8 (by8 o 3), .int .u8 (by8 o 4), .int .u8 (by8 o 5), .int .u8 (by8 o 6), .int .u8 (by8 o 7)]⟩) (by simp)
      clear hM8
      refine wp_region_rq (by kernel_rfl) (by kernel_rfl) (by kernel_rfl) ?_
      repeat (first
        | (refine B_skip ?_ ?_; (· rfl); (try simp only [Act.put, List.setIfInBounds_toArray, List.set_cons_zero, List.set_cons_succ]))
        | (refine B_move rfl ?_ ?_; (· rfl); (try simp only [Act.eval, Act.put, Array.getD_eq_getD_getElem?, List.getElem?_toArray, List.getElem?_cons_succ, List.getElem?_cons_zero, Option.getD_some, List.setIfInBounds_toArray, List.set_cons_zero, List.set_cons_succ]))
        | (refine B_plain ?_ ?_; (· rfl); intro K hK; go_big_quiet_op; with_reducible refine hK _ ?_; clear hK K)
        | (refine B_callX (v := ?_) (f := 62) rfl (by kernel_rfl) ?_ (fun xq => ?_) ?_; rotate_left; (· rfl); (· ((simp only [List.map_toArray, List.map_cons, List.map_nil, Act.eval, Array.getD_eq_getD_getElem?, List.getElem?_toArray, List.getElem?_cons_succ, List.getElem?_cons_zero, Option.getD_some]); with_reducible apply retB; with_reducible exact (fulfils_to t r t HRT.out true HQT.out _))); (try simp only [Act.put, List.setIfInBounds_toArray, List.set_cons_zero, List.set_cons_succ]))
        | (refine B_callX (v := ?_) (f := 62) rfl (by kernel_rfl) ?_ (fun xq => ?_) ?_; rotate_left; (· rfl); (· ((simp only [List.map_toArray, List.map_cons, List.map_nil, Act.eval, Array.getD_eq_getD_getElem?, List.getElem?_toArray, List.getElem?_cons_succ, List.getElem?_cons_zero, Option.getD_some]); with_reducible apply retB; with_reducible exact (fulfils_to t f t HFT.out true HQT.out _))); (try simp only [Act.put, List.setIfInBounds_toArray, List.set_cons_zero, List.set_cons_succ]))
        | (refine B_callX (v := ?_) (f := 60) rfl (by kernel_rfl) ?_ (fun xq => ?_) ?_; rotate_left; (· rfl); (· ((simp only [List.map_toArray, List.map_cons, List.map_nil, Act.eval, Array.getD_eq_getD_getElem?, List.getElem?_toArray, List.getElem?_cons_succ, List.getElem?_cons_zero, Option.getD_some]); with_reducible apply retB; with_reducible exact (tip_to s b n k n4 HK4.out r HR.out _ (hb8.out.plus _ _)))); (try simp only [Act.put, List.setIfInBounds_toArray, List.set_cons_zero, List.set_cons_succ]))
        | (refine B_callX (v := ?_) (f := 63) rfl (by kernel_rfl) ?_ (fun xq => ?_) ?_; rotate_left; (· rfl); (· ((simp only [List.map_toArray, List.map_cons, List.map_nil, Act.eval, Array.getD_eq_getD_getElem?, List.getElem?_toArray, List.getElem?_cons_succ, List.getElem?_cons_zero, Option.getD_some]); with_reducible apply retB; with_reducible exact (left_b s b n k _ (hb8.out.plus _ _)))); (try simp only [Act.put, List.setIfInBounds_toArray, List.set_cons_zero, List.set_cons_succ])))
      refine B_nil ?_ rfl ?_ ?_
      · kernel_rfl
      · rfl
      rintro _ ⟨⟨g8, d8⟩, rfl⟩
      simp only [fin, Act.put, List.setIfInBounds_toArray, List.set_cons_zero, List.set_cons_succ]
      go_wp2
      obtain ⟨y, HY⟩ : ∃ y, Hid (oneF o = y) := ⟨_, rfl⟩
      obtain ⟨kk, HKK⟩ : ∃ kk : Bool, Hid ((y == t) = kk) := ⟨_, rfl⟩
      refine wp_region_rq (by kernel_rfl) (by kernel_rfl) (by kernel_rfl) ?_
      repeat (first
        | (refine B_skip ?_ ?_; (· rfl); (try simp only [Act.put, List.setIfInBounds_toArray, List.set_cons_zero, List.set_cons_succ]))
        | (refine B_move rfl ?_ ?_; (· rfl); (try simp only [Act.eval, Act.put, Array.getD_eq_getD_getElem?, List.getElem?_toArray, List.getElem?_cons_succ, List.getElem?_cons_zero, Option.getD_some, List.setIfInBounds_toArray, List.set_cons_zero, List.set_cons_succ]))
        | (refine B_plain ?_ ?_; (· rfl); intro K hK; go_big_quiet_op; with_reducible refine hK _ ?_; clear hK K)
        | (refine B_callX (v := ?_) (f := 62) rfl (by kernel_rfl) ?_ (fun xq => ?_) ?_; rotate_left; (· rfl); (· ((simp only [List.map_toArray, List.map_cons, List.map_nil, Act.eval, Array.getD_eq_getD_getElem?, List.getElem?_toArray, List.getElem?_cons_succ, List.getElem?_cons_zero, Option.getD_some]); with_reducible apply retB; with_reducible exact (fulfils_to t o y HY.out kk HKK.out _))); (try simp only [Act.put, List.setIfInBounds_toArray, List.set_cons_zero, List.set_cons_succ]))
        | (refine B_callX (v := ?_) (f := 35) rfl (by kernel_rfl) ?_ (fun xq => ?_) ?_; rotate_left; (· rfl); (· ((simp only [List.map_toArray, List.map_cons, List.map_nil, Act.eval, Array.getD_eq_getD_getElem?, List.getElem?_toArray, List.getElem?_cons_succ, List.getElem?_cons_zero, Option.getD_some]); with_reducible apply retB; with_reducible exact (one_to o y HY.out _))); (try simp only [Act.put, List.setIfInBounds_toArray, List.set_cons_zero, List.set_cons_succ])))
      refine B_nil ?_ rfl ?_ ?_
      · kernel_rfl
      · rfl
      rintro _ ⟨⟨g9, d9⟩, rfl⟩
      simp only [fin, Act.put, List.setIfInBounds_toArray, List.set_cons_zero, List.set_cons_succ]
      have HKX := HKK.out
      go_wp2
      · rename_i h
        exfalso
        rw [HKX] at h
        cases kk <;> simp at h
      all_goals
        go_roundw
        case rel => exact ⟨j + 1, k, by go_num, by omega, ((((M8.out.plus _ _).drop (by have := HM.out.size; have := M5.out.size; have := M7.out.size; dsimp only; omega)).drop (by have := HM.out.size; have := M5.out.size; dsimp only; omega)).drop (by have := HM.out.size; dsimp only; omega))⟩
        case measure => simp [intOf]; omega
    · obtain ⟨rfl, rfl⟩ : j = n ∧ k = 0 := ⟨by omega, by omega⟩
      obtain ⟨x0, HX0⟩ : ∃ z, Hid (chainF s 0 = z) := ⟨_, rfl⟩
      go_wp2_with (first
        | (go_at_call 56; refine (show_spent s b j _ HB.out).mono ?_; rintro e w10 ⟨rfl, hb10⟩; obtain ⟨g10, d10, rfl⟩ := plus_of_below hb10; clear hb10))
      refine wp_opq (fun W => Mem W w ([⟨wr.heap.size + g10.size, 44, #[.int .u8 (by8 (0#64) 0), .int .u8 (by8 (0#64) 1), .int .u8 (by8 (0#64) 2), .int .u8 (by8 (0#64) 3), .int .u8 (by8 (0#64) 4), .int .u8 (by8 (0#64) 5), .int .u8 (by8 (0#64) 6), .int .u8 (by8 (0#64) 7)]⟩] ++ ⟨b, 122, #[.int .u8 (by8 s 0), .int .u8 (by8 s 1), .int .u8 (by8 s 2), .int .u8 (by8 s 3), .int .u8 (by8 s 4), .int .u8 (by8 s 5), .int .u8 (by8 s 6), .int .u8 (by8 s 7), .int .i64 j, .int .i64 0]⟩ :: ⟨w.heap.size + 1, 43, #[.int .u8 (by8 o 0), .int .u8 (by8 o 1), .int .u8 (by8 o 2), .int .u8 (by8 o 3), .int .u8 (by8 o 4), .int .u8 (by8 o 5), .int .u8 (by8 o 6), .int .u8 (by8 o 7)]⟩ :: ⟨w.heap.size, 43, #[.int .u8 (by8 s 0), .int .u8 (by8 s 1), .int .u8 (by8 s 2), .int .u8 (by8 s 3), .int .u8 (by8 s 4), .int .u8 (by8 s 5), .int .u8 (by8 s 6), .int .u8 (by8 s 7)]⟩ :: [])) ((HM.out.plus _ _).key _ _ _ (by simp)) ?_
      intro w11 hM11
      have M11 := Lib.hid hM11
      have hb11 := Lib.hid (show HasBlk w11 b 122 #[.int .u8 (by8 s 0), .int .u8 (by8 s 1), .int .u8 (by8 s 2), .int .u8 (by8 s 3), .int .u8 (by8 s 4), .int .u8 (by8 s 5), .int .u8 (by8 s 6), .int .u8 (by8 s 7), .int .i64 j, .int .i64 0] from hM11.blk0)
      have c1 := M11.out.cell (b := wr.heap.size + g10.size) (t := 44) (cs := #[.int .u8 (by8 (0#64) 0), .int .u8 (by8 (0#64) 1), .int .u8 (by8 (0#64) 2), .int .u8 (by8 (0#64) 3), .int .u8 (by8 (0#64) 4), .int .u8 (by8 (0#64) 5), .int .u8 (by8 (0#64) 6), .int .u8 (by8 (0#64) 7)]) (by simp)
      have c2 := M11.out.cell (b := w.heap.size) (t := 43) (cs := #[.int .u8 (by8 s 0), .int .u8 (by8 s 1), .int .u8 (by8 s 2), .int .u8 (by8 s 3), .int .u8 (by8 s 4), .int .u8 (by8 s 5), .int .u8 (by8 s 6), .int .u8 (by8 s 7)]) (by simp)
      have z1 : wr.heap.size + g10.size < w11.heap.size := M11.out.lt (x := ⟨wr.heap.size + g10.size, 44, #[.int .u8 (by8 (0#64) 0), .int .u8 (by8 (0#64) 1), .int .u8 (by8 (0#64) 2), .int .u8 (by8 (0#64) 3), .int .u8 (by8 (0#64) 4), .int .u8 (by8 (0#64) 5), .int .u8 (by8 (0#64) 6), .int .u8 (by8 (0#64) 7)]⟩) (by simp)
      have z2 : w.heap.size < w11.heap.size := M11.out.lt (x := ⟨w.heap.size, 43, #[.int .u8 (by8 s 0), .int .u8 (by8 s 1), .int .u8 (by8 s 2), .int .u8 (by8 s 3), .int .u8 (by8 s 4), .int .u8 (by8 s 5), .int .u8 (by8 s 6), .int .u8 (by8 s 7)]⟩) (by simp)
      rw [dgc_zero] at c1
      have HBW := Lib.hid (M11.out.below (by have := HM.out.size; intro x hx; simp at hx; rcases hx with rfl | rfl | rfl | rfl <;> simp <;> omega))
      have HK0 : Hid (chainF s 0 = s) := by show _ = _; rfl
      clear hM11
      refine wp_region_rq (by kernel_rfl) (by kernel_rfl) (by kernel_rfl) ?_
      repeat (first
        | (refine B_skip ?_ ?_; (· rfl); (try simp only [Act.put, List.setIfInBounds_toArray, List.set_cons_zero, List.set_cons_succ]))
        | (refine B_move rfl ?_ ?_; (· rfl); (try simp only [Act.eval, Act.put, Array.getD_eq_getD_getElem?, List.getElem?_toArray, List.getElem?_cons_succ, List.getElem?_cons_zero, Option.getD_some, List.setIfInBounds_toArray, List.set_cons_zero, List.set_cons_succ]))
        | (refine B_plain ?_ ?_; (· rfl); intro K hK; go_big_quiet_op; with_reducible refine hK _ ?_; clear hK K)
        | (refine B_callX (v := ?_) (f := 60) rfl (by kernel_rfl) ?_ (fun xq => ?_) ?_; rotate_left; (· rfl); (· ((simp only [List.map_toArray, List.map_cons, List.map_nil, Act.eval, Array.getD_eq_getD_getElem?, List.getElem?_toArray, List.getElem?_cons_succ, List.getElem?_cons_zero, Option.getD_some]); with_reducible apply retB; with_reducible exact (tip_to s b j 0 n4 (Nat.zero_le _) s HK0.out _ (hb11.out.plus _ _)))); (try simp only [Act.put, List.setIfInBounds_toArray, List.set_cons_zero, List.set_cons_succ]))
        | (refine B_callX (v := ?_) (f := 63) rfl (by kernel_rfl) ?_ (fun xq => ?_) ?_; rotate_left; (· rfl); (· ((simp only [List.map_toArray, List.map_cons, List.map_nil, Act.eval, Array.getD_eq_getD_getElem?, List.getElem?_toArray, List.getElem?_cons_succ, List.getElem?_cons_zero, Option.getD_some]); with_reducible apply retB; with_reducible exact (left_b s b j 0 _ (hb11.out.plus _ _)))); (try simp only [Act.put, List.setIfInBounds_toArray, List.set_cons_zero, List.set_cons_succ])))
      refine B_nil ?_ rfl ?_ ?_
      · kernel_rfl
      · rfl
      rintro _ ⟨⟨g12, d12⟩, rfl⟩
      simp only [fin, Act.put, List.setIfInBounds_toArray, List.set_cons_zero, List.set_cons_succ]
      go_wp2
      go_ret
      exact ⟨rfl, bplus HBW.out _ _⟩

end Go.Proofs.Ytmfogedagepcgaa
