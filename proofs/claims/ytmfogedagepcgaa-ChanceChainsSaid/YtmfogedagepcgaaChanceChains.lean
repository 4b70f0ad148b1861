/- The law ChanceChains: its walk. -/
import Derived.Test.YtmfogedagepcgaaTold18
import Derived.Test.YtmfogedagepcgaaOb
namespace Go.Proofs.Ytmfogedagepcgaa
set_option linter.unusedSimpArgs false
set_option linter.unusedVariables false
open Go.RowKit

set_option maxRecDepth 100000 in
set_option maxHeartbeats 4000000 in
theorem chanceChains_long (s o : BitVec 64) (q : Nat) (l : List UInt8) (c : Int) (av : Value) (w : World) (hl : BSl w av l) (h60 : 60 < l.length) :
    Calls Try.prog 16 #[.agg #[.int .u8 (by8 s 0), .int .u8 (by8 s 1), .int .u8 (by8 s 2), .int .u8 (by8 s 3), .int .u8 (by8 s 4), .int .u8 (by8 s 5), .int .u8 (by8 s 6), .int .u8 (by8 s 7)], .int .u8 q, av, .int .i64 c, .agg #[.int .u8 (by8 o 0), .int .u8 (by8 o 1), .int .u8 (by8 o 2), .int .u8 (by8 o 3), .int .u8 (by8 o 4), .int .u8 (by8 o 5), .int .u8 (by8 o 6), .int .u8 (by8 o 7)]] w fun e w' => e = .returned (.bool true) ∧ Below w.heap.size w w' := by
  obtain ⟨ao, cap, rfl, hcap, hz, hcell⟩ := hl.open_
  have hl60 : (60 : Int) < (l.length : Int) := by omega
  go_enter Try.func16, Try.ntmps16
  go_wp2_with fail
  refine (known18_any _).mono ?_
  rintro e w1 ⟨rfl, hb1⟩; obtain ⟨g1, d1, rfl⟩ := plus_of_below hb1; clear hb1
  go_wp2_with fail
  refine (known18_any _).mono ?_
  rintro e w2 ⟨rfl, hb2⟩; obtain ⟨g2, d2, rfl⟩ := plus_of_below hb2; clear hb2
  go_wp2
  go_ret
  exact ⟨rfl, by (repeat' (first | (with_reducible exact Below.refl _ _) | (with_reducible refine bplus ?_ _ _) | (with_reducible refine balloc ?_ _) | (with_reducible refine Below.drew ?_) | (with_reducible refine bdrewN ?_ _) | (with_reducible refine Below.setCell ?_ (by go_size) _)))⟩

set_option maxRecDepth 100000 in
set_option maxHeartbeats 4000000 in
theorem chanceChains_short (s o : BitVec 64) (q : Nat) (l : List UInt8) (c : Int) (av : Value) (w : World) (hq : q ≤ 255) (hl : BSl w av l) (h60 : l.length ≤ 60) :
    Calls Try.prog 16 #[.agg #[.int .u8 (by8 s 0), .int .u8 (by8 s 1), .int .u8 (by8 s 2), .int .u8 (by8 s 3), .int .u8 (by8 s 4), .int .u8 (by8 s 5), .int .u8 (by8 s 6), .int .u8 (by8 s 7)], .int .u8 q, av, .int .i64 c, .agg #[.int .u8 (by8 o 0), .int .u8 (by8 o 1), .int .u8 (by8 o 2), .int .u8 (by8 o 3), .int .u8 (by8 o 4), .int .u8 (by8 o 5), .int .u8 (by8 o 6), .int .u8 (by8 o 7)]] w fun e w' => e = .returned (.bool true) ∧ Below w.heap.size w w' := by
  obtain ⟨ao, cap, rfl, hcap, hz, hcell⟩ := hl.open_
  clear hl
  obtain ⟨n, hn, n1, n2⟩ : ∃ n : Nat, 1 + (q : Int) % 60 = (n : Int) ∧ 1 ≤ n ∧ n ≤ 60 := ⟨1 + q % 60, by omega, by omega, by omega⟩
  have n4 : n ≤ 4096 := by omega
  have HC := Lib.hid hcell
  clear hcell
  go_enter Try.func16, Try.ntmps16
  go_wp2_with fail
  refine (known18_any _).mono ?_
  rintro e w1 ⟨rfl, hb1⟩; obtain ⟨g1, d1, rfl⟩ := plus_of_below hb1; clear hb1
  go_wp2_with fail
  refine (new_mem s n n rfl n1 n4 _ w _ ((((Mem.start w).key #[.int .u8 (by8 s 0), .int .u8 (by8 s 1), .int .u8 (by8 s 2), .int .u8 (by8 s 3), .int .u8 (by8 s 4), .int .u8 (by8 s 5), .int .u8 (by8 s 6), .int .u8 (by8 s 7)] 43 w.heap.size rfl).key #[.int .u8 (by8 o 0), .int .u8 (by8 o 1), .int .u8 (by8 o 2), .int .u8 (by8 o 3), .int .u8 (by8 o 4), .int .u8 (by8 o 5), .int .u8 (by8 o 6), .int .u8 (by8 o 7)] 43 (w.heap.size + 1) (by simp)).plus _ _)).mono ?_
  rintro e w1 ⟨b, rfl, hbb, hM1⟩
  have hb1' : w.heap.size ≤ b := by have := (bplus (Below.refl _ ((w.alloc (.cells #[.int .u8 (by8 s 0), .int .u8 (by8 s 1), .int .u8 (by8 s 2), .int .u8 (by8 s 3), .int .u8 (by8 s 4), .int .u8 (by8 s 5), .int .u8 (by8 s 6), .int .u8 (by8 s 7)] 43)).alloc (.cells #[.int .u8 (by8 o 0), .int .u8 (by8 o 1), .int .u8 (by8 o 2), .int .u8 (by8 o 3), .int .u8 (by8 o 4), .int .u8 (by8 o 5), .int .u8 (by8 o 6), .int .u8 (by8 o 7)] 43))) g1 d1).size; simp at this hbb; omega
  have M1 := Lib.hid hM1
  have c2 := hM1.cell (b := w.heap.size) (t := 43) (cs := #[.int .u8 (by8 s 0), .int .u8 (by8 s 1), .int .u8 (by8 s 2), .int .u8 (by8 s 3), .int .u8 (by8 s 4), .int .u8 (by8 s 5), .int .u8 (by8 s 6), .int .u8 (by8 s 7)]) (by simp)
  have l2 : w.heap.size < w1.heap.size := hM1.lt (x := ⟨w.heap.size, 43, #[.int .u8 (by8 s 0), .int .u8 (by8 s 1), .int .u8 (by8 s 2), .int .u8 (by8 s 3), .int .u8 (by8 s 4), .int .u8 (by8 s 5), .int .u8 (by8 s 6), .int .u8 (by8 s 7)]⟩) (by simp)
  clear hM1
  go_wp2_with fail
  refine calls_opq (fun W => Mem W w (⟨w1.heap.size, 89, #[.int .u8 (by8 s 0), .int .u8 (by8 s 1), .int .u8 (by8 s 2), .int .u8 (by8 s 3), .int .u8 (by8 s 4), .int .u8 (by8 s 5), .int .u8 (by8 s 6), .int .u8 (by8 s 7), .int .i64 n, .int .i64 n]⟩ :: ⟨b, 122, #[.int .u8 (by8 s 0), .int .u8 (by8 s 1), .int .u8 (by8 s 2), .int .u8 (by8 s 3), .int .u8 (by8 s 4), .int .u8 (by8 s 5), .int .u8 (by8 s 6), .int .u8 (by8 s 7), .int .i64 n, .int .i64 n]⟩ :: ⟨w.heap.size + 1, 43, #[.int .u8 (by8 o 0), .int .u8 (by8 o 1), .int .u8 (by8 o 2), .int .u8 (by8 o 3), .int .u8 (by8 o 4), .int .u8 (by8 o 5), .int .u8 (by8 o 6), .int .u8 (by8 o 7)]⟩ :: ⟨w.heap.size, 43, #[.int .u8 (by8 s 0), .int .u8 (by8 s 1), .int .u8 (by8 s 2), .int .u8 (by8 s 3), .int .u8 (by8 s 4), .int .u8 (by8 s 5), .int .u8 (by8 s 6), .int .u8 (by8 s 7)]⟩ :: [])) (M1.out.key _ _ _ rfl) ?_
  intro w2 hM2
  have M2 := Lib.hid hM2
  have hb2 := Lib.hid (show HasBlk w2 b 122 #[.int .u8 (by8 s 0), .int .u8 (by8 s 1), .int .u8 (by8 s 2), .int .u8 (by8 s 3), .int .u8 (by8 s 4), .int .u8 (by8 s 5), .int .u8 (by8 s 6), .int .u8 (by8 s 7), .int .i64 n, .int .i64 n] from hM2.has ⟨b, 122, #[.int .u8 (by8 s 0), .int .u8 (by8 s 1), .int .u8 (by8 s 2), .int .u8 (by8 s 3), .int .u8 (by8 s 4), .int .u8 (by8 s 5), .int .u8 (by8 s 6), .int .u8 (by8 s 7), .int .i64 n, .int .i64 n]⟩ (by simp))
  clear hM2
  refine (told18_to s b n n n4 n4 _ hb2.out).mono ?_
  rintro e w2 ⟨rfl, hb2⟩; obtain ⟨g2, d2, rfl⟩ := plus_of_below hb2; clear hb2
  go_wp2
  go_loopw [66] (fun i wr => ∃ (j k : Nat), i = .int .i64 j ∧ j ≤ l.length ∧ k ≤ n ∧ Mem wr w (⟨w1.heap.size, 89, #[.int .u8 (by8 s 0), .int .u8 (by8 s 1), .int .u8 (by8 s 2), .int .u8 (by8 s 3), .int .u8 (by8 s 4), .int .u8 (by8 s 5), .int .u8 (by8 s 6), .int .u8 (by8 s 7), .int .i64 n, .int .i64 k]⟩ :: ⟨b, 122, #[.int .u8 (by8 s 0), .int .u8 (by8 s 1), .int .u8 (by8 s 2), .int .u8 (by8 s 3), .int .u8 (by8 s 4), .int .u8 (by8 s 5), .int .u8 (by8 s 6), .int .u8 (by8 s 7), .int .i64 n, .int .i64 k]⟩ :: ⟨w.heap.size + 1, 43, #[.int .u8 (by8 o 0), .int .u8 (by8 o 1), .int .u8 (by8 o 2), .int .u8 (by8 o 3), .int .u8 (by8 o 4), .int .u8 (by8 o 5), .int .u8 (by8 o 6), .int .u8 (by8 o 7)]⟩ :: ⟨w.heap.size, 43, #[.int .u8 (by8 s 0), .int .u8 (by8 s 1), .int .u8 (by8 s 2), .int .u8 (by8 s 3), .int .u8 (by8 s 4), .int .u8 (by8 s 5), .int .u8 (by8 s 6), .int .u8 (by8 s 7)]⟩ :: [])) (fun i _ => l.length - (intOf i).toNat)
  case atStart => exact ⟨0, n, rfl, by omega, by omega, M2.out.plus _ _⟩
  case round =>
    obtain ⟨j, k, rfl, hjl, hkn, M⟩ := hrel
    have HM := Lib.hid M
    have hsz := M.size
    clear M
    have HNEW : Hid (New w (⟨w1.heap.size, 89, #[.int .u8 (by8 s 0), .int .u8 (by8 s 1), .int .u8 (by8 s 2), .int .u8 (by8 s 3), .int .u8 (by8 s 4), .int .u8 (by8 s 5), .int .u8 (by8 s 6), .int .u8 (by8 s 7), .int .i64 n, .int .i64 k]⟩ :: ⟨b, 122, #[.int .u8 (by8 s 0), .int .u8 (by8 s 1), .int .u8 (by8 s 2), .int .u8 (by8 s 3), .int .u8 (by8 s 4), .int .u8 (by8 s 5), .int .u8 (by8 s 6), .int .u8 (by8 s 7), .int .i64 n, .int .i64 k]⟩ :: ⟨w.heap.size + 1, 43, #[.int .u8 (by8 o 0), .int .u8 (by8 o 1), .int .u8 (by8 o 2), .int .u8 (by8 o 3), .int .u8 (by8 o 4), .int .u8 (by8 o 5), .int .u8 (by8 o 6), .int .u8 (by8 o 7)]⟩ :: ⟨w.heap.size, 43, #[.int .u8 (by8 s 0), .int .u8 (by8 s 1), .int .u8 (by8 s 2), .int .u8 (by8 s 3), .int .u8 (by8 s 4), .int .u8 (by8 s 5), .int .u8 (by8 s 6), .int .u8 (by8 s 7)]⟩ :: [])) := by
      have := M1.out.size
      intro x hx
      simp at hx
      rcases hx with rfl | rfl | rfl | rfl <;> dsimp only <;> omega
    by_cases hlt : j < l.length
    · obtain ⟨ab, oo, rfl, hab, hc⟩ := (HC.out.resolve_left (fun h => by rw [h] at hlt; simp at hlt))
      obtain ⟨a, ha, ha2⟩ : ∃ a : Nat, (l.getD j 0).toNat = a ∧ a < 256 := ⟨_, rfl, (l.getD j 0).toNat_lt⟩
      have hcj : wr.cell? ⟨ab, oo + j, none⟩ = some (.int .u8 (a : Int)) := by rw [HM.out.oldcell HNEW.out hab, hc j hlt, ha]
      have labr : ab < wr.heap.size := by omega
      have cr := HM.out.cell (b := w1.heap.size) (t := 89) (cs := #[.int .u8 (by8 s 0), .int .u8 (by8 s 1), .int .u8 (by8 s 2), .int .u8 (by8 s 3), .int .u8 (by8 s 4), .int .u8 (by8 s 5), .int .u8 (by8 s 6), .int .u8 (by8 s 7), .int .i64 n, .int .i64 k]) (by simp)
      have lr : w1.heap.size < wr.heap.size := HM.out.lt (x := ⟨w1.heap.size, 89, #[.int .u8 (by8 s 0), .int .u8 (by8 s 1), .int .u8 (by8 s 2), .int .u8 (by8 s 3), .int .u8 (by8 s 4), .int .u8 (by8 s 5), .int .u8 (by8 s 6), .int .u8 (by8 s 7), .int .i64 n, .int .i64 k]⟩) (by simp)
      have co := HM.out.cell (b := w.heap.size + 1) (t := 43) (cs := #[.int .u8 (by8 o 0), .int .u8 (by8 o 1), .int .u8 (by8 o 2), .int .u8 (by8 o 3), .int .u8 (by8 o 4), .int .u8 (by8 o 5), .int .u8 (by8 o 6), .int .u8 (by8 o 7)]) (by simp)
      have lo : w.heap.size + 1 < wr.heap.size := HM.out.lt (x := ⟨w.heap.size + 1, 43, #[.int .u8 (by8 o 0), .int .u8 (by8 o 1), .int .u8 (by8 o 2), .int .u8 (by8 o 3), .int .u8 (by8 o 4), .int .u8 (by8 o 5), .int .u8 (by8 o 6), .int .u8 (by8 o 7)]⟩) (by simp)
      clear hc
      by_cases h4 : (a : Int) % 4 = 0
      · obtain ⟨z, er, HL⟩ : ∃ z er, Hid (ShowLaw s k z er) := showLaw_ex s k
        go_wp2_with fail
        refine (refShow_all s n k (by omega) z er HL.out _).mono ?_
        rintro e w3 ⟨rfl, hb3⟩; obtain ⟨g3, d3, rfl⟩ := plus_of_below hb3; clear hb3
        go_wp2_with (first
          | (refine wpList_store_blk rfl 89 (.tmp 14) (.tmp 76) rfl (B := [_]) (w0 := w) ((HM.out.key #[.int .u8 0, .int .u8 0, .int .u8 0, .int .u8 0, .int .u8 0, .int .u8 0, .int .u8 0, .int .u8 0] 43 wr.heap.size rfl).plus g3 d3) (by rfl) #[.int .u8 (by8 s 0), .int .u8 (by8 s 1), .int .u8 (by8 s 2), .int .u8 (by8 s 3), .int .u8 (by8 s 4), .int .u8 (by8 s 5), .int .u8 (by8 s 6), .int .u8 (by8 s 7), .int .i64 n, .int .i64 (k - 1 : Nat)] (by rfl) (by kernel_rfl) (by rfl) (chc_one s n _) ?_; intro w4 M4)
          | (refine wpList_store_blk rfl 43 (.tmp 17) (.tmp 77) rfl (B := []) M4 (by rfl) #[.int .u8 (by8 z 0), .int .u8 (by8 z 1), .int .u8 (by8 z 2), .int .u8 (by8 z 3), .int .u8 (by8 z 4), .int .u8 (by8 z 5), .int .u8 (by8 z 6), .int .u8 (by8 z 7)] (by rfl) (by kernel_rfl) (by rfl) (dcs_one z) ?_; intro w5 M5; have HM5 := Lib.hid M5; clear M4 M5))
        refine (show_all_mem s b n k (by omega) z er HL.out _ w [_, _] _ HM5.out).mono ?_
        rintro e w6 ⟨rfl, M6⟩
        have x0 := M6.cell (b := wr.heap.size) (t := 43) (cs := #[.int .u8 (by8 z 0), .int .u8 (by8 z 1), .int .u8 (by8 z 2), .int .u8 (by8 z 3), .int .u8 (by8 z 4), .int .u8 (by8 z 5), .int .u8 (by8 z 6), .int .u8 (by8 z 7)]) (by simp)
        have x1 := M6.cell (b := w1.heap.size) (t := 89) (cs := #[.int .u8 (by8 s 0), .int .u8 (by8 s 1), .int .u8 (by8 s 2), .int .u8 (by8 s 3), .int .u8 (by8 s 4), .int .u8 (by8 s 5), .int .u8 (by8 s 6), .int .u8 (by8 s 7), .int .i64 n, .int .i64 (k - 1 : Nat)]) (by simp)
        have y0 : wr.heap.size < w6.heap.size := M6.lt (x := ⟨wr.heap.size, 43, #[.int .u8 (by8 z 0), .int .u8 (by8 z 1), .int .u8 (by8 z 2), .int .u8 (by8 z 3), .int .u8 (by8 z 4), .int .u8 (by8 z 5), .int .u8 (by8 z 6), .int .u8 (by8 z 7)]⟩) (by simp)
        have y1 : w1.heap.size < w6.heap.size := M6.lt (x := ⟨w1.heap.size, 89, #[.int .u8 (by8 s 0), .int .u8 (by8 s 1), .int .u8 (by8 s 2), .int .u8 (by8 s 3), .int .u8 (by8 s 4), .int .u8 (by8 s 5), .int .u8 (by8 s 6), .int .u8 (by8 s 7), .int .i64 n, .int .i64 (k - 1 : Nat)]⟩) (by simp)
        have hb6 := Lib.hid (show HasBlk w6 b 122 #[.int .u8 (by8 s 0), .int .u8 (by8 s 1), .int .u8 (by8 s 2), .int .u8 (by8 s 3), .int .u8 (by8 s 4), .int .u8 (by8 s 5), .int .u8 (by8 s 6), .int .u8 (by8 s 7), .int .i64 n, .int .i64 (k - 1 : Nat)] from M6.has ⟨b, 122, #[.int .u8 (by8 s 0), .int .u8 (by8 s 1), .int .u8 (by8 s 2), .int .u8 (by8 s 3), .int .u8 (by8 s 4), .int .u8 (by8 s 5), .int .u8 (by8 s 6), .int .u8 (by8 s 7), .int .i64 n, .int .i64 (k - 1 : Nat)]⟩ (by simp))
        have HM6 := Lib.hid M6
        clear M6
        go_wp2_with fail
        refine (told18_to s b n (k - 1) n4 (by omega) _ (by (repeat' (first | (with_reducible exact hb6.out) | (with_reducible refine HasBlk.plus ?_ _ _) | (with_reducible refine HasBlk.alloc ?_ _))))).mono ?_
        rintro e w7 ⟨rfl, hb7⟩; obtain ⟨g7, d7, rfl⟩ := plus_of_below hb7; clear hb7
        go_wp2
        go_roundw
        case rel => exact ⟨j + 1, k - 1, by go_num, by omega, by omega, (by (repeat' (first | (with_reducible refine Mem.plus ?_ _ _) | (with_reducible refine Mem.alloc ?_ _) | (exact HM6.out))) : Mem _ w (⟨wr.heap.size, 43, #[.int .u8 (by8 z 0), .int .u8 (by8 z 1), .int .u8 (by8 z 2), .int .u8 (by8 z 3), .int .u8 (by8 z 4), .int .u8 (by8 z 5), .int .u8 (by8 z 6), .int .u8 (by8 z 7)]⟩ :: ⟨w1.heap.size, 89, #[.int .u8 (by8 s 0), .int .u8 (by8 s 1), .int .u8 (by8 s 2), .int .u8 (by8 s 3), .int .u8 (by8 s 4), .int .u8 (by8 s 5), .int .u8 (by8 s 6), .int .u8 (by8 s 7), .int .i64 n, .int .i64 (k - 1 : Nat)]⟩ :: ⟨b, 122, #[.int .u8 (by8 s 0), .int .u8 (by8 s 1), .int .u8 (by8 s 2), .int .u8 (by8 s 3), .int .u8 (by8 s 4), .int .u8 (by8 s 5), .int .u8 (by8 s 6), .int .u8 (by8 s 7), .int .i64 n, .int .i64 (k - 1 : Nat)]⟩ :: ⟨w.heap.size + 1, 43, #[.int .u8 (by8 o 0), .int .u8 (by8 o 1), .int .u8 (by8 o 2), .int .u8 (by8 o 3), .int .u8 (by8 o 4), .int .u8 (by8 o 5), .int .u8 (by8 o 6), .int .u8 (by8 o 7)]⟩ :: ⟨w.heap.size, 43, #[.int .u8 (by8 s 0), .int .u8 (by8 s 1), .int .u8 (by8 s 2), .int .u8 (by8 s 3), .int .u8 (by8 s 4), .int .u8 (by8 s 5), .int .u8 (by8 s 6), .int .u8 (by8 s 7)]⟩ :: [])).drop (by dsimp only; omega)⟩
        case measure => simp [intOf]; omega
      · obtain ⟨i, HI, hi62⟩ : ∃ i : Nat, Hid ((a : Int) / 4 % ((n : Int) + 2) = (i : Int)) ∧ i ≤ 62 := ⟨a / 4 % (n + 2), rfl, by have := Nat.mod_lt (a / 4) (show n + 2 > 0 by omega); omega⟩
        have HI2 : Hid (i ≤ 1048576) := by show _ ≤ _; omega
        obtain ⟨t1, HT1⟩ : ∃ t, Hid (chainF s i = t) := ⟨_, rfl⟩
        go_wp2_with fail
        refine wp_region_rt 9 1 (by kernel_rfl) (by kernel_rfl) (by kernel_rfl) (by kernel_rfl) ?_
        simp only [List.take_succ_cons, List.take_zero]
        repeat (first
          | (refine B_skip ?_ ?_; (· rfl); (try simp only [Act.put, List.setIfInBounds_toArray, List.set_cons_zero, List.set_cons_succ]))
          | (refine B_move rfl ?_ ?_; (· rfl); (try simp only [Act.eval, Act.put, Array.getD_eq_getD_getElem?, List.getElem?_toArray, List.getElem?_cons_succ, List.getElem?_cons_zero, Option.getD_some, List.setIfInBounds_toArray, List.set_cons_zero, List.set_cons_succ]))
          | (refine B_plain ?_ ?_; (· rfl); intro K hK; go_big_quiet_op; with_reducible refine hK _ ?_; clear hK K)
          | (refine B_callX (v := ?_) (f := 57) rfl (by kernel_rfl) ?_ (fun xq => ?_) ?_; rotate_left; (· rfl); (· ((simp only [List.map_toArray, List.map_cons, List.map_nil, Act.eval, Array.getD_eq_getD_getElem?, List.getElem?_toArray, List.getElem?_cons_succ, List.getElem?_cons_zero, Option.getD_some]); with_reducible apply retB; with_reducible exact (place_int s n k _ i HI.out HI2.out t1 HT1.out _))); (try simp only [Act.put, List.setIfInBounds_toArray, List.set_cons_zero, List.set_cons_succ]))
          | (refine B_new (t := 43) (z := .agg #[.int .u8 0, .int .u8 0, .int .u8 0, .int .u8 0, .int .u8 0, .int .u8 0, .int .u8 0, .int .u8 0]) rfl rfl (by kernel_rfl) ?_ ?_; (· rfl)))
        refine B_nil ?_ rfl ?_ ?_
        · kernel_rfl
        · rfl
        rintro _ ⟨⟨g4, d4⟩, rfl⟩
        simp only [fin, Act.put, List.setIfInBounds_toArray, List.set_cons_zero, List.set_cons_succ]
        rintro _ ⟨b21, rfl, hb21, hh⟩
        have M5 := HM.out.found ⟨⟨g4, d4⟩, rfl⟩ hb21 hh
        generalize plus wr g4 d4 = w5 at *
        have HM5 := Lib.hid M5
        have hb21' : w.heap.size ≤ b21 := by have := HM.out.size; omega
        clear M5 hh
        refine last_one (k := 9) (by kernel_rfl) (by kernel_rfl) (by rfl) ?_ ?_
        · rfl
        intro K hK
        refine wp_store_blk 43 (.tmp 21) (.tmp 99) (by rfl) (B := []) HM5.out (by rfl) #[.int .u8 (by8 t1 0), .int .u8 (by8 t1 1), .int .u8 (by8 t1 2), .int .u8 (by8 t1 3), .int .u8 (by8 t1 4), .int .u8 (by8 t1 5), .int .u8 (by8 t1 6), .int .u8 (by8 t1 7)] (by rfl) (by kernel_rfl) (by rfl) (dcs_one t1) (fun w6 M6 => hK _ _ ?_)
        clear hK K HM5
        by_cases h5 : (a : Int) % 4 = 1
        · have co6 := M6.cell (b := w.heap.size + 1) (t := 43) (cs := #[.int .u8 (by8 o 0), .int .u8 (by8 o 1), .int .u8 (by8 o 2), .int .u8 (by8 o 3), .int .u8 (by8 o 4), .int .u8 (by8 o 5), .int .u8 (by8 o 6), .int .u8 (by8 o 7)]) (by simp)
          have HM6' := Lib.hid M6
          clear M6
          go_wp2_with (refine wpList_store_blk rfl 43 (.tmp 21) (.tmp 103) rfl (B := []) HM6'.out (by rfl) #[.int .u8 (by8 o 0), .int .u8 (by8 o 1), .int .u8 (by8 o 2), .int .u8 (by8 o 3), .int .u8 (by8 o 4), .int .u8 (by8 o 5), .int .u8 (by8 o 6), .int .u8 (by8 o 7)] (by rfl) (by kernel_rfl) (by rfl) (dcs_one o) ?_; intro w7 M7; (have x0 := M7.cell (b := b21) (t := 43) (cs := #[.int .u8 (by8 o 0), .int .u8 (by8 o 1), .int .u8 (by8 o 2), .int .u8 (by8 o 3), .int .u8 (by8 o 4), .int .u8 (by8 o 5), .int .u8 (by8 o 6), .int .u8 (by8 o 7)]) (by simp)); (have x1 := M7.cell (b := w1.heap.size) (t := 89) (cs := #[.int .u8 (by8 s 0), .int .u8 (by8 s 1), .int .u8 (by8 s 2), .int .u8 (by8 s 3), .int .u8 (by8 s 4), .int .u8 (by8 s 5), .int .u8 (by8 s 6), .int .u8 (by8 s 7), .int .i64 n, .int .i64 k]) (by simp)); (have y0 : b21 < w7.heap.size := M7.lt (x := ⟨b21, 43, #[.int .u8 (by8 o 0), .int .u8 (by8 o 1), .int .u8 (by8 o 2), .int .u8 (by8 o 3), .int .u8 (by8 o 4), .int .u8 (by8 o 5), .int .u8 (by8 o 6), .int .u8 (by8 o 7)]⟩) (by simp)); (have y1 : w1.heap.size < w7.heap.size := M7.lt (x := ⟨w1.heap.size, 89, #[.int .u8 (by8 s 0), .int .u8 (by8 s 1), .int .u8 (by8 s 2), .int .u8 (by8 s 3), .int .u8 (by8 s 4), .int .u8 (by8 s 5), .int .u8 (by8 s 6), .int .u8 (by8 s 7), .int .i64 n, .int .i64 k]⟩) (by simp)); (have hb6 := Lib.hid (show HasBlk w7 b 122 #[.int .u8 (by8 s 0), .int .u8 (by8 s 1), .int .u8 (by8 s 2), .int .u8 (by8 s 3), .int .u8 (by8 s 4), .int .u8 (by8 s 5), .int .u8 (by8 s 6), .int .u8 (by8 s 7), .int .i64 n, .int .i64 k] from M7.has ⟨b, 122, #[.int .u8 (by8 s 0), .int .u8 (by8 s 1), .int .u8 (by8 s 2), .int .u8 (by8 s 3), .int .u8 (by8 s 4), .int .u8 (by8 s 5), .int .u8 (by8 s 6), .int .u8 (by8 s 7), .int .i64 n, .int .i64 k]⟩ (by simp))); (have HM6 := Lib.hid M7); (clear M7))
          obtain ⟨f, HF⟩ : ∃ f, Hid (fndF s o n = f) := ⟨_, rfl⟩
          obtain ⟨rb, HRB⟩ : ∃ rb, Hid (hasF s o n = rb) := ⟨_, rfl⟩
          obtain ⟨er, HER⟩ : ∃ er : Int, Hid (er = if rb then 0 else 9) := ⟨_, rfl⟩
          go_wp2_with fail
          refine (refAnswer_to s o n k n4 _ f HF.out rb HRB.out er HER.out).mono ?_
          rintro e w8 ⟨rfl, hb8⟩; obtain ⟨g8, d8, rfl⟩ := plus_of_below hb8; clear hb8
          go_wp2_with fail
          refine (answer_to s o b n k n4 _ (by (repeat' (first | (with_reducible exact hb6.out) | (with_reducible refine HasBlk.plus ?_ _ _) | (with_reducible refine HasBlk.alloc ?_ _)))) f HF.out rb HRB.out er HER.out).mono ?_
          rintro e w9 ⟨rfl, hb9⟩; obtain ⟨g9, d9, rfl⟩ := plus_of_below hb9; clear hb9
          go_wp2_with fail
          refine (told18_to s b n k n4 (by omega) _ (by (repeat' (first | (with_reducible exact hb6.out) | (with_reducible refine HasBlk.plus ?_ _ _) | (with_reducible refine HasBlk.alloc ?_ _))))).mono ?_
          rintro e w10 ⟨rfl, hb10⟩; obtain ⟨g10, d10, rfl⟩ := plus_of_below hb10; clear hb10
          go_wp2
          go_roundw
          case rel => exact ⟨j + 1, k, by go_num, by omega, by omega, (by (repeat' (first | (with_reducible refine Mem.plus ?_ _ _) | (with_reducible refine Mem.alloc ?_ _) | (exact HM6.out))) : Mem _ w (⟨b21, 43, #[.int .u8 (by8 o 0), .int .u8 (by8 o 1), .int .u8 (by8 o 2), .int .u8 (by8 o 3), .int .u8 (by8 o 4), .int .u8 (by8 o 5), .int .u8 (by8 o 6), .int .u8 (by8 o 7)]⟩ :: ⟨w1.heap.size, 89, #[.int .u8 (by8 s 0), .int .u8 (by8 s 1), .int .u8 (by8 s 2), .int .u8 (by8 s 3), .int .u8 (by8 s 4), .int .u8 (by8 s 5), .int .u8 (by8 s 6), .int .u8 (by8 s 7), .int .i64 n, .int .i64 k]⟩ :: ⟨b, 122, #[.int .u8 (by8 s 0), .int .u8 (by8 s 1), .int .u8 (by8 s 2), .int .u8 (by8 s 3), .int .u8 (by8 s 4), .int .u8 (by8 s 5), .int .u8 (by8 s 6), .int .u8 (by8 s 7), .int .i64 n, .int .i64 k]⟩ :: ⟨w.heap.size + 1, 43, #[.int .u8 (by8 o 0), .int .u8 (by8 o 1), .int .u8 (by8 o 2), .int .u8 (by8 o 3), .int .u8 (by8 o 4), .int .u8 (by8 o 5), .int .u8 (by8 o 6), .int .u8 (by8 o 7)]⟩ :: ⟨w.heap.size, 43, #[.int .u8 (by8 s 0), .int .u8 (by8 s 1), .int .u8 (by8 s 2), .int .u8 (by8 s 3), .int .u8 (by8 s 4), .int .u8 (by8 s 5), .int .u8 (by8 s 6), .int .u8 (by8 s 7)]⟩ :: [])).drop (by dsimp only; omega)⟩
          case measure => simp [intOf]; omega
        · obtain ⟨t, rfl⟩ : ∃ t, t = t1 := ⟨_, rfl⟩
          have x0 := M6.cell (b := b21) (t := 43) (cs := #[.int .u8 (by8 t 0), .int .u8 (by8 t 1), .int .u8 (by8 t 2), .int .u8 (by8 t 3), .int .u8 (by8 t 4), .int .u8 (by8 t 5), .int .u8 (by8 t 6), .int .u8 (by8 t 7)]) (by simp)
          have x1 := M6.cell (b := w1.heap.size) (t := 89) (cs := #[.int .u8 (by8 s 0), .int .u8 (by8 s 1), .int .u8 (by8 s 2), .int .u8 (by8 s 3), .int .u8 (by8 s 4), .int .u8 (by8 s 5), .int .u8 (by8 s 6), .int .u8 (by8 s 7), .int .i64 n, .int .i64 k]) (by simp)
          have y0 : b21 < w6.heap.size := M6.lt (x := ⟨b21, 43, #[.int .u8 (by8 t 0), .int .u8 (by8 t 1), .int .u8 (by8 t 2), .int .u8 (by8 t 3), .int .u8 (by8 t 4), .int .u8 (by8 t 5), .int .u8 (by8 t 6), .int .u8 (by8 t 7)]⟩) (by simp)
          have y1 : w1.heap.size < w6.heap.size := M6.lt (x := ⟨w1.heap.size, 89, #[.int .u8 (by8 s 0), .int .u8 (by8 s 1), .int .u8 (by8 s 2), .int .u8 (by8 s 3), .int .u8 (by8 s 4), .int .u8 (by8 s 5), .int .u8 (by8 s 6), .int .u8 (by8 s 7), .int .i64 n, .int .i64 k]⟩) (by simp)
          have hb6 := Lib.hid (show HasBlk w6 b 122 #[.int .u8 (by8 s 0), .int .u8 (by8 s 1), .int .u8 (by8 s 2), .int .u8 (by8 s 3), .int .u8 (by8 s 4), .int .u8 (by8 s 5), .int .u8 (by8 s 6), .int .u8 (by8 s 7), .int .i64 n, .int .i64 k] from M6.has ⟨b, 122, #[.int .u8 (by8 s 0), .int .u8 (by8 s 1), .int .u8 (by8 s 2), .int .u8 (by8 s 3), .int .u8 (by8 s 4), .int .u8 (by8 s 5), .int .u8 (by8 s 6), .int .u8 (by8 s 7), .int .i64 n, .int .i64 k]⟩ (by simp))
          have HM6 := Lib.hid M6
          clear M6
          obtain ⟨f, HF⟩ : ∃ f, Hid (fndF s t n = f) := ⟨_, rfl⟩
          obtain ⟨rb, HRB⟩ : ∃ rb, Hid (hasF s t n = rb) := ⟨_, rfl⟩
          obtain ⟨er, HER⟩ : ∃ er : Int, Hid (er = if rb then 0 else 9) := ⟨_, rfl⟩
          go_wp2_with fail
          refine (refAnswer_to s t n k n4 _ f HF.out rb HRB.out er HER.out).mono ?_
          rintro e w8 ⟨rfl, hb8⟩; obtain ⟨g8, d8, rfl⟩ := plus_of_below hb8; clear hb8
          go_wp2_with fail
          refine (answer_to s t b n k n4 _ (by (repeat' (first | (with_reducible exact hb6.out) | (with_reducible refine HasBlk.plus ?_ _ _) | (with_reducible refine HasBlk.alloc ?_ _)))) f HF.out rb HRB.out er HER.out).mono ?_
          rintro e w9 ⟨rfl, hb9⟩; obtain ⟨g9, d9, rfl⟩ := plus_of_below hb9; clear hb9
          go_wp2_with fail
          refine (told18_to s b n k n4 (by omega) _ (by (repeat' (first | (with_reducible exact hb6.out) | (with_reducible refine HasBlk.plus ?_ _ _) | (with_reducible refine HasBlk.alloc ?_ _))))).mono ?_
          rintro e w10 ⟨rfl, hb10⟩; obtain ⟨g10, d10, rfl⟩ := plus_of_below hb10; clear hb10
          go_wp2
          go_roundw
          case rel => exact ⟨j + 1, k, by go_num, by omega, by omega, (by (repeat' (first | (with_reducible refine Mem.plus ?_ _ _) | (with_reducible refine Mem.alloc ?_ _) | (exact HM6.out))) : Mem _ w (⟨b21, 43, #[.int .u8 (by8 t 0), .int .u8 (by8 t 1), .int .u8 (by8 t 2), .int .u8 (by8 t 3), .int .u8 (by8 t 4), .int .u8 (by8 t 5), .int .u8 (by8 t 6), .int .u8 (by8 t 7)]⟩ :: ⟨w1.heap.size, 89, #[.int .u8 (by8 s 0), .int .u8 (by8 s 1), .int .u8 (by8 s 2), .int .u8 (by8 s 3), .int .u8 (by8 s 4), .int .u8 (by8 s 5), .int .u8 (by8 s 6), .int .u8 (by8 s 7), .int .i64 n, .int .i64 k]⟩ :: ⟨b, 122, #[.int .u8 (by8 s 0), .int .u8 (by8 s 1), .int .u8 (by8 s 2), .int .u8 (by8 s 3), .int .u8 (by8 s 4), .int .u8 (by8 s 5), .int .u8 (by8 s 6), .int .u8 (by8 s 7), .int .i64 n, .int .i64 k]⟩ :: ⟨w.heap.size + 1, 43, #[.int .u8 (by8 o 0), .int .u8 (by8 o 1), .int .u8 (by8 o 2), .int .u8 (by8 o 3), .int .u8 (by8 o 4), .int .u8 (by8 o 5), .int .u8 (by8 o 6), .int .u8 (by8 o 7)]⟩ :: ⟨w.heap.size, 43, #[.int .u8 (by8 s 0), .int .u8 (by8 s 1), .int .u8 (by8 s 2), .int .u8 (by8 s 3), .int .u8 (by8 s 4), .int .u8 (by8 s 5), .int .u8 (by8 s 6), .int .u8 (by8 s 7)]⟩ :: [])).drop (by dsimp only; omega)⟩
          case measure => simp [intOf]; omega
    · obtain rfl : j = l.length := by omega
      have cs := HM.out.cell (b := w.heap.size) (t := 43) (cs := #[.int .u8 (by8 s 0), .int .u8 (by8 s 1), .int .u8 (by8 s 2), .int .u8 (by8 s 3), .int .u8 (by8 s 4), .int .u8 (by8 s 5), .int .u8 (by8 s 6), .int .u8 (by8 s 7)]) (by simp)
      have ls : w.heap.size < wr.heap.size := HM.out.lt (x := ⟨w.heap.size, 43, #[.int .u8 (by8 s 0), .int .u8 (by8 s 1), .int .u8 (by8 s 2), .int .u8 (by8 s 3), .int .u8 (by8 s 4), .int .u8 (by8 s 5), .int .u8 (by8 s 6), .int .u8 (by8 s 7)]⟩) (by simp)
      go_wp2_with fail
      refine (new_no s _ (Or.inl (by omega)) _).mono ?_
      rintro e w5 ⟨rfl, hb5⟩; obtain ⟨g5, d5, rfl⟩ := plus_of_below hb5; clear hb5
      go_wp2_with fail
      refine (new_no s _ (Or.inr (by omega)) _).mono ?_
      rintro e w6 ⟨rfl, hb6⟩; obtain ⟨g6, d6, rfl⟩ := plus_of_below hb6; clear hb6
      go_wp2
      go_ret
      exact ⟨rfl, bplus (HM.out.below HNEW.out) _ _⟩

theorem chanceChains_any (s o : BitVec 64) (q : Nat) (l : List UInt8) (c : Int) (av : Value) (w : World) (hq : q ≤ 255) (hl : BSl w av l) :
    Calls Try.prog 16 #[.agg #[.int .u8 (by8 s 0), .int .u8 (by8 s 1), .int .u8 (by8 s 2), .int .u8 (by8 s 3), .int .u8 (by8 s 4), .int .u8 (by8 s 5), .int .u8 (by8 s 6), .int .u8 (by8 s 7)], .int .u8 q, av, .int .i64 c, .agg #[.int .u8 (by8 o 0), .int .u8 (by8 o 1), .int .u8 (by8 o 2), .int .u8 (by8 o 3), .int .u8 (by8 o 4), .int .u8 (by8 o 5), .int .u8 (by8 o 6), .int .u8 (by8 o 7)]] w fun e w' => e = .returned (.bool true) ∧ Below w.heap.size w w' := by
  by_cases h : l.length ≤ 60
  · exact chanceChains_short s o q l c av w hq hl h
  · exact chanceChains_long s o q l c av w hl (by omega)

end Go.Proofs.Ytmfogedagepcgaa
