/- chance: a nil chain's Same; New at an integer. -/
import Derived.Test.YtmfogedagepcgaaFct
namespace Go.Proofs.Ytmfogedagepcgaa
set_option linter.unusedSimpArgs false
set_option linter.unusedVariables false
open Go.RowKit

theorem new_int (s : BitVec 64) (i : Int) (n : Nat) (hi : i = n) (h1 : 1 ≤ n) (h2 : n ≤ 4096) (w : World) :
    Calls Try.prog 53 #[.agg #[.int .u8 (by8 s 0), .int .u8 (by8 s 1), .int .u8 (by8 s 2), .int .u8 (by8 s 3), .int .u8 (by8 s 4), .int .u8 (by8 s 5), .int .u8 (by8 s 6), .int .u8 (by8 s 7)], .int .i64 i] w fun e w' => ∃ b, e = .returned (.tuple #[.pointer (some ⟨b, 0, none⟩), .int .i64 0]) ∧ Below w.heap.size w w' ∧ w.heap.size ≤ b ∧ HasBlk w' b 122 #[.int .u8 (by8 s 0), .int .u8 (by8 s 1), .int .u8 (by8 s 2), .int .u8 (by8 s 3), .int .u8 (by8 s 4), .int .u8 (by8 s 5), .int .u8 (by8 s 6), .int .u8 (by8 s 7), .int .i64 n, .int .i64 n] := by
  subst hi; exact new_yes s n h1 h2 w
/-- A chain that is made, kept. -/
theorem new_mem (s : BitVec 64) (i : Int) (n : Nat) (hi : i = n) (h1 : 1 ≤ n) (h2 : n ≤ 4096) (w w0 : World) (L : List Blk) (M : Mem w w0 L) :
    Calls Try.prog 53 #[.agg #[.int .u8 (by8 s 0), .int .u8 (by8 s 1), .int .u8 (by8 s 2), .int .u8 (by8 s 3), .int .u8 (by8 s 4), .int .u8 (by8 s 5), .int .u8 (by8 s 6), .int .u8 (by8 s 7)], .int .i64 i] w fun e w' => ∃ b, e = .returned (.tuple #[.pointer (some ⟨b, 0, none⟩), .int .i64 0]) ∧ w.heap.size ≤ b ∧ Mem w' w0 (⟨b, 122, #[.int .u8 (by8 s 0), .int .u8 (by8 s 1), .int .u8 (by8 s 2), .int .u8 (by8 s 3), .int .u8 (by8 s 4), .int .u8 (by8 s 5), .int .u8 (by8 s 6), .int .u8 (by8 s 7), .int .i64 n, .int .i64 n]⟩ :: L) := by
  refine (new_int s i n hi h1 h2 w).mono ?_
  rintro e w' ⟨b, rfl, hb, hbb, hblk⟩
  exact ⟨b, rfl, hbb, M.found (Ext.of_below hb) hbb hblk⟩
theorem clone_mem (s : BitVec 64) (b n k : Nat) (w w0 : World) (B L : List Blk) (M : Mem w w0 (B ++ ⟨b, 122, #[.int .u8 (by8 s 0), .int .u8 (by8 s 1), .int .u8 (by8 s 2), .int .u8 (by8 s 3), .int .u8 (by8 s 4), .int .u8 (by8 s 5), .int .u8 (by8 s 6), .int .u8 (by8 s 7), .int .i64 n, .int .i64 k]⟩ :: L)) :
    Calls Try.prog 65 #[.pointer (some ⟨b, 0, none⟩)] w fun e w' => ∃ b', e = .returned (.pointer (some ⟨b', 0, none⟩)) ∧ w.heap.size ≤ b' ∧ Mem w' w0 (⟨b', 122, #[.int .u8 (by8 s 0), .int .u8 (by8 s 1), .int .u8 (by8 s 2), .int .u8 (by8 s 3), .int .u8 (by8 s 4), .int .u8 (by8 s 5), .int .u8 (by8 s 6), .int .u8 (by8 s 7), .int .i64 n, .int .i64 k]⟩ :: (B ++ ⟨b, 122, #[.int .u8 (by8 s 0), .int .u8 (by8 s 1), .int .u8 (by8 s 2), .int .u8 (by8 s 3), .int .u8 (by8 s 4), .int .u8 (by8 s 5), .int .u8 (by8 s 6), .int .u8 (by8 s 7), .int .i64 n, .int .i64 k]⟩ :: L)) := by
  refine (clone_to s b n k w (show HasBlk w b _ _ from M.blk0)).mono ?_
  rintro e w' ⟨b', rfl, hb, hbb, hblk⟩
  exact ⟨b', rfl, hbb, M.found (Ext.of_below hb) hbb hblk⟩
theorem tip_nz (w : World) : Calls Try.prog 60 #[.pointer none] w fun e w' => e = .returned (.agg #[.int .u8 0, .int .u8 0, .int .u8 0, .int .u8 0, .int .u8 0, .int .u8 0, .int .u8 0, .int .u8 0]) ∧ Below w.heap.size w w' := by
  have h := tip_nil w
  rw [dgc_zero] at h; exact h
theorem anchor_nz (w : World) : Calls Try.prog 61 #[.pointer none] w fun e w' => e = .returned (.agg #[.int .u8 0, .int .u8 0, .int .u8 0, .int .u8 0, .int .u8 0, .int .u8 0, .int .u8 0, .int .u8 0]) ∧ Below w.heap.size w w' := by
  have h := anchor_nil w
  rw [dgc_zero] at h; exact h
theorem left_nb (w : World) : Calls Try.prog 63 #[.pointer none] w fun e w' => e = .returned (.int .i64 0) ∧ Below w.heap.size w w' :=
  (left_nil w).mono fun _ _ h => ⟨h.1, by rw [h.2]; exact Below.refl _ _⟩
theorem clone_nb (w : World) : Calls Try.prog 65 #[.pointer none] w fun e w' => e = .returned (.pointer none) ∧ Below w.heap.size w w' :=
  (clone_nil w).mono fun _ _ h => ⟨h.1, by rw [h.2]; exact Below.refl _ _⟩
/-- One step further, or none is left. -/
theorem show_any_mem (s : BitVec 64) (b n k : Nat) (hk : k ≤ 4096) (w w0 : World) (B L : List Blk) (M : Mem w w0 (B ++ ⟨b, 122, #[.int .u8 (by8 s 0), .int .u8 (by8 s 1), .int .u8 (by8 s 2), .int .u8 (by8 s 3), .int .u8 (by8 s 4), .int .u8 (by8 s 5), .int .u8 (by8 s 6), .int .u8 (by8 s 7), .int .i64 n, .int .i64 k]⟩ :: L)) :
    Calls Try.prog 56 #[.pointer (some ⟨b, 0, none⟩)] w fun e w' => (∃ v, e = .returned v) ∧ Mem w' w0 (B ++ ⟨b, 122, #[.int .u8 (by8 s 0), .int .u8 (by8 s 1), .int .u8 (by8 s 2), .int .u8 (by8 s 3), .int .u8 (by8 s 4), .int .u8 (by8 s 5), .int .u8 (by8 s 6), .int .u8 (by8 s 7), .int .i64 n, .int .i64 (k - 1 : Nat)]⟩ :: L) := by
  cases k with
  | zero =>
    refine (show_spent s b n w (show HasBlk w b _ _ from M.blk0)).mono ?_
    rintro e w' ⟨rfl, hb⟩
    exact ⟨⟨_, rfl⟩, M.of_below hb⟩
  | succ k =>
    refine (show_mem s b n k hk _ rfl w w0 B L M).mono ?_
    rintro e w' ⟨rfl, hM⟩
    exact ⟨⟨_, rfl⟩, hM⟩

set_option maxRecDepth 100000 in
theorem same_nn (w : World) :
    Calls Try.prog 64 #[.pointer none, .pointer none] w fun e w' => e = .returned (.bool true) ∧ Below w.heap.size w w' := by
  go_enter Try.func64, Try.ntmps64
  go_wp2
  go_ret
  exact ⟨rfl, by (repeat' (first | (with_reducible exact Below.refl _ _) | (with_reducible refine bplus ?_ _ _) | (with_reducible refine balloc ?_ _) | (with_reducible refine Below.drew ?_) | (with_reducible refine bdrewN ?_ _) | (with_reducible refine Below.setCell ?_ (by go_size) _)))⟩
set_option maxRecDepth 100000 in
theorem same_np (b : Nat) (w : World) :
    Calls Try.prog 64 #[.pointer none, .pointer (some ⟨b, 0, none⟩)] w fun e w' => e = .returned (.bool false) ∧ Below w.heap.size w w' := by
  go_enter Try.func64, Try.ntmps64
  go_wp2
  go_ret
  exact ⟨rfl, by (repeat' (first | (with_reducible exact Below.refl _ _) | (with_reducible refine bplus ?_ _ _) | (with_reducible refine balloc ?_ _) | (with_reducible refine Below.drew ?_) | (with_reducible refine bdrewN ?_ _) | (with_reducible refine Below.setCell ?_ (by go_size) _)))⟩
set_option maxRecDepth 100000 in
theorem same_pn (b : Nat) (w : World) :
    Calls Try.prog 64 #[.pointer (some ⟨b, 0, none⟩), .pointer none] w fun e w' => e = .returned (.bool false) ∧ Below w.heap.size w w' := by
  go_enter Try.func64, Try.ntmps64
  go_wp2
  go_ret
  exact ⟨rfl, by (repeat' (first | (with_reducible exact Below.refl _ _) | (with_reducible refine bplus ?_ _ _) | (with_reducible refine balloc ?_ _) | (with_reducible refine Below.drew ?_) | (with_reducible refine bdrewN ?_ _) | (with_reducible refine Below.setCell ?_ (by go_size) _)))⟩

end Go.Proofs.Ytmfogedagepcgaa
