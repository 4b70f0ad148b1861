/- The law HashKeeps: its walk. -/
import Derived.Test.YtmfogedagepcgaaWs
import Derived.Test.YtmfogedagepcgaaSto
import Derived.Test.YtmfogedagepcgaaHst
namespace Go.Proofs.Ytmfogedagepcgaa
set_option linter.unusedSimpArgs false
set_option linter.unusedVariables false
open Go.RowKit

set_option maxRecDepth 100000 in
set_option maxHeartbeats 1000000 in
theorem hashKeeps_long (x : BitVec 64) (ao : Option Addr) (n cap : Nat) (k : Int) (w : World) (h : 400 < n) :
    Calls Try.prog 15 #[.slice ao n cap, .agg #[.int .u8 (by8 x 0), .int .u8 (by8 x 1), .int .u8 (by8 x 2), .int .u8 (by8 x 3), .int .u8 (by8 x 4), .int .u8 (by8 x 5), .int .u8 (by8 x 6), .int .u8 (by8 x 7)], .int .u8 k] w fun e w' => e = .returned (.bool true) ∧ Below w.heap.size w w' := by
  go_enter Try.func15, Try.ntmps15
  go_wp2_with (go_at_call 30; refine (known02_any _).mono ?_; rintro e w1 ⟨rfl, hb1⟩; obtain ⟨g1, d1, rfl⟩ := plus_of_below hb1; clear hb1)
  go_ret
  exact ⟨rfl, by (repeat' (first | (with_reducible exact Below.refl _ _) | (with_reducible refine bplus ?_ _ _) | (with_reducible refine balloc ?_ _) | (with_reducible refine Below.drew ?_) | (with_reducible refine bdrewN ?_ _) | (with_reducible refine Below.setCell ?_ (by go_size) _)))⟩

/-- The slice's block, of bytes; or there is no byte. -/
def Byt (ao : Option Addr) (m : Nat) (S : List Blk) : Prop := m = 0 ∨ ∃ r cur, ao = some ⟨r, 0, none⟩ ∧ S = [⟨r, 5, cur⟩] ∧ ∀ j, j < m → ∃ z : Int, cur[j]? = some (.int .u8 z)
theorem Byt.set {m : Nat} {cur : Array Value} (h : ∀ j, j < m → ∃ z : Int, cur[j]? = some (.int .u8 z)) (k : Nat) (z : Int) : ∀ j, j < m → ∃ z' : Int, (cur.setIfInBounds k (.int .u8 z))[j]? = some (.int .u8 z') := fun j hj => by
  obtain ⟨y, hy⟩ := h j hj
  rw [Array.getElem?_setIfInBounds]
  split
  · rename_i he
    subst he
    have := (Array.getElem?_eq_some_iff.1 hy).1
    rw [if_pos this]
    exact ⟨z, rfl⟩
  · exact ⟨y, hy⟩

theorem Row.byt {n cap : Nat} {ao : Option Addr} {l : List UInt8} {B : List Blk} (h : Row 5 1 (.slice ao n cap) n (bcs l) B) : Byt ao n B := by
  have hn := h.len
  rw [bcs_len] at hn
  generalize hy : bcs l = ys at h
  cases h with
  | void => exact .inl rfl
  | one r n cap cur h1 h2 h3 =>
    refine .inr ⟨r, cur, rfl, rfl, fun j hj => ?_⟩
    have h4 := congrArg (fun l => l[j]?) hy
    simp only [Nat.mul_one] at h4
    rw [bcs_get l j (by omega), List.getElem?_take, if_pos hj, Array.getElem?_toList] at h4
    exact ⟨_, h4.symm⟩

theorem Mem.front {w w0 : World} {E C D : Blk} {A B : List Blk} (M : Mem w w0 (E :: (B ++ C :: (A ++ [D])))) : Mem w w0 (A ++ (E :: (B ++ C :: [D]))) := by
  have h := List.perm_append_comm_assoc (E :: (B ++ [C])) A [D]
  have e1 : (E :: (B ++ [C])) ++ (A ++ [D]) = E :: (B ++ C :: (A ++ [D])) := by simp
  have e2 : (E :: (B ++ [C])) ++ [D] = E :: (B ++ C :: [D]) := by simp
  rw [e1, e2] at h
  exact M.perm h

theorem stream_byt (x : BitVec 64) (n : Nat) (i : Int) (hi : i = n) (h2 : n ≤ 1048576) (w : World) :
    Calls Try.prog 36 #[.agg #[.int .u8 (by8 x 0), .int .u8 (by8 x 1), .int .u8 (by8 x 2), .int .u8 (by8 x 3), .int .u8 (by8 x 4), .int .u8 (by8 x 5), .int .u8 (by8 x 6), .int .u8 (by8 x 7)], .int .i64 i] w fun e w' => ∃ ao cap S, e = .returned (.slice ao n cap) ∧ Below w.heap.size w w' ∧ Byt ao n S ∧ S.Pairwise (fun x y => x.no ≠ y.no) ∧ ∀ y ∈ S, w.heap.size ≤ y.no ∧ HasBlk w' y.no y.ty y.cs := by
  subst hi
  by_cases h : 1 ≤ n
  · refine (stream_own x n h h2 w).mono ?_
    rintro e w' ⟨b, cs, rfl, h1, h2, h3, h4⟩
    refine ⟨_, n, [⟨b, 5, cs⟩], rfl, h1, .inr ⟨b, cs, rfl, rfl, fun j hj => ?_⟩, by simp, fun y hy => ?_⟩
    · obtain ⟨ao', cap', e1, -, h5⟩ := h2
      rw [streamB_len] at e1 h5
      cases e1
      rcases h5 with h5 | ⟨b', o', e2, -, h6⟩
      · omega
      · cases e2
        have := h6 j hj
        rw [Nat.zero_add, h4.cell] at this
        exact ⟨_, this⟩
    · obtain rfl := List.mem_singleton.1 hy
      exact ⟨h3, h4⟩
  · obtain rfl : n = 0 := by omega
    refine (stream_none x 0 (by omega) w).mono ?_
    rintro e w' ⟨rfl, h1⟩
    exact ⟨_, 0, [], rfl, h1, .inl rfl, by simp, by simp⟩

set_option maxRecDepth 100000 in
set_option maxHeartbeats 4000000 in
theorem hashKeeps_yes (va : Value) (b : List UInt8) (x : BitVec 64) (n : Nat) (hn : n ≤ 255) (w : World) (lb : b.length ≤ 400) (hb : BSl w va b) :
    Calls Try.prog 15 #[va, .agg #[.int .u8 (by8 x 0), .int .u8 (by8 x 1), .int .u8 (by8 x 2), .int .u8 (by8 x 3), .int .u8 (by8 x 4), .int .u8 (by8 x 5), .int .u8 (by8 x 6), .int .u8 (by8 x 7)], .int .u8 n] w fun e w' => e = .returned (.bool true) ∧ Below w.heap.size w w' := by
  obtain ⟨bo, bcap, rfl, hb1, hb2, -⟩ := hb.open_
  have HB := Lib.hid hb
  have hn2 : n ≤ 1048576 := by omega
  obtain ⟨s0, HS0⟩ : ∃ s, Hid (stF [] = s) := ⟨_, rfl⟩
  obtain ⟨sb, HSB⟩ : ∃ s, Hid (stF b = s) := ⟨_, rfl⟩
  obtain ⟨zb, HZB⟩ : ∃ z, Hid (ofF b = z) := ⟨_, rfl⟩
  obtain ⟨z0, HZ0⟩ : ∃ z, Hid (ofF [] = z) := ⟨_, rfl⟩
  have HQB : Hid ((b == b) = true) := by show _ = _; simp
  clear hb
  go_enter Try.func15, Try.ntmps15
  go_wp2_with (first
    | (go_at_call 30; refine (known02_any _).mono ?_; rintro e w1 ⟨rfl, hb1⟩; obtain ⟨g1, d1, rfl⟩ := plus_of_below hb1; clear hb1; (have M1 := (Mem.start w).key #[.int .u8 (by8 x 0), .int .u8 (by8 x 1), .int .u8 (by8 x 2), .int .u8 (by8 x 3), .int .u8 (by8 x 4), .int .u8 (by8 x 5), .int .u8 (by8 x 6), .int .u8 (by8 x 7)] 43 w.heap.size rfl |>.plus g1 d1); (obtain ⟨W, hW⟩ : ∃ W, W = plus (w.alloc (.cells #[.int .u8 (by8 x 0), .int .u8 (by8 x 1), .int .u8 (by8 x 2), .int .u8 (by8 x 3), .int .u8 (by8 x 4), .int .u8 (by8 x 5), .int .u8 (by8 x 6), .int .u8 (by8 x 7)] 43)) g1 d1 := ⟨_, rfl⟩); (rw [← hW] at M1); (rw [← hW]); (have hws : w.heap.size ≤ W.heap.size := M1.size); (have HM1 := Lib.hid (show Mem (W.alloc (.cells #[] 5)) w ([⟨W.heap.size, 5, #[]⟩] ++ [⟨w.heap.size, 43, #[.int .u8 (by8 x 0), .int .u8 (by8 x 1), .int .u8 (by8 x 2), .int .u8 (by8 x 3), .int .u8 (by8 x 4), .int .u8 (by8 x 5), .int .u8 (by8 x 6), .int .u8 (by8 x 7)]⟩]) from M1.key #[] 5 W.heap.size rfl)); (have HB1 := Lib.hid ((HB.out.below (M1.below (New.cons (Nat.le_refl _) (New.nil _)))).alloc (.cells #[] 5))); (have HE1 := Lib.hid (Row.empty 5 1 W.heap.size)); (have HN1 : Hid (New w [⟨W.heap.size, 5, #[]⟩]) := New.cons hws (New.nil _)); clear hW M1)
    | (at_builtin; refine wpList_append_row rfl (.tmp 22) (.tmp 23) 60 rfl elt_u8 HM1.out HN1.out _ _ _ (by rfl) HE1.out _ _ _ (bcs b) (by rfl) (by rw [bcs_len]; simp) (by simpa using hb2) HB1.out.cells.2.2 (bcs_one b) (by unfold maxLen; omega) (by omega) b.length (by simp) (bcs b) (by simp) (fun ao' cap' B' w' R' M' hB' => ?_); (have HRA := Lib.hid R'); (have HM2 := Lib.hid M'); (have HNA := Lib.hid hB'); clear R' M' hB' HM1 HB1 HE1 HN1))
  refine (writer_mem _ w _ HM2.out s0 HS0.out).mono ?_
  rintro e w3 ⟨p, rfl, hp, M3⟩
  have hp0 : w.heap.size ≤ p := by have := HM2.out.size; omega
  have HM3 := Lib.hid M3
  have HN3 : Hid (New w (B' ++ [(⟨w.heap.size, 43, #[.int .u8 (by8 x 0), .int .u8 (by8 x 1), .int .u8 (by8 x 2), .int .u8 (by8 x 3), .int .u8 (by8 x 4), .int .u8 (by8 x 5), .int .u8 (by8 x 6), .int .u8 (by8 x 7)]⟩ : Blk)])) := New.app HNA.out (New.cons (Nat.le_refl _) (New.nil _))
  clear M3 hp HM2
  go_wp2_with fail
  refine (write_mem p 0 none [] b b rfl (.slice ao' b.length cap') w3 w [] (B' ++ [(⟨w.heap.size, 43, #[.int .u8 (by8 x 0), .int .u8 (by8 x 1), .int .u8 (by8 x 2), .int .u8 (by8 x 3), .int .u8 (by8 x 4), .int .u8 (by8 x 5), .int .u8 (by8 x 6), .int .u8 (by8 x 7)]⟩ : Blk)]) (by simp; omega) s0 sb HS0.out HSB.out .void (New.nil _) HM3.out (fun W hW => HRA.out.bslH (fun x hx => hW.has x (by simp [hx]))) hp0).mono ?_
  rintro e w4 ⟨rfl, ao4, cap4, B4, R4, hB4, M4⟩
  have HR4 := Lib.hid R4
  have HM4 := Lib.hid M4
  have HVO := Lib.hid (HRA.out.bslH (w := w4) (fun x hx => M4.has x (by simp [hx])))
  have HN4 : Hid (New w (B4 ++ ⟨p, 119, wcs (.slice ao4 b.length cap4) sb⟩ :: (B' ++ [(⟨w.heap.size, 43, #[.int .u8 (by8 x 0), .int .u8 (by8 x 1), .int .u8 (by8 x 2), .int .u8 (by8 x 3), .int .u8 (by8 x 4), .int .u8 (by8 x 5), .int .u8 (by8 x 6), .int .u8 (by8 x 7)]⟩ : Blk)]))) := New.app hB4 (New.cons hp0 HN3.out)
  clear R4 M4 HM3
  go_wp2_with fail
  refine (of_bytes _ b _ HVO.out (by omega) zb HZB.out).mono ?_
  rintro e w5 ⟨rfl, hb5⟩; obtain ⟨g5, d5, rfl⟩ := plus_of_below hb5; clear hb5
  go_wp2_with fail
  refine calls_mem (fun W => Mem W w (B' ++ ((⟨w4.heap.size + g5.size, 44, #[.int .u8 (by8 zb 0), .int .u8 (by8 zb 1), .int .u8 (by8 zb 2), .int .u8 (by8 zb 3), .int .u8 (by8 zb 4), .int .u8 (by8 zb 5), .int .u8 (by8 zb 6), .int .u8 (by8 zb 7)]⟩ : Blk) :: (B4 ++ ⟨p, 119, wcs (.slice ao4 b.length cap4) sb⟩ :: [(⟨w.heap.size, 43, #[.int .u8 (by8 x 0), .int .u8 (by8 x 1), .int .u8 (by8 x 2), .int .u8 (by8 x 3), .int .u8 (by8 x 4), .int .u8 (by8 x 5), .int .u8 (by8 x 6), .int .u8 (by8 x 7)]⟩ : Blk)])))) (Mem.front ((HM4.out.plus _ _).key _ _ (w4.heap.size + g5.size) (by simp))) ?_
  intro w6 M6
  have hE : w.heap.size ≤ w4.heap.size + g5.size := by have := HM4.out.size; omega
  have HNR : Hid (New w ((⟨w4.heap.size + g5.size, 44, #[.int .u8 (by8 zb 0), .int .u8 (by8 zb 1), .int .u8 (by8 zb 2), .int .u8 (by8 zb 3), .int .u8 (by8 zb 4), .int .u8 (by8 zb 5), .int .u8 (by8 zb 6), .int .u8 (by8 zb 7)]⟩ : Blk) :: (B4 ++ ⟨p, 119, wcs (.slice ao4 b.length cap4) sb⟩ :: [(⟨w.heap.size, 43, #[.int .u8 (by8 x 0), .int .u8 (by8 x 1), .int .u8 (by8 x 2), .int .u8 (by8 x 3), .int .u8 (by8 x 4), .int .u8 (by8 x 5), .int .u8 (by8 x 6), .int .u8 (by8 x 7)]⟩ : Blk)]))) := New.cons hE (New.app (fun y hy => HN4.out y (by simp [hy])) (New.cons hp0 (New.cons (Nat.le_refl _) (New.nil _))))
  have HM6 := Lib.hid M6
  have HVO6 := Lib.hid (HRA.out.bslH (w := w6) (fun x hx => M6.has x (by simp [hx])))
  have HB6 := Lib.hid (HB.out.below (M6.below (New.app HNA.out HNR.out)))
  clear M6 HM4 HVO hE
  refine (same_any _ _ b b _ HVO6.out HB6.out).mono ?_
  rintro e w7 ⟨rfl, rfl⟩
  rw [HQB.out]
  clear HVO6 HB6
  go_wp2_with fail
  go_loopw [39] (fun i wr => ∃ (k : Nat) (A : List Blk), i = .int .i64 k ∧ k ≤ b.length ∧ Byt ao' b.length A ∧ New w A ∧ Mem wr w (A ++ ((⟨w4.heap.size + g5.size, 44, #[.int .u8 (by8 zb 0), .int .u8 (by8 zb 1), .int .u8 (by8 zb 2), .int .u8 (by8 zb 3), .int .u8 (by8 zb 4), .int .u8 (by8 zb 5), .int .u8 (by8 zb 6), .int .u8 (by8 zb 7)]⟩ : Blk) :: (B4 ++ ⟨p, 119, wcs (.slice ao4 b.length cap4) sb⟩ :: [(⟨w.heap.size, 43, #[.int .u8 (by8 x 0), .int .u8 (by8 x 1), .int .u8 (by8 x 2), .int .u8 (by8 x 3), .int .u8 (by8 x 4), .int .u8 (by8 x 5), .int .u8 (by8 x 6), .int .u8 (by8 x 7)]⟩ : Blk)])))) (fun i _ => b.length - (intOf i).toNat)
  case atStart => exact ⟨0, B', rfl, by omega, HRA.out.byt, HNA.out, HM6.out⟩
  case round =>
    obtain ⟨k, A, rfl, hk, hY, hA, M⟩ := hrel
    by_cases hlt : k < b.length
    · obtain ⟨r, cur, rfl, rfl, hcur⟩ : ∃ r cur, ao' = some ⟨r, 0, none⟩ ∧ A = [⟨r, 5, cur⟩] ∧ ∀ j, j < b.length → ∃ z : Int, cur[j]? = some (.int .u8 z) := by
        rcases hY with h | h
        · omega
        · exact h
      obtain ⟨zk, hzk⟩ := hcur k hlt
      have c0 : wr.cell? ⟨r, k, none⟩ = some (.int .u8 zk) := (M.cell (b := r) (t := 5) (cs := cur) (by simp) k).trans hzk
      have f0 : wr.frozen? ⟨r, k, none⟩ = false := M.frozen (b := r) (t := 5) (cs := cur) (by simp) k
      have l0 : r < wr.heap.size := M.lt (x := ⟨r, 5, cur⟩) (by simp)
      have HM := Lib.hid M
      have HC := Lib.hid hcur
      clear M hcur
      go_wp2
      go_roundw
      case rel => exact ⟨k + 1, [⟨r, 5, cur.setIfInBounds k (.int .u8 ((zk + 1) % 256))⟩], by go_num, by omega, .inr ⟨r, _, rfl, rfl, Byt.set HC.out k _⟩, New.cons (hA _ (List.mem_cons_self ..) :) (New.nil _), HM.out.set (B := []) k _⟩
      case measure => simp [intOf]; omega
    · obtain rfl : k = b.length := by omega
      have HMA := Lib.hid M
      have HNN : Hid (New w (A ++ ((⟨w4.heap.size + g5.size, 44, #[.int .u8 (by8 zb 0), .int .u8 (by8 zb 1), .int .u8 (by8 zb 2), .int .u8 (by8 zb 3), .int .u8 (by8 zb 4), .int .u8 (by8 zb 5), .int .u8 (by8 zb 6), .int .u8 (by8 zb 7)]⟩ : Blk) :: (B4 ++ ⟨p, 119, wcs (.slice ao4 b.length cap4) sb⟩ :: [(⟨w.heap.size, 43, #[.int .u8 (by8 x 0), .int .u8 (by8 x 1), .int .u8 (by8 x 2), .int .u8 (by8 x 3), .int .u8 (by8 x 4), .int .u8 (by8 x 5), .int .u8 (by8 x 6), .int .u8 (by8 x 7)]⟩ : Blk)])))) := New.app hA HNR.out
      have cD := M.cell (b := w.heap.size) (t := 43) (cs := #[.int .u8 (by8 x 0), .int .u8 (by8 x 1), .int .u8 (by8 x 2), .int .u8 (by8 x 3), .int .u8 (by8 x 4), .int .u8 (by8 x 5), .int .u8 (by8 x 6), .int .u8 (by8 x 7)]) (by simp)
      have lD : w.heap.size < wr.heap.size := M.lt (x := (⟨w.heap.size, 43, #[.int .u8 (by8 x 0), .int .u8 (by8 x 1), .int .u8 (by8 x 2), .int .u8 (by8 x 3), .int .u8 (by8 x 4), .int .u8 (by8 x 5), .int .u8 (by8 x 6), .int .u8 (by8 x 7)]⟩ : Blk)) (by simp)
      clear M
      go_wp2_with fail
      refine (stream_byt x n _ rfl hn2 _).mono ?_
      rintro e w8 ⟨so, scap, S, rfl, hBel, hS, hSp, hSb⟩
      have HMS := Lib.hid (HMA.out.found2 hBel hSb hSp)
      have HNS : Hid (New w S) := fun y hy => Nat.le_trans HMA.out.size (hSb y hy).1
      clear cD lD hBel hSp hSb
      go_wp2_with fail
      go_loopw [55] (fun i wr => ∃ (k : Nat) (S : List Blk), i = .int .i64 k ∧ k ≤ n ∧ Byt so n S ∧ New w S ∧ Mem wr w (S ++ (A ++ ((⟨w4.heap.size + g5.size, 44, #[.int .u8 (by8 zb 0), .int .u8 (by8 zb 1), .int .u8 (by8 zb 2), .int .u8 (by8 zb 3), .int .u8 (by8 zb 4), .int .u8 (by8 zb 5), .int .u8 (by8 zb 6), .int .u8 (by8 zb 7)]⟩ : Blk) :: (B4 ++ ⟨p, 119, wcs (.slice ao4 b.length cap4) sb⟩ :: [(⟨w.heap.size, 43, #[.int .u8 (by8 x 0), .int .u8 (by8 x 1), .int .u8 (by8 x 2), .int .u8 (by8 x 3), .int .u8 (by8 x 4), .int .u8 (by8 x 5), .int .u8 (by8 x 6), .int .u8 (by8 x 7)]⟩ : Blk)]))))) (fun i _ => n - (intOf i).toNat)
      case atStart => exact ⟨0, S, rfl, by omega, hS, HNS.out, HMS.out⟩
      case round =>
        obtain ⟨k, S, rfl, hk, hY, hA, M⟩ := hrel
        by_cases hlt : k < n
        · obtain ⟨r, cur, rfl, rfl, hcur⟩ : ∃ r cur, so = some ⟨r, 0, none⟩ ∧ S = [⟨r, 5, cur⟩] ∧ ∀ j, j < n → ∃ z : Int, cur[j]? = some (.int .u8 z) := by
            rcases hY with h | h
            · omega
            · exact h
          obtain ⟨zk, hzk⟩ := hcur k hlt
          have c0 : wr.cell? ⟨r, k, none⟩ = some (.int .u8 zk) := (M.cell (b := r) (t := 5) (cs := cur) (by simp) k).trans hzk
          have f0 : wr.frozen? ⟨r, k, none⟩ = false := M.frozen (b := r) (t := 5) (cs := cur) (by simp) k
          have l0 : r < wr.heap.size := M.lt (x := ⟨r, 5, cur⟩) (by simp)
          have HM := Lib.hid M
          have HC := Lib.hid hcur
          clear M hcur
          go_wp2
          go_roundw
          case rel => exact ⟨k + 1, [⟨r, 5, cur.setIfInBounds k (.int .u8 ((zk + 1) % 256))⟩], by go_num, by omega, .inr ⟨r, _, rfl, rfl, Byt.set HC.out k _⟩, New.cons (hA _ (List.mem_cons_self ..) :) (New.nil _), HM.out.set (B := []) k _⟩
          case measure => simp [intOf]; omega
        · obtain rfl : k = n := by omega
          have hS2 : ∀ y ∈ S ++ (A ++ ((⟨w4.heap.size + g5.size, 44, #[.int .u8 (by8 zb 0), .int .u8 (by8 zb 1), .int .u8 (by8 zb 2), .int .u8 (by8 zb 3), .int .u8 (by8 zb 4), .int .u8 (by8 zb 5), .int .u8 (by8 zb 6), .int .u8 (by8 zb 7)]⟩ : Blk) :: (B4 ++ ⟨p, 119, wcs (.slice ao4 b.length cap4) sb⟩ :: [(⟨w.heap.size, 43, #[.int .u8 (by8 x 0), .int .u8 (by8 x 1), .int .u8 (by8 x 2), .int .u8 (by8 x 3), .int .u8 (by8 x 4), .int .u8 (by8 x 5), .int .u8 (by8 x 6), .int .u8 (by8 x 7)]⟩ : Blk)]))), HasBlk wr y.no y.ty y.cs := fun y hy => M.has y hy
          have HKp := Lib.hid (show HasBlk wr p 119 (wcs (.slice ao4 b.length cap4) sb) from hS2 ⟨p, 119, wcs (.slice ao4 b.length cap4) sb⟩ (by simp))
          have HVp := Lib.hid (HR4.out.bslH (w := wr) (fun y hy => hS2 y (by simp [hy])))
          have cD := M.cell (b := w.heap.size) (t := 43) (cs := #[.int .u8 (by8 x 0), .int .u8 (by8 x 1), .int .u8 (by8 x 2), .int .u8 (by8 x 3), .int .u8 (by8 x 4), .int .u8 (by8 x 5), .int .u8 (by8 x 6), .int .u8 (by8 x 7)]) (by simp)
          have lD : w.heap.size < wr.heap.size := M.lt (x := (⟨w.heap.size, 43, #[.int .u8 (by8 x 0), .int .u8 (by8 x 1), .int .u8 (by8 x 2), .int .u8 (by8 x 3), .int .u8 (by8 x 4), .int .u8 (by8 x 5), .int .u8 (by8 x 6), .int .u8 (by8 x 7)]⟩ : Blk)) (by simp)
          have cE := M.cell (b := w4.heap.size + g5.size) (t := 44) (cs := #[.int .u8 (by8 zb 0), .int .u8 (by8 zb 1), .int .u8 (by8 zb 2), .int .u8 (by8 zb 3), .int .u8 (by8 zb 4), .int .u8 (by8 zb 5), .int .u8 (by8 zb 6), .int .u8 (by8 zb 7)]) (by simp)
          have lE : w4.heap.size + g5.size < wr.heap.size := M.lt (x := (⟨w4.heap.size + g5.size, 44, #[.int .u8 (by8 zb 0), .int .u8 (by8 zb 1), .int .u8 (by8 zb 2), .int .u8 (by8 zb 3), .int .u8 (by8 zb 4), .int .u8 (by8 zb 5), .int .u8 (by8 zb 6), .int .u8 (by8 zb 7)]⟩ : Blk)) (by simp)
          have HBW := Lib.hid (M.below (New.app hA HNN.out))
          have T1 := Lib.hid (fun g d => sum_to p _ b (by omega) sb HSB.out zb HZB.out _ (HKp.out.plus g d) (HVp.out.plus g d))
          have T2 := Lib.hid (fun W => sum_nil W z0 HZ0.out)
          have T3 := Lib.hid (fun W => of_bytes (.slice none 0 0) [] W (BSl.nil W) (by simp) z0 HZ0.out)
          obtain ⟨l1, HL1⟩ : ∃ l, Hid (strm x k = l) := ⟨_, rfl⟩
          have S3 : Hid (∀ W, Calls Try.prog 36 #[.agg #[.int .u8 (by8 x 0), .int .u8 (by8 x 1), .int .u8 (by8 x 2), .int .u8 (by8 x 3), .int .u8 (by8 x 4), .int .u8 (by8 x 5), .int .u8 (by8 x 6), .int .u8 (by8 x 7)], .int .i64 k] W fun e w' => ∃ u, e = .returned u ∧ Below W.heap.size W w' ∧ BSl w' u l1) := fun W => by rw [← HL1.out]; exact stream_bsl x k W
          have S4 : Hid (∀ W, Calls Try.prog 38 #[.agg #[.int .u8 (by8 x 0), .int .u8 (by8 x 1), .int .u8 (by8 x 2), .int .u8 (by8 x 3), .int .u8 (by8 x 4), .int .u8 (by8 x 5), .int .u8 (by8 x 6), .int .u8 (by8 x 7)], .int .i64 k] W fun e w' => ∃ u, e = .returned u ∧ Below W.heap.size W w' ∧ BSl w' u l1) := fun W => by rw [← HL1.out]; exact refStream_bsl x k W
          clear M hS2
          go_wp2_with fail
          refine (write_nil _ _).mono ?_
          rintro e w9 ⟨rfl, rfl⟩
          go_wp2
          refine wp_region_rq (by kernel_rfl) (by kernel_rfl) (by kernel_rfl) ?_
          repeat (first
            | (refine B_skip ?_ ?_; (· rfl); (try simp only [Act.put, List.setIfInBounds_toArray, List.set_cons_zero, List.set_cons_succ]))
            | (refine B_move rfl ?_ ?_; (· rfl); (try simp only [Act.eval, Act.put, Array.getD_eq_getD_getElem?, List.getElem?_toArray, List.getElem?_cons_succ, List.getElem?_cons_zero, Option.getD_some, List.setIfInBounds_toArray, List.set_cons_zero, List.set_cons_succ]))
            | (refine B_plain ?_ ?_; (· rfl); intro K hK; go_big_quiet_op; with_reducible refine hK _ ?_; clear hK K)
            | (refine B_callX (v := ?_) (f := 50) rfl (by kernel_rfl) ?_ (fun xq => ?_) ?_; rotate_left; (· rfl); (· ((simp only [List.map_toArray, List.map_cons, List.map_nil, Act.eval, Array.getD_eq_getD_getElem?, List.getElem?_toArray, List.getElem?_cons_succ, List.getElem?_cons_zero, Option.getD_some]); with_reducible apply retB; with_reducible exact (T1.out _ _))); (try simp only [Act.put, List.setIfInBounds_toArray, List.set_cons_zero, List.set_cons_succ]))
            | (refine B_callX (v := ?_) (f := 50) rfl (by kernel_rfl) ?_ (fun xq => ?_) ?_; rotate_left; (· rfl); (· ((simp only [List.map_toArray, List.map_cons, List.map_nil, Act.eval, Array.getD_eq_getD_getElem?, List.getElem?_toArray, List.getElem?_cons_succ, List.getElem?_cons_zero, Option.getD_some]); with_reducible apply retB; with_reducible exact (T2.out _))); (try simp only [Act.put, List.setIfInBounds_toArray, List.set_cons_zero, List.set_cons_succ]))
            | (refine B_callX (v := ?_) (f := 44) rfl (by kernel_rfl) ?_ (fun xq => ?_) ?_; rotate_left; (· rfl); (· ((simp only [List.map_toArray, List.map_cons, List.map_nil, Act.eval, Array.getD_eq_getD_getElem?, List.getElem?_toArray, List.getElem?_cons_succ, List.getElem?_cons_zero, Option.getD_some]); with_reducible apply retB; with_reducible exact (T3.out _))); (try simp only [Act.put, List.setIfInBounds_toArray, List.set_cons_zero, List.set_cons_succ]))
            | (refine B_callX (v := ?_) (f := 52) rfl (by kernel_rfl) ?_ (fun xq => ?_) ?_; rotate_left; (· rfl); (· ((simp only [List.map_toArray, List.map_cons, List.map_nil, Act.eval, Array.getD_eq_getD_getElem?, List.getElem?_toArray, List.getElem?_cons_succ, List.getElem?_cons_zero, Option.getD_some]); with_reducible apply retB; with_reducible exact (wclone_nil _))); (try simp only [Act.put, List.setIfInBounds_toArray, List.set_cons_zero, List.set_cons_succ]))
            | (refine B_callX (v := ?_) (f := 51) rfl (by kernel_rfl) ?_ (fun xq => ?_) ?_; rotate_left; (· rfl); (· ((simp only [List.map_toArray, List.map_cons, List.map_nil, Act.eval, Array.getD_eq_getD_getElem?, List.getElem?_toArray, List.getElem?_cons_succ, List.getElem?_cons_zero, Option.getD_some]); with_reducible apply retB; with_reducible exact (wsame_nn _))); (try simp only [Act.put, List.setIfInBounds_toArray, List.set_cons_zero, List.set_cons_succ]))
            | (refine B_callX (v := ?_) (f := 51) rfl (by kernel_rfl) ?_ (fun xq => ?_) ?_; rotate_left; (· rfl); (· ((simp only [List.map_toArray, List.map_cons, List.map_nil, Act.eval, Array.getD_eq_getD_getElem?, List.getElem?_toArray, List.getElem?_cons_succ, List.getElem?_cons_zero, Option.getD_some]); with_reducible apply retB; with_reducible exact (wsame_np p _))); (try simp only [Act.put, List.setIfInBounds_toArray, List.set_cons_zero, List.set_cons_succ]))
            | (refine B_callR ((fun v w => BSl w v l1)) ((stays_bsl _)) (f := 36) rfl rfl (by kernel_rfl) ?_ (fun xq => ?_) ?_; (· rfl); (· ((simp only [List.map_toArray, List.map_cons, List.map_nil, Act.eval, Array.getD_eq_getD_getElem?, List.getElem?_toArray, List.getElem?_cons_succ, List.getElem?_cons_zero, Option.getD_some]); (with_reducible apply retR); with_reducible exact S3.out _)))
            | (refine B_callR ((fun v w => BSl w v l1)) ((stays_bsl _)) (f := 38) rfl rfl (by kernel_rfl) ?_ (fun xq => ?_) ?_; (· rfl); (· ((simp only [List.map_toArray, List.map_cons, List.map_nil, Act.eval, Array.getD_eq_getD_getElem?, List.getElem?_toArray, List.getElem?_cons_succ, List.getElem?_cons_zero, Option.getD_some]); (with_reducible apply retR); with_reducible exact S4.out _)))
            | (refine B_callRX (v := .bool true) (f := 37) rfl (by kernel_rfl) ?_ (fun xq vs hvs => ?_) ?_; (· rfl); (· (obtain ⟨a1, _, rfl, e1, a2, _, rfl, e2, e3⟩ := hvs; cases e3; (with_reducible apply retB_same); exact same_yes a1 a2 l1 _ e1 e2)); (try simp only [Act.put, List.setIfInBounds_toArray, List.set_cons_zero, List.set_cons_succ])))
          refine B_nil ?_ rfl ?_ ?_
          · kernel_rfl
          · rfl
          rintro _ ⟨⟨g10, d10⟩, rfl⟩
          simp only [fin, Act.put, List.setIfInBounds_toArray, List.set_cons_zero, List.set_cons_succ]
          intro s1 _ s2 _
          go_wp2
          go_ret
          exact ⟨rfl, bplus HBW.out _ _⟩

end Go.Proofs.Ytmfogedagepcgaa
