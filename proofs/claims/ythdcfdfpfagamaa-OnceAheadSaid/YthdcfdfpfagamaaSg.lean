/- once: contracts of both Verify, of Shown and of both Sign. -/
import Derived.Test.YthdcfdfpfagamaaRt
namespace Go.Proofs.Ythdcfdfpfagamaa
set_option linter.unusedSimpArgs false
set_option linter.unusedVariables false
open Go.RowKit

set_option maxRecDepth 100000 in
set_option maxHeartbeats 1000000 in
theorem verify_no (k m : BitVec 64) (ao : Option Addr) (n cap : Nat) (hn : n ≠ 144) (w : World) :
    Calls Try.prog 28 #[.agg #[.int .u8 (by8 k 0), .int .u8 (by8 k 1), .int .u8 (by8 k 2), .int .u8 (by8 k 3), .int .u8 (by8 k 4), .int .u8 (by8 k 5), .int .u8 (by8 k 6), .int .u8 (by8 k 7)], .agg #[.int .u8 (by8 m 0), .int .u8 (by8 m 1), .int .u8 (by8 m 2), .int .u8 (by8 m 3), .int .u8 (by8 m 4), .int .u8 (by8 m 5), .int .u8 (by8 m 6), .int .u8 (by8 m 7)], .slice ao n cap] w fun e w' => e = .returned (.bool false) ∧ Below w.heap.size w w' := by
  go_enter Try.func28, Try.ntmps28
  go_wp2_with (go_at_call 27; refine (told_no m ao n cap hn _).mono ?_; rintro e w1 ⟨rfl, hb1⟩; obtain ⟨g1, d1, rfl⟩ := plus_of_below hb1; clear hb1)
  go_ret
  exact ⟨rfl, by (repeat' (first | (with_reducible exact Below.refl _ _) | (with_reducible refine bplus ?_ _ _) | (with_reducible refine balloc ?_ _) | (with_reducible refine Below.drew ?_) | (with_reducible refine bdrewN ?_ _) | (with_reducible refine Below.setCell ?_ (by go_size) _)))⟩

set_option maxRecDepth 100000 in
set_option maxHeartbeats 1000000 in
theorem verify_yes (k m : BitVec 64) (v : Value) (l : List UInt8) (hl : l.length = 144) (w : World) (hv : BSl w v l) (z : BitVec 64) (hz : toldF m l = z) (r : Bool) (hr : (z == k) = r) :
    Calls Try.prog 28 #[.agg #[.int .u8 (by8 k 0), .int .u8 (by8 k 1), .int .u8 (by8 k 2), .int .u8 (by8 k 3), .int .u8 (by8 k 4), .int .u8 (by8 k 5), .int .u8 (by8 k 6), .int .u8 (by8 k 7)], .agg #[.int .u8 (by8 m 0), .int .u8 (by8 m 1), .int .u8 (by8 m 2), .int .u8 (by8 m 3), .int .u8 (by8 m 4), .int .u8 (by8 m 5), .int .u8 (by8 m 6), .int .u8 (by8 m 7)], v] w fun e w' => e = .returned (.bool r) ∧ Below w.heap.size w w' := by
  have HV := Lib.hid hv
  have HL := Lib.hid hl
  have HZ := Lib.hid hz
  clear hv hl hz
  go_enter Try.func28, Try.ntmps28
  go_wp2_with (go_at_call 27; refine (told_yes m v l HL.out _ ((HV.out.alloc _).alloc _) z HZ.out).mono ?_; rintro e w1 ⟨rfl, hb1⟩; obtain ⟨g1, d1, rfl⟩ := plus_of_below hb1; clear hb1)
  go_ret
  exact ⟨rfl, by (repeat' (first | (with_reducible exact Below.refl _ _) | (with_reducible refine bplus ?_ _ _) | (with_reducible refine balloc ?_ _) | (with_reducible refine Below.drew ?_) | (with_reducible refine bdrewN ?_ _) | (with_reducible refine Below.setCell ?_ (by go_size) _)))⟩

set_option maxRecDepth 100000 in
set_option maxHeartbeats 1000000 in
theorem refVerify_no (k m : BitVec 64) (ao : Option Addr) (n cap : Nat) (hn : n ≠ 144) (w : World) :
    Calls Try.prog 30 #[.agg #[.int .u8 (by8 k 0), .int .u8 (by8 k 1), .int .u8 (by8 k 2), .int .u8 (by8 k 3), .int .u8 (by8 k 4), .int .u8 (by8 k 5), .int .u8 (by8 k 6), .int .u8 (by8 k 7)], .agg #[.int .u8 (by8 m 0), .int .u8 (by8 m 1), .int .u8 (by8 m 2), .int .u8 (by8 m 3), .int .u8 (by8 m 4), .int .u8 (by8 m 5), .int .u8 (by8 m 6), .int .u8 (by8 m 7)], .slice ao n cap] w fun e w' => e = .returned (.bool false) ∧ Below w.heap.size w w' := by
  go_enter Try.func30, Try.ntmps30
  go_wp2_with (go_at_call 29; refine (refTold_no m ao n cap hn _).mono ?_; rintro e w1 ⟨rfl, hb1⟩; obtain ⟨g1, d1, rfl⟩ := plus_of_below hb1; clear hb1)
  go_ret
  exact ⟨rfl, by (repeat' (first | (with_reducible exact Below.refl _ _) | (with_reducible refine bplus ?_ _ _) | (with_reducible refine balloc ?_ _) | (with_reducible refine Below.drew ?_) | (with_reducible refine bdrewN ?_ _) | (with_reducible refine Below.setCell ?_ (by go_size) _)))⟩

set_option maxRecDepth 100000 in
set_option maxHeartbeats 1000000 in
theorem refVerify_yes (k m : BitVec 64) (v : Value) (l : List UInt8) (hl : l.length = 144) (w : World) (hv : BSl w v l) (z : BitVec 64) (hz : toldF m l = z) (r : Bool) (hr : (z == k) = r) :
    Calls Try.prog 30 #[.agg #[.int .u8 (by8 k 0), .int .u8 (by8 k 1), .int .u8 (by8 k 2), .int .u8 (by8 k 3), .int .u8 (by8 k 4), .int .u8 (by8 k 5), .int .u8 (by8 k 6), .int .u8 (by8 k 7)], .agg #[.int .u8 (by8 m 0), .int .u8 (by8 m 1), .int .u8 (by8 m 2), .int .u8 (by8 m 3), .int .u8 (by8 m 4), .int .u8 (by8 m 5), .int .u8 (by8 m 6), .int .u8 (by8 m 7)], v] w fun e w' => e = .returned (.bool r) ∧ Below w.heap.size w w' := by
  have HV := Lib.hid hv
  have HL := Lib.hid hl
  have HZ := Lib.hid hz
  clear hv hl hz
  go_enter Try.func30, Try.ntmps30
  go_wp2_with (go_at_call 29; refine (refTold_yes m v l HL.out _ ((HV.out.alloc _).alloc _) z HZ.out).mono ?_; rintro e w1 ⟨rfl, hb1⟩; obtain ⟨g1, d1, rfl⟩ := plus_of_below hb1; clear hb1)
  go_ret
  exact ⟨rfl, by (repeat' (first | (with_reducible exact Below.refl _ _) | (with_reducible refine bplus ?_ _ _) | (with_reducible refine balloc ?_ _) | (with_reducible refine Below.drew ?_) | (with_reducible refine bdrewN ?_ _) | (with_reducible refine Below.setCell ?_ (by go_size) _)))⟩

set_option maxRecDepth 100000 in
set_option maxHeartbeats 1000000 in
theorem shown_no (ao : Option Addr) (n cap : Nat) (c : Int) (hn : n ≠ 144 ∨ c < 0 ∨ 18 ≤ c) (w : World) :
    Calls Try.prog 31 #[.slice ao n cap, .int .i64 c] w fun e w' => e = .returned (.tuple #[.agg #[.int .u8 (by8 (0#64) 0), .int .u8 (by8 (0#64) 1), .int .u8 (by8 (0#64) 2), .int .u8 (by8 (0#64) 3), .int .u8 (by8 (0#64) 4), .int .u8 (by8 (0#64) 5), .int .u8 (by8 (0#64) 6), .int .u8 (by8 (0#64) 7)], .bool false]) ∧ Below w.heap.size w w' := by
  have hz := Lib.hid dg_zero
  by_cases h1 : n = 144
  · subst h1
    by_cases h2 : c < 0
    · go_enter Try.func31, Try.ntmps31
      go_wp2
      refine bodyPost_ret (v := .tuple #[.agg #[.int .u8 0, .int .u8 0, .int .u8 0, .int .u8 0, .int .u8 0, .int .u8 0, .int .u8 0, .int .u8 0], .bool false]) (by simp [results, Try.results31, go_sem]) rfl ⟨by rw [hz.out], by (repeat' (first | (with_reducible exact Below.refl _ _) | (with_reducible refine bplus ?_ _ _) | (with_reducible refine balloc ?_ _) | (with_reducible refine Below.drew ?_) | (with_reducible refine bdrewN ?_ _) | (with_reducible refine Below.setCell ?_ (by go_size) _)))⟩
    · have h3 : 18 ≤ c := by omega
      go_enter Try.func31, Try.ntmps31
      go_wp2
      refine bodyPost_ret (v := .tuple #[.agg #[.int .u8 0, .int .u8 0, .int .u8 0, .int .u8 0, .int .u8 0, .int .u8 0, .int .u8 0, .int .u8 0], .bool false]) (by simp [results, Try.results31, go_sem]) rfl ⟨by rw [hz.out], by (repeat' (first | (with_reducible exact Below.refl _ _) | (with_reducible refine bplus ?_ _ _) | (with_reducible refine balloc ?_ _) | (with_reducible refine Below.drew ?_) | (with_reducible refine bdrewN ?_ _) | (with_reducible refine Below.setCell ?_ (by go_size) _)))⟩
  · have hb : (((n : Int)) != 144) = true := by rw [bne_iff_ne]; omega
    clear hn
    go_enter Try.func31, Try.ntmps31
    go_wp2
    refine bodyPost_ret (v := .tuple #[.agg #[.int .u8 0, .int .u8 0, .int .u8 0, .int .u8 0, .int .u8 0, .int .u8 0, .int .u8 0, .int .u8 0], .bool false]) (by simp [results, Try.results31, go_sem]) rfl ⟨by rw [hz.out], by (repeat' (first | (with_reducible exact Below.refl _ _) | (with_reducible refine bplus ?_ _ _) | (with_reducible refine balloc ?_ _) | (with_reducible refine Below.drew ?_) | (with_reducible refine bdrewN ?_ _) | (with_reducible refine Below.setCell ?_ (by go_size) _)))⟩

set_option maxRecDepth 100000 in
set_option maxHeartbeats 1000000 in
theorem shown_yes (v : Value) (l : List UInt8) (hl : l.length = 144) (c : Nat) (hc : c < 18) (w : World) (hv : BSl w v l) (z : BitVec 64) (hz : wordAt l c = z) :
    Calls Try.prog 31 #[v, .int .i64 c] w fun e w' => e = .returned (.tuple #[.agg #[.int .u8 (by8 z 0), .int .u8 (by8 z 1), .int .u8 (by8 z 2), .int .u8 (by8 z 3), .int .u8 (by8 z 4), .int .u8 (by8 z 5), .int .u8 (by8 z 6), .int .u8 (by8 z 7)], .bool true]) ∧ Below w.heap.size w w' := by
  have HV := Lib.hid hv
  obtain ⟨ao, cap, rfl, h1, h2, h3⟩ := hv.open_
  rw [hl] at HV ⊢
  have h8 : Hid (8 * c + 8 ≤ l.length) := by show _ ≤ _; omega
  have h9 : Hid (l.length ≤ 1000000) := by show _ ≤ _; omega
  have HZ := Lib.hid hz
  clear hv hl hz h1 h2 h3
  go_enter Try.func31, Try.ntmps31
  go_wp2_with (go_at_call 52; refine (piece_to _ l c h8.out h9.out z HZ.out _ (HV.out.alloc _)).mono ?_; rintro e w1 ⟨rfl, hb1⟩; obtain ⟨g1, d1, rfl⟩ := plus_of_below hb1; clear hb1)
  refine bodyPost_ret (v := .tuple #[.agg #[.int .u8 (by8 z 0), .int .u8 (by8 z 1), .int .u8 (by8 z 2), .int .u8 (by8 z 3), .int .u8 (by8 z 4), .int .u8 (by8 z 5), .int .u8 (by8 z 6), .int .u8 (by8 z 7)], .bool true]) (by simp [results, Try.results31, go_sem]) rfl ⟨rfl, by (repeat' (first | (with_reducible exact Below.refl _ _) | (with_reducible refine bplus ?_ _ _) | (with_reducible refine balloc ?_ _) | (with_reducible refine Below.drew ?_) | (with_reducible refine bdrewN ?_ _) | (with_reducible refine Below.setCell ?_ (by go_size) _)))⟩

/-- The bytes of digests. -/
noncomputable def bysL (xs : List (BitVec 64)) : List UInt8 := xs.flatMap bys
theorem bys_len (x : BitVec 64) : (bys x).length = 8 := rfl
theorem bcs_bys (x : BitVec 64) : bcs (bys x) = dcs x := by
  exact congrArg Array.toList (bys_cells x)
theorem bcs_bysL (xs : List (BitVec 64)) : bcs (bysL xs) = dall xs := by
  induction xs with
  | nil => rfl
  | cons x xs ih =>
    show bcs (bys x ++ bysL xs) = dcs x ++ dall xs
    rw [bcs_app, ih, bcs_bys]
theorem bysL_len (xs : List (BitVec 64)) : (bysL xs).length = 8 * xs.length := by
  have h := congrArg List.length (bcs_bysL xs)
  rw [bcs_len, dall_len] at h
  omega
theorem bysL_snoc (xs : List (BitVec 64)) (x : BitVec 64) : bysL (xs ++ [x]) = bysL xs ++ bys x := by simp [bysL]
theorem bys_get (x : BitVec 64) (j : Nat) (hj : j < 8) : (((bys x).getD j 0).toNat : Int) = by8 x j := by
  have h := dcs_get x j hj
  rw [← bcs_bys, bcs_get _ j (by rw [bys_len]; exact hj)] at h
  simpa using h
theorem bysL_get (xs : List (BitVec 64)) (i j : Nat) (hi : i < xs.length) (hj : j < 8) : (((bysL xs).getD (8 * i + j) 0).toNat : Int) = by8 (xs.getD i 0) j := by
  have h := dall_get xs i hi j hj
  rw [← bcs_bysL, bcs_get _ _ (by rw [bysL_len]; omega)] at h
  rw [Nat.mul_comm 8 i]
  simpa using h
theorem wordAt_bysL (xs : List (BitVec 64)) (i : Nat) (hi : i < xs.length) : wordAt (bysL xs) i = xs.getD i 0 := by
  apply by8_inj
  intro j hj
  rw [by8_wordAt _ _ _ hj, bysL_get xs i j hi hj]
/-- A signature: its digests, its bytes. -/
noncomputable def signD (s m : BitVec 64) (k : Nat) : List (BitVec 64) := (List.range k).map fun c => chainF (startF s c) (dgt m c).toNat
noncomputable def signB (s m : BitVec 64) : List UInt8 := bysL (signD s m 18)
theorem signB_len (s m : BitVec 64) : (signB s m).length = 144 := by rw [signB, bysL_len]; simp [signD]
theorem signD_succ (s m : BitVec 64) (k : Nat) : signD s m (k + 1) = signD s m k ++ [chainF (startF s k) (dgt m k).toNat] := by simp [signD, List.range_succ]
theorem signB_at (s m : BitVec 64) (c : Nat) (hc : c < 18) : wordAt (signB s m) c = chainF (startF s c) (dgt m c).toNat := by
  rw [signB, wordAt_bysL _ _ (by simp [signD, hc])]
  simp [signD, List.getD_eq_getElem?_getD, hc]
theorem elt_u8' : Elt Try.prog 28 5 1 1 := elt_u8

set_option maxRecDepth 100000 in
set_option maxHeartbeats 2000000 in
theorem sign_to (s m : BitVec 64) (w : World) :
    Calls Try.prog 23 #[.agg #[.int .u8 (by8 s 0), .int .u8 (by8 s 1), .int .u8 (by8 s 2), .int .u8 (by8 s 3), .int .u8 (by8 s 4), .int .u8 (by8 s 5), .int .u8 (by8 s 6), .int .u8 (by8 s 7)], .agg #[.int .u8 (by8 m 0), .int .u8 (by8 m 1), .int .u8 (by8 m 2), .int .u8 (by8 m 3), .int .u8 (by8 m 4), .int .u8 (by8 m 5), .int .u8 (by8 m 6), .int .u8 (by8 m 7)]] w fun e w' => ∃ v, e = .returned v ∧ Below w.heap.size w w' ∧ BSl w' v (signB s m) := by
  obtain ⟨N, hN, hmk⟩ : ∃ N : Array Value, N.size = 144 ∧ ∀ W : World, (Instr.makeSlice 28 (.int .i64 0) (.int .i64 144)).run Try.prog W = .ok (.slice (some ⟨W.heap.size, 0, none⟩) 0 144) (W.alloc (.cells N 5)) := by
    obtain ⟨i, z, ht, hi, hz, hsz, hby, hzs, -⟩ := elt_u8
    refine ⟨madeCells z.cells (144 * i.size), by rw [size_madeCells, hsz], fun W => ?_⟩
    exact run_make (P := Try.prog) (w := W) 28 5 i z ht hi hz .i64 .i64 0 144 (by omega) (by omega) (by rw [hby]; omega) (by omega)
  have HN := Lib.hid hN
  clear hN
  go_enter Try.func23, Try.ntmps23
  go_wp2_with (go_at_call 25; refine (reach_any m _).mono ?_; rintro e w1 ⟨rfl, hb1⟩; obtain ⟨g1, d1, rfl⟩ := plus_of_below hb1; clear hb1)
  clear hmk
  have M0 := ((((Mem.start w).key #[.int .u8 (by8 s 0), .int .u8 (by8 s 1), .int .u8 (by8 s 2), .int .u8 (by8 s 3), .int .u8 (by8 s 4), .int .u8 (by8 s 5), .int .u8 (by8 s 6), .int .u8 (by8 s 7)] 24 w.heap.size rfl).alloc (.cells #[.int .u8 (by8 m 0), .int .u8 (by8 m 1), .int .u8 (by8 m 2), .int .u8 (by8 m 3), .int .u8 (by8 m 4), .int .u8 (by8 m 5), .int .u8 (by8 m 6), .int .u8 (by8 m 7)] 24)).key N 5 (w.heap.size + 1 + 1) (by simp)).plus g1 d1
  go_loopw [5, 12] (fun v i wr => ∃ (k cap : Nat) (ao : Option Addr) (B : List Blk), k ≤ 18 ∧ v = .slice ao (8 * k) cap ∧ i = .int .i64 k ∧ Row 5 1 (.slice ao (8 * k) cap) (8 * k) (dall (signD s m k)) B ∧ New w B ∧ Mem wr w (B ++ [⟨w.heap.size, 24, #[.int .u8 (by8 s 0), .int .u8 (by8 s 1), .int .u8 (by8 s 2), .int .u8 (by8 s 3), .int .u8 (by8 s 4), .int .u8 (by8 s 5), .int .u8 (by8 s 6), .int .u8 (by8 s 7)]⟩])) (fun _ i _ => 18 - (intOf i).toNat)
  case atStart =>
    refine ⟨0, 144, _, [⟨w.heap.size + 1 + 1, 5, N⟩], by omega, rfl, rfl, ?_, New.cons (by simp; omega) (New.nil _), M0⟩
    have := Row.one (e := 5) (sz := 1) (w.heap.size + 1 + 1) 0 144 N (by omega) (by unfold maxLen; omega) (by rw [HN.out])
    simpa [signD, dall] using this
  case round =>
    clear M0
    obtain ⟨k, cap, ao, B, hk, rfl, rfl, R, hB, M⟩ := hrel
    have HM := Lib.hid M
    have HR := Lib.hid R
    by_cases hlt : k < 18
    · obtain ⟨y, HY⟩ : ∃ y, Hid (startF s k = y) := ⟨_, rfl⟩
      obtain ⟨x, HX⟩ : ∃ x, Hid (chainF y (dgt m k).toNat = x) := ⟨_, rfl⟩
      have HS : Hid (dall (signD s m k) ++ dcs x = dall (signD s m (k + 1))) := by
        show _ = _
        rw [signD_succ, dall_app, ← HX.out, ← HY.out, dall_one]
      have q := M.cell0
      have lq := M.lt0
      have db := dgt_bd m k
      have qd := dgA_get m k hlt
      have hc1 : k < 1000 := by omega
      have HK : Hid (dgt m k = (((dgt m k).toNat : Nat) : Int)) := by show _ = _; omega
      have h10 : Hid ((dgt m k).toNat ≤ 1048576) := by show _ ≤ _; omega
      clear M R
      go_wp2_with (first
        | (go_at_call 47; refine (start_to s k hc1 y HY.out _).mono ?_; rintro e w2 ⟨rfl, hb2⟩; obtain ⟨g2, d2, rfl⟩ := plus_of_below hb2; clear hb2)
        | (go_at_call 33; refine (chain_int y x _ _ HK.out h10.out HX.out _).mono ?_; rintro e w3 ⟨rfl, hb3⟩; obtain ⟨g3, d3, rfl⟩ := plus_of_below hb3; clear hb3)
        | (at_builtin; refine wpList_append_new rfl (.tmp 21) (.tmp 22) 28 rfl elt_u8 (HM.out.plus _ _) hB _ _ _ (by rfl) HR.out (dcs x).toArray _ _ _ _ (by rfl) (by simp) (by rfl) (dcs_one x) ?c1 ?c2 (8 * (k + 1)) (by omega) _ HS.out (fun ao' cap' B' w' R' M' hB' => ?_)))
      case c1 => unfold maxLen; omega
      case c2 => omega
      go_roundw
      case rel => exact ⟨k + 1, cap', ao', B', by omega, rfl, by go_num, R', hB', M'⟩
      case measure => simp [intOf]; omega
    · obtain rfl : k = 18 := by omega
      have HD : Hid (BSl wr (.slice ao (8 * 18) cap) (signB s m)) := by
        have h : Row 5 1 (.slice ao (8 * 18) cap) (8 * 18) (bcs (signB s m)) B := by rw [signB, bcs_bysL]; exact R
        exact h.bsl M
      have HB := Lib.hid (M.below (hB.app (New.cons (by simp) (New.nil _))))
      clear M R
      go_wp2
      go_ret
      exact ⟨_, rfl, HB.out, HD.out⟩

theorem bcs_part (s m : BitVec 64) (k j : Nat) (z : BitVec 64) (hz : chainF (startF s k) (dgt m k).toNat = z) (hj : j < 8) : bcs (bysL (signD s m k) ++ (bys z).take j) ++ [.int .u8 (by8 z j)] = bcs (bysL (signD s m k) ++ (bys z).take (j + 1)) := by
  rw [List.take_succ_eq_append_getElem (by rw [bys_len]; exact hj), ← List.append_assoc, bcs_app (_ ++ _)]
  congr 1
  have h := bys_get z j hj
  rw [List.getD_eq_getElem?_getD, List.getElem?_eq_getElem (by rw [bys_len]; exact hj)] at h
  simp only [bcs, List.map_cons, List.map_nil]
  rw [← h]; rfl

set_option maxRecDepth 100000 in
set_option maxHeartbeats 4000000 in
theorem refSign_to (s m : BitVec 64) (w : World) :
    Calls Try.prog 24 #[.agg #[.int .u8 (by8 s 0), .int .u8 (by8 s 1), .int .u8 (by8 s 2), .int .u8 (by8 s 3), .int .u8 (by8 s 4), .int .u8 (by8 s 5), .int .u8 (by8 s 6), .int .u8 (by8 s 7)], .agg #[.int .u8 (by8 m 0), .int .u8 (by8 m 1), .int .u8 (by8 m 2), .int .u8 (by8 m 3), .int .u8 (by8 m 4), .int .u8 (by8 m 5), .int .u8 (by8 m 6), .int .u8 (by8 m 7)]] w fun e w' => ∃ v, e = .returned v ∧ Below w.heap.size w w' ∧ BSl w' v (signB s m) := by
  go_enter Try.func24, Try.ntmps24
  go_wp2_with (first
    | (go_at_call 26; refine (digits_any m _).mono ?_; rintro e w1 ⟨rfl, hb1⟩; obtain ⟨g1, d1, rfl⟩ := plus_of_below hb1; clear hb1)
    | (refine wpList_store_blk rfl 31 (.tmp 5) (.tmp 11) rfl (B := []) (L := [⟨w.heap.size, 22, #[.int .u8 (by8 s 0), .int .u8 (by8 s 1), .int .u8 (by8 s 2), .int .u8 (by8 s 3), .int .u8 (by8 s 4), .int .u8 (by8 s 5), .int .u8 (by8 s 6), .int .u8 (by8 s 7)]⟩]) (w0 := w) (Mem.key (Mem.plus (Mem.alloc (Mem.key (Mem.start w) _ _ _ (by simp)) _) _ _) _ _ (w.heap.size + 1 + 1 + g1.size) (by simp)) (by rfl) (dgA m) (by rfl) (by kernel_rfl) (by rw [dgA_size]; rfl) (dgA_one m) ?_; intro w3 M3))
  obtain ⟨bd, Hbd⟩ : ∃ bd, bd = w.heap.size + 1 + 1 + g1.size := ⟨_, rfl⟩
  rw [← Hbd] at M3 ⊢
  have hbd : w.heap.size ≤ bd := by omega
  clear Hbd
  go_loopw [6, 7] (fun v i wr => ∃ (k cap : Nat) (ao : Option Addr) (B : List Blk), k ≤ 18 ∧ v = .slice ao (8 * k) cap ∧ i = .int .i64 k ∧ Row 5 1 (.slice ao (8 * k) cap) (8 * k) (bcs (bysL (signD s m k))) B ∧ New w B ∧ Mem wr w (B ++ [⟨bd, 31, dgA m⟩, ⟨w.heap.size, 22, #[.int .u8 (by8 s 0), .int .u8 (by8 s 1), .int .u8 (by8 s 2), .int .u8 (by8 s 3), .int .u8 (by8 s 4), .int .u8 (by8 s 5), .int .u8 (by8 s 6), .int .u8 (by8 s 7)]⟩])) (fun _ i _ => 18 - (intOf i).toNat)
  case atStart => exact ⟨0, 0, none, [], by omega, rfl, rfl, Row.void, New.nil _, M3⟩
  case round =>
    clear M3
    obtain ⟨k, cap, ao, B, hk, rfl, rfl, R, hB, M⟩ := hrel
    have HM := Lib.hid M
    have HR := Lib.hid R
    by_cases hlt : k < 18
    · obtain ⟨y, HY⟩ : ∃ y, Hid (startF s k = y) := ⟨_, rfl⟩
      obtain ⟨z, HZ⟩ : ∃ z, Hid (chainF y (dgt m k).toNat = z) := ⟨_, rfl⟩
      have HZ2 : Hid (chainF (startF s k) (dgt m k).toNat = z) := by show _ = _; rw [HY.out, HZ.out]
      have q : wr.cell? ⟨bd, k, none⟩ = some (.int .i64 (dgt m k)) := by rw [M.cell0, dgA_get m k hlt]
      have q1 := M.cell1
      have lq := M.lt0
      have lq1 := M.lt1
      have db := dgt_bd m k
      have hc1 : k < 1000 := by omega
      have HK : Hid (dgt m k = (((dgt m k).toNat : Nat) : Int)) := by show _ = _; omega
      have h10 : Hid ((dgt m k).toNat ≤ 1048576) := by show _ ≤ _; omega
      clear M R
      go_wp2
      refine wp_region_rt 8 1 (by kernel_rfl) (by kernel_rfl) (by kernel_rfl) (by kernel_rfl) ?_
      simp only [List.take_succ_cons, List.take_zero]
      repeat (first
        | (refine B_skip ?_ ?_; (· rfl); (try simp only [Act.put, List.setIfInBounds_toArray, List.set_cons_zero, List.set_cons_succ]))
        | (refine B_move rfl ?_ ?_; (· rfl); (try simp only [Act.eval, Act.put, Array.getD_eq_getD_getElem?, List.getElem?_toArray, List.getElem?_cons_succ, List.getElem?_cons_zero, Option.getD_some, List.setIfInBounds_toArray, List.set_cons_zero, List.set_cons_succ]))
        | (refine B_plain ?_ ?_; (· rfl); intro K hK; go_big_quiet_op; with_reducible refine hK _ ?_; clear hK K)
        | (refine B_callX (v := ?_) (f := 49) rfl (by kernel_rfl) ?_ (fun xq => ?_) ?_; rotate_left; (· rfl); (· ((simp only [List.map_toArray, List.map_cons, List.map_nil, Act.eval, Array.getD_eq_getD_getElem?, List.getElem?_toArray, List.getElem?_cons_succ, List.getElem?_cons_zero, Option.getD_some]); with_reducible apply retB; with_reducible exact (refStart_to s k hc1 y HY.out _))); (try simp only [Act.put, List.setIfInBounds_toArray, List.set_cons_zero, List.set_cons_succ]))
        | (refine B_callX (v := ?_) (f := 48) rfl (by kernel_rfl) ?_ (fun xq => ?_) ?_; rotate_left; (· rfl); (· ((simp only [List.map_toArray, List.map_cons, List.map_nil, Act.eval, Array.getD_eq_getD_getElem?, List.getElem?_toArray, List.getElem?_cons_succ, List.getElem?_cons_zero, Option.getD_some]); with_reducible apply retB; with_reducible exact (refChain_int y z _ _ HK.out h10.out HZ.out _))); (try simp only [Act.put, List.setIfInBounds_toArray, List.set_cons_zero, List.set_cons_succ]))
        | (refine B_new (t := 22) (z := .agg #[.int .u8 0, .int .u8 0, .int .u8 0, .int .u8 0, .int .u8 0, .int .u8 0, .int .u8 0, .int .u8 0]) rfl rfl (by kernel_rfl) ?_ ?_; (· rfl)))
      refine B_nil ?_ rfl ?_ ?_
      · kernel_rfl
      · rfl
      rintro _ ⟨⟨g2, d2⟩, rfl⟩
      simp only [fin, Act.put, List.setIfInBounds_toArray, List.set_cons_zero, List.set_cons_succ]
      rintro _ ⟨bx, rfl, hbx, hh⟩
      have M5 := HM.out.found ⟨⟨g2, d2⟩, rfl⟩ hbx hh
      have hbx' : w.heap.size ≤ bx := by have := HM.out.size; omega
      generalize plus wr g2 d2 = w5 at *
      have M6 := (show Mem w5 w (⟨bx, 22, #[.int .u8 0, .int .u8 0, .int .u8 0, .int .u8 0, .int .u8 0, .int .u8 0, .int .u8 0, .int .u8 0]⟩ :: (B ++ [⟨bd, 31, dgA m⟩, ⟨w.heap.size, 22, #[.int .u8 (by8 s 0), .int .u8 (by8 s 1), .int .u8 (by8 s 2), .int .u8 (by8 s 3), .int .u8 (by8 s 4), .int .u8 (by8 s 5), .int .u8 (by8 s 6), .int .u8 (by8 s 7)]⟩])) from M5).swap
      have HM6 := Lib.hid M6
      clear M5 M6 hh q q1 lq lq1
      refine last_one (k := 8) (by kernel_rfl) (by kernel_rfl) (by rfl) ?_ ?_
      · rfl
      intro K hK
      refine wp_store_blk 22 (.tmp 8) (.tmp 22) (by rfl) HM6.out (by rfl) #[.int .u8 (by8 z 0), .int .u8 (by8 z 1), .int .u8 (by8 z 2), .int .u8 (by8 z 3), .int .u8 (by8 z 4), .int .u8 (by8 z 5), .int .u8 (by8 z 6), .int .u8 (by8 z 7)] (by rfl) (by kernel_rfl) (by rfl) (dcs_one z) (fun w6 M7 => hK _ _ ?_)
      clear hK K HM6
      go_wp2
      obtain ⟨wo, rfl⟩ : ∃ wo : World, wo = wr := ⟨_, rfl⟩
      clear HM db
      go_loopw [6, 9] (fun v jv wr => ∃ (j cap : Nat) (ao : Option Addr) (B : List Blk), v = .slice ao (8 * k + j) cap ∧ jv = .int .i64 j ∧ j ≤ 8 ∧ Row 5 1 (.slice ao (8 * k + j) cap) (8 * k + j) (bcs (bysL (signD s m k) ++ (bys z).take j)) B ∧ New w B ∧ Mem wr w (B ++ [⟨bx, 22, #[.int .u8 (by8 z 0), .int .u8 (by8 z 1), .int .u8 (by8 z 2), .int .u8 (by8 z 3), .int .u8 (by8 z 4), .int .u8 (by8 z 5), .int .u8 (by8 z 6), .int .u8 (by8 z 7)]⟩, ⟨bd, 31, dgA m⟩, ⟨w.heap.size, 22, #[.int .u8 (by8 s 0), .int .u8 (by8 s 1), .int .u8 (by8 s 2), .int .u8 (by8 s 3), .int .u8 (by8 s 4), .int .u8 (by8 s 5), .int .u8 (by8 s 6), .int .u8 (by8 s 7)]⟩])) (fun _ jv _ => 8 - (intOf jv).toNat)
      case atStart => exact ⟨0, cap, ao, B, rfl, rfl, by omega, by simpa using HR.out, hB, M7⟩
      case round =>
        clear M7 HR hB
        obtain ⟨j, cap, ao, B, rfl, rfl, hj, R, hB, M⟩ := hrel
        by_cases hj8 : j < 8
        · have cj : wr.cell? ⟨bx, j, none⟩ = some (.int .u8 (by8 z j)) := by rw [M.cell0]; exact dgc_at z j hj8
          have HS := Lib.hid (bcs_part s m k j z HZ2.out hj8)
          have HM := Lib.hid M
          have HR := Lib.hid R
          clear M R
          go_wp2_with (at_builtin; refine wpList_append_new rfl (.tmp 27) (.tmp 31) 28 rfl elt_u8 HM.out hB _ _ _ (by rfl) HR.out _ _ _ _ _ (by rfl) rfl (by simp) (by simp [Value.oneCell']) ?c1 ?c2 (8 * k + (j + 1)) (by omega) _ HS.out (fun ao' cap' B' w' R' M' hB' => ?_))
          case c1 => unfold maxLen; omega
          case c2 => omega
          go_roundw
          case rel => exact ⟨j + 1, cap', ao', B', rfl, by go_num, by omega, R', hB', M'⟩
          case measure => simp [intOf]; omega
        · obtain rfl : j = 8 := by omega
          have HS : Hid (bysL (signD s m k) ++ (bys z).take 8 = bysL (signD s m (k + 1))) := by
            show _ = _
            rw [signD_succ, bysL_snoc, HZ2.out]
            rfl
          have HM := Lib.hid M
          have HR := Lib.hid R
          clear M R
          go_wp2
          go_roundw
          case rel => exact ⟨k + 1, cap, ao, B, by omega, by congr 1, by go_num, by rw [← HS.out]; exact HR.out, hB, HM.out.drop_mid hbx'⟩
          case measure => simp [intOf]; omega
    · obtain rfl : k = 18 := by omega
      have HD : Hid (BSl wr (.slice ao (8 * 18) cap) (signB s m)) := R.bsl M
      have HB := Lib.hid (M.below (hB.app (New.cons hbd (New.cons (by simp) (New.nil _)))))
      clear M R
      go_wp2
      go_ret
      exact ⟨_, rfl, HB.out, HD.out⟩

end Go.Proofs.Ythdcfdfpfagamaa
