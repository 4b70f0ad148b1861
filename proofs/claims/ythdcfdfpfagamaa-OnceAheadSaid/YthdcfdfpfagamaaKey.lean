/- once: contracts of key, Public, Told, Verify. -/
import Derived.Test.YthdcfdfpfagamaaOn
namespace Go.Proofs.Ythdcfdfpfagamaa
set_option linter.unusedSimpArgs false
set_option linter.unusedVariables false
open Go.RowKit

theorem dcs_size (x : BitVec 64) : (dcs x).toArray.size = 8 := rfl
theorem size_dig (x : BitVec 64) : (Try.prog.info? 24).map (·.size) = some ((dcs x).toArray).size := by rw [dcs_size]; kernel_rfl
/-- Digests, laid one behind the other into cells. -/
def Laid (f : Nat → BitVec 64) (k : Nat) (cs : Array Value) : Prop := cs.size = 144 ∧ ∀ i, i < k → ∀ j, j < 8 → cs[i * 8 + j]? = some (.int .u8 (by8 (f i) j))
theorem Laid.step {f : Nat → BitVec 64} {k : Nat} {cs : Array Value} (h : Laid f k cs) (hk : k < 18) (z : BitVec 64) (hz : f k = z) : Laid f (k + 1) (writeAt cs (k * 8) (dcs z)) := by
  subst hz
  obtain ⟨hs, h⟩ := h
  have hsz : (writeAt cs (k * 8) (dcs (f k))).size = 144 := by
    rw [← hs]
    generalize dcs (f k) = vs
    generalize k * 8 = o
    clear h hs hk
    induction vs generalizing cs o with
    | nil => rfl
    | cons v r ih => rw [writeAt, ih]; simp
  refine ⟨hsz, fun i hi j hj => ?_⟩
  rw [writeAt_get, dcs_len]
  by_cases hik : i = k
  · subst hik
    rw [if_pos (by omega), show i * 8 + j - i * 8 = j by omega]
    exact dcs_get _ _ hj
  · rw [if_neg (by omega)]
    exact h i (by omega) j hj
theorem Laid.dsl {f : Nat → BitVec 64} {cs : Array Value} (h : Laid f 18 cs) {w w0 : World} {L : List Blk} {b : Nat} {t : TypeId} (M : Mem w w0 (⟨b, t, cs⟩ :: L)) : DSl w (.slice (some ⟨b, 0, none⟩) 18 18) ((List.range 18).map f) := by
  have hl : ((List.range 18).map f).length = 18 := by simp
  refine ⟨some ⟨b, 0, none⟩, 18, by rw [hl], ⟨by rw [hl]; omega, fun h => by cases h⟩, .inr ⟨b, 0, rfl, M.lt (x := ⟨b, t, cs⟩) (by simp), fun i hi j hj => ?_⟩⟩
  rw [hl] at hi
  rw [M.cell (t := t) (cs := cs) (by simp), Nat.zero_add, h.2 i hi j hj]
  simp [List.getD_eq_getElem?_getD, hi]
theorem many_to (v : Value) (xs : List (BitVec 64)) (w : World) (hv : DSl w v xs) (hl : xs.length ≤ 1000000) (z : BitVec 64) (hz : manyF xs = z) :
    Calls Try.prog 64 #[v] w fun e w' => e = .returned (.agg #[.int .u8 (by8 z 0), .int .u8 (by8 z 1), .int .u8 (by8 z 2), .int .u8 (by8 z 3), .int .u8 (by8 z 4), .int .u8 (by8 z 5), .int .u8 (by8 z 6), .int .u8 (by8 z 7)]) ∧ Below w.heap.size w w' := many_any v xs w hv hl z hz

theorem dg_zero : (.agg #[.int .u8 (by8 (0#64) 0), .int .u8 (by8 (0#64) 1), .int .u8 (by8 (0#64) 2), .int .u8 (by8 (0#64) 3), .int .u8 (by8 (0#64) 4), .int .u8 (by8 (0#64) 5), .int .u8 (by8 (0#64) 6), .int .u8 (by8 (0#64) 7)] : Value) = .agg #[.int .u8 0, .int .u8 0, .int .u8 0, .int .u8 0, .int .u8 0, .int .u8 0, .int .u8 0, .int .u8 0] := by simp [by8_eq]
set_option maxRecDepth 100000 in
set_option maxHeartbeats 2000000 in
theorem keyP_to (f : Nat → BitVec 64) (b : Nat) (z : BitVec 64) (hz : keyF f = z) (w : World)
    (hf : ∀ c, c < 18 → ∀ y, f c = y → ∀ W, Below w.heap.size w W → Calls Try.prog 46 #[.int .i64 c, .pointer (some ⟨b, 0, none⟩)] W fun e w' => e = .returned (.agg #[.int .u8 (by8 y 0), .int .u8 (by8 y 1), .int .u8 (by8 y 2), .int .u8 (by8 y 3), .int .u8 (by8 y 4), .int .u8 (by8 y 5), .int .u8 (by8 y 6), .int .u8 (by8 y 7)]) ∧ Below W.heap.size W w') :
    Calls Try.prog 45 #[.func (.func 46) #[] #[.pointer (some ⟨b, 0, none⟩)]] w fun e w' => e = .returned (.agg #[.int .u8 (by8 z 0), .int .u8 (by8 z 1), .int .u8 (by8 z 2), .int .u8 (by8 z 3), .int .u8 (by8 z 4), .int .u8 (by8 z 5), .int .u8 (by8 z 6), .int .u8 (by8 z 7)]) ∧ Below w.heap.size w w' := by
  have HF := Lib.hid hf
  clear hf
  have HZ : Hid (manyF ((List.range 18).map f) = z) := hz
  clear hz
  obtain ⟨N, hN, hmk⟩ : ∃ N : Array Value, N.size = 144 ∧ ∀ W : World, (Instr.makeSlice 85 (.int .i64 18) (.int .i64 18)).run Try.prog W = .ok (.slice (some ⟨W.heap.size, 0, none⟩) 18 18) (W.alloc (.cells N 24)) := by
    obtain ⟨i, z, ht, hi, hz, hsz, hby, hzs, -⟩ := elt_dig
    refine ⟨madeCells z.cells (18 * i.size), by rw [size_madeCells, hsz], fun W => ?_⟩
    have hr := run_make (P := Try.prog) (w := W) 85 24 i z ht hi hz .i64 .i64 18 18 (by omega) (by omega) (by rw [hby]; omega) (by omega)
    exact hr
  have HN := Lib.hid hN
  clear hN
  go_enter Try.func45, Try.ntmps45
  go_wp2
  have M0 := ((Mem.start w).key #[.int .u8 0, .int .u8 0, .int .u8 0, .int .u8 0, .int .u8 0, .int .u8 0, .int .u8 0, .int .u8 0] 24 w.heap.size rfl).key N 24 (w.heap.size + 1) (by simp)
  have L0 : Laid f 0 N := ⟨HN.out, fun i hi => absurd hi (by omega)⟩
  clear hmk
  go_loopw [8] (fun i wr => ∃ (k : Nat) (cs : Array Value), k ≤ 18 ∧ i = .int .i64 k ∧ Laid f k cs ∧ Mem wr w ([] ++ [⟨w.heap.size + 1, 24, cs⟩, ⟨w.heap.size, 24, #[.int .u8 0, .int .u8 0, .int .u8 0, .int .u8 0, .int .u8 0, .int .u8 0, .int .u8 0, .int .u8 0]⟩])) (fun i _ => 18 - (intOf i).toNat)
  case atStart => exact ⟨0, N, by omega, rfl, L0, M0⟩
  case round =>
    clear M0 L0
    obtain ⟨k, cs, hk, rfl, HL, M⟩ := hrel
    have HM := Lib.hid M
    have HB := Lib.hid (M.below (New.cons (by simp) (New.cons (by simp) (New.nil _))))
    by_cases hlt : k < 18
    · obtain ⟨y, HY⟩ : ∃ y, Hid (f k = y) := ⟨_, rfl⟩
      have HS := Lib.hid (HL.step hlt y HY.out)
      have HE := Lib.hid HL.1
      clear HL M
      go_wp2_with (first
        | (go_at_call 46; refine (HF.out k hlt y HY.out _ HB.out).mono ?_; rintro e w1 ⟨rfl, hb1⟩; obtain ⟨g1, d1, rfl⟩ := plus_of_below hb1; clear hb1)
        | (refine wpList_store_part rfl 24 (.tmp 16) (.tmp 15) rfl (B := []) (HM.out.plus _ _) (k * 8) (by rfl) (dcs y).toArray (by rfl) (size_dig y) (by rw [dcs_size, HE.out]; omega) (dcs_one y) ?_; intro w3 M3))
      go_roundw
      case rel => exact ⟨k + 1, _, by omega, by go_num, HS.out, M3⟩
      case measure => simp [intOf]; omega
    · obtain rfl : k = 18 := by omega
      have HD := Lib.hid (HL.dsl M)
      have hl6 : ((List.range 18).map f).length ≤ 1000000 := by simp
      have HL6 := Lib.hid hl6
      have cr := M.cell1
      have fr := M.frozen1
      have lr := M.lt1
      clear hl6 HL M
      go_wp2_with (first
        | (go_at_call 64; refine (many_to _ _ _ HD.out HL6.out z HZ.out).mono ?_; rintro e w2 ⟨rfl, hb2⟩; obtain ⟨g2, d2, rfl⟩ := plus_of_below hb2; clear hb2)
        | (refine wpList_store_blk rfl 24 (.tmp 2) (.tmp 19) rfl (B := [_]) (HM.out.plus _ _) (by rfl) (dcs z).toArray (by rfl) (by kernel_rfl) (by rfl) (dcs_one z) ?_; intro w3 M3))
      refine bodyPost_ret (v := .agg #[.int .u8 (by8 z 0), .int .u8 (by8 z 1), .int .u8 (by8 z 2), .int .u8 (by8 z 3), .int .u8 (by8 z 4), .int .u8 (by8 z 5), .int .u8 (by8 z 6), .int .u8 (by8 z 7)]) (results_cell_row Try.results45 _ _ _ _ _ _ _ (by rfl) M3.blk0 Try.underlying24 rfl (size_dig z)) rfl ⟨rfl, M3.below (New.cons (by simp) (New.cons (by simp) (New.nil _)))⟩

set_option maxRecDepth 100000 in
set_option maxHeartbeats 2000000 in
theorem keyT_to (f : Nat → BitVec 64) (b b2 : Nat) (z : BitVec 64) (hz : keyF f = z) (w : World)
    (hf : ∀ c, c < 18 → ∀ y, f c = y → ∀ W, Below w.heap.size w W → Calls Try.prog 51 #[.int .i64 c, .pointer (some ⟨b, 0, none⟩), .pointer (some ⟨b2, 0, none⟩)] W fun e w' => e = .returned (.agg #[.int .u8 (by8 y 0), .int .u8 (by8 y 1), .int .u8 (by8 y 2), .int .u8 (by8 y 3), .int .u8 (by8 y 4), .int .u8 (by8 y 5), .int .u8 (by8 y 6), .int .u8 (by8 y 7)]) ∧ Below W.heap.size W w') :
    Calls Try.prog 45 #[.func (.func 51) #[] #[.pointer (some ⟨b, 0, none⟩), .pointer (some ⟨b2, 0, none⟩)]] w fun e w' => e = .returned (.agg #[.int .u8 (by8 z 0), .int .u8 (by8 z 1), .int .u8 (by8 z 2), .int .u8 (by8 z 3), .int .u8 (by8 z 4), .int .u8 (by8 z 5), .int .u8 (by8 z 6), .int .u8 (by8 z 7)]) ∧ Below w.heap.size w w' := by
  have HF := Lib.hid hf
  clear hf
  have HZ : Hid (manyF ((List.range 18).map f) = z) := hz
  clear hz
  obtain ⟨N, hN, hmk⟩ : ∃ N : Array Value, N.size = 144 ∧ ∀ W : World, (Instr.makeSlice 85 (.int .i64 18) (.int .i64 18)).run Try.prog W = .ok (.slice (some ⟨W.heap.size, 0, none⟩) 18 18) (W.alloc (.cells N 24)) := by
    obtain ⟨i, z, ht, hi, hz, hsz, hby, hzs, -⟩ := elt_dig
    refine ⟨madeCells z.cells (18 * i.size), by rw [size_madeCells, hsz], fun W => ?_⟩
    have hr := run_make (P := Try.prog) (w := W) 85 24 i z ht hi hz .i64 .i64 18 18 (by omega) (by omega) (by rw [hby]; omega) (by omega)
    exact hr
  have HN := Lib.hid hN
  clear hN
  go_enter Try.func45, Try.ntmps45
  go_wp2
  have M0 := ((Mem.start w).key #[.int .u8 0, .int .u8 0, .int .u8 0, .int .u8 0, .int .u8 0, .int .u8 0, .int .u8 0, .int .u8 0] 24 w.heap.size rfl).key N 24 (w.heap.size + 1) (by simp)
  have L0 : Laid f 0 N := ⟨HN.out, fun i hi => absurd hi (by omega)⟩
  clear hmk
  go_loopw [8] (fun i wr => ∃ (k : Nat) (cs : Array Value), k ≤ 18 ∧ i = .int .i64 k ∧ Laid f k cs ∧ Mem wr w ([] ++ [⟨w.heap.size + 1, 24, cs⟩, ⟨w.heap.size, 24, #[.int .u8 0, .int .u8 0, .int .u8 0, .int .u8 0, .int .u8 0, .int .u8 0, .int .u8 0, .int .u8 0]⟩])) (fun i _ => 18 - (intOf i).toNat)
  case atStart => exact ⟨0, N, by omega, rfl, L0, M0⟩
  case round =>
    clear M0 L0
    obtain ⟨k, cs, hk, rfl, HL, M⟩ := hrel
    have HM := Lib.hid M
    have HB := Lib.hid (M.below (New.cons (by simp) (New.cons (by simp) (New.nil _))))
    by_cases hlt : k < 18
    · obtain ⟨y, HY⟩ : ∃ y, Hid (f k = y) := ⟨_, rfl⟩
      have HS := Lib.hid (HL.step hlt y HY.out)
      have HE := Lib.hid HL.1
      clear HL M
      go_wp2_with (first
        | (go_at_call 51; refine (HF.out k hlt y HY.out _ HB.out).mono ?_; rintro e w1 ⟨rfl, hb1⟩; obtain ⟨g1, d1, rfl⟩ := plus_of_below hb1; clear hb1)
        | (refine wpList_store_part rfl 24 (.tmp 16) (.tmp 15) rfl (B := []) (HM.out.plus _ _) (k * 8) (by rfl) (dcs y).toArray (by rfl) (size_dig y) (by rw [dcs_size, HE.out]; omega) (dcs_one y) ?_; intro w3 M3))
      go_roundw
      case rel => exact ⟨k + 1, _, by omega, by go_num, HS.out, M3⟩
      case measure => simp [intOf]; omega
    · obtain rfl : k = 18 := by omega
      have HD := Lib.hid (HL.dsl M)
      have hl6 : ((List.range 18).map f).length ≤ 1000000 := by simp
      have HL6 := Lib.hid hl6
      have cr := M.cell1
      have fr := M.frozen1
      have lr := M.lt1
      clear hl6 HL M
      go_wp2_with (first
        | (go_at_call 64; refine (many_to _ _ _ HD.out HL6.out z HZ.out).mono ?_; rintro e w2 ⟨rfl, hb2⟩; obtain ⟨g2, d2, rfl⟩ := plus_of_below hb2; clear hb2)
        | (refine wpList_store_blk rfl 24 (.tmp 2) (.tmp 19) rfl (B := [_]) (HM.out.plus _ _) (by rfl) (dcs z).toArray (by rfl) (by kernel_rfl) (by rfl) (dcs_one z) ?_; intro w3 M3))
      refine bodyPost_ret (v := .agg #[.int .u8 (by8 z 0), .int .u8 (by8 z 1), .int .u8 (by8 z 2), .int .u8 (by8 z 3), .int .u8 (by8 z 4), .int .u8 (by8 z 5), .int .u8 (by8 z 6), .int .u8 (by8 z 7)]) (results_cell_row Try.results45 _ _ _ _ _ _ _ (by rfl) M3.blk0 Try.underlying24 rfl (size_dig z)) rfl ⟨rfl, M3.below (New.cons (by simp) (New.cons (by simp) (New.nil _)))⟩


set_option maxRecDepth 100000 in
set_option maxHeartbeats 1000000 in
theorem public_to (s z : BitVec 64) (hz : publicF s = z) (w : World) :
    Calls Try.prog 20 #[.agg #[.int .u8 (by8 s 0), .int .u8 (by8 s 1), .int .u8 (by8 s 2), .int .u8 (by8 s 3), .int .u8 (by8 s 4), .int .u8 (by8 s 5), .int .u8 (by8 s 6), .int .u8 (by8 s 7)]] w fun e w' => e = .returned (.agg #[.int .u8 (by8 z 0), .int .u8 (by8 z 1), .int .u8 (by8 z 2), .int .u8 (by8 z 3), .int .u8 (by8 z 4), .int .u8 (by8 z 5), .int .u8 (by8 z 6), .int .u8 (by8 z 7)]) ∧ Below w.heap.size w w' := by
  have HZ : Hid (keyF (fun c => chainF (startF s c) 15) = z) := hz
  clear hz
  have HB : Hid (HasBlk ((w.alloc (.cells #[.int .u8 (by8 s 0), .int .u8 (by8 s 1), .int .u8 (by8 s 2), .int .u8 (by8 s 3), .int .u8 (by8 s 4), .int .u8 (by8 s 5), .int .u8 (by8 s 6), .int .u8 (by8 s 7)] 24)).alloc (.cells #[.int .u8 0, .int .u8 0, .int .u8 0, .int .u8 0, .int .u8 0, .int .u8 0, .int .u8 0, .int .u8 0] 24)) w.heap.size 24 #[.int .u8 (by8 s 0), .int .u8 (by8 s 1), .int .u8 (by8 s 2), .int .u8 (by8 s 3), .int .u8 (by8 s 4), .int .u8 (by8 s 5), .int .u8 (by8 s 6), .int .u8 (by8 s 7)]) := (HasBlk.new w _ _ _ rfl).alloc _
  go_enter Try.func20, Try.ntmps20
  go_wp2_with (go_at_call 45; refine (keyP_to _ w.heap.size z HZ.out _ (fun c hc y hy W hW => public1_to s _ c hc y hy W (HB.out.below hW))).mono ?_; rintro e w1 ⟨rfl, hb1⟩; obtain ⟨g1, d1, rfl⟩ := plus_of_below hb1; clear hb1)
  refine bodyPost_ret (v := .agg #[.int .u8 (by8 z 0), .int .u8 (by8 z 1), .int .u8 (by8 z 2), .int .u8 (by8 z 3), .int .u8 (by8 z 4), .int .u8 (by8 z 5), .int .u8 (by8 z 6), .int .u8 (by8 z 7)]) (by simp [results, Try.results20, go_sem]) rfl ⟨rfl, by (repeat' (first | (with_reducible exact Below.refl _ _) | (with_reducible refine bplus ?_ _ _) | (with_reducible refine balloc ?_ _) | (with_reducible refine Below.drew ?_) | (with_reducible refine bdrewN ?_ _) | (with_reducible refine Below.setCell ?_ (by go_size) _)))⟩

set_option maxRecDepth 100000 in
set_option maxHeartbeats 1000000 in
theorem told_no (m : BitVec 64) (ao : Option Addr) (n cap : Nat) (hn : n ≠ 144) (w : World) :
    Calls Try.prog 27 #[.agg #[.int .u8 (by8 m 0), .int .u8 (by8 m 1), .int .u8 (by8 m 2), .int .u8 (by8 m 3), .int .u8 (by8 m 4), .int .u8 (by8 m 5), .int .u8 (by8 m 6), .int .u8 (by8 m 7)], .slice ao n cap] w fun e w' => e = .returned (.tuple #[.agg #[.int .u8 (by8 (0#64) 0), .int .u8 (by8 (0#64) 1), .int .u8 (by8 (0#64) 2), .int .u8 (by8 (0#64) 3), .int .u8 (by8 (0#64) 4), .int .u8 (by8 (0#64) 5), .int .u8 (by8 (0#64) 6), .int .u8 (by8 (0#64) 7)], .bool false]) ∧ Below w.heap.size w w' := by
  have hb : (((n : Int)) != 144) = true := by rw [bne_iff_ne]; omega
  have hz := Lib.hid dg_zero
  go_enter Try.func27, Try.ntmps27
  go_wp2
  refine bodyPost_ret (v := .tuple #[.agg #[.int .u8 0, .int .u8 0, .int .u8 0, .int .u8 0, .int .u8 0, .int .u8 0, .int .u8 0, .int .u8 0], .bool false]) (by simp [results, Try.results27, go_sem]) rfl ⟨by rw [hz.out], by (repeat' (first | (with_reducible exact Below.refl _ _) | (with_reducible refine bplus ?_ _ _) | (with_reducible refine balloc ?_ _) | (with_reducible refine Below.drew ?_) | (with_reducible refine bdrewN ?_ _) | (with_reducible refine Below.setCell ?_ (by go_size) _)))⟩

set_option maxRecDepth 100000 in
set_option maxHeartbeats 1000000 in
theorem told_yes (m : BitVec 64) (v : Value) (l : List UInt8) (hl : l.length = 144) (w : World) (hv : BSl w v l) (z : BitVec 64) (hz : toldF m l = z) :
    Calls Try.prog 27 #[.agg #[.int .u8 (by8 m 0), .int .u8 (by8 m 1), .int .u8 (by8 m 2), .int .u8 (by8 m 3), .int .u8 (by8 m 4), .int .u8 (by8 m 5), .int .u8 (by8 m 6), .int .u8 (by8 m 7)], v] w fun e w' => e = .returned (.tuple #[.agg #[.int .u8 (by8 z 0), .int .u8 (by8 z 1), .int .u8 (by8 z 2), .int .u8 (by8 z 3), .int .u8 (by8 z 4), .int .u8 (by8 z 5), .int .u8 (by8 z 6), .int .u8 (by8 z 7)], .bool true]) ∧ Below w.heap.size w w' := by
  have HV := Lib.hid hv
  obtain ⟨ao, cap, rfl, h1, h2, h3⟩ := hv.open_
  rw [hl] at HV ⊢
  have HZ : Hid (keyF (fun c => chainF (wordAt l c) (15 - (dgt m c).toNat)) = z) := hz
  have HL := Lib.hid hl
  clear hz h1 h2 h3 hv hl
  go_enter Try.func27, Try.ntmps27
  go_wp2_with (first
    | (go_at_call 25; refine (reach_any m _).mono ?_; rintro e w1 ⟨rfl, hb1⟩; obtain ⟨g1, d1, rfl⟩ := plus_of_below hb1; clear hb1)
    | (refine wpList_store_blk rfl 31 (.tmp 6) (.tmp 12) rfl (B := []) (L := [⟨w.heap.size + 1 + 1, 24, #[.int .u8 0, .int .u8 0, .int .u8 0, .int .u8 0, .int .u8 0, .int .u8 0, .int .u8 0, .int .u8 0]⟩, ⟨w.heap.size + 1, 28, #[.slice ao 144 cap]⟩]) (w0 := w) (Mem.key (Mem.plus (Mem.key (Mem.key (Mem.alloc (Mem.start w) _) _ _ _ (by simp)) _ _ _ (by simp)) _ _) _ _ (w.heap.size + 1 + 1 + 1 + g1.size) (by simp)) (by rfl) (dgA m) (by rfl) (by kernel_rfl) (by rw [dgA_size]; rfl) (dgA_one m) ?_; intro w3 M3)
    | (go_at_call 45; refine (keyT_to _ (w.heap.size + 1) (w.heap.size + 1 + 1 + 1 + g1.size) z HZ.out _ (fun c hc y hy W hW => told1_to m l (.slice ao 144 cap) _ _ c hc HL.out y hy W (HasBlk.below M3.blk2 hW) (HasBlk.below M3.blk0 hW) ((HV.out.below (M3.below (New.cons (by simp; omega) (New.cons (by simp; omega) (New.cons (by simp) (New.nil _)))))).below hW))).mono ?_; rintro e w4 ⟨rfl, hb4⟩; obtain ⟨g4, d4, rfl⟩ := plus_of_below hb4; clear hb4)
    | (refine wpList_store_blk rfl 24 (.tmp 4) (.tmp 14) rfl (B := [_]) (M3.plus _ _) (by rfl) #[.int .u8 (by8 z 0), .int .u8 (by8 z 1), .int .u8 (by8 z 2), .int .u8 (by8 z 3), .int .u8 (by8 z 4), .int .u8 (by8 z 5), .int .u8 (by8 z 6), .int .u8 (by8 z 7)] (by rfl) (by kernel_rfl) (by rfl) (dcs_one z) ?_; intro w5 M5))
  have c5 := M5.cell0
  refine bodyPost_ret (v := .tuple #[.agg #[.int .u8 (by8 z 0), .int .u8 (by8 z 1), .int .u8 (by8 z 2), .int .u8 (by8 z 3), .int .u8 (by8 z 4), .int .u8 (by8 z 5), .int .u8 (by8 z 6), .int .u8 (by8 z 7)], .bool true]) (by simp [results, Try.results27, go_sem, c5]) rfl ⟨rfl, M5.below (New.cons (by simp; omega) (New.cons (by simp; omega) (New.cons (by simp) (New.nil _))))⟩

end Go.Proofs.Ythdcfdfpfagamaa
