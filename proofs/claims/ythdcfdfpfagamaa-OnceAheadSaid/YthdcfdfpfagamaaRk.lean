/- once's reference: contracts of Shown, Public, Told. -/
import Derived.Test.YthdcfdfpfagamaaKey
import Derived.Test.YthdcfdfpfagamaaTl
namespace Go.Proofs.Ythdcfdfpfagamaa
set_option linter.unusedSimpArgs false
set_option linter.unusedVariables false
open Go.RowKit

theorem dgc_ext (z : BitVec 64) (cs : Array Value) (hs : cs.size = 8) (h : ∀ j, j < 8 → cs[j]? = some (.int .u8 (by8 z j))) : cs = #[.int .u8 (by8 z 0), .int .u8 (by8 z 1), .int .u8 (by8 z 2), .int .u8 (by8 z 3), .int .u8 (by8 z 4), .int .u8 (by8 z 5), .int .u8 (by8 z 6), .int .u8 (by8 z 7)] := by
  apply Array.ext_getElem?
  intro i
  by_cases hi : i < 8
  · rw [h i hi, dgc_at z i hi]
  · rw [Array.getElem?_eq_none (by omega), Array.getElem?_eq_none (by simp; omega)]

set_option maxRecDepth 100000 in
set_option maxHeartbeats 2000000 in
theorem refShown_to (v : Value) (l : List UInt8) (c : Nat) (hc : 8 * c + 8 ≤ l.length) (hl : l.length ≤ 1000000) (z : BitVec 64) (hz : wordAt l c = z) (w : World) (hv : BSl w v l) :
    Calls Try.prog 32 #[v, .int .i64 c] w fun e w' => e = .returned (.agg #[.int .u8 (by8 z 0), .int .u8 (by8 z 1), .int .u8 (by8 z 2), .int .u8 (by8 z 3), .int .u8 (by8 z 4), .int .u8 (by8 z 5), .int .u8 (by8 z 6), .int .u8 (by8 z 7)]) ∧ Below w.heap.size w w' := by
  obtain ⟨b, o, cap, rfl, h1, hb, h3⟩ := bsl_cells8 hv c hc
  have H3 : Hid (∀ j, j < 8 → w.cell? ⟨b, o + (8 * c + j), none⟩ = some (.int .u8 (by8 z j))) := fun j hj => by
    have := h3 j hj
    rw [hz] at this
    rw [← this]; congr 2; omega
  clear h3 hv hz
  go_enter Try.func32, Try.ntmps32
  go_wp2
  have M0 := ((Mem.start w).key #[.int .u8 0, .int .u8 0, .int .u8 0, .int .u8 0, .int .u8 0, .int .u8 0, .int .u8 0, .int .u8 0] 22 w.heap.size rfl).key #[.int .u8 0, .int .u8 0, .int .u8 0, .int .u8 0, .int .u8 0, .int .u8 0, .int .u8 0, .int .u8 0] 22 (w.heap.size + 1) (by simp)
  go_loopw [6] (fun i wr => ∃ (k : Nat) (cs : Array Value), k ≤ 8 ∧ i = .int .i64 k ∧ cs.size = 8 ∧ (∀ j, j < k → cs[j]? = some (.int .u8 (by8 z j))) ∧ Mem wr w ([] ++ [⟨w.heap.size + 1, 22, cs⟩, ⟨w.heap.size, 22, #[.int .u8 0, .int .u8 0, .int .u8 0, .int .u8 0, .int .u8 0, .int .u8 0, .int .u8 0, .int .u8 0]⟩])) (fun i _ => 8 - (intOf i).toNat)
  case atStart => exact ⟨0, _, by omega, rfl, rfl, fun j hj => absurd hj (by omega), M0⟩
  case round =>
    clear M0
    obtain ⟨k, cs, hk, rfl, hs, hcs, M⟩ := hrel
    have hN : New w ([] ++ [⟨w.heap.size + 1, 22, cs⟩, ⟨w.heap.size, 22, #[.int .u8 0, .int .u8 0, .int .u8 0, .int .u8 0, .int .u8 0, .int .u8 0, .int .u8 0, .int .u8 0]⟩]) := New.cons (by simp) (New.cons (by simp) (New.nil _))
    by_cases hlt : k < 8
    · have q : wr.cell? ⟨b, o + (8 * c + k), none⟩ = some (.int .u8 (by8 z k)) := (M.oldcell hN hb _).trans (H3.out k hlt)
      obtain ⟨u, hu⟩ : ∃ u, cs[k]? = some u := ⟨cs[k], Array.getElem?_eq_getElem (by omega)⟩
      have q2 : wr.cell? ⟨w.heap.size + 1, k, none⟩ = some u := by rw [M.cell0]; exact hu
      have f2 := M.frozen0
      have HM := Lib.hid M
      have HC := Lib.hid hcs
      have HS := Lib.hid hs
      clear hu hcs M hN hs
      go_wp2
      go_roundw
      case rel =>
        refine ⟨k + 1, cs.setIfInBounds k (.int .u8 (by8 z k)), by omega, by go_num, by simp [HS.out], fun j hj => ?_, HM.out.set0 _ _⟩
        rw [Array.getElem?_setIfInBounds]
        by_cases hjk : k = j
        · subst hjk; rw [if_pos rfl, if_pos (by rw [HS.out]; omega)]
        · rw [if_neg hjk]; exact HC.out j (by omega)
      case measure => simp [intOf]; omega
    · obtain rfl : k = 8 := by omega
      obtain rfl := dgc_ext z cs hs hcs
      have q := M.cell0
      have q2 := M.cell1
      have f2 := M.frozen1
      have HM := Lib.hid M
      clear M hcs hs
      go_wp2_with (refine wpList_store_blk rfl 22 (.tmp 4) (.tmp 20) rfl (B := [_]) HM.out (by rfl) #[.int .u8 (by8 z 0), .int .u8 (by8 z 1), .int .u8 (by8 z 2), .int .u8 (by8 z 3), .int .u8 (by8 z 4), .int .u8 (by8 z 5), .int .u8 (by8 z 6), .int .u8 (by8 z 7)] (by rfl) (by kernel_rfl) (by rfl) (dcs_one z) ?_; intro w3 M3)
      have c3 := M3.cell0
      refine bodyPost_ret (v := .agg #[.int .u8 (by8 z 0), .int .u8 (by8 z 1), .int .u8 (by8 z 2), .int .u8 (by8 z 3), .int .u8 (by8 z 4), .int .u8 (by8 z 5), .int .u8 (by8 z 6), .int .u8 (by8 z 7)]) (by simp [results, Try.results32, go_sem, c3]) rfl ⟨rfl, M3.below (New.cons (by simp) (New.cons (by simp) (New.nil _)))⟩

set_option maxRecDepth 100000 in
set_option maxHeartbeats 2000000 in
theorem refPublic_to (s z : BitVec 64) (hz : publicF s = z) (w : World) :
    Calls Try.prog 21 #[.agg #[.int .u8 (by8 s 0), .int .u8 (by8 s 1), .int .u8 (by8 s 2), .int .u8 (by8 s 3), .int .u8 (by8 s 4), .int .u8 (by8 s 5), .int .u8 (by8 s 6), .int .u8 (by8 s 7)]] w fun e w' => e = .returned (.agg #[.int .u8 (by8 z 0), .int .u8 (by8 z 1), .int .u8 (by8 z 2), .int .u8 (by8 z 3), .int .u8 (by8 z 4), .int .u8 (by8 z 5), .int .u8 (by8 z 6), .int .u8 (by8 z 7)]) ∧ Below w.heap.size w w' := by
  have HZ : Hid (manyF ((List.range 18).map fun c => chainF (startF s c) 15) = z) := hz
  clear hz
  go_enter Try.func21, Try.ntmps21
  go_wp2
  have M0 := ((Mem.start w).key #[.int .u8 (by8 s 0), .int .u8 (by8 s 1), .int .u8 (by8 s 2), .int .u8 (by8 s 3), .int .u8 (by8 s 4), .int .u8 (by8 s 5), .int .u8 (by8 s 6), .int .u8 (by8 s 7)] 22 w.heap.size rfl).key #[.int .u8 0, .int .u8 0, .int .u8 0, .int .u8 0, .int .u8 0, .int .u8 0, .int .u8 0, .int .u8 0] 22 (w.heap.size + 1) (by simp)
  go_loopw [3, 4] (fun v i wr => ∃ (k cap : Nat) (ao : Option Addr) (B : List Blk), k ≤ 18 ∧ v = .slice ao k cap ∧ i = .int .i64 k ∧ Row 22 8 (.slice ao k cap) k (dall ((List.range k).map fun c => chainF (startF s c) 15)) B ∧ New w B ∧ Mem wr w (B ++ [⟨w.heap.size + 1, 22, #[.int .u8 0, .int .u8 0, .int .u8 0, .int .u8 0, .int .u8 0, .int .u8 0, .int .u8 0, .int .u8 0]⟩, ⟨w.heap.size, 22, #[.int .u8 (by8 s 0), .int .u8 (by8 s 1), .int .u8 (by8 s 2), .int .u8 (by8 s 3), .int .u8 (by8 s 4), .int .u8 (by8 s 5), .int .u8 (by8 s 6), .int .u8 (by8 s 7)]⟩])) (fun _ i _ => 18 - (intOf i).toNat)
  case atStart => exact ⟨0, 0, none, [], by omega, rfl, rfl, Row.void, New.nil _, M0⟩
  case round =>
    clear M0
    obtain ⟨k, cap, ao, B, hk, rfl, rfl, R, hB, M⟩ := hrel
    have HM := Lib.hid M
    have HR := Lib.hid R
    by_cases hlt : k < 18
    · obtain ⟨y, HY⟩ : ∃ y, Hid (startF s k = y) := ⟨_, rfl⟩
      obtain ⟨x, HX⟩ : ∃ x, Hid (chainF y 15 = x) := ⟨_, rfl⟩
      have HS : Hid (dall ((List.range k).map fun c => chainF (startF s c) 15) ++ dcs x = dall ((List.range (k + 1)).map fun c => chainF (startF s c) 15)) := by
        show _ = _
        rw [List.range_succ, List.map_append, dall_app, ← HX.out, ← HY.out]; simp [dall_one]
      have q := M.cell1
      have lq := M.lt1
      have hc1 : k < 1000 := by omega
      clear M R
      go_wp2_with (first
        | (go_at_call 49; refine (refStart_to s k hc1 y HY.out _).mono ?_; rintro e w1 ⟨rfl, hb1⟩; obtain ⟨g1, d1, rfl⟩ := plus_of_below hb1; clear hb1)
        | (go_at_call 48; refine (refChain_int y x 15 15 rfl (by omega) HX.out _).mono ?_; rintro e w2 ⟨rfl, hb2⟩; obtain ⟨g2, d2, rfl⟩ := plus_of_below hb2; clear hb2)
        | (at_builtin; refine wpList_append_new rfl (.tmp 9) (.tmp 14) 73 rfl elt_arr (HM.out.plus _ _) hB _ _ _ (by rfl) HR.out (dcs x).toArray _ _ _ _ (by rfl) (by simp) (by rfl) (dcs_one x) ?c1 ?c2 (k + 1) (by omega) _ HS.out (fun ao' cap' B' w' R' M' hB' => ?_)))
      case c1 => unfold maxLen; omega
      case c2 => omega
      go_roundw
      case rel => exact ⟨k + 1, cap', ao', B', by omega, rfl, by go_num, R', hB', M'⟩
      case measure => simp [intOf]; omega
    · obtain rfl : k = 18 := by omega
      have HD := Lib.hid (R.dsl M)
      have hl6 : ((List.range 18).map fun c => chainF (startF s c) 15).length ≤ 1000000 := by simp
      have HL6 := Lib.hid hl6
      have q := M.cell0
      have f := M.frozen0
      have lq := M.lt0
      clear M R hl6
      go_wp2_with (first
        | (go_at_call 50; refine (refMany_any _ _ _ HD.out HL6.out z HZ.out).mono ?_; rintro e w2 ⟨rfl, hb2⟩; obtain ⟨g2, d2, rfl⟩ := plus_of_below hb2; clear hb2)
        | (refine wpList_store_blk rfl 22 (.tmp 2) (.tmp 17) rfl (HM.out.plus _ _) (by rfl) #[.int .u8 (by8 z 0), .int .u8 (by8 z 1), .int .u8 (by8 z 2), .int .u8 (by8 z 3), .int .u8 (by8 z 4), .int .u8 (by8 z 5), .int .u8 (by8 z 6), .int .u8 (by8 z 7)] (by rfl) (by kernel_rfl) (by rfl) (dcs_one z) ?_; intro w3 M3))
      have c3 := M3.cell0
      refine bodyPost_ret (v := .agg #[.int .u8 (by8 z 0), .int .u8 (by8 z 1), .int .u8 (by8 z 2), .int .u8 (by8 z 3), .int .u8 (by8 z 4), .int .u8 (by8 z 5), .int .u8 (by8 z 6), .int .u8 (by8 z 7)]) (by simp [results, Try.results21, go_sem, c3]) rfl ⟨rfl, M3.below (hB.app (New.cons (by simp) (New.cons (by simp) (New.nil _))))⟩

end Go.Proofs.Ythdcfdfpfagamaa
