/- baizeref08: contracts. -/
import Derived.Test.YtghaiplhakeahaaVs
import Derived.Test.YtghaiplhakeahaaTl
import Derived.Test.YtghaiplhakeahaaAns
import Derived.Test.YtghaiplhakeahaaRst
import Derived.Test.YtghaiplhakeahaaRo
import Derived.Test.YtghaiplhakeahaaRw
import Derived.Test.YtghaiplhakeahaaTl
namespace Go.Proofs.Ytghaiplhakeahaa
set_option linter.unusedSimpArgs false
set_option linter.unusedVariables false
open Go.RowKit

set_option maxRecDepth 100000 in
set_option maxHeartbeats 1000000 in
theorem refCheck_to (s : BitVec 64) (v : Value) (l : List UInt8) (hl : l.length ≤ 65536) (z : BitVec 64) (hz : checkF s l = z) (w : World) (hv : BSl w v l) :
    Calls Try.prog 86 #[.agg #[.int .u8 (by8 s 0), .int .u8 (by8 s 1), .int .u8 (by8 s 2), .int .u8 (by8 s 3), .int .u8 (by8 s 4), .int .u8 (by8 s 5), .int .u8 (by8 s 6), .int .u8 (by8 s 7)], v] w fun e w' => e = .returned (.agg #[.int .u8 (by8 z 0), .int .u8 (by8 z 1), .int .u8 (by8 z 2), .int .u8 (by8 z 3), .int .u8 (by8 z 4), .int .u8 (by8 z 5), .int .u8 (by8 z 6), .int .u8 (by8 z 7)]) ∧ Below w.heap.size w w' := by
  obtain ⟨x, HX⟩ : ∃ x, Hid (wordF s (strL { data := #[99, 104, 101, 99, 107] }) = x) := ⟨_, rfl⟩
  obtain ⟨y, HY⟩ : ∃ y, Hid (ofF l = y) := ⟨_, rfl⟩
  have HZ : Hid (twoF x y = z) := by show _ = _; rw [← hz, ← HX.out, ← HY.out]; rfl
  have h9 : l.length ≤ 1000000 := by omega
  obtain ⟨ao, cap, rfl, -⟩ := hv.open_
  have HV := Lib.hid hv
  clear hv hz
  go_enter Try.func86, Try.ntmps86
  go_wp2_with fail
  refine (refWord_bytes s _ _ (by decide) x HX.out).mono ?_
  rintro e w1 ⟨rfl, hb1⟩; obtain ⟨g1, d1, rfl⟩ := plus_of_below hb1; clear hb1
  go_wp2_with fail
  refine (refOf_bytes _ l _ (((HV.out.alloc _).alloc _).plus _ _) h9 y HY.out).mono ?_
  rintro e w2 ⟨rfl, hb2⟩; obtain ⟨g2, d2, rfl⟩ := plus_of_below hb2; clear hb2
  go_wp2_with fail
  refine (refTwo_to x y z HZ.out _).mono ?_
  rintro e w3 ⟨rfl, hb3⟩; obtain ⟨g3, d3, rfl⟩ := plus_of_below hb3; clear hb3
  go_wp2
  refine bodyPost_ret (v := .agg #[.int .u8 (by8 z 0), .int .u8 (by8 z 1), .int .u8 (by8 z 2), .int .u8 (by8 z 3), .int .u8 (by8 z 4), .int .u8 (by8 z 5), .int .u8 (by8 z 6), .int .u8 (by8 z 7)]) (by simp [results, Try.results86, go_sem]) rfl ⟨rfl, by (repeat' (first | (with_reducible exact Below.refl _ _) | (with_reducible refine bplus ?_ _ _) | (with_reducible refine balloc ?_ _) | (with_reducible refine Below.drew ?_) | (with_reducible refine bdrewN ?_ _) | (with_reducible refine Below.setCell ?_ (by go_size) _)))⟩

theorem refStream_list (x : BitVec 64) (n : Nat) (i : Int) (hi : i = n) (h2 : n ≤ 1048576) (l : List UInt8) (hl : streamB x n = l) (w : World) :
    Calls Try.prog 106 #[.agg #[.int .u8 (by8 x 0), .int .u8 (by8 x 1), .int .u8 (by8 x 2), .int .u8 (by8 x 3), .int .u8 (by8 x 4), .int .u8 (by8 x 5), .int .u8 (by8 x 6), .int .u8 (by8 x 7)], .int .i64 i] w fun e w' => ∃ u, e = .returned u ∧ Below w.heap.size w w' ∧ BSl w' u l := by
  subst hi hl
  by_cases h : 1 ≤ n
  · refine (refStream_some x n h h2 w).mono ?_
    rintro e w' ⟨v, rfl, h1, h2⟩
    exact ⟨_, rfl, h1, h2⟩
  · obtain rfl : n = 0 := by omega
    refine (refStream_none x 0 (by omega) w).mono ?_
    rintro e w' ⟨rfl, h1⟩
    exact ⟨_, rfl, h1, BSl.nil _⟩

theorem mix_step {s l m : List UInt8} {n : Nat} (h1 : s.length = n) (h2 : l.length = n) (hm : List.zipWith (· ^^^ ·) s l = m) (j : Nat) (hj : j < n) (c : Int) (hc : c = ((l.getD j 0 ^^^ s.getD j 0).toNat : Int)) : bcs (m.take j) ++ [.int .u8 c] = bcs (m.take (j + 1)) := by
  have hml : m.length = n := by rw [← hm]; simp [h1, h2]
  rw [List.take_succ_eq_append_getElem (by omega), bcs_app, hc]
  congr 1
  show [_] = [_]
  congr 3
  have e : m[j]'(by omega) = m.getD j 0 := by rw [List.getD_eq_getElem?_getD, List.getElem?_eq_getElem (by omega)]; rfl
  rw [e, ← hm, ← mix_end h1 h2 j hj]
  unfold xat
  rw [if_pos hj, UInt8.xor_comm]

set_option maxRecDepth 100000 in
set_option maxHeartbeats 2000000 in
theorem turn_to (k wd : BitVec 64) (v : Value) (l : List UInt8) (hl : l.length ≤ 65536) (m : List UInt8) (hm : turnF k wd l = m) (w : World) (hv : BSl w v l) :
    Calls Try.prog 87 #[.agg #[.int .u8 (by8 k 0), .int .u8 (by8 k 1), .int .u8 (by8 k 2), .int .u8 (by8 k 3), .int .u8 (by8 k 4), .int .u8 (by8 k 5), .int .u8 (by8 k 6), .int .u8 (by8 k 7)], .agg #[.int .u8 (by8 wd 0), .int .u8 (by8 wd 1), .int .u8 (by8 wd 2), .int .u8 (by8 wd 3), .int .u8 (by8 wd 4), .int .u8 (by8 wd 5), .int .u8 (by8 wd 6), .int .u8 (by8 wd 7)], v] w fun e w' => ∃ u, e = .returned u ∧ Below w.heap.size w w' ∧ Clo 5 w.heap.size m u w' := by
  obtain ⟨x, HX⟩ : ∃ x, Hid (wordF k (strL { data := #[98, 111, 120] }) = x) := ⟨_, rfl⟩
  obtain ⟨y, HY⟩ : ∃ y, Hid (twoF x wd = y) := ⟨_, rfl⟩
  obtain ⟨s, HS⟩ : ∃ s, Hid (streamB y l.length = s) := ⟨_, rfl⟩
  have hsl : s.length = l.length := by rw [← HS.out]; exact streamB_len _ _
  have HM : Hid (List.zipWith (· ^^^ ·) s l = m) := by show _ = _; rw [← hm, ← HS.out, ← HY.out, ← HX.out]; rfl
  have hml : m.length = l.length := by rw [← hm]; exact turnF_len _ _ _
  have hl2 : l.length ≤ 1048576 := by omega
  have T1 := Lib.hid (fun W => refWord_bytes k { data := #[98, 111, 120] } W (by decide) x HX.out)
  have T3 := Lib.hid (fun W => refStream_list y l.length l.length rfl hl2 s HS.out W)
  obtain ⟨ao, cap, rfl, h1, h2, h3⟩ := hv.open_
  have HV := Lib.hid hv
  clear hv hm h3
  go_enter Try.func87, Try.ntmps87
  go_wp2
  refine wp_region_rq (by kernel_rfl) (by kernel_rfl) (by kernel_rfl) ?_
  repeat (first
    | (refine B_skip ?_ ?_; (· rfl); (try simp only [Act.put, List.setIfInBounds_toArray, List.set_cons_zero, List.set_cons_succ]))
    | (refine B_move rfl ?_ ?_; (· rfl); (try simp only [Act.eval, Act.put, Array.getD_eq_getD_getElem?, List.getElem?_toArray, List.getElem?_cons_succ, List.getElem?_cons_zero, Option.getD_some, List.setIfInBounds_toArray, List.set_cons_zero, List.set_cons_succ]))
    | (refine B_plain ?_ ?_; (· rfl); intro K hK; go_big_quiet_op; with_reducible refine hK _ ?_; clear hK K)
    | (refine B_callX (v := ?_) (f := 62) rfl (by kernel_rfl) ?_ (fun xq => ?_) ?_; rotate_left; (· rfl); (· ((simp only [List.map_toArray, List.map_cons, List.map_nil, Act.eval, Array.getD_eq_getD_getElem?, List.getElem?_toArray, List.getElem?_cons_succ, List.getElem?_cons_zero, Option.getD_some]); with_reducible apply retB; with_reducible exact (T1.out _))); (try simp only [Act.put, List.setIfInBounds_toArray, List.set_cons_zero, List.set_cons_succ]))
    | (refine B_callX (v := ?_) (f := 104) rfl (by kernel_rfl) ?_ (fun xq => ?_) ?_; rotate_left; (· rfl); (· ((simp only [List.map_toArray, List.map_cons, List.map_nil, Act.eval, Array.getD_eq_getD_getElem?, List.getElem?_toArray, List.getElem?_cons_succ, List.getElem?_cons_zero, Option.getD_some]); with_reducible apply retB; with_reducible exact (refTwo_to x wd y HY.out _))); (try simp only [Act.put, List.setIfInBounds_toArray, List.set_cons_zero, List.set_cons_succ]))
    | (refine B_callR ((fun v w => BSl w v s)) ((stays_bsl _)) (f := 106) rfl rfl (by kernel_rfl) ?_ (fun xq => ?_) ?_; (· rfl); (· ((simp only [List.map_toArray, List.map_cons, List.map_nil, Act.eval, Array.getD_eq_getD_getElem?, List.getElem?_toArray, List.getElem?_cons_succ, List.getElem?_cons_zero, Option.getD_some]); (with_reducible apply retR); with_reducible exact T3.out _)))
    | (refine B_moveR _ ?_ rfl (Or.inr rfl) rfl ?_ ?_; (· exact stays_bsl _); (· rfl)))
  refine B_nil ?_ rfl ?_ ?_
  · kernel_rfl
  · rfl
  rintro _ ⟨⟨g1, d1⟩, rfl⟩
  simp only [fin, Act.put, List.setIfInBounds_toArray, List.set_cons_zero, List.set_cons_succ]
  intro u7 A7 u16 _
  refine wp_opqK (fun W => Below w.heap.size w W ∧ BSl W u7 s ∧ BSl W (.slice ao l.length cap) l) ⟨by (repeat' (first | (with_reducible exact Below.refl _ _) | (with_reducible refine bplus ?_ _ _) | (with_reducible refine balloc ?_ _) | (with_reducible refine Below.drew ?_) | (with_reducible refine bdrewN ?_ _) | (with_reducible refine Below.setCell ?_ (by go_size) _))), A7, ((HV.out.alloc _).alloc _).plus _ _⟩ ?_
  rintro W1 ⟨hB1, hS1, hV1⟩
  clear A7
  have HB1 := Lib.hid hB1
  have HV1 := Lib.hid hV1
  obtain ⟨so, scap, rfl, -⟩ := hS1.open_
  have HS1 := Lib.hid hS1
  clear hB1 hV1 hS1
  rw [hsl]
  go_wp2_with fail
  go_loopw [8, 9] (fun v i wr => ∃ (j : Nat) (ao' : Option Addr) (cap' : Nat) (B : List Blk), v = .slice ao' j cap' ∧ i = .int .i64 j ∧ j ≤ l.length ∧ Row 5 1 (.slice ao' j cap') j (bcs (m.take j)) B ∧ New W1 B ∧ Mem wr W1 (B ++ [])) (fun _ i _ => l.length - (intOf i).toNat)
  case atStart => exact ⟨0, _, 0, [⟨W1.heap.size, 5, #[]⟩], rfl, rfl, by omega, Row.empty _ _ _, New.cons (Nat.le_refl _) (New.nil _), (Mem.start W1).key _ _ _ rfl⟩
  case round =>
    obtain ⟨j, ao', cap', B, rfl, rfl, hj, R, hB, M⟩ := hrel
    have HMr := Lib.hid M
    have HR := Lib.hid R
    have HNN : Hid (New W1 (B ++ [])) := by rw [List.append_nil]; exact hB
    by_cases hlt : j < l.length
    · obtain ⟨b, o, rfl, hb, hbc⟩ : ∃ b o, ao = some ⟨b, o, none⟩ ∧ b < W1.heap.size ∧ ∀ i, i < l.length → W1.cell? ⟨b, o + i, none⟩ = some (.int .u8 ((l.getD i 0).toNat : Int)) := by
        obtain ⟨ao', cap', e1, -, h5⟩ := HV1.out
        cases e1
        rcases h5 with h5 | h5
        · omega
        · exact h5
      obtain ⟨b', o', rfl, hb', hbc'⟩ : ∃ b o, so = some ⟨b, o, none⟩ ∧ b < W1.heap.size ∧ ∀ i, i < l.length → W1.cell? ⟨b, o + i, none⟩ = some (.int .u8 ((s.getD i 0).toNat : Int)) := by
        obtain ⟨ao', cap', e1, -, h5⟩ := HS1.out
        rw [hsl] at h5
        simp only [Value.slice.injEq] at e1
        obtain ⟨rfl, -, rfl⟩ := e1
        rcases h5 with h5 | h5
        · omega
        · exact h5
      have c1 : wr.cell? ⟨b, o + j, none⟩ = some (.int .u8 ((l.getD j 0).toNat : Int)) := (M.oldcell HNN.out hb _).trans (hbc j hlt)
      have lb : b < wr.heap.size := Nat.lt_of_lt_of_le hb M.size
      have c2 : wr.cell? ⟨b', o' + j, none⟩ = some (.int .u8 ((s.getD j 0).toNat : Int)) := (M.oldcell HNN.out hb' _).trans (hbc' j hlt)
      have lb' : b' < wr.heap.size := Nat.lt_of_lt_of_le hb' M.size
      have hx := bits_xor8 (l.getD j 0) (s.getD j 0)
      obtain ⟨cc, HCC⟩ : ∃ cc : Int, Hid (cc = ((l.getD j 0 ^^^ s.getD j 0).toNat : Int)) := ⟨_, rfl⟩
      rw [← HCC.out] at hx
      have HST := Lib.hid (mix_step hsl rfl HM.out j hlt cc HCC.out)
      generalize ((l.getD j 0).toNat : Int) = ca at c1 hx
      generalize ((s.getD j 0).toNat : Int) = cb at c2 hx
      clear hbc hbc' M R
      go_wp2_with fail
      refine wp_region_rc 11 2 (by kernel_rfl) (by kernel_rfl) (by kernel_rfl) (by kernel_rfl) ?_
      simp only [List.take_succ_cons, List.take_zero]
      repeat (first
        | (refine B_skip ?_ ?_; (· rfl); (try simp only [Act.put, List.setIfInBounds_toArray, List.set_cons_zero, List.set_cons_succ]))
        | (refine B_move rfl ?_ ?_; (· rfl); (try simp only [Act.eval, Act.put, Array.getD_eq_getD_getElem?, List.getElem?_toArray, List.getElem?_cons_succ, List.getElem?_cons_zero, Option.getD_some, List.setIfInBounds_toArray, List.set_cons_zero, List.set_cons_succ]))
        | (refine B_plain ?_ ?_; (· rfl); intro K hK; go_big_quiet_op; with_reducible refine hK _ ?_; clear hK K)
        | (refine B_newsl elt_u8 rfl rfl _ rfl _ rfl (by rfl) (by omega) ?_ ?_; (· rfl)))
      refine B_nil ?_ rfl ?_ ?_
      · kernel_rfl
      · rfl
      rintro _ ⟨⟨g2, d2⟩, rfl⟩
      simp only [fin, Act.put, List.setIfInBounds_toArray, List.set_cons_zero, List.set_cons_succ]
      rintro _ ⟨bs, rfl, hbs, hh⟩
      refine step_one (n := 1) (k := 11) (by kernel_rfl) (by rfl) (by rfl) ?_
      intro K hK
      refine wp_append_row (.tmp 24) (.tmp 34) 26 (by rfl) elt_u8 (HMr.out.plus _ _) hB _ _ _ (by rfl) HR.out _ _ _ [.int .u8 cc] (by rfl) (by rfl) (by simp) (blk_news hh) (by simp [Value.oneCell']) ?c1 ?c2 (j + 1) (by omega) _ HST.out (fun ao' cap' B' w' R' M' hB' => hK _ _ ?_)
      case c1 => unfold maxLen; omega
      case c2 => omega
      clear hK K
      refine last_one (k := 12) (by kernel_rfl) (by kernel_rfl) (by rfl) ?_ ?_
      · rfl
      intro K hK
      go_simp
      refine hK _ _ ?_
      clear hK K
      go_wp2
      go_roundw
      case rel => exact ⟨j + 1, _, _, B', rfl, by go_num, by omega, R', hB', M'⟩
      case measure => simp [intOf]; omega
    · obtain rfl : j = l.length := by omega
      have HBW := Lib.hid (Below.trans HB1.out ((M.below HNN.out).mono HB1.out.size))
      have HBL := Lib.hid hB
      have hmt : m.take l.length = m := by rw [← hml, List.take_length]
      clear M R
      go_wp2
      go_ret
      refine ⟨_, rfl, HBW.out, ao', cap', B, by rw [hml]; rfl, by have := HR.out; rwa [hmt, ← hml] at this, fun y hy => ⟨Nat.le_trans HB1.out.size (HBL.out y hy), HMr.out.has y (by simpa using hy)⟩⟩

end Go.Proofs.Ytghaiplhakeahaa
