/- baizeref08: contracts. -/
import Derived.Test.YtghaiplhakeahaaVl
import Derived.Test.YtghaiplhakeahaaTl
import Derived.Test.YtghaiplhakeahaaAns
import Derived.Test.YtghaiplhakeahaaRst
import Derived.Test.YtghaiplhakeahaaRb
namespace Go.Proofs.Ytghaiplhakeahaa
set_option linter.unusedSimpArgs false
set_option linter.unusedVariables false
open Go.RowKit

set_option maxRecDepth 100000 in
set_option maxHeartbeats 1000000 in
theorem refCheck_to (s : BitVec 64) (v : Value) (l : List UInt8) (hl : l.length ≤ 65536) (z : BitVec 64) (hz : checkF s l = z) (w : World) (hv : BSl w v l) :
    Calls Try.prog 86 #[.agg #[.int .u8 (by8 s 0), .int .u8 (by8 s 1), .int .u8 (by8 s 2), .int .u8 (by8 s 3), .int .u8 (by8 s 4), .int .u8 (by8 s 5), .int .u8 (by8 s 6), .int .u8 (by8 s 7)], v] w fun e w' => e = .returned (.agg #[.int .u8 (by8 z 0), .int .u8 (by8 z 1), .int .u8 (by8 z 2), .int .u8 (by8 z 3), .int .u8 (by8 z 4), .int .u8 (by8 z 5), .int .u8 (by8 z 6), .int .u8 (by8 z 7)]) ∧ Below w.heap.size w w' := by
  obtain ⟨x, HX⟩ : ∃ x, Hid (wordF s (strL { data := #[99, 104, 101, 99, 107] }) = x) := ⟨_, rfl⟩
  obtain ⟨y, HY⟩ : ∃ y, Hid (ofF l = y) := ⟨_, rfl⟩
  have HZ : Hid (twoF x y = z) := by show _ = _; rw [← hz, ← HX.out, ← HY.out]; rfl
  have h9 : l.length ≤ 1000000 := by omega
  obtain ⟨ao, cap, rfl, -⟩ := hv.open_
  have HV := Lib.hid hv
  clear hv hz
  go_enter Try.func86, Try.ntmps86
  go_wp2_with fail
  refine (refWord_bytes s _ _ (by decide) x HX.out).mono ?_
  rintro e w1 ⟨rfl, hb1⟩; obtain ⟨g1, d1, rfl⟩ := plus_of_below hb1; clear hb1
  go_wp2_with fail
  refine (refOf_bytes _ l _ (((HV.out.alloc _).alloc _).plus _ _) h9 y HY.out).mono ?_
  rintro e w2 ⟨rfl, hb2⟩; obtain ⟨g2, d2, rfl⟩ := plus_of_below hb2; clear hb2
  go_wp2_with fail
  refine (refTwo_to x y z HZ.out _).mono ?_
  rintro e w3 ⟨rfl, hb3⟩; obtain ⟨g3, d3, rfl⟩ := plus_of_below hb3; clear hb3
  go_wp2
  refine bodyPost_ret (v := .agg #[.int .u8 (by8 z 0), .int .u8 (by8 z 1), .int .u8 (by8 z 2), .int .u8 (by8 z 3), .int .u8 (by8 z 4), .int .u8 (by8 z 5), .int .u8 (by8 z 6), .int .u8 (by8 z 7)]) (by simp [results, Try.results86, go_sem]) rfl ⟨rfl, by (repeat' (first | (with_reducible exact Below.refl _ _) | (with_reducible refine bplus ?_ _ _) | (with_reducible refine balloc ?_ _) | (with_reducible refine Below.drew ?_) | (with_reducible refine bdrewN ?_ _) | (with_reducible refine Below.setCell ?_ (by go_size) _)))⟩

theorem refStream_list (x : BitVec 64) (n : Nat) (i : Int) (hi : i = n) (h2 : n ≤ 1048576) (l : List UInt8) (hl : streamB x n = l) (w : World) :
    Calls Try.prog 106 #[.agg #[.int .u8 (by8 x 0), .int .u8 (by8 x 1), .int .u8 (by8 x 2), .int .u8 (by8 x 3), .int .u8 (by8 x 4), .int .u8 (by8 x 5), .int .u8 (by8 x 6), .int .u8 (by8 x 7)], .int .i64 i] w fun e w' => ∃ u, e = .returned u ∧ Below w.heap.size w w' ∧ BSl w' u l := by
  subst hi hl
  by_cases h : 1 ≤ n
  · refine (refStream_some x n h h2 w).mono ?_
    rintro e w' ⟨v, rfl, h1, h2⟩
    exact ⟨_, rfl, h1, h2⟩
  · obtain rfl : n = 0 := by omega
    refine (refStream_none x 0 (by omega) w).mono ?_
    rintro e w' ⟨rfl, h1⟩
    exact ⟨_, rfl, h1, BSl.nil _⟩

theorem mix_step {s l m : List UInt8} {n : Nat} (h1 : s.length = n) (h2 : l.length = n) (hm : List.zipWith (· ^^^ ·) s l = m) (j : Nat) (hj : j < n) (c : Int) (hc : c = ((l.getD j 0 ^^^ s.getD j 0).toNat : Int)) : bcs (m.take j) ++ [.int .u8 c] = bcs (m.take (j + 1)) := by
  have hml : m.length = n := by rw [← hm]; simp [h1, h2]
  rw [List.take_succ_eq_append_getElem (by omega), bcs_app, hc]
  congr 1
  show [_] = [_]
  congr 3
  have e : m[j]'(by omega) = m.getD j 0 := by rw [List.getD_eq_getElem?_getD, List.getElem?_eq_getElem (by omega)]; rfl
  rw [e, ← hm, ← mix_end h1 h2 j hj]
  unfold xat
  rw [if_pos hj, UInt8.xor_comm]

set_option maxRecDepth 100000 in
set_option maxHeartbeats 2000000 in
theorem turn_to (k wd : BitVec 64) (v : Value) (l : List UInt8) (hl : l.length ≤ 65536) (m : List UInt8) (hm : turnF k wd l = m) (w : World) (hv : BSl w v l) :
    Calls Try.prog 87 #[.agg #[.int .u8 (by8 k 0), .int .u8 (by8 k 1), .int .u8 (by8 k 2), .int .u8 (by8 k 3), .int .u8 (by8 k 4), .int .u8 (by8 k 5), .int .u8 (by8 k 6), .int .u8 (by8 k 7)], .agg #[.int .u8 (by8 wd 0), .int .u8 (by8 wd 1), .int .u8 (by8 wd 2), .int .u8 (by8 wd 3), .int .u8 (by8 wd 4), .int .u8 (by8 wd 5), .int .u8 (by8 wd 6), .int .u8 (by8 wd 7)], v] w fun e w' => ∃ u, e = .returned u ∧ Below w.heap.size w w' ∧ Clo 5 w.heap.size m u w' := by
  obtain ⟨x, HX⟩ : ∃ x, Hid (wordF k (strL { data := #[98, 111, 120] }) = x) := ⟨_, rfl⟩
  obtain ⟨y, HY⟩ : ∃ y, Hid (twoF x wd = y) := ⟨_, rfl⟩
  obtain ⟨s, HS⟩ : ∃ s, Hid (streamB y l.length = s) := ⟨_, rfl⟩
  have hsl : s.length = l.length := by rw [← HS.out]; exact streamB_len _ _
  have HM : Hid (List.zipWith (· ^^^ ·) s l = m) := by show _ = _; rw [← hm, ← HS.out, ← HY.out, ← HX.out]; rfl
  have hml : m.length = l.length := by rw [← hm]; exact turnF_len _ _ _
  have hl2 : l.length ≤ 1048576 := by omega
  have T1 := Lib.hid (fun W => refWord_bytes k { data := #[98, 111, 120] } W (by decide) x HX.out)
  have T3 := Lib.hid (fun W => refStream_list y l.length l.length rfl hl2 s HS.out W)
  obtain ⟨ao, cap, rfl, h1, h2, h3⟩ := hv.open_
  have HV := Lib.hid hv
  clear hv hm h3
  go_enter Try.func87, Try.ntmps87
  go_wp2
  refine wp_region_rq (by kernel_rfl) (by kernel_rfl) (by kernel_rfl) ?_
  repeat (first
    | (refine B_skip ?_ ?_; (· rfl); (try simp only [Act.put, List.setIfInBounds_toArray, List.set_cons_zero, List.set_cons_succ]))
    | (refine B_move rfl ?_ ?_; (· rfl); (try simp only [Act.eval, Act.put, Array.getD_eq_getD_getElem?, List.getElem?_toArray, List.getElem?_cons_succ, List.getElem?_cons_zero, Option.getD_some, List.setIfInBounds_toArray, List.set_cons_zero, List.set_cons_succ]))
    | (refine B_plain ?_ ?_; (· rfl); intro K hK; go_big_quiet_op; with_reducible refine hK _ ?_; clear hK K)
    | (refine B_callX (v := ?_) (f := 62) rfl (by kernel_rfl) ?_ (fun xq => ?_) ?_; rotate_left; (· rfl); (· ((simp only [List.map_toArray, List.map_cons, List.map_nil, Act.eval, Array.getD_eq_getD_getElem?, List.getElem?_toArray, List.getElem?_cons_succ, List.getElem?_cons_zero, Option.getD_some]); with_reducible apply retB; with_reducible exact (T1.out _))); (try simp only [Act.put, List.setIfInBounds_toArray, List.set_cons_zero, List.set_cons_succ]))
    | (refine B_callX (v := ?_) (f := 104) rfl (by kernel_rfl) ?_ (fun xq => ?_) ?_; rotate_left; (· rfl); (· ((simp only [List.map_toArray, List.map_cons, List.map_nil, Act.eval, Array.getD_eq_getD_getElem?, List.getElem?_toArray, List.getElem?_cons_succ, List.getElem?_cons_zero, Option.getD_some]); with_reducible apply retB; with_reducible exact (refTwo_to x wd y HY.out _))); (try simp only [Act.put, List.setIfInBounds_toArray, List.set_cons_zero, List.set_cons_succ]))
    | (refine B_callR ((fun v w => BSl w v s)) ((stays_bsl _)) (f := 106) rfl rfl (by kernel_rfl) ?_ (fun xq => ?_) ?_; (· rfl); (· ((simp only [List.map_toArray, List.map_cons, List.map_nil, Act.eval, Array.getD_eq_getD_getElem?, List.getElem?_toArray, List.getElem?_cons_succ, List.getElem?_cons_zero, Option.getD_some]); (with_reducible apply retR); with_reducible exact T3.out _)))
    | (refine B_moveR _ ?_ rfl (Or.inr rfl) rfl ?_ ?_; (· exact stays_bsl _); (· rfl)))
  refine B_nil ?_ rfl ?_ ?_
  · kernel_rfl
  · rfl
  rintro _ ⟨⟨g1, d1⟩, rfl⟩
  simp only [fin, Act.put, List.setIfInBounds_toArray, List.set_cons_zero, List.set_cons_succ]
  intro u7 A7 u16 _
  refine wp_opqK (fun W => Below w.heap.size w W ∧ BSl W u7 s ∧ BSl W (.slice ao l.length cap) l) ⟨by (repeat' (first | (with_reducible exact Below.refl _ _) | (with_reducible refine bplus ?_ _ _) | (with_reducible refine balloc ?_ _) | (with_reducible refine Below.drew ?_) | (with_reducible refine bdrewN ?_ _) | (with_reducible refine Below.setCell ?_ (by go_size) _))), A7, ((HV.out.alloc _).alloc _).plus _ _⟩ ?_
  rintro W1 ⟨hB1, hS1, hV1⟩
  clear A7
  have HB1 := Lib.hid hB1
  have HV1 := Lib.hid hV1
  obtain ⟨so, scap, rfl, -⟩ := hS1.open_
  have HS1 := Lib.hid hS1
  clear hB1 hV1 hS1
  rw [hsl]
  go_wp2_with fail
  go_loopw [8, 9] (fun v i wr => ∃ (j : Nat) (ao' : Option Addr) (cap' : Nat) (B : List Blk), v = .slice ao' j cap' ∧ i = .int .i64 j ∧ j ≤ l.length ∧ Row 5 1 (.slice ao' j cap') j (bcs (m.take j)) B ∧ New W1 B ∧ Mem wr W1 (B ++ [])) (fun _ i _ => l.length - (intOf i).toNat)
  case atStart => exact ⟨0, _, 0, [⟨W1.heap.size, 5, #[]⟩], rfl, rfl, by omega, Row.empty _ _ _, New.cons (Nat.le_refl _) (New.nil _), (Mem.start W1).key _ _ _ rfl⟩
  case round =>
    obtain ⟨j, ao', cap', B, rfl, rfl, hj, R, hB, M⟩ := hrel
    have HMr := Lib.hid M
    have HR := Lib.hid R
    have HNN : Hid (New W1 (B ++ [])) := by rw [List.append_nil]; exact hB
    by_cases hlt : j < l.length
    · obtain ⟨b, o, rfl, hb, hbc⟩ : ∃ b o, ao = some ⟨b, o, none⟩ ∧ b < W1.heap.size ∧ ∀ i, i < l.length → W1.cell? ⟨b, o + i, none⟩ = some (.int .u8 ((l.getD i 0).toNat : Int)) := by
        obtain ⟨ao', cap', e1, -, h5⟩ := HV1.out
        cases e1
        rcases h5 with h5 | h5
        · omega
        · exact h5
      obtain ⟨b', o', rfl, hb', hbc'⟩ : ∃ b o, so = some ⟨b, o, none⟩ ∧ b < W1.heap.size ∧ ∀ i, i < l.length → W1.cell? ⟨b, o + i, none⟩ = some (.int .u8 ((s.getD i 0).toNat : Int)) := by
        obtain ⟨ao', cap', e1, -, h5⟩ := HS1.out
        rw [hsl] at h5
        simp only [Value.slice.injEq] at e1
        obtain ⟨rfl, -, rfl⟩ := e1
        rcases h5 with h5 | h5
        · omega
        · exact h5
      have c1 : wr.cell? ⟨b, o + j, none⟩ = some (.int .u8 ((l.getD j 0).toNat : Int)) := (M.oldcell HNN.out hb _).trans (hbc j hlt)
      have lb : b < wr.heap.size := Nat.lt_of_lt_of_le hb M.size
      have c2 : wr.cell? ⟨b', o' + j, none⟩ = some (.int .u8 ((s.getD j 0).toNat : Int)) := (M.oldcell HNN.out hb' _).trans (hbc' j hlt)
      have lb' : b' < wr.heap.size := Nat.lt_of_lt_of_le hb' M.size
      have hx := bits_xor8 (l.getD j 0) (s.getD j 0)
      obtain ⟨cc, HCC⟩ : ∃ cc : Int, Hid (cc = ((l.getD j 0 ^^^ s.getD j 0).toNat : Int)) := ⟨_, rfl⟩
      rw [← HCC.out] at hx
      have HST := Lib.hid (mix_step hsl rfl HM.out j hlt cc HCC.out)
      generalize ((l.getD j 0).toNat : Int) = ca at c1 hx
      generalize ((s.getD j 0).toNat : Int) = cb at c2 hx
      clear hbc hbc' M R
      go_wp2_with fail
      refine wp_region_rc 11 2 (by kernel_rfl) (by kernel_rfl) (by kernel_rfl) (by kernel_rfl) ?_
      simp only [List.take_succ_cons, List.take_zero]
      repeat (first
        | (refine B_skip ?_ ?_; (· rfl); (try simp only [Act.put, List.setIfInBounds_toArray, List.set_cons_zero, List.set_cons_succ]))
        | (refine B_move rfl ?_ ?_; (· rfl); (try simp only [Act.eval, Act.put, Array.getD_eq_getD_getElem?, List.getElem?_toArray, List.getElem?_cons_succ, List.getElem?_cons_zero, Option.getD_some, List.setIfInBounds_toArray, List.set_cons_zero, List.set_cons_succ]))
        | (refine B_plain ?_ ?_; (· rfl); intro K hK; go_big_quiet_op; with_reducible refine hK _ ?_; clear hK K)
        | (refine B_newsl elt_u8 rfl rfl _ rfl _ rfl (by rfl) (by omega) ?_ ?_; (· rfl)))
      refine B_nil ?_ rfl ?_ ?_
      · kernel_rfl
      · rfl
      rintro _ ⟨⟨g2, d2⟩, rfl⟩
      simp only [fin, Act.put, List.setIfInBounds_toArray, List.set_cons_zero, List.set_cons_succ]
      rintro _ ⟨bs, rfl, hbs, hh⟩
      refine step_one (n := 1) (k := 11) (by kernel_rfl) (by rfl) (by rfl) ?_
      intro K hK
      refine wp_append_row (.tmp 24) (.tmp 34) 26 (by rfl) elt_u8 (HMr.out.plus _ _) hB _ _ _ (by rfl) HR.out _ _ _ [.int .u8 cc] (by rfl) (by rfl) (by simp) (blk_news hh) (by simp [Value.oneCell']) ?c1 ?c2 (j + 1) (by omega) _ HST.out (fun ao' cap' B' w' R' M' hB' => hK _ _ ?_)
      case c1 => unfold maxLen; omega
      case c2 => omega
      clear hK K
      refine last_one (k := 12) (by kernel_rfl) (by kernel_rfl) (by rfl) ?_ ?_
      · rfl
      intro K hK
      go_simp
      refine hK _ _ ?_
      clear hK K
      go_wp2
      go_roundw
      case rel => exact ⟨j + 1, _, _, B', rfl, by go_num, by omega, R', hB', M'⟩
      case measure => simp [intOf]; omega
    · obtain rfl : j = l.length := by omega
      have HBW := Lib.hid (Below.trans HB1.out ((M.below HNN.out).mono HB1.out.size))
      have HBL := Lib.hid hB
      have hmt : m.take l.length = m := by rw [← hml, List.take_length]
      clear M R
      go_wp2
      go_ret
      refine ⟨_, rfl, HBW.out, ao', cap', B, by rw [hml]; rfl, by have := HR.out; rwa [hmt, ← hml] at this, fun y hy => ⟨Nat.le_trans HB1.out.size (HBL.out y hy), HMr.out.has y (by simpa using hy)⟩⟩

theorem Mem.found2 {w w0 W : World} {L X : List Blk} (M : Mem W w0 L) (hx : Below W.heap.size W w) (hb : ∀ x ∈ X, W.heap.size ≤ x.no ∧ HasBlk w x.no x.ty x.cs) (hp : X.Pairwise (fun x y => x.no ≠ y.no)) : Mem w w0 (X ++ L) := by
  have M' := M.of_below hx
  refine ⟨M'.os, M'.tape, M'.output, M'.size, fun k hk hy => M'.old k hk fun y hm => hy y (List.mem_append_right _ hm), ?_, ?_⟩
  · refine List.pairwise_append.2 ⟨hp, M.apart, fun x hx y hy => ?_⟩
    have := M.lt hy
    have := (hb x hx).1
    omega
  · intro y hy
    rcases List.mem_append.1 hy with hy | hy
    · exact (hb y hy).2
    · exact M'.has y hy
theorem Row.pair {e : TypeId} {sz n : Nat} {v : Value} {xs : List Value} {B : List Blk} (h : Row e sz v n xs B) : B.Pairwise (fun x y => x.no ≠ y.no) := by
  cases h <;> simp
theorem Row.bslH {e : TypeId} {n : Nat} {v : Value} {l : List UInt8} {B : List Blk} {w : World} (h : Row e 1 v n (bcs l) B) (hb : ∀ x ∈ B, HasBlk w x.no x.ty x.cs) : BSl w v l :=
  h.bsl (L := []) (w0 := w) ⟨rfl, rfl, rfl, Nat.le_refl _, fun _ _ _ => rfl, by simpa using h.pair, fun x hx => hb x (by simpa using hx)⟩
theorem Clo.ans {e : TypeId} {base : Nat} {l : List UInt8} {u : Value} {W : World} (h : Clo e base l u W) : Ans base l u W := by
  obtain ⟨ao, cap, B, rfl, R, hB⟩ := h
  exact R.ans hB
set_option maxRecDepth 100000 in
set_option maxHeartbeats 2000000 in
theorem refSeal_to (k : BitVec 64) (v : Value) (l : List UInt8) (hl : l.length ≤ 65536) (y : List UInt8) (hy : sealF k l = y) (w : World) (hv : BSl w v l) :
    Calls Try.prog 59 #[.agg #[.int .u8 (by8 k 0), .int .u8 (by8 k 1), .int .u8 (by8 k 2), .int .u8 (by8 k 3), .int .u8 (by8 k 4), .int .u8 (by8 k 5), .int .u8 (by8 k 6), .int .u8 (by8 k 7)], v] w fun e w' => ∃ u, e = .returned u ∧ Below w.heap.size w w' ∧ Ans w.heap.size y u w' := by
  obtain ⟨c, HC⟩ : ∃ c, Hid (checkF k l = c) := ⟨_, rfl⟩
  obtain ⟨m, HM⟩ : ∃ m, Hid (turnF k c l = m) := ⟨_, rfl⟩
  have HY : Hid (bys c ++ m = y) := by show _ = _; rw [← hy, ← HM.out, ← HC.out]; rfl
  have hml : m.length = l.length := by rw [← HM.out]; exact turnF_len _ _ _
  have HYB : Hid (bcs (bys c) ++ bcs m = bcs y) := by show _ = _; rw [← HY.out]; exact (bcs_app _ _).symm
  have hyl : 8 + m.length = y.length := by rw [← HY.out, List.length_append, bys_len]
  obtain ⟨ao, cap, rfl, -⟩ := hv.open_
  have HV := Lib.hid hv
  clear hv hy
  go_enter Try.func59, Try.ntmps59
  go_wp2_with fail
  refine (refCheck_to k _ l hl c HC.out _ (HV.out.alloc _)).mono ?_
  rintro e w1 ⟨rfl, hb1⟩; obtain ⟨g1, d1, rfl⟩ := plus_of_below hb1; clear hb1
  go_wp2_with fail
  refine wp_mem (fun W => Mem W w [⟨w.heap.size + 1 + g1.size, 22, #[.int .u8 (by8 c 0), .int .u8 (by8 c 1), .int .u8 (by8 c 2), .int .u8 (by8 c 3), .int .u8 (by8 c 4), .int .u8 (by8 c 5), .int .u8 (by8 c 6), .int .u8 (by8 c 7)]⟩, ⟨w.heap.size, 22, #[.int .u8 (by8 k 0), .int .u8 (by8 k 1), .int .u8 (by8 k 2), .int .u8 (by8 k 3), .int .u8 (by8 k 4), .int .u8 (by8 k 5), .int .u8 (by8 k 6), .int .u8 (by8 k 7)]⟩]) (((((Mem.start w).key #[.int .u8 (by8 k 0), .int .u8 (by8 k 1), .int .u8 (by8 k 2), .int .u8 (by8 k 3), .int .u8 (by8 k 4), .int .u8 (by8 k 5), .int .u8 (by8 k 6), .int .u8 (by8 k 7)] 22 w.heap.size rfl).plus g1 d1).key #[.int .u8 (by8 c 0), .int .u8 (by8 c 1), .int .u8 (by8 c 2), .int .u8 (by8 c 3), .int .u8 (by8 c 4), .int .u8 (by8 c 5), .int .u8 (by8 c 6), .int .u8 (by8 c 7)] 22 (w.heap.size + 1 + g1.size) (by simp))) ?_
  intro W2 M2
  have HN2 : Hid (New w [⟨w.heap.size + 1 + g1.size, 22, #[.int .u8 (by8 c 0), .int .u8 (by8 c 1), .int .u8 (by8 c 2), .int .u8 (by8 c 3), .int .u8 (by8 c 4), .int .u8 (by8 c 5), .int .u8 (by8 c 6), .int .u8 (by8 c 7)]⟩, ⟨w.heap.size, 22, #[.int .u8 (by8 k 0), .int .u8 (by8 k 1), .int .u8 (by8 k 2), .int .u8 (by8 k 3), .int .u8 (by8 k 4), .int .u8 (by8 k 5), .int .u8 (by8 k 6), .int .u8 (by8 k 7)]⟩]) := New.cons (by show w.heap.size ≤ w.heap.size + 1 + g1.size; omega) (New.cons (Nat.le_refl _) (New.nil _))
  have cK := M2.cell (b := w.heap.size) (t := 22) (cs := #[.int .u8 (by8 k 0), .int .u8 (by8 k 1), .int .u8 (by8 k 2), .int .u8 (by8 k 3), .int .u8 (by8 k 4), .int .u8 (by8 k 5), .int .u8 (by8 k 6), .int .u8 (by8 k 7)]) (by simp)
  have cC := M2.cell (b := w.heap.size + 1 + g1.size) (t := 22) (cs := #[.int .u8 (by8 c 0), .int .u8 (by8 c 1), .int .u8 (by8 c 2), .int .u8 (by8 c 3), .int .u8 (by8 c 4), .int .u8 (by8 c 5), .int .u8 (by8 c 6), .int .u8 (by8 c 7)]) (by simp)
  have lK : w.heap.size < W2.heap.size := M2.lt (x := ⟨w.heap.size, 22, #[.int .u8 (by8 k 0), .int .u8 (by8 k 1), .int .u8 (by8 k 2), .int .u8 (by8 k 3), .int .u8 (by8 k 4), .int .u8 (by8 k 5), .int .u8 (by8 k 6), .int .u8 (by8 k 7)]⟩) (by simp)
  have lC : w.heap.size + 1 + g1.size < W2.heap.size := M2.lt (x := ⟨w.heap.size + 1 + g1.size, 22, #[.int .u8 (by8 c 0), .int .u8 (by8 c 1), .int .u8 (by8 c 2), .int .u8 (by8 c 3), .int .u8 (by8 c 4), .int .u8 (by8 c 5), .int .u8 (by8 c 6), .int .u8 (by8 c 7)]⟩) (by simp)
  have HWB : Hid (BSl W2 (.slice (some ⟨w.heap.size + 1 + g1.size, 0, none⟩) 8 8) (bys c)) := by
    refine ⟨_, 8, rfl, ⟨Nat.le_refl _, fun h => by cases h⟩, .inr ⟨_, 0, rfl, lC, fun i hi => ?_⟩⟩
    rw [Nat.zero_add, cC, ← bcs_bys, List.getElem?_toArray]
    exact bcs_get (bys c) i hi
  have HV2 := Lib.hid (HV.out.below (M2.below HN2.out))
  have hws : w.heap.size ≤ W2.heap.size := M2.size
  have T3 : Hid (∀ g d, Calls Try.prog 87 #[.agg #[.int .u8 (by8 k 0), .int .u8 (by8 k 1), .int .u8 (by8 k 2), .int .u8 (by8 k 3), .int .u8 (by8 k 4), .int .u8 (by8 k 5), .int .u8 (by8 k 6), .int .u8 (by8 k 7)], .agg #[.int .u8 (by8 c 0), .int .u8 (by8 c 1), .int .u8 (by8 c 2), .int .u8 (by8 c 3), .int .u8 (by8 c 4), .int .u8 (by8 c 5), .int .u8 (by8 c 6), .int .u8 (by8 c 7)], .slice ao l.length cap] (plus W2 g d) fun e w' => ∃ u, e = .returned u ∧ Below (plus W2 g d).heap.size (plus W2 g d) w' ∧ Clo 5 W2.heap.size m u w') := fun g d => by
    refine (turn_to k c _ l hl m HM.out _ (HV2.out.plus g d)).mono ?_
    rintro e w' ⟨u, h1, h2, h3⟩
    exact ⟨u, h1, h2, h3.base (by simp)⟩
  have HM2 := Lib.hid M2
  clear M2
  refine wp_region_rc 7 2 (by kernel_rfl) (by kernel_rfl) (by kernel_rfl) (by kernel_rfl) ?_
  simp only [List.take_succ_cons, List.take_zero]
  repeat (first
    | (refine B_skip ?_ ?_; (· rfl); (try simp only [Act.put, List.setIfInBounds_toArray, List.set_cons_zero, List.set_cons_succ]))
    | (refine B_move rfl ?_ ?_; (· rfl); (try simp only [Act.eval, Act.put, Array.getD_eq_getD_getElem?, List.getElem?_toArray, List.getElem?_cons_succ, List.getElem?_cons_zero, Option.getD_some, List.setIfInBounds_toArray, List.set_cons_zero, List.set_cons_succ]))
    | (refine B_plain ?_ ?_; (· rfl); intro K hK; go_big_quiet_op; with_reducible refine hK _ ?_; clear hK K)
    | (refine B_callR (Clo 5 W2.heap.size m) (stays_clo _ _ _) (f := 87) rfl rfl (by kernel_rfl) ?_ (fun xq => ?_) ?_; (· rfl); (· ((simp only [List.map_toArray, List.map_cons, List.map_nil, Act.eval, Array.getD_eq_getD_getElem?, List.getElem?_toArray, List.getElem?_cons_succ, List.getElem?_cons_zero, Option.getD_some]); (with_reducible apply retR); with_reducible exact T3.out _ _)))
    | (refine B_newsl0 elt_u8 rfl rfl ?_ ?_; (· rfl))
    | (refine B_makeR (Clo 5 W2.heap.size (bys c)) (stays_clo _ _ _) rfl (s := 12) (Ψs := NewSl0 W2.heap.size 5) rfl ?_ (fun xq u hu => ?_) ?_; (· rfl); (· (obtain ⟨b, rfl, hb1, hb2⟩ := hu; exact run_append_zero rfl elt_u8 b (by rfl) _ (by simp) _ (bys c) (by rfl) (HWB.out.plus _ _) (by rw [bys_len]; omega) (by rw [bys_len]; omega)))))
  refine B_nil ?_ rfl ?_ ?_
  · kernel_rfl
  · rfl
  rintro _ ⟨⟨g2, d2⟩, rfl⟩
  simp only [fin, Act.put, List.setIfInBounds_toArray, List.set_cons_zero, List.set_cons_succ]
  rintro _ ⟨ao2, cap2, B2, rfl, R2, hB2⟩ _ ⟨ao1, cap1, B1, rfl, R1, hB1⟩ u12 _
  have HR1 := Lib.hid R1
  have HM3 := Lib.hid ((Mem.start W2).found2 (w := plus W2 g2 d2) (by (repeat' (first | (with_reducible exact Below.refl _ _) | (with_reducible refine bplus ?_ _ _) | (with_reducible refine balloc ?_ _) | (with_reducible refine Below.drew ?_) | (with_reducible refine bdrewN ?_ _) | (with_reducible refine Below.setCell ?_ (by go_size) _)))) hB1 R1.pair)
  have HV3 := Lib.hid (R2.bslH (w := plus W2 g2 d2) (fun x hx => (hB2 x hx).2))
  have hno := HV3.out.cells.2.1
  have HNB : Hid (New W2 B1) := fun x hx => (hB1 x hx).1
  clear R1 R2 hB1 hB2
  refine step_one (n := 1) (k := 7) (by kernel_rfl) (by rfl) (by rfl) ?_
  intro K hK
  refine wp_append_row (.tmp 14) (.tmp 18) 26 (by rfl) elt_u8 HM3.out HNB.out _ _ _ (by rfl) HR1.out _ _ _ (bcs m) (by rfl) (by rw [bcs_len]; simp) hno HV3.out.cells.2.2 (bcs_one m) (by rw [bys_len]; unfold maxLen; omega) (by rw [bys_len]; omega) y.length (by rw [bys_len]; exact hyl) _ HYB.out (fun ao' cap' B' w' R' M' hB' => hK _ _ ?_)
  have HR' := Lib.hid R'
  have HM' := Lib.hid M'
  have HB' := Lib.hid hB'
  have HBW := Lib.hid (Below.trans (HM2.out.below HN2.out) ((M'.below (by rw [List.append_nil]; exact hB')).mono hws))
  clear hK K R' M' hB'
  refine last_one (k := 8) (by kernel_rfl) (by kernel_rfl) (by rfl) ?_ ?_
  · rfl
  intro K hK
  go_simp
  refine hK _ _ ?_
  clear hK K
  go_wp2
  go_ret
  exact ⟨_, rfl, HBW.out, HR'.out.ans fun x hx => ⟨Nat.le_trans hws (HB'.out x hx), HM'.out.has x (by simpa using hx)⟩⟩

set_option maxRecDepth 100000 in
set_option maxHeartbeats 1000000 in
theorem refSeal_long (k : BitVec 64) (ao : Option Addr) (n cap : Nat) (hn : 65536 < n) (w : World) :
    Calls Try.prog 59 #[.agg #[.int .u8 (by8 k 0), .int .u8 (by8 k 1), .int .u8 (by8 k 2), .int .u8 (by8 k 3), .int .u8 (by8 k 4), .int .u8 (by8 k 5), .int .u8 (by8 k 6), .int .u8 (by8 k 7)], .slice ao n cap] w fun e w' => e = .returned (.slice none 0 0) ∧ Below w.heap.size w w' := by
  go_enter Try.func59, Try.ntmps59
  go_wp2
  go_ret
  exact ⟨rfl, by (repeat' (first | (with_reducible exact Below.refl _ _) | (with_reducible refine bplus ?_ _ _) | (with_reducible refine balloc ?_ _) | (with_reducible refine Below.drew ?_) | (with_reducible refine bdrewN ?_ _) | (with_reducible refine Below.setCell ?_ (by go_size) _)))⟩

set_option maxRecDepth 100000 in
set_option maxHeartbeats 2000000 in
theorem refOpen_mid (k : BitVec 64) (v : Value) (l : List UInt8) (h8 : 8 ≤ l.length) (hl : l.length ≤ 65544) (c : BitVec 64) (hc : wordAt l 0 = c) (m : List UInt8) (hm : turnF k c (l.drop 8) = m) (z : BitVec 64) (hz : checkF k m = z) (x : List UInt8) (er : Nat) (hx : (z = c → x = m ∧ er = 0)) (hx2 : z ≠ c → x = [] ∧ er = 29) (w : World) (hv : BSl w v l) :
    Calls Try.prog 99 #[.agg #[.int .u8 (by8 k 0), .int .u8 (by8 k 1), .int .u8 (by8 k 2), .int .u8 (by8 k 3), .int .u8 (by8 k 4), .int .u8 (by8 k 5), .int .u8 (by8 k 6), .int .u8 (by8 k 7)], v] w fun e w' => ∃ u, e = .returned (.tuple #[u, .int .i64 er]) ∧ Below w.heap.size w w' ∧ Ans w.heap.size x u w' := by
  obtain ⟨b, o, cap, rfl, hcap, hb, h3⟩ := bsl_cells8 hv 0 (by omega)
  rw [hc] at h3
  have H3 : Hid (∀ j, j < 8 → w.cell? ⟨b, o + j, none⟩ = some (.int .u8 (by8 c j))) := fun j hj => by
    have := h3 j hj
    rwa [Nat.zero_mul, Nat.add_zero] at this
  have hd := hv.drop 8 h8
  simp only [Nat.mul_one] at hd
  obtain ⟨ed, hed⟩ : ∃ E, (if cap = 8 then (some ⟨b, o, none⟩ : Option Addr) else some ⟨b, o + 8, none⟩) = E := ⟨_, rfl⟩
  have HV2 : Hid (BSl w (.slice ed (l.length - 8) (cap - 8)) (l.drop 8)) := by
    show BSl _ _ _
    rw [← hed]
    by_cases h : cap = 8 <;> simpa [h, Addr.add] using hd
  have hml : m.length = l.length - 8 := by rw [← hm, turnF_len]; simp
  have HMM := Lib.hid hm
  have HZ := Lib.hid hz
  have HX1 := Lib.hid hx
  have HX2 := Lib.hid hx2
  have hdl : (l.drop 8).length ≤ 65536 := by simp; omega
  clear h3 hd hv hm hz hx hx2 hc
  go_enter Try.func99, Try.ntmps99
  go_wp2
  have M0 := ((Mem.start w).key #[.int .u8 (by8 k 0), .int .u8 (by8 k 1), .int .u8 (by8 k 2), .int .u8 (by8 k 3), .int .u8 (by8 k 4), .int .u8 (by8 k 5), .int .u8 (by8 k 6), .int .u8 (by8 k 7)] 22 w.heap.size rfl).key #[.int .u8 0, .int .u8 0, .int .u8 0, .int .u8 0, .int .u8 0, .int .u8 0, .int .u8 0, .int .u8 0] 22 (w.heap.size + 1) (by simp)
  go_loopw [7] (fun i wr => ∃ (j : Nat) (cs : Array Value), j ≤ 8 ∧ i = .int .i64 j ∧ cs.size = 8 ∧ (∀ q, q < j → cs[q]? = some (.int .u8 (by8 c q))) ∧ Mem wr w ([] ++ ⟨w.heap.size + 1, 22, cs⟩ :: [⟨w.heap.size, 22, #[.int .u8 (by8 k 0), .int .u8 (by8 k 1), .int .u8 (by8 k 2), .int .u8 (by8 k 3), .int .u8 (by8 k 4), .int .u8 (by8 k 5), .int .u8 (by8 k 6), .int .u8 (by8 k 7)]⟩])) (fun i _ => 8 - (intOf i).toNat)
  case atStart => exact ⟨0, _, by omega, rfl, rfl, fun j hj => absurd hj (by omega), M0⟩
  case round =>
    clear M0
    obtain ⟨j, cs, hk, rfl, hs, hcs, M⟩ := hrel
    have hN : New w ([] ++ ⟨w.heap.size + 1, 22, cs⟩ :: [⟨w.heap.size, 22, #[.int .u8 (by8 k 0), .int .u8 (by8 k 1), .int .u8 (by8 k 2), .int .u8 (by8 k 3), .int .u8 (by8 k 4), .int .u8 (by8 k 5), .int .u8 (by8 k 6), .int .u8 (by8 k 7)]⟩]) := New.cons (Nat.le_succ _) (New.cons (Nat.le_refl _) (New.nil _))
    by_cases hlt : j < 8
    · have q : wr.cell? ⟨b, o + j, none⟩ = some (.int .u8 (by8 c j)) := (M.oldcell hN hb _).trans (H3.out j hlt)
      obtain ⟨u, hu⟩ : ∃ u, cs[j]? = some u := ⟨cs[j], Array.getElem?_eq_getElem (by omega)⟩
      have q2 : wr.cell? ⟨w.heap.size + 1, j, none⟩ = some u := by rw [M.cell0]; exact hu
      have f2 := M.frozen0
      have hjl : (j : Int) < (l.length : Int) := by omega
      have HM := Lib.hid M
      have HC := Lib.hid hcs
      have HS := Lib.hid hs
      clear hu hcs M hN hs
      go_wp2
      go_roundw
      case rel =>
        refine ⟨j + 1, cs.setIfInBounds j (.int .u8 (by8 c j)), by omega, by go_num, by simp [HS.out], fun q hj => ?_, HM.out.set0 _ _⟩
        rw [Array.getElem?_setIfInBounds]
        by_cases hjk : j = q
        · subst hjk; rw [if_pos rfl, if_pos (by rw [HS.out]; omega)]
        · rw [if_neg hjk]; exact HC.out q (by omega)
      case measure => simp [intOf]; omega
    · obtain rfl : j = 8 := by omega
      obtain rfl := dgc_ext4 c cs hs hcs
      have M2 : Mem wr w [⟨w.heap.size + 1, 22, #[.int .u8 (by8 c 0), .int .u8 (by8 c 1), .int .u8 (by8 c 2), .int .u8 (by8 c 3), .int .u8 (by8 c 4), .int .u8 (by8 c 5), .int .u8 (by8 c 6), .int .u8 (by8 c 7)]⟩, ⟨w.heap.size, 22, #[.int .u8 (by8 k 0), .int .u8 (by8 k 1), .int .u8 (by8 k 2), .int .u8 (by8 k 3), .int .u8 (by8 k 4), .int .u8 (by8 k 5), .int .u8 (by8 k 6), .int .u8 (by8 k 7)]⟩] := M
      clear M hs hcs
      have HN2 : Hid (New w [⟨w.heap.size + 1, 22, #[.int .u8 (by8 c 0), .int .u8 (by8 c 1), .int .u8 (by8 c 2), .int .u8 (by8 c 3), .int .u8 (by8 c 4), .int .u8 (by8 c 5), .int .u8 (by8 c 6), .int .u8 (by8 c 7)]⟩, ⟨w.heap.size, 22, #[.int .u8 (by8 k 0), .int .u8 (by8 k 1), .int .u8 (by8 k 2), .int .u8 (by8 k 3), .int .u8 (by8 k 4), .int .u8 (by8 k 5), .int .u8 (by8 k 6), .int .u8 (by8 k 7)]⟩]) := New.cons (Nat.le_succ _) (New.cons (Nat.le_refl _) (New.nil _))
      have cK := M2.cell (b := w.heap.size) (t := 22) (cs := #[.int .u8 (by8 k 0), .int .u8 (by8 k 1), .int .u8 (by8 k 2), .int .u8 (by8 k 3), .int .u8 (by8 k 4), .int .u8 (by8 k 5), .int .u8 (by8 k 6), .int .u8 (by8 k 7)]) (by simp)
      have cC := M2.cell (b := w.heap.size + 1) (t := 22) (cs := #[.int .u8 (by8 c 0), .int .u8 (by8 c 1), .int .u8 (by8 c 2), .int .u8 (by8 c 3), .int .u8 (by8 c 4), .int .u8 (by8 c 5), .int .u8 (by8 c 6), .int .u8 (by8 c 7)]) (by simp)
      have lK : w.heap.size < wr.heap.size := M2.lt (x := ⟨w.heap.size, 22, #[.int .u8 (by8 k 0), .int .u8 (by8 k 1), .int .u8 (by8 k 2), .int .u8 (by8 k 3), .int .u8 (by8 k 4), .int .u8 (by8 k 5), .int .u8 (by8 k 6), .int .u8 (by8 k 7)]⟩) (by simp)
      have lC : w.heap.size + 1 < wr.heap.size := M2.lt (x := ⟨w.heap.size + 1, 22, #[.int .u8 (by8 c 0), .int .u8 (by8 c 1), .int .u8 (by8 c 2), .int .u8 (by8 c 3), .int .u8 (by8 c 4), .int .u8 (by8 c 5), .int .u8 (by8 c 6), .int .u8 (by8 c 7)]⟩) (by simp)
      have HV3 := Lib.hid (HV2.out.below (M2.below HN2.out))
      have T3 : Hid (∀ g d, Calls Try.prog 87 #[.agg #[.int .u8 (by8 k 0), .int .u8 (by8 k 1), .int .u8 (by8 k 2), .int .u8 (by8 k 3), .int .u8 (by8 k 4), .int .u8 (by8 k 5), .int .u8 (by8 k 6), .int .u8 (by8 k 7)], .agg #[.int .u8 (by8 c 0), .int .u8 (by8 c 1), .int .u8 (by8 c 2), .int .u8 (by8 c 3), .int .u8 (by8 c 4), .int .u8 (by8 c 5), .int .u8 (by8 c 6), .int .u8 (by8 c 7)], .slice ed (l.length - 8) (cap - 8)] (plus wr g d) fun e w' => ∃ u, e = .returned u ∧ Below (plus wr g d).heap.size (plus wr g d) w' ∧ Ans wr.heap.size m u w') := fun g d => by
        refine (turn_to k c _ (l.drop 8) hdl m HMM.out _ (HV3.out.plus g d)).mono ?_
        rintro e w' ⟨u, h1, h2, h3⟩
        exact ⟨u, h1, h2, (h3.base (by simp)).ans⟩
      have HM2 := Lib.hid M2
      clear M2
      go_wp2_with fail
      refine wp_region_rq (by kernel_rfl) (by kernel_rfl) (by kernel_rfl) ?_
      repeat (first
        | (refine B_skip ?_ ?_; (· rfl); (try simp only [Act.put, List.setIfInBounds_toArray, List.set_cons_zero, List.set_cons_succ]))
        | (refine B_move rfl ?_ ?_; (· rfl); (try simp only [Act.eval, Act.put, Array.getD_eq_getD_getElem?, List.getElem?_toArray, List.getElem?_cons_succ, List.getElem?_cons_zero, Option.getD_some, List.setIfInBounds_toArray, List.set_cons_zero, List.set_cons_succ]))
        | (refine B_plain ?_ ?_; (· rfl); intro K hK; go_big_quiet_op; with_reducible refine hK _ ?_; clear hK K)
        | (refine B_callR (Ans wr.heap.size m) (stays_ans _ _) (f := 87) rfl rfl (by kernel_rfl) ?_ (fun xq => ?_) ?_; (· rfl); (· ((simp only [List.map_toArray, List.map_cons, List.map_nil, Act.eval, Array.getD_eq_getD_getElem?, List.getElem?_toArray, List.getElem?_cons_succ, List.getElem?_cons_zero, Option.getD_some]); (with_reducible apply retR); with_reducible exact T3.out _ _)))
        | (refine B_moveR _ ?_ rfl (Or.inr rfl) rfl ?_ ?_; (· exact stays_ans _ _); (· rfl)))
      refine B_nil ?_ rfl ?_ ?_
      · kernel_rfl
      · rfl
      rintro _ ⟨⟨g1, d1⟩, rfl⟩
      simp only [fin, Act.put, List.setIfInBounds_toArray, List.set_cons_zero, List.set_cons_succ]
      intro u7 A7 u24 _
      have HA := Lib.hid (A7.base HM2.out.size)
      have T4 : Hid (∀ g d, Calls Try.prog 86 #[.agg #[.int .u8 (by8 k 0), .int .u8 (by8 k 1), .int .u8 (by8 k 2), .int .u8 (by8 k 3), .int .u8 (by8 k 4), .int .u8 (by8 k 5), .int .u8 (by8 k 6), .int .u8 (by8 k 7)], u7] (plus (plus wr g1 d1) g d) fun e w' => e = .returned (.agg #[.int .u8 (by8 z 0), .int .u8 (by8 z 1), .int .u8 (by8 z 2), .int .u8 (by8 z 3), .int .u8 (by8 z 4), .int .u8 (by8 z 5), .int .u8 (by8 z 6), .int .u8 (by8 z 7)]) ∧ Below (plus (plus wr g1 d1) g d).heap.size (plus (plus wr g1 d1) g d) w') := fun g d => refCheck_to k u7 m (by omega) z HZ.out _ (A7.bsl.plus g d)
      clear A7
      have HBW := Lib.hid (HM2.out.below HN2.out)
      clear HM2 T3 HV3
      go_wp2_with fail
      by_cases hzc : z = c
      · obtain ⟨rfl, rfl⟩ := HX1.out hzc
        subst hzc
        refine wp_region_rq (by kernel_rfl) (by kernel_rfl) (by kernel_rfl) ?_
        repeat (first
          | (refine B_skip ?_ ?_; (· rfl); (try simp only [Act.put, List.setIfInBounds_toArray, List.set_cons_zero, List.set_cons_succ]))
          | (refine B_move rfl ?_ ?_; (· rfl); (try simp only [Act.eval, Act.put, Array.getD_eq_getD_getElem?, List.getElem?_toArray, List.getElem?_cons_succ, List.getElem?_cons_zero, Option.getD_some, List.setIfInBounds_toArray, List.set_cons_zero, List.set_cons_succ]))
          | (refine B_plain ?_ ?_; (· rfl); intro K hK; go_big_quiet_op; with_reducible refine hK _ ?_; clear hK K)
          | (refine B_callX (v := ?_) (f := 86) rfl (by kernel_rfl) ?_ (fun xq => ?_) ?_; rotate_left; (· rfl); (· ((simp only [List.map_toArray, List.map_cons, List.map_nil, Act.eval, Array.getD_eq_getD_getElem?, List.getElem?_toArray, List.getElem?_cons_succ, List.getElem?_cons_zero, Option.getD_some]); with_reducible apply retB; with_reducible exact (T4.out _ _))); (try simp only [Act.put, List.setIfInBounds_toArray, List.set_cons_zero, List.set_cons_succ])))
        refine B_nil ?_ rfl ?_ ?_
        · kernel_rfl
        · rfl
        rintro _ ⟨⟨g2, d2⟩, rfl⟩
        simp only [fin, Act.put, List.setIfInBounds_toArray, List.set_cons_zero, List.set_cons_succ]
        go_wp2
        refine bodyPost_ret (v := .tuple #[u7, .int .i64 0]) (by simp [results, Try.results99, go_sem]) rfl ⟨_, rfl, bplus HBW.out _ _, by have := HA.out.plus g2 d2; rwa [plus_plus] at this⟩
      · obtain ⟨rfl, rfl⟩ := HX2.out hzc
        have hzq : (z == c) = false := by simpa using hzc
        refine wp_region_rq (by kernel_rfl) (by kernel_rfl) (by kernel_rfl) ?_
        repeat (first
          | (refine B_skip ?_ ?_; (· rfl); (try simp only [Act.put, List.setIfInBounds_toArray, List.set_cons_zero, List.set_cons_succ]))
          | (refine B_move rfl ?_ ?_; (· rfl); (try simp only [Act.eval, Act.put, Array.getD_eq_getD_getElem?, List.getElem?_toArray, List.getElem?_cons_succ, List.getElem?_cons_zero, Option.getD_some, List.setIfInBounds_toArray, List.set_cons_zero, List.set_cons_succ]))
          | (refine B_plain ?_ ?_; (· rfl); intro K hK; go_big_quiet_op; with_reducible refine hK _ ?_; clear hK K)
          | (refine B_callX (v := ?_) (f := 86) rfl (by kernel_rfl) ?_ (fun xq => ?_) ?_; rotate_left; (· rfl); (· ((simp only [List.map_toArray, List.map_cons, List.map_nil, Act.eval, Array.getD_eq_getD_getElem?, List.getElem?_toArray, List.getElem?_cons_succ, List.getElem?_cons_zero, Option.getD_some]); with_reducible apply retB; with_reducible exact (T4.out _ _))); (try simp only [Act.put, List.setIfInBounds_toArray, List.set_cons_zero, List.set_cons_succ])))
        refine B_nil ?_ rfl ?_ ?_
        · kernel_rfl
        · rfl
        rintro _ ⟨⟨g2, d2⟩, rfl⟩
        simp only [fin, Act.put, List.setIfInBounds_toArray, List.set_cons_zero, List.set_cons_succ]
        go_wp2
        refine bodyPost_ret (v := .tuple #[.slice none 0 0, .int .i64 29]) (by simp [results, Try.results99, go_sem]) rfl ⟨_, rfl, bplus HBW.out _ _, Ans.nil _ _⟩

set_option maxRecDepth 100000 in
set_option maxHeartbeats 1000000 in
theorem refOpen_any (k : BitVec 64) (v : Value) (l : List UInt8) (hlm : l.length ≤ 9223372036854775807) (x : List UInt8) (er : Nat) (hx : openF k l = (x, er)) (w : World) (hv : BSl w v l) :
    Calls Try.prog 99 #[.agg #[.int .u8 (by8 k 0), .int .u8 (by8 k 1), .int .u8 (by8 k 2), .int .u8 (by8 k 3), .int .u8 (by8 k 4), .int .u8 (by8 k 5), .int .u8 (by8 k 6), .int .u8 (by8 k 7)], v] w fun e w' => ∃ u, e = .returned (.tuple #[u, .int .i64 er]) ∧ Below w.heap.size w w' ∧ Ans w.heap.size x u w' := by
  unfold openF at hx
  by_cases h8 : l.length < 8
  · rw [if_pos h8] at hx
    cases hx
    obtain ⟨ao, cap, rfl, -⟩ := hv.open_
    go_enter Try.func99, Try.ntmps99
    go_wp2
    refine bodyPost_ret (v := .tuple #[.slice none 0 0, .int .i64 4]) (by simp [results, Try.results99, go_sem]) rfl ⟨_, rfl, by (repeat' (first | (with_reducible exact Below.refl _ _) | (with_reducible refine bplus ?_ _ _) | (with_reducible refine balloc ?_ _) | (with_reducible refine Below.drew ?_) | (with_reducible refine bdrewN ?_ _) | (with_reducible refine Below.setCell ?_ (by go_size) _))), Ans.nil _ _⟩
  by_cases hl : 65544 < l.length
  · rw [if_neg h8, if_pos hl] at hx
    cases hx
    obtain ⟨ao, cap, rfl, -⟩ := hv.open_
    go_enter Try.func99, Try.ntmps99
    go_wp2
    refine bodyPost_ret (v := .tuple #[.slice none 0 0, .int .i64 2]) (by simp [results, Try.results99, go_sem]) rfl ⟨_, rfl, by (repeat' (first | (with_reducible exact Below.refl _ _) | (with_reducible refine bplus ?_ _ _) | (with_reducible refine balloc ?_ _) | (with_reducible refine Below.drew ?_) | (with_reducible refine bdrewN ?_ _) | (with_reducible refine Below.setCell ?_ (by go_size) _))), Ans.nil _ _⟩
  rw [if_neg h8, if_neg hl] at hx
  refine refOpen_mid k v l (by omega) (by omega) _ rfl _ rfl _ rfl x er (fun h => ?_) (fun h => ?_) w hv
  · rw [if_pos h] at hx; cases hx; exact ⟨rfl, rfl⟩
  · rw [if_neg h] at hx; cases hx; exact ⟨rfl, rfl⟩

/-! ### The plain law: a box opens by its own key -/
theorem xor_back (s : List UInt8) : ∀ l : List UInt8, s.length = l.length → List.zipWith (· ^^^ ·) s (List.zipWith (· ^^^ ·) s l) = l := by
  induction s with
  | nil => intro l h; cases l <;> simp at h ⊢
  | cons a s ih =>
    intro l h
    cases l with
    | nil => simp at h
    | cons b l =>
      simp only [List.zipWith_cons_cons, List.cons.injEq]
      refine ⟨?_, ih l (by simpa using h)⟩
      rw [← UInt8.xor_assoc, UInt8.xor_self, UInt8.zero_xor]
theorem turn_back (k c : BitVec 64) (l : List UInt8) : turnF k c (turnF k c l) = l := by
  unfold turnF
  rw [show (List.zipWith (fun x1 x2 : UInt8 => x1 ^^^ x2) (streamB (boxF k c) l.length) l).length = l.length from turnF_len k c l]
  exact xor_back _ _ (streamB_len _ _)
theorem wordAt_bys (c : BitVec 64) (r : List UInt8) : wordAt (bys c ++ r) 0 = c := by
  apply by8_inj
  intro i hi
  rw [by8_wordAt _ _ _ hi]
  have h := by8_bd c i
  match i, hi with
  | 0, _ | 1, _ | 2, _ | 3, _ | 4, _ | 5, _ | 6, _ | 7, _ =>
    simp [bys, List.getD_eq_getElem?_getD, UInt8.toNat_ofNat']
    omega
theorem open_sealF (k : BitVec 64) (l : List UInt8) (hl : l.length ≤ 65536) : openF k (sealF k l) = (l, 0) := by
  unfold openF
  have h1 := sealF_len k l
  rw [if_neg (by omega), if_neg (by omega)]
  have h2 : (sealF k l).drop 8 = turnF k (checkF k l) l := by
    unfold sealF
    exact List.drop_left' (bys_len _)
  have h3 : wordAt (sealF k l) 0 = checkF k l := wordAt_bys _ _
  rw [h2, h3, turn_back, if_pos rfl]

end Go.Proofs.Ytghaiplhakeahaa
