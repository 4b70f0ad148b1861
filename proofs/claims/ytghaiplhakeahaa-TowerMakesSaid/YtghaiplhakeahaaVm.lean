/- veil: contract of mixed. -/
import Derived.Test.YtghaiplhakeahaaVl
namespace Go.Proofs.Ytghaiplhakeahaa
set_option linter.unusedSimpArgs false
set_option linter.unusedVariables false
open Go.RowKit

/-- Where the loop stands: k bytes are mixed. -/
def xat (s l : List UInt8) (k j : Nat) : UInt8 := if j < k then s.getD j 0 ^^^ l.getD j 0 else s.getD j 0
def MixB (s l : List UInt8) (n : Nat) (ao : Option Addr) (k : Nat) (S : List Blk) : Prop := n = 0 ∨ ∃ r t cur, ao = some ⟨r, 0, none⟩ ∧ S = [⟨r, t, cur⟩] ∧ ∀ j, j < n → cur[j]? = some (.int .u8 ((xat s l k j).toNat : Int))
theorem mix_set {s l : List UInt8} {n k : Nat} {cur : Array Value} (h : ∀ j, j < n → cur[j]? = some (.int .u8 ((xat s l k j).toNat : Int))) (hk : k < n) (c : Int) (hc : c = ((s.getD k 0 ^^^ l.getD k 0).toNat : Int)) :
    ∀ j, j < n → (cur.setIfInBounds k (.int .u8 c))[j]? = some (.int .u8 ((xat s l (k + 1) j).toNat : Int)) := fun j hj => by
  subst hc
  rw [Array.getElem?_setIfInBounds]
  have hs := (Array.getElem?_eq_some_iff.1 (h k hk)).1
  by_cases he : k = j
  · subst he
    rw [if_pos rfl, if_pos hs]
    simp [xat]
  · rw [if_neg he, h j hj]
    unfold xat
    by_cases h1 : j < k
    · rw [if_pos h1, if_pos (by omega)]
    · rw [if_neg h1, if_neg (by omega)]
theorem mix_end {s l : List UInt8} {n : Nat} (h1 : s.length = n) (h2 : l.length = n) (j : Nat) (hj : j < n) : xat s l n j = (List.zipWith (· ^^^ ·) s l).getD j 0 := by
  unfold xat
  rw [if_pos hj]
  simp [List.getD_eq_getElem?_getD, List.getElem?_zipWith, h1, h2, hj, List.getElem?_eq_getElem]

theorem wp_opqK {Q : Exit → Act → World → Prop} {e : Exit} {a : Act} {W : World} (S : World → Prop) (h : S W) (k : ∀ W', S W' → Q e a W') : Q e a W := k W h

set_option maxRecDepth 100000 in
set_option maxHeartbeats 2000000 in
theorem mixed_to (k wd : BitVec 64) (v : Value) (l : List UInt8) (hl : l.length ≤ 65536) (m : List UInt8) (hm : turnF k wd l = m) (w : World) (hv : BSl w v l) :
    Calls Try.prog 85 #[.agg #[.int .u8 (by8 k 0), .int .u8 (by8 k 1), .int .u8 (by8 k 2), .int .u8 (by8 k 3), .int .u8 (by8 k 4), .int .u8 (by8 k 5), .int .u8 (by8 k 6), .int .u8 (by8 k 7)], .agg #[.int .u8 (by8 wd 0), .int .u8 (by8 wd 1), .int .u8 (by8 wd 2), .int .u8 (by8 wd 3), .int .u8 (by8 wd 4), .int .u8 (by8 wd 5), .int .u8 (by8 wd 6), .int .u8 (by8 wd 7)], v] w fun e w' => ∃ u, e = .returned u ∧ Below w.heap.size w w' ∧ Ans w.heap.size m u w' := by
  obtain ⟨x, HX⟩ : ∃ x, Hid (wordF k (strL { data := #[98, 111, 120] }) = x) := ⟨_, rfl⟩
  obtain ⟨y, HY⟩ : ∃ y, Hid (twoF x wd = y) := ⟨_, rfl⟩
  obtain ⟨s, HS⟩ : ∃ s, Hid (streamB y l.length = s) := ⟨_, rfl⟩
  have hsl : s.length = l.length := by rw [← HS.out]; exact streamB_len _ _
  have HM : Hid (List.zipWith (· ^^^ ·) s l = m) := by show _ = _; rw [← hm, ← HS.out, ← HY.out, ← HX.out]; rfl
  have hml : m.length = l.length := by rw [← hm]; exact turnF_len _ _ _
  have T1 := Lib.hid (fun W => word_bytes k { data := #[98, 111, 120] } W (by decide) x HX.out)
  have T3 : Hid (∀ g d, Calls Try.prog 103 #[.agg #[.int .u8 (by8 y 0), .int .u8 (by8 y 1), .int .u8 (by8 y 2), .int .u8 (by8 y 3), .int .u8 (by8 y 4), .int .u8 (by8 y 5), .int .u8 (by8 y 6), .int .u8 (by8 y 7)], .int .i64 l.length] (plus ((w.alloc (.cells #[.int .u8 (by8 k 0), .int .u8 (by8 k 1), .int .u8 (by8 k 2), .int .u8 (by8 k 3), .int .u8 (by8 k 4), .int .u8 (by8 k 5), .int .u8 (by8 k 6), .int .u8 (by8 k 7)] 27)).alloc (.cells #[.int .u8 (by8 wd 0), .int .u8 (by8 wd 1), .int .u8 (by8 wd 2), .int .u8 (by8 wd 3), .int .u8 (by8 wd 4), .int .u8 (by8 wd 5), .int .u8 (by8 wd 6), .int .u8 (by8 wd 7)] 27)) g d) fun e w' => ∃ u, e = .returned u ∧ Below (plus ((w.alloc (.cells #[.int .u8 (by8 k 0), .int .u8 (by8 k 1), .int .u8 (by8 k 2), .int .u8 (by8 k 3), .int .u8 (by8 k 4), .int .u8 (by8 k 5), .int .u8 (by8 k 6), .int .u8 (by8 k 7)] 27)).alloc (.cells #[.int .u8 (by8 wd 0), .int .u8 (by8 wd 1), .int .u8 (by8 wd 2), .int .u8 (by8 wd 3), .int .u8 (by8 wd 4), .int .u8 (by8 wd 5), .int .u8 (by8 wd 6), .int .u8 (by8 wd 7)] 27)) g d).heap.size (plus ((w.alloc (.cells #[.int .u8 (by8 k 0), .int .u8 (by8 k 1), .int .u8 (by8 k 2), .int .u8 (by8 k 3), .int .u8 (by8 k 4), .int .u8 (by8 k 5), .int .u8 (by8 k 6), .int .u8 (by8 k 7)] 27)).alloc (.cells #[.int .u8 (by8 wd 0), .int .u8 (by8 wd 1), .int .u8 (by8 wd 2), .int .u8 (by8 wd 3), .int .u8 (by8 wd 4), .int .u8 (by8 wd 5), .int .u8 (by8 wd 6), .int .u8 (by8 wd 7)] 27)) g d) w' ∧ Ans (w.heap.size + 2) s u w') := fun g d => by
    refine (stream_ans y l.length _ rfl (by omega) s HS.out _).mono ?_
    rintro e w' ⟨u, h1, h2, h3⟩
    exact ⟨u, h1, h2, h3.base (by simp)⟩
  obtain ⟨ao, cap, rfl, h1, h2, h3⟩ := hv.open_
  have HV := Lib.hid hv
  clear hv hm h3
  go_enter Try.func85, Try.ntmps85
  go_wp2
  refine wp_region_rq (by kernel_rfl) (by kernel_rfl) (by kernel_rfl) ?_
  repeat (first
    | (refine B_skip ?_ ?_; (· rfl); (try simp only [Act.put, List.setIfInBounds_toArray, List.set_cons_zero, List.set_cons_succ]))
    | (refine B_move rfl ?_ ?_; (· rfl); (try simp only [Act.eval, Act.put, Array.getD_eq_getD_getElem?, List.getElem?_toArray, List.getElem?_cons_succ, List.getElem?_cons_zero, Option.getD_some, List.setIfInBounds_toArray, List.set_cons_zero, List.set_cons_succ]))
    | (refine B_plain ?_ ?_; (· rfl); intro K hK; go_big_quiet_op; with_reducible refine hK _ ?_; clear hK K)
    | (refine B_callX (v := ?_) (f := 61) rfl (by kernel_rfl) ?_ (fun xq => ?_) ?_; rotate_left; (· rfl); (· ((simp only [List.map_toArray, List.map_cons, List.map_nil, Act.eval, Array.getD_eq_getD_getElem?, List.getElem?_toArray, List.getElem?_cons_succ, List.getElem?_cons_zero, Option.getD_some]); with_reducible apply retB; with_reducible exact (T1.out _))); (try simp only [Act.put, List.setIfInBounds_toArray, List.set_cons_zero, List.set_cons_succ]))
    | (refine B_callX (v := ?_) (f := 101) rfl (by kernel_rfl) ?_ (fun xq => ?_) ?_; rotate_left; (· rfl); (· ((simp only [List.map_toArray, List.map_cons, List.map_nil, Act.eval, Array.getD_eq_getD_getElem?, List.getElem?_toArray, List.getElem?_cons_succ, List.getElem?_cons_zero, Option.getD_some]); with_reducible apply retB; with_reducible exact (two_to x wd y HY.out _))); (try simp only [Act.put, List.setIfInBounds_toArray, List.set_cons_zero, List.set_cons_succ]))
    | (refine B_callR (Ans (w.heap.size + 2) s) (stays_ans _ _) (f := 103) rfl rfl (by kernel_rfl) ?_ (fun xq => ?_) ?_; (· rfl); (· ((simp only [List.map_toArray, List.map_cons, List.map_nil, Act.eval, Array.getD_eq_getD_getElem?, List.getElem?_toArray, List.getElem?_cons_succ, List.getElem?_cons_zero, Option.getD_some]); (with_reducible apply retR); with_reducible exact T3.out _ _)))
    | (refine B_moveR _ ?_ rfl (Or.inr rfl) rfl ?_ ?_; (· exact stays_ans _ _); (· rfl)))
  refine B_nil ?_ rfl ?_ ?_
  · kernel_rfl
  · rfl
  rintro _ ⟨⟨g1, d1⟩, rfl⟩
  simp only [fin, Act.put, List.setIfInBounds_toArray, List.set_cons_zero, List.set_cons_succ]
  intro u7 A7 u15 _
  have M0 := (((Mem.start w).key #[.int .u8 (by8 k 0), .int .u8 (by8 k 1), .int .u8 (by8 k 2), .int .u8 (by8 k 3), .int .u8 (by8 k 4), .int .u8 (by8 k 5), .int .u8 (by8 k 6), .int .u8 (by8 k 7)] 27 w.heap.size rfl).key #[.int .u8 (by8 wd 0), .int .u8 (by8 wd 1), .int .u8 (by8 wd 2), .int .u8 (by8 wd 3), .int .u8 (by8 wd 4), .int .u8 (by8 wd 5), .int .u8 (by8 wd 6), .int .u8 (by8 wd 7)] 27 (w.heap.size + 1) (by simp)).plus g1 d1
  obtain ⟨ao7, cap7, S, rfl, ⟨hc7, hn7⟩, hB7, hS7⟩ := A7
  have M1 : Mem _ w (S ++ [⟨w.heap.size + 1, 27, #[.int .u8 (by8 wd 0), .int .u8 (by8 wd 1), .int .u8 (by8 wd 2), .int .u8 (by8 wd 3), .int .u8 (by8 wd 4), .int .u8 (by8 wd 5), .int .u8 (by8 wd 6), .int .u8 (by8 wd 7)]⟩, ⟨w.heap.size, 27, #[.int .u8 (by8 k 0), .int .u8 (by8 k 1), .int .u8 (by8 k 2), .int .u8 (by8 k 3), .int .u8 (by8 k 4), .int .u8 (by8 k 5), .int .u8 (by8 k 6), .int .u8 (by8 k 7)]⟩]) := ⟨M0.os, M0.tape, M0.output, M0.size, fun j hj hy => M0.old j hj fun y hm => hy y (List.mem_append_right _ hm), List.pairwise_append.2 ⟨by rcases hB7 with ⟨-, rfl⟩ | ⟨r, t, cur, -, rfl, -⟩ <;> simp, M0.apart, fun y hy z hz => by
    have := (hS7 y hy).1
    simp at hz
    rcases hz with rfl | rfl <;> simp <;> omega⟩, fun y hy => by
    rcases List.mem_append.1 hy with hy | hy
    · exact (hS7 y hy).2
    · exact M0.has y hy⟩
  have HNK : Hid (New w [⟨w.heap.size + 1, 27, #[.int .u8 (by8 wd 0), .int .u8 (by8 wd 1), .int .u8 (by8 wd 2), .int .u8 (by8 wd 3), .int .u8 (by8 wd 4), .int .u8 (by8 wd 5), .int .u8 (by8 wd 6), .int .u8 (by8 wd 7)]⟩, ⟨w.heap.size, 27, #[.int .u8 (by8 k 0), .int .u8 (by8 k 1), .int .u8 (by8 k 2), .int .u8 (by8 k 3), .int .u8 (by8 k 4), .int .u8 (by8 k 5), .int .u8 (by8 k 6), .int .u8 (by8 k 7)]⟩]) := New.cons (Nat.le_succ _) (New.cons (Nat.le_refl _) (New.nil _))
  have HNS : Hid (New w S) := fun y hy => Nat.le_trans (by omega) (hS7 y hy).1
  have HB0 : Hid (MixB s l l.length ao7 0 S) := by
    rcases hB7 with ⟨h, -⟩ | ⟨r, t, cur, h1, h2, h3⟩
    · left; rw [← hsl, h]; rfl
    · exact .inr ⟨r, t, cur, h1, h2, fun j hj => by rw [h3 j (by omega)]; simp [xat]⟩
  have HM1 := Lib.hid M1
  clear M0 M1 hB7 hS7
  refine wp_opqK (fun W => Mem W w (S ++ [⟨w.heap.size + 1, 27, #[.int .u8 (by8 wd 0), .int .u8 (by8 wd 1), .int .u8 (by8 wd 2), .int .u8 (by8 wd 3), .int .u8 (by8 wd 4), .int .u8 (by8 wd 5), .int .u8 (by8 wd 6), .int .u8 (by8 wd 7)]⟩, ⟨w.heap.size, 27, #[.int .u8 (by8 k 0), .int .u8 (by8 k 1), .int .u8 (by8 k 2), .int .u8 (by8 k 3), .int .u8 (by8 k 4), .int .u8 (by8 k 5), .int .u8 (by8 k 6), .int .u8 (by8 k 7)]⟩])) HM1.out ?_
  intro W1 HM1'
  have HM2 := Lib.hid HM1'
  clear HM1' HM1
  rw [hsl]
  go_wp2_with fail
  go_loopw [18] (fun i wr => ∃ (j : Nat) (S : List Blk), i = .int .i64 j ∧ j ≤ l.length ∧ MixB s l l.length ao7 j S ∧ New w S ∧ Mem wr w (S ++ [⟨w.heap.size + 1, 27, #[.int .u8 (by8 wd 0), .int .u8 (by8 wd 1), .int .u8 (by8 wd 2), .int .u8 (by8 wd 3), .int .u8 (by8 wd 4), .int .u8 (by8 wd 5), .int .u8 (by8 wd 6), .int .u8 (by8 wd 7)]⟩, ⟨w.heap.size, 27, #[.int .u8 (by8 k 0), .int .u8 (by8 k 1), .int .u8 (by8 k 2), .int .u8 (by8 k 3), .int .u8 (by8 k 4), .int .u8 (by8 k 5), .int .u8 (by8 k 6), .int .u8 (by8 k 7)]⟩])) (fun i _ => l.length - (intOf i).toNat)
  case atStart => exact ⟨0, S, rfl, by omega, HB0.out, HNS.out, HM2.out⟩
  case round =>
    obtain ⟨j, S, rfl, hj, hB, hS, M⟩ := hrel
    have HMr := Lib.hid M
    have HNN : Hid (New w (S ++ [⟨w.heap.size + 1, 27, #[.int .u8 (by8 wd 0), .int .u8 (by8 wd 1), .int .u8 (by8 wd 2), .int .u8 (by8 wd 3), .int .u8 (by8 wd 4), .int .u8 (by8 wd 5), .int .u8 (by8 wd 6), .int .u8 (by8 wd 7)]⟩, ⟨w.heap.size, 27, #[.int .u8 (by8 k 0), .int .u8 (by8 k 1), .int .u8 (by8 k 2), .int .u8 (by8 k 3), .int .u8 (by8 k 4), .int .u8 (by8 k 5), .int .u8 (by8 k 6), .int .u8 (by8 k 7)]⟩])) := New.app hS HNK.out
    by_cases hlt : j < l.length
    · obtain ⟨r, t, cur, rfl, rfl, hcur⟩ : ∃ r t cur, ao7 = some ⟨r, 0, none⟩ ∧ S = [⟨r, t, cur⟩] ∧ ∀ i, i < l.length → cur[i]? = some (.int .u8 ((xat s l j i).toNat : Int)) := by
        rcases hB with h | h
        · omega
        · exact h
      obtain ⟨b, o, rfl, hb, hbc⟩ : ∃ b o, ao = some ⟨b, o, none⟩ ∧ b < w.heap.size ∧ ∀ i, i < l.length → w.cell? ⟨b, o + i, none⟩ = some (.int .u8 ((l.getD i 0).toNat : Int)) := by
        obtain ⟨ao', cap', e1, -, h5⟩ := HV.out
        cases e1
        rcases h5 with h5 | h5
        · omega
        · exact h5
      have c0 : wr.cell? ⟨r, j, none⟩ = some (.int .u8 ((s.getD j 0).toNat : Int)) := by
        rw [M.cell (b := r) (t := t) (cs := cur) (by simp) j, hcur j hlt]
        simp [xat]
      have f0 : wr.frozen? ⟨r, j, none⟩ = false := M.frozen (b := r) (t := t) (cs := cur) (by simp) j
      have l0 : r < wr.heap.size := M.lt (x := ⟨r, t, cur⟩) (by simp)
      have c1 : wr.cell? ⟨b, o + j, none⟩ = some (.int .u8 ((l.getD j 0).toNat : Int)) := (M.oldcell HNN.out hb _).trans (hbc j hlt)
      have lb : b < wr.heap.size := Nat.lt_of_lt_of_le hb M.size
      have hrb : b ≠ r := by have := hS _ (List.mem_singleton.2 rfl); dsimp only at this; omega
      have hx := bits_xor8 (s.getD j 0) (l.getD j 0)
      obtain ⟨cc, HCC⟩ : ∃ cc : Int, Hid (cc = ((s.getD j 0 ^^^ l.getD j 0).toNat : Int)) := ⟨_, rfl⟩
      rw [← HCC.out] at hx
      have HST := Lib.hid (mix_set hcur hlt cc HCC.out)
      generalize ((s.getD j 0).toNat : Int) = ca at c0 hx
      generalize ((l.getD j 0).toNat : Int) = cb at c1 hx
      clear hcur hbc M hB
      go_wp2_with fail
      refine wp_region_rc 10 1 (by kernel_rfl) (by kernel_rfl) (by kernel_rfl) (by kernel_rfl) ?_
      simp only [List.take_succ_cons, List.take_zero]
      repeat (first
        | (refine B_skip ?_ ?_; (· rfl); (try simp only [Act.put, List.setIfInBounds_toArray, List.set_cons_zero, List.set_cons_succ]))
        | (refine B_move rfl ?_ ?_; (· rfl); (try simp only [Act.eval, Act.put, Array.getD_eq_getD_getElem?, List.getElem?_toArray, List.getElem?_cons_succ, List.getElem?_cons_zero, Option.getD_some, List.setIfInBounds_toArray, List.set_cons_zero, List.set_cons_succ]))
        | (refine B_plain ?_ ?_; (· rfl); intro K hK; go_big_quiet_op; with_reducible refine hK _ ?_; clear hK K)
        | (fail))
      refine B_nil ?_ rfl ?_ ?_
      · kernel_rfl
      · rfl
      rintro _ ⟨⟨g2, d2⟩, rfl⟩
      simp only [fin, Act.put, List.setIfInBounds_toArray, List.set_cons_zero, List.set_cons_succ]
      refine last_one (k := 10) (by kernel_rfl) (by kernel_rfl) (by rfl) ?_ ?_
      · rfl
      intro K hK
      go_simp
      refine hK _ _ ?_
      clear hK K
      go_wp2
      go_roundw
      case rel => exact ⟨j + 1, [⟨r, t, cur.setIfInBounds j (.int .u8 cc)⟩], by go_num, by omega, .inr ⟨r, t, _, rfl, rfl, HST.out⟩, New.cons (hS _ (List.mem_cons_self ..) :) (New.nil _), (HMr.out.set (B := []) j _).plus _ _⟩
      case measure => simp [intOf]; omega
    · obtain rfl : j = l.length := by omega
      have HB := Lib.hid hB
      have HS9 := Lib.hid hS
      have HBW := Lib.hid (M.below HNN.out)
      have hH : ∀ y ∈ S, HasBlk wr y.no y.ty y.cs := fun y hy => M.has y (by simp [hy])
      have HH := Lib.hid hH
      clear M hB hS hH
      go_wp2
      go_ret
      rcases HB.out with h | ⟨r, t, cur, h1, h2, h3⟩
      · exact ⟨_, rfl, HBW.out, ao7, cap7, [], by rw [hml]; rfl, ⟨by omega, hn7⟩, .inl ⟨List.eq_nil_of_length_eq_zero (by omega), rfl⟩, by simp⟩
      · exact ⟨_, rfl, HBW.out, ao7, cap7, S, by rw [hml]; rfl, ⟨by omega, hn7⟩, .inr ⟨r, t, cur, h1, h2, fun i hi => by rw [h3 i (by omega), mix_end hsl rfl i (by omega), HM.out]⟩, fun y hy => ⟨HS9.out y hy, HH.out y hy⟩⟩

end Go.Proofs.Ytghaiplhakeahaa
