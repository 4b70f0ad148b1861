/- veil: contracts of Commit, Opens, check, mixed. -/
import Derived.Test.YtghaiplhakeahaaAns
import Derived.Test.YtghaiplhakeahaaZ
import Derived.Test.YtghaiplhakeahaaOf
import Derived.Outline
namespace Go.Proofs.Ytghaiplhakeahaa
set_option linter.unusedSimpArgs false
set_option linter.unusedVariables false
open Go.RowKit

def commitF (s : BitVec 64) (l : List UInt8) : BitVec 64 := twoF (wordF s (strL { data := #[115, 97, 108, 116] })) (ofF l)
def checkF (k : BitVec 64) (l : List UInt8) : BitVec 64 := twoF (wordF k (strL { data := #[99, 104, 101, 99, 107] })) (ofF l)
def boxF (k wd : BitVec 64) : BitVec 64 := twoF (wordF k (strL { data := #[98, 111, 120] })) wd
noncomputable def turnF (k wd : BitVec 64) (l : List UInt8) : List UInt8 := List.zipWith (· ^^^ ·) (streamB (boxF k wd) l.length) l
theorem turnF_len (k wd : BitVec 64) (l : List UInt8) : (turnF k wd l).length = l.length := by simp [turnF, streamB_len]

set_option maxRecDepth 100000 in
set_option maxHeartbeats 1000000 in
theorem check_to (s : BitVec 64) (v : Value) (l : List UInt8) (hl : l.length ≤ 65536) (z : BitVec 64) (hz : checkF s l = z) (w : World) (hv : BSl w v l) :
    Calls Try.prog 84 #[.agg #[.int .u8 (by8 s 0), .int .u8 (by8 s 1), .int .u8 (by8 s 2), .int .u8 (by8 s 3), .int .u8 (by8 s 4), .int .u8 (by8 s 5), .int .u8 (by8 s 6), .int .u8 (by8 s 7)], v] w fun e w' => e = .returned (.agg #[.int .u8 (by8 z 0), .int .u8 (by8 z 1), .int .u8 (by8 z 2), .int .u8 (by8 z 3), .int .u8 (by8 z 4), .int .u8 (by8 z 5), .int .u8 (by8 z 6), .int .u8 (by8 z 7)]) ∧ Below w.heap.size w w' := by
  obtain ⟨x, HX⟩ : ∃ x, Hid (wordF s (strL { data := #[99, 104, 101, 99, 107] }) = x) := ⟨_, rfl⟩
  obtain ⟨y, HY⟩ : ∃ y, Hid (ofF l = y) := ⟨_, rfl⟩
  have HZ : Hid (twoF x y = z) := by show _ = _; rw [← hz, ← HX.out, ← HY.out]; rfl
  have h9 : l.length ≤ 1000000000 := by omega
  obtain ⟨ao, cap, rfl, -⟩ := hv.open_
  have HV := Lib.hid hv
  clear hv hz
  go_enter Try.func84, Try.ntmps84
  go_wp2_with fail
  refine (word_bytes s _ _ (by decide) x HX.out).mono ?_
  rintro e w1 ⟨rfl, hb1⟩; obtain ⟨g1, d1, rfl⟩ := plus_of_below hb1; clear hb1
  go_wp2_with fail
  refine (of_bytes _ l _ (((HV.out.alloc _).alloc _).plus _ _) h9 y HY.out).mono ?_
  rintro e w2 ⟨rfl, hb2⟩; obtain ⟨g2, d2, rfl⟩ := plus_of_below hb2; clear hb2
  go_wp2_with fail
  refine (two_to x y z HZ.out _).mono ?_
  rintro e w3 ⟨rfl, hb3⟩; obtain ⟨g3, d3, rfl⟩ := plus_of_below hb3; clear hb3
  go_wp2
  refine bodyPost_ret (v := .agg #[.int .u8 (by8 z 0), .int .u8 (by8 z 1), .int .u8 (by8 z 2), .int .u8 (by8 z 3), .int .u8 (by8 z 4), .int .u8 (by8 z 5), .int .u8 (by8 z 6), .int .u8 (by8 z 7)]) (by simp [results, Try.results84, go_sem]) rfl ⟨rfl, by (repeat' (first | (with_reducible exact Below.refl _ _) | (with_reducible refine bplus ?_ _ _) | (with_reducible refine balloc ?_ _) | (with_reducible refine Below.drew ?_) | (with_reducible refine bdrewN ?_ _) | (with_reducible refine Below.setCell ?_ (by go_size) _)))⟩

/-! ### Opens -/
/-- Where the loop stands: k bytes are mixed. -/
def xat (s l : List UInt8) (k j : Nat) : UInt8 := if j < k then s.getD j 0 ^^^ l.getD j 0 else s.getD j 0
def MixB (s l : List UInt8) (n : Nat) (ao : Option Addr) (k : Nat) (S : List Blk) : Prop := n = 0 ∨ ∃ r t cur, ao = some ⟨r, 0, none⟩ ∧ S = [⟨r, t, cur⟩] ∧ ∀ j, j < n → cur[j]? = some (.int .u8 ((xat s l k j).toNat : Int))
theorem mix_set {s l : List UInt8} {n k : Nat} {cur : Array Value} (h : ∀ j, j < n → cur[j]? = some (.int .u8 ((xat s l k j).toNat : Int))) (hk : k < n) (c : Int) (hc : c = ((s.getD k 0 ^^^ l.getD k 0).toNat : Int)) :
    ∀ j, j < n → (cur.setIfInBounds k (.int .u8 c))[j]? = some (.int .u8 ((xat s l (k + 1) j).toNat : Int)) := fun j hj => by
  subst hc
  rw [Array.getElem?_setIfInBounds]
  have hs := (Array.getElem?_eq_some_iff.1 (h k hk)).1
  by_cases he : k = j
  · subst he
    rw [if_pos rfl, if_pos hs]
    simp [xat]
  · rw [if_neg he, h j hj]
    unfold xat
    by_cases h1 : j < k
    · rw [if_pos h1, if_pos (by omega)]
    · rw [if_neg h1, if_neg (by omega)]
theorem mix_end {s l : List UInt8} {n : Nat} (h1 : s.length = n) (h2 : l.length = n) (j : Nat) (hj : j < n) : xat s l n j = (List.zipWith (· ^^^ ·) s l).getD j 0 := by
  unfold xat
  rw [if_pos hj]
  simp [List.getD_eq_getElem?_getD, List.getElem?_zipWith, h1, h2, hj, List.getElem?_eq_getElem]

theorem wp_opqK {Q : Exit → Act → World → Prop} {e : Exit} {a : Act} {W : World} (S : World → Prop) (h : S W) (k : ∀ W', S W' → Q e a W') : Q e a W := k W h

set_option maxRecDepth 100000 in
set_option maxHeartbeats 2000000 in
theorem mixed_to (k wd : BitVec 64) (v : Value) (l : List UInt8) (hl : l.length ≤ 65536) (m : List UInt8) (hm : turnF k wd l = m) (w : World) (hv : BSl w v l) :
    Calls Try.prog 85 #[.agg #[.int .u8 (by8 k 0), .int .u8 (by8 k 1), .int .u8 (by8 k 2), .int .u8 (by8 k 3), .int .u8 (by8 k 4), .int .u8 (by8 k 5), .int .u8 (by8 k 6), .int .u8 (by8 k 7)], .agg #[.int .u8 (by8 wd 0), .int .u8 (by8 wd 1), .int .u8 (by8 wd 2), .int .u8 (by8 wd 3), .int .u8 (by8 wd 4), .int .u8 (by8 wd 5), .int .u8 (by8 wd 6), .int .u8 (by8 wd 7)], v] w fun e w' => ∃ u, e = .returned u ∧ Below w.heap.size w w' ∧ Ans w.heap.size m u w' := by
  obtain ⟨x, HX⟩ : ∃ x, Hid (wordF k (strL { data := #[98, 111, 120] }) = x) := ⟨_, rfl⟩
  obtain ⟨y, HY⟩ : ∃ y, Hid (twoF x wd = y) := ⟨_, rfl⟩
  obtain ⟨s, HS⟩ : ∃ s, Hid (streamB y l.length = s) := ⟨_, rfl⟩
  have hsl : s.length = l.length := by rw [← HS.out]; exact streamB_len _ _
  have HM : Hid (List.zipWith (· ^^^ ·) s l = m) := by show _ = _; rw [← hm, ← HS.out, ← HY.out, ← HX.out]; rfl
  have hml : m.length = l.length := by rw [← hm]; exact turnF_len _ _ _
  have T1 := Lib.hid (fun W => word_bytes k { data := #[98, 111, 120] } W (by decide) x HX.out)
  have T3 : Hid (∀ g d, Calls Try.prog 103 #[.agg #[.int .u8 (by8 y 0), .int .u8 (by8 y 1), .int .u8 (by8 y 2), .int .u8 (by8 y 3), .int .u8 (by8 y 4), .int .u8 (by8 y 5), .int .u8 (by8 y 6), .int .u8 (by8 y 7)], .int .i64 l.length] (plus ((w.alloc (.cells #[.int .u8 (by8 k 0), .int .u8 (by8 k 1), .int .u8 (by8 k 2), .int .u8 (by8 k 3), .int .u8 (by8 k 4), .int .u8 (by8 k 5), .int .u8 (by8 k 6), .int .u8 (by8 k 7)] 27)).alloc (.cells #[.int .u8 (by8 wd 0), .int .u8 (by8 wd 1), .int .u8 (by8 wd 2), .int .u8 (by8 wd 3), .int .u8 (by8 wd 4), .int .u8 (by8 wd 5), .int .u8 (by8 wd 6), .int .u8 (by8 wd 7)] 27)) g d) fun e w' => ∃ u, e = .returned u ∧ Below (plus ((w.alloc (.cells #[.int .u8 (by8 k 0), .int .u8 (by8 k 1), .int .u8 (by8 k 2), .int .u8 (by8 k 3), .int .u8 (by8 k 4), .int .u8 (by8 k 5), .int .u8 (by8 k 6), .int .u8 (by8 k 7)] 27)).alloc (.cells #[.int .u8 (by8 wd 0), .int .u8 (by8 wd 1), .int .u8 (by8 wd 2), .int .u8 (by8 wd 3), .int .u8 (by8 wd 4), .int .u8 (by8 wd 5), .int .u8 (by8 wd 6), .int .u8 (by8 wd 7)] 27)) g d).heap.size (plus ((w.alloc (.cells #[.int .u8 (by8 k 0), .int .u8 (by8 k 1), .int .u8 (by8 k 2), .int .u8 (by8 k 3), .int .u8 (by8 k 4), .int .u8 (by8 k 5), .int .u8 (by8 k 6), .int .u8 (by8 k 7)] 27)).alloc (.cells #[.int .u8 (by8 wd 0), .int .u8 (by8 wd 1), .int .u8 (by8 wd 2), .int .u8 (by8 wd 3), .int .u8 (by8 wd 4), .int .u8 (by8 wd 5), .int .u8 (by8 wd 6), .int .u8 (by8 wd 7)] 27)) g d) w' ∧ Ans (w.heap.size + 2) s u w') := fun g d => by
    refine (stream_ans y l.length _ rfl (by omega) s HS.out _).mono ?_
    rintro e w' ⟨u, h1, h2, h3⟩
    exact ⟨u, h1, h2, h3.base (by simp)⟩
  obtain ⟨ao, cap, rfl, h1, h2, h3⟩ := hv.open_
  have HV := Lib.hid hv
  clear hv hm h3
  go_enter Try.func85, Try.ntmps85
  go_wp2
  refine wp_region_rq (by kernel_rfl) (by kernel_rfl) (by kernel_rfl) ?_
  repeat (first
    | (refine B_skip ?_ ?_; (· rfl); (try simp only [Act.put, List.setIfInBounds_toArray, List.set_cons_zero, List.set_cons_succ]))
    | (refine B_move rfl ?_ ?_; (· rfl); (try simp only [Act.eval, Act.put, Array.getD_eq_getD_getElem?, List.getElem?_toArray, List.getElem?_cons_succ, List.getElem?_cons_zero, Option.getD_some, List.setIfInBounds_toArray, List.set_cons_zero, List.set_cons_succ]))
    | (refine B_plain ?_ ?_; (· rfl); intro K hK; go_big_quiet_op; with_reducible refine hK _ ?_; clear hK K)
    | (refine B_callX (v := ?_) (f := 61) rfl (by kernel_rfl) ?_ (fun xq => ?_) ?_; rotate_left; (· rfl); (· ((simp only [List.map_toArray, List.map_cons, List.map_nil, Act.eval, Array.getD_eq_getD_getElem?, List.getElem?_toArray, List.getElem?_cons_succ, List.getElem?_cons_zero, Option.getD_some]); with_reducible apply retB; with_reducible exact (T1.out _))); (try simp only [Act.put, List.setIfInBounds_toArray, List.set_cons_zero, List.set_cons_succ]))
    | (refine B_callX (v := ?_) (f := 101) rfl (by kernel_rfl) ?_ (fun xq => ?_) ?_; rotate_left; (· rfl); (· ((simp only [List.map_toArray, List.map_cons, List.map_nil, Act.eval, Array.getD_eq_getD_getElem?, List.getElem?_toArray, List.getElem?_cons_succ, List.getElem?_cons_zero, Option.getD_some]); with_reducible apply retB; with_reducible exact (two_to x wd y HY.out _))); (try simp only [Act.put, List.setIfInBounds_toArray, List.set_cons_zero, List.set_cons_succ]))
    | (refine B_callR (Ans (w.heap.size + 2) s) (stays_ans _ _) (f := 103) rfl rfl (by kernel_rfl) ?_ (fun xq => ?_) ?_; (· rfl); (· ((simp only [List.map_toArray, List.map_cons, List.map_nil, Act.eval, Array.getD_eq_getD_getElem?, List.getElem?_toArray, List.getElem?_cons_succ, List.getElem?_cons_zero, Option.getD_some]); (with_reducible apply retR); with_reducible exact T3.out _ _)))
    | (refine B_moveR _ ?_ rfl (Or.inr rfl) rfl ?_ ?_; (· exact stays_ans _ _); (· rfl)))
  refine B_nil ?_ rfl ?_ ?_
  · kernel_rfl
  · rfl
  rintro _ ⟨⟨g1, d1⟩, rfl⟩
  simp only [fin, Act.put, List.setIfInBounds_toArray, List.set_cons_zero, List.set_cons_succ]
  intro u7 A7 u15 _
  have M0 := (((Mem.start w).key #[.int .u8 (by8 k 0), .int .u8 (by8 k 1), .int .u8 (by8 k 2), .int .u8 (by8 k 3), .int .u8 (by8 k 4), .int .u8 (by8 k 5), .int .u8 (by8 k 6), .int .u8 (by8 k 7)] 27 w.heap.size rfl).key #[.int .u8 (by8 wd 0), .int .u8 (by8 wd 1), .int .u8 (by8 wd 2), .int .u8 (by8 wd 3), .int .u8 (by8 wd 4), .int .u8 (by8 wd 5), .int .u8 (by8 wd 6), .int .u8 (by8 wd 7)] 27 (w.heap.size + 1) (by simp)).plus g1 d1
  obtain ⟨ao7, cap7, S, rfl, ⟨hc7, hn7⟩, hB7, hS7⟩ := A7
  have M1 : Mem _ w (S ++ [⟨w.heap.size + 1, 27, #[.int .u8 (by8 wd 0), .int .u8 (by8 wd 1), .int .u8 (by8 wd 2), .int .u8 (by8 wd 3), .int .u8 (by8 wd 4), .int .u8 (by8 wd 5), .int .u8 (by8 wd 6), .int .u8 (by8 wd 7)]⟩, ⟨w.heap.size, 27, #[.int .u8 (by8 k 0), .int .u8 (by8 k 1), .int .u8 (by8 k 2), .int .u8 (by8 k 3), .int .u8 (by8 k 4), .int .u8 (by8 k 5), .int .u8 (by8 k 6), .int .u8 (by8 k 7)]⟩]) := ⟨M0.os, M0.tape, M0.output, M0.size, fun j hj hy => M0.old j hj fun y hm => hy y (List.mem_append_right _ hm), List.pairwise_append.2 ⟨by rcases hB7 with ⟨-, rfl⟩ | ⟨r, t, cur, -, rfl, -⟩ <;> simp, M0.apart, fun y hy z hz => by
    have := (hS7 y hy).1
    simp at hz
    rcases hz with rfl | rfl <;> simp <;> omega⟩, fun y hy => by
    rcases List.mem_append.1 hy with hy | hy
    · exact (hS7 y hy).2
    · exact M0.has y hy⟩
  have HNK : Hid (New w [⟨w.heap.size + 1, 27, #[.int .u8 (by8 wd 0), .int .u8 (by8 wd 1), .int .u8 (by8 wd 2), .int .u8 (by8 wd 3), .int .u8 (by8 wd 4), .int .u8 (by8 wd 5), .int .u8 (by8 wd 6), .int .u8 (by8 wd 7)]⟩, ⟨w.heap.size, 27, #[.int .u8 (by8 k 0), .int .u8 (by8 k 1), .int .u8 (by8 k 2), .int .u8 (by8 k 3), .int .u8 (by8 k 4), .int .u8 (by8 k 5), .int .u8 (by8 k 6), .int .u8 (by8 k 7)]⟩]) := New.cons (Nat.le_succ _) (New.cons (Nat.le_refl _) (New.nil _))
  have HNS : Hid (New w S) := fun y hy => Nat.le_trans (by omega) (hS7 y hy).1
  have HB0 : Hid (MixB s l l.length ao7 0 S) := by
    rcases hB7 with ⟨h, -⟩ | ⟨r, t, cur, h1, h2, h3⟩
    · left; rw [← hsl, h]; rfl
    · exact .inr ⟨r, t, cur, h1, h2, fun j hj => by rw [h3 j (by omega)]; simp [xat]⟩
  have HM1 := Lib.hid M1
  clear M0 M1 hB7 hS7
  refine wp_opqK (fun W => Mem W w (S ++ [⟨w.heap.size + 1, 27, #[.int .u8 (by8 wd 0), .int .u8 (by8 wd 1), .int .u8 (by8 wd 2), .int .u8 (by8 wd 3), .int .u8 (by8 wd 4), .int .u8 (by8 wd 5), .int .u8 (by8 wd 6), .int .u8 (by8 wd 7)]⟩, ⟨w.heap.size, 27, #[.int .u8 (by8 k 0), .int .u8 (by8 k 1), .int .u8 (by8 k 2), .int .u8 (by8 k 3), .int .u8 (by8 k 4), .int .u8 (by8 k 5), .int .u8 (by8 k 6), .int .u8 (by8 k 7)]⟩])) HM1.out ?_
  intro W1 HM1'
  have HM2 := Lib.hid HM1'
  clear HM1' HM1
  rw [hsl]
  go_wp2_with fail
  go_loopw [18] (fun i wr => ∃ (j : Nat) (S : List Blk), i = .int .i64 j ∧ j ≤ l.length ∧ MixB s l l.length ao7 j S ∧ New w S ∧ Mem wr w (S ++ [⟨w.heap.size + 1, 27, #[.int .u8 (by8 wd 0), .int .u8 (by8 wd 1), .int .u8 (by8 wd 2), .int .u8 (by8 wd 3), .int .u8 (by8 wd 4), .int .u8 (by8 wd 5), .int .u8 (by8 wd 6), .int .u8 (by8 wd 7)]⟩, ⟨w.heap.size, 27, #[.int .u8 (by8 k 0), .int .u8 (by8 k 1), .int .u8 (by8 k 2), .int .u8 (by8 k 3), .int .u8 (by8 k 4), .int .u8 (by8 k 5), .int .u8 (by8 k 6), .int .u8 (by8 k 7)]⟩])) (fun i _ => l.length - (intOf i).toNat)
  case atStart => exact ⟨0, S, rfl, by omega, HB0.out, HNS.out, HM2.out⟩
  case round =>
    obtain ⟨j, S, rfl, hj, hB, hS, M⟩ := hrel
    have HMr := Lib.hid M
    have HNN : Hid (New w (S ++ [⟨w.heap.size + 1, 27, #[.int .u8 (by8 wd 0), .int .u8 (by8 wd 1), .int .u8 (by8 wd 2), .int .u8 (by8 wd 3), .int .u8 (by8 wd 4), .int .u8 (by8 wd 5), .int .u8 (by8 wd 6), .int .u8 (by8 wd 7)]⟩, ⟨w.heap.size, 27, #[.int .u8 (by8 k 0), .int .u8 (by8 k 1), .int .u8 (by8 k 2), .int .u8 (by8 k 3), .int .u8 (by8 k 4), .int .u8 (by8 k 5), .int .u8 (by8 k 6), .int .u8 (by8 k 7)]⟩])) := New.app hS HNK.out
    by_cases hlt : j < l.length
    · obtain ⟨r, t, cur, rfl, rfl, hcur⟩ : ∃ r t cur, ao7 = some ⟨r, 0, none⟩ ∧ S = [⟨r, t, cur⟩] ∧ ∀ i, i < l.length → cur[i]? = some (.int .u8 ((xat s l j i).toNat : Int)) := by
        rcases hB with h | h
        · omega
        · exact h
      obtain ⟨b, o, rfl, hb, hbc⟩ : ∃ b o, ao = some ⟨b, o, none⟩ ∧ b < w.heap.size ∧ ∀ i, i < l.length → w.cell? ⟨b, o + i, none⟩ = some (.int .u8 ((l.getD i 0).toNat : Int)) := by
        obtain ⟨ao', cap', e1, -, h5⟩ := HV.out
        cases e1
        rcases h5 with h5 | h5
        · omega
        · exact h5
      have c0 : wr.cell? ⟨r, j, none⟩ = some (.int .u8 ((s.getD j 0).toNat : Int)) := by
        rw [M.cell (b := r) (t := t) (cs := cur) (by simp) j, hcur j hlt]
        simp [xat]
      have f0 : wr.frozen? ⟨r, j, none⟩ = false := M.frozen (b := r) (t := t) (cs := cur) (by simp) j
      have l0 : r < wr.heap.size := M.lt (x := ⟨r, t, cur⟩) (by simp)
      have c1 : wr.cell? ⟨b, o + j, none⟩ = some (.int .u8 ((l.getD j 0).toNat : Int)) := (M.oldcell HNN.out hb _).trans (hbc j hlt)
      have lb : b < wr.heap.size := Nat.lt_of_lt_of_le hb M.size
      have hrb : b ≠ r := by have := hS _ (List.mem_singleton.2 rfl); dsimp only at this; omega
      have hx := bits_xor8 (s.getD j 0) (l.getD j 0)
      obtain ⟨cc, HCC⟩ : ∃ cc : Int, Hid (cc = ((s.getD j 0 ^^^ l.getD j 0).toNat : Int)) := ⟨_, rfl⟩
      rw [← HCC.out] at hx
      have HST := Lib.hid (mix_set hcur hlt cc HCC.out)
      generalize ((s.getD j 0).toNat : Int) = ca at c0 hx
      generalize ((l.getD j 0).toNat : Int) = cb at c1 hx
      clear hcur hbc M hB
      go_wp2_with fail
      refine wp_region_rc 10 1 (by kernel_rfl) (by kernel_rfl) (by kernel_rfl) (by kernel_rfl) ?_
      simp only [List.take_succ_cons, List.take_zero]
      repeat (first
        | (refine B_skip ?_ ?_; (· rfl); (try simp only [Act.put, List.setIfInBounds_toArray, List.set_cons_zero, List.set_cons_succ]))
        | (refine B_move rfl ?_ ?_; (· rfl); (try simp only [Act.eval, Act.put, Array.getD_eq_getD_getElem?, List.getElem?_toArray, List.getElem?_cons_succ, List.getElem?_cons_zero, Option.getD_some, List.setIfInBounds_toArray, List.set_cons_zero, List.set_cons_succ]))
        | (refine B_plain ?_ ?_; (· rfl); intro K hK; go_big_quiet_op; with_reducible refine hK _ ?_; clear hK K)
        | (fail))
      refine B_nil ?_ rfl ?_ ?_
      · kernel_rfl
      · rfl
      rintro _ ⟨⟨g2, d2⟩, rfl⟩
      simp only [fin, Act.put, List.setIfInBounds_toArray, List.set_cons_zero, List.set_cons_succ]
      refine last_one (k := 10) (by kernel_rfl) (by kernel_rfl) (by rfl) ?_ ?_
      · rfl
      intro K hK
      go_simp
      refine hK _ _ ?_
      clear hK K
      go_wp2
      go_roundw
      case rel => exact ⟨j + 1, [⟨r, t, cur.setIfInBounds j (.int .u8 cc)⟩], by go_num, by omega, .inr ⟨r, t, _, rfl, rfl, HST.out⟩, New.cons (hS _ (List.mem_cons_self ..) :) (New.nil _), (HMr.out.set (B := []) j _).plus _ _⟩
      case measure => simp [intOf]; omega
    · obtain rfl : j = l.length := by omega
      have HB := Lib.hid hB
      have HS9 := Lib.hid hS
      have HBW := Lib.hid (M.below HNN.out)
      have hH : ∀ y ∈ S, HasBlk wr y.no y.ty y.cs := fun y hy => M.has y (by simp [hy])
      have HH := Lib.hid hH
      clear M hB hS hH
      go_wp2
      go_ret
      rcases HB.out with h | ⟨r, t, cur, h1, h2, h3⟩
      · exact ⟨_, rfl, HBW.out, ao7, cap7, [], by rw [hml]; rfl, ⟨by omega, hn7⟩, .inl ⟨List.eq_nil_of_length_eq_zero (by omega), rfl⟩, by simp⟩
      · exact ⟨_, rfl, HBW.out, ao7, cap7, S, by rw [hml]; rfl, ⟨by omega, hn7⟩, .inr ⟨r, t, cur, h1, h2, fun i hi => by rw [h3 i (by omega), mix_end hsl rfl i (by omega), HM.out]⟩, fun y hy => ⟨HS9.out y hy, HH.out y hy⟩⟩

theorem wp_mem {P : Program} {c : Code} {Q : Exit → Act → World → Prop} {a : Act} {W : World} (S : World → Prop) (h : S W) (k : ∀ W', S W' → c.wp P Q a W') : c.wp P Q a W := k W h
theorem bcs_bys (x : BitVec 64) : (bcs (bys x)).toArray = #[.int .u8 (by8 x 0), .int .u8 (by8 x 1), .int .u8 (by8 x 2), .int .u8 (by8 x 3), .int .u8 (by8 x 4), .int .u8 (by8 x 5), .int .u8 (by8 x 6), .int .u8 (by8 x 7)] := by
  rw [← bys_cells x]; congr 1
theorem bys_len (x : BitVec 64) : (bys x).length = 8 := rfl
noncomputable def sealF (k : BitVec 64) (l : List UInt8) : List UInt8 := bys (checkF k l) ++ turnF k (checkF k l) l
theorem sealF_len (k : BitVec 64) (l : List UInt8) : (sealF k l).length = 8 + l.length := by simp [sealF, bys_len, turnF_len]

set_option maxRecDepth 100000 in
set_option maxHeartbeats 2000000 in
theorem seal_to (k : BitVec 64) (v : Value) (l : List UInt8) (hl : l.length ≤ 65536) (y : List UInt8) (hy : sealF k l = y) (w : World) (hv : BSl w v l) :
    Calls Try.prog 57 #[.agg #[.int .u8 (by8 k 0), .int .u8 (by8 k 1), .int .u8 (by8 k 2), .int .u8 (by8 k 3), .int .u8 (by8 k 4), .int .u8 (by8 k 5), .int .u8 (by8 k 6), .int .u8 (by8 k 7)], v] w fun e w' => ∃ u, e = .returned u ∧ Below w.heap.size w w' ∧ Ans w.heap.size y u w' := by
  obtain ⟨c, HC⟩ : ∃ c, Hid (checkF k l = c) := ⟨_, rfl⟩
  obtain ⟨m, HM⟩ : ∃ m, Hid (turnF k c l = m) := ⟨_, rfl⟩
  have HY : Hid (bys c ++ m = y) := by show _ = _; rw [← hy, ← HM.out, ← HC.out]; rfl
  have hml : m.length = l.length := by rw [← HM.out]; exact turnF_len _ _ _
  obtain ⟨ao, cap, rfl, -⟩ := hv.open_
  have HV := Lib.hid hv
  clear hv hy
  go_enter Try.func57, Try.ntmps57
  go_wp2_with fail
  refine (check_to k _ l hl c HC.out _ (HV.out.alloc _)).mono ?_
  rintro e w1 ⟨rfl, hb1⟩; obtain ⟨g1, d1, rfl⟩ := plus_of_below hb1; clear hb1
  go_wp2_with fail
  refine wp_mem (fun W => Mem W w [⟨w.heap.size + 1 + g1.size, 27, #[.int .u8 (by8 c 0), .int .u8 (by8 c 1), .int .u8 (by8 c 2), .int .u8 (by8 c 3), .int .u8 (by8 c 4), .int .u8 (by8 c 5), .int .u8 (by8 c 6), .int .u8 (by8 c 7)]⟩, ⟨w.heap.size, 27, #[.int .u8 (by8 k 0), .int .u8 (by8 k 1), .int .u8 (by8 k 2), .int .u8 (by8 k 3), .int .u8 (by8 k 4), .int .u8 (by8 k 5), .int .u8 (by8 k 6), .int .u8 (by8 k 7)]⟩]) (((((Mem.start w).key #[.int .u8 (by8 k 0), .int .u8 (by8 k 1), .int .u8 (by8 k 2), .int .u8 (by8 k 3), .int .u8 (by8 k 4), .int .u8 (by8 k 5), .int .u8 (by8 k 6), .int .u8 (by8 k 7)] 27 w.heap.size rfl).plus g1 d1).key #[.int .u8 (by8 c 0), .int .u8 (by8 c 1), .int .u8 (by8 c 2), .int .u8 (by8 c 3), .int .u8 (by8 c 4), .int .u8 (by8 c 5), .int .u8 (by8 c 6), .int .u8 (by8 c 7)] 27 (w.heap.size + 1 + g1.size) (by simp))) ?_
  intro W2 M2
  have HN2 : Hid (New w [⟨w.heap.size + 1 + g1.size, 27, #[.int .u8 (by8 c 0), .int .u8 (by8 c 1), .int .u8 (by8 c 2), .int .u8 (by8 c 3), .int .u8 (by8 c 4), .int .u8 (by8 c 5), .int .u8 (by8 c 6), .int .u8 (by8 c 7)]⟩, ⟨w.heap.size, 27, #[.int .u8 (by8 k 0), .int .u8 (by8 k 1), .int .u8 (by8 k 2), .int .u8 (by8 k 3), .int .u8 (by8 k 4), .int .u8 (by8 k 5), .int .u8 (by8 k 6), .int .u8 (by8 k 7)]⟩]) := New.cons (by show w.heap.size ≤ w.heap.size + 1 + g1.size; omega) (New.cons (Nat.le_refl _) (New.nil _))
  have cK := M2.cell (b := w.heap.size) (t := 27) (cs := #[.int .u8 (by8 k 0), .int .u8 (by8 k 1), .int .u8 (by8 k 2), .int .u8 (by8 k 3), .int .u8 (by8 k 4), .int .u8 (by8 k 5), .int .u8 (by8 k 6), .int .u8 (by8 k 7)]) (by simp)
  have cC := M2.cell (b := w.heap.size + 1 + g1.size) (t := 27) (cs := #[.int .u8 (by8 c 0), .int .u8 (by8 c 1), .int .u8 (by8 c 2), .int .u8 (by8 c 3), .int .u8 (by8 c 4), .int .u8 (by8 c 5), .int .u8 (by8 c 6), .int .u8 (by8 c 7)]) (by simp)
  have lK : w.heap.size < W2.heap.size := M2.lt (x := ⟨w.heap.size, 27, #[.int .u8 (by8 k 0), .int .u8 (by8 k 1), .int .u8 (by8 k 2), .int .u8 (by8 k 3), .int .u8 (by8 k 4), .int .u8 (by8 k 5), .int .u8 (by8 k 6), .int .u8 (by8 k 7)]⟩) (by simp)
  have lC : w.heap.size + 1 + g1.size < W2.heap.size := M2.lt (x := ⟨w.heap.size + 1 + g1.size, 27, #[.int .u8 (by8 c 0), .int .u8 (by8 c 1), .int .u8 (by8 c 2), .int .u8 (by8 c 3), .int .u8 (by8 c 4), .int .u8 (by8 c 5), .int .u8 (by8 c 6), .int .u8 (by8 c 7)]⟩) (by simp)
  have HKC := Lib.hid (show HasBlk W2 (w.heap.size + 1 + g1.size) 27 (bcs (bys c)).toArray from by rw [bcs_bys]; exact M2.has ⟨w.heap.size + 1 + g1.size, 27, #[.int .u8 (by8 c 0), .int .u8 (by8 c 1), .int .u8 (by8 c 2), .int .u8 (by8 c 3), .int .u8 (by8 c 4), .int .u8 (by8 c 5), .int .u8 (by8 c 6), .int .u8 (by8 c 7)]⟩ (by simp))
  have HV2 := Lib.hid (HV.out.below (M2.below HN2.out))
  have hws : w.heap.size ≤ W2.heap.size := M2.size
  have T3 : Hid (∀ g d, Calls Try.prog 85 #[.agg #[.int .u8 (by8 k 0), .int .u8 (by8 k 1), .int .u8 (by8 k 2), .int .u8 (by8 k 3), .int .u8 (by8 k 4), .int .u8 (by8 k 5), .int .u8 (by8 k 6), .int .u8 (by8 k 7)], .agg #[.int .u8 (by8 c 0), .int .u8 (by8 c 1), .int .u8 (by8 c 2), .int .u8 (by8 c 3), .int .u8 (by8 c 4), .int .u8 (by8 c 5), .int .u8 (by8 c 6), .int .u8 (by8 c 7)], .slice ao l.length cap] (plus W2 g d) fun e w' => ∃ u, e = .returned u ∧ Below (plus W2 g d).heap.size (plus W2 g d) w' ∧ Ans W2.heap.size m u w') := fun g d => by
    refine (mixed_to k c _ l hl m HM.out _ (HV2.out.plus g d)).mono ?_
    rintro e w' ⟨u, h1, h2, h3⟩
    exact ⟨u, h1, h2, h3.base (by simp)⟩
  have HM2 := Lib.hid M2
  clear M2
  refine wp_region_rc 5 2 (by kernel_rfl) (by kernel_rfl) (by kernel_rfl) (by kernel_rfl) ?_
  simp only [List.take_succ_cons, List.take_zero]
  repeat (first
    | (refine B_skip ?_ ?_; (· rfl); (try simp only [Act.put, List.setIfInBounds_toArray, List.set_cons_zero, List.set_cons_succ]))
    | (refine B_move rfl ?_ ?_; (· rfl); (try simp only [Act.eval, Act.put, Array.getD_eq_getD_getElem?, List.getElem?_toArray, List.getElem?_cons_succ, List.getElem?_cons_zero, Option.getD_some, List.setIfInBounds_toArray, List.set_cons_zero, List.set_cons_succ]))
    | (refine B_plain ?_ ?_; (· rfl); intro K hK; go_big_quiet_op; with_reducible refine hK _ ?_; clear hK K)
    | (refine B_callR (Ans W2.heap.size m) (stays_ans _ _) (f := 85) rfl rfl (by kernel_rfl) ?_ (fun xq => ?_) ?_; (· rfl); (· ((simp only [List.map_toArray, List.map_cons, List.map_nil, Act.eval, Array.getD_eq_getD_getElem?, List.getElem?_toArray, List.getElem?_cons_succ, List.getElem?_cons_zero, Option.getD_some]); (with_reducible apply retR); with_reducible exact T3.out _ _))))
  refine B_nil ?_ rfl ?_ ?_
  · kernel_rfl
  · rfl
  rintro _ ⟨⟨g2, d2⟩, rfl⟩
  simp only [fin, Act.put, List.setIfInBounds_toArray, List.set_cons_zero, List.set_cons_succ]
  intro u A16
  have HA := Lib.hid A16
  clear A16
  refine step_one (n := 1) (k := 5) (by kernel_rfl) (by rfl) (by rfl) ?_
  intro K hK
  refine wp_append_full (.tmp 12) (.tmp 16) 26 rfl elt_u8 (w.heap.size + 1 + g1.size) 27 (bys c) (by rfl) (HKC.out.plus _ _) w.heap.size (by omega) (by simp; omega) u m (by rfl) HA.out.bsl (by rw [bys_len]; omega) y HY.out (fun v' w' hB' hA' => hK _ _ ?_)
  have HB' := Lib.hid ((HM2.out.plus g2 d2).of_below hB' |>.below HN2.out)
  have HA' := Lib.hid hA'
  clear hK K hB' hA'
  refine last_one (k := 6) (by kernel_rfl) (by kernel_rfl) (by rfl) ?_ ?_
  · rfl
  intro K hK
  go_simp
  refine hK _ _ ?_
  clear hK K
  go_wp2
  go_ret
  exact ⟨_, rfl, HB'.out, HA'.out⟩

set_option maxRecDepth 100000 in
set_option maxHeartbeats 1000000 in
theorem seal_long (k : BitVec 64) (ao : Option Addr) (n cap : Nat) (hn : 65536 < n) (w : World) :
    Calls Try.prog 57 #[.agg #[.int .u8 (by8 k 0), .int .u8 (by8 k 1), .int .u8 (by8 k 2), .int .u8 (by8 k 3), .int .u8 (by8 k 4), .int .u8 (by8 k 5), .int .u8 (by8 k 6), .int .u8 (by8 k 7)], .slice ao n cap] w fun e w' => e = .returned (.slice none 0 0) ∧ Below w.heap.size w w' := by
  go_enter Try.func57, Try.ntmps57
  go_wp2
  go_ret
  exact ⟨rfl, by (repeat' (first | (with_reducible exact Below.refl _ _) | (with_reducible refine bplus ?_ _ _) | (with_reducible refine balloc ?_ _) | (with_reducible refine Below.drew ?_) | (with_reducible refine bdrewN ?_ _) | (with_reducible refine Below.setCell ?_ (by go_size) _)))⟩

/-! ### Open -/
/-- What a box opens to; the error's number. -/
noncomputable def openF (k : BitVec 64) (l : List UInt8) : List UInt8 × Nat :=
  if l.length < 8 then ([], 4) else if 65544 < l.length then ([], 2) else
  if checkF k (turnF k (wordAt l 0) (l.drop 8)) = wordAt l 0 then (turnF k (wordAt l 0) (l.drop 8), 0) else ([], 29)

set_option maxRecDepth 100000 in
set_option maxHeartbeats 2000000 in
theorem open_mid (k : BitVec 64) (v : Value) (l : List UInt8) (h8 : 8 ≤ l.length) (hl : l.length ≤ 65544) (c : BitVec 64) (hc : wordAt l 0 = c) (m : List UInt8) (hm : turnF k c (l.drop 8) = m) (z : BitVec 64) (hz : checkF k m = z) (x : List UInt8) (er : Nat) (hx : (z = c → x = m ∧ er = 0)) (hx2 : z ≠ c → x = [] ∧ er = 29) (w : World) (hv : BSl w v l) :
    Calls Try.prog 64 #[.agg #[.int .u8 (by8 k 0), .int .u8 (by8 k 1), .int .u8 (by8 k 2), .int .u8 (by8 k 3), .int .u8 (by8 k 4), .int .u8 (by8 k 5), .int .u8 (by8 k 6), .int .u8 (by8 k 7)], v] w fun e w' => ∃ u, e = .returned (.tuple #[u, .int .i64 er]) ∧ Below w.heap.size w w' ∧ Ans w.heap.size x u w' := by
  obtain ⟨b, o, cap, rfl, hcap, hb, h3⟩ := bsl_cells8 hv 0 (by omega)
  rw [hc] at h3
  have c0 := h3 0 (by omega)
  have c1 := h3 1 (by omega)
  have c2 := h3 2 (by omega)
  have c3 := h3 3 (by omega)
  have c4 := h3 4 (by omega)
  have c5 := h3 5 (by omega)
  have c6 := h3 6 (by omega)
  have c7 := h3 7 (by omega)
  simp only [Nat.zero_mul, Nat.add_zero] at c0 c1 c2 c3 c4 c5 c6 c7
  have hd := hv.drop 8 h8
  simp only [Nat.mul_one] at hd
  obtain ⟨ed, hed⟩ : ∃ E, (if cap = 8 then (some ⟨b, o, none⟩ : Option Addr) else some ⟨b, o + 8, none⟩) = E := ⟨_, rfl⟩
  have HV2 : Hid (BSl w (.slice ed (l.length - 8) (cap - 8)) (l.drop 8)) := by
    show BSl _ _ _
    rw [← hed]
    by_cases h : cap = 8 <;> simpa [h, Addr.add] using hd
  have hml : m.length = l.length - 8 := by rw [← hm, turnF_len]; simp
  have HMM := Lib.hid hm
  have HZ := Lib.hid hz
  have HX1 := Lib.hid hx
  have HX2 := Lib.hid hx2
  have hdl : (l.drop 8).length ≤ 65536 := by simp; omega
  clear h3 hd hv hm hz hx hx2 hc
  have hat := fun W => run_arrayAt (P := Try.prog) W 27 5 8 (some ⟨b, o, none⟩) 8 cap Try.underlying27 (by omega)
  go_enter Try.func64, Try.ntmps64
  go_wp2
  refine wp_mem (fun W => Mem W w [⟨w.heap.size + 1, 27, #[.int .u8 (by8 c 0), .int .u8 (by8 c 1), .int .u8 (by8 c 2), .int .u8 (by8 c 3), .int .u8 (by8 c 4), .int .u8 (by8 c 5), .int .u8 (by8 c 6), .int .u8 (by8 c 7)]⟩, ⟨w.heap.size, 27, #[.int .u8 (by8 k 0), .int .u8 (by8 k 1), .int .u8 (by8 k 2), .int .u8 (by8 k 3), .int .u8 (by8 k 4), .int .u8 (by8 k 5), .int .u8 (by8 k 6), .int .u8 (by8 k 7)]⟩]) (((Mem.start w).key #[.int .u8 (by8 k 0), .int .u8 (by8 k 1), .int .u8 (by8 k 2), .int .u8 (by8 k 3), .int .u8 (by8 k 4), .int .u8 (by8 k 5), .int .u8 (by8 k 6), .int .u8 (by8 k 7)] 27 w.heap.size rfl).key #[.int .u8 (by8 c 0), .int .u8 (by8 c 1), .int .u8 (by8 c 2), .int .u8 (by8 c 3), .int .u8 (by8 c 4), .int .u8 (by8 c 5), .int .u8 (by8 c 6), .int .u8 (by8 c 7)] 27 (w.heap.size + 1) (by simp)) ?_
  intro W2 M2
  have HN2 : Hid (New w [⟨w.heap.size + 1, 27, #[.int .u8 (by8 c 0), .int .u8 (by8 c 1), .int .u8 (by8 c 2), .int .u8 (by8 c 3), .int .u8 (by8 c 4), .int .u8 (by8 c 5), .int .u8 (by8 c 6), .int .u8 (by8 c 7)]⟩, ⟨w.heap.size, 27, #[.int .u8 (by8 k 0), .int .u8 (by8 k 1), .int .u8 (by8 k 2), .int .u8 (by8 k 3), .int .u8 (by8 k 4), .int .u8 (by8 k 5), .int .u8 (by8 k 6), .int .u8 (by8 k 7)]⟩]) := New.cons (Nat.le_succ _) (New.cons (Nat.le_refl _) (New.nil _))
  have cK := M2.cell (b := w.heap.size) (t := 27) (cs := #[.int .u8 (by8 k 0), .int .u8 (by8 k 1), .int .u8 (by8 k 2), .int .u8 (by8 k 3), .int .u8 (by8 k 4), .int .u8 (by8 k 5), .int .u8 (by8 k 6), .int .u8 (by8 k 7)]) (by simp)
  have cC := M2.cell (b := w.heap.size + 1) (t := 27) (cs := #[.int .u8 (by8 c 0), .int .u8 (by8 c 1), .int .u8 (by8 c 2), .int .u8 (by8 c 3), .int .u8 (by8 c 4), .int .u8 (by8 c 5), .int .u8 (by8 c 6), .int .u8 (by8 c 7)]) (by simp)
  have lK : w.heap.size < W2.heap.size := M2.lt (x := ⟨w.heap.size, 27, #[.int .u8 (by8 k 0), .int .u8 (by8 k 1), .int .u8 (by8 k 2), .int .u8 (by8 k 3), .int .u8 (by8 k 4), .int .u8 (by8 k 5), .int .u8 (by8 k 6), .int .u8 (by8 k 7)]⟩) (by simp)
  have lC : w.heap.size + 1 < W2.heap.size := M2.lt (x := ⟨w.heap.size + 1, 27, #[.int .u8 (by8 c 0), .int .u8 (by8 c 1), .int .u8 (by8 c 2), .int .u8 (by8 c 3), .int .u8 (by8 c 4), .int .u8 (by8 c 5), .int .u8 (by8 c 6), .int .u8 (by8 c 7)]⟩) (by simp)
  have HV3 := Lib.hid (HV2.out.below (M2.below HN2.out))
  have T3 : Hid (∀ g d, Calls Try.prog 85 #[.agg #[.int .u8 (by8 k 0), .int .u8 (by8 k 1), .int .u8 (by8 k 2), .int .u8 (by8 k 3), .int .u8 (by8 k 4), .int .u8 (by8 k 5), .int .u8 (by8 k 6), .int .u8 (by8 k 7)], .agg #[.int .u8 (by8 c 0), .int .u8 (by8 c 1), .int .u8 (by8 c 2), .int .u8 (by8 c 3), .int .u8 (by8 c 4), .int .u8 (by8 c 5), .int .u8 (by8 c 6), .int .u8 (by8 c 7)], .slice ed (l.length - 8) (cap - 8)] (plus W2 g d) fun e w' => ∃ u, e = .returned u ∧ Below (plus W2 g d).heap.size (plus W2 g d) w' ∧ Ans W2.heap.size m u w') := fun g d => by
    refine (mixed_to k c _ (l.drop 8) hdl m HMM.out _ (HV3.out.plus g d)).mono ?_
    rintro e w' ⟨u, h1, h2, h3⟩
    exact ⟨u, h1, h2, h3.base (by simp)⟩
  have HM2 := Lib.hid M2
  clear M2 hat c0 c1 c2 c3 c4 c5 c6 c7
  refine wp_region_rq (by kernel_rfl) (by kernel_rfl) (by kernel_rfl) ?_
  repeat (first
    | (refine B_skip ?_ ?_; (· rfl); (try simp only [Act.put, List.setIfInBounds_toArray, List.set_cons_zero, List.set_cons_succ]))
    | (refine B_move rfl ?_ ?_; (· rfl); (try simp only [Act.eval, Act.put, Array.getD_eq_getD_getElem?, List.getElem?_toArray, List.getElem?_cons_succ, List.getElem?_cons_zero, Option.getD_some, List.setIfInBounds_toArray, List.set_cons_zero, List.set_cons_succ]))
    | (refine B_plain ?_ ?_; (· rfl); intro K hK; go_big_quiet_op; with_reducible refine hK _ ?_; clear hK K)
    | (refine B_callR (Ans W2.heap.size m) (stays_ans _ _) (f := 85) rfl rfl (by kernel_rfl) ?_ (fun xq => ?_) ?_; (· rfl); (· ((simp only [List.map_toArray, List.map_cons, List.map_nil, Act.eval, Array.getD_eq_getD_getElem?, List.getElem?_toArray, List.getElem?_cons_succ, List.getElem?_cons_zero, Option.getD_some]); (with_reducible apply retR); with_reducible exact T3.out _ _)))
    | (refine B_moveR _ ?_ rfl (Or.inr rfl) rfl ?_ ?_; (· exact stays_ans _ _); (· rfl)))
  refine B_nil ?_ rfl ?_ ?_
  · kernel_rfl
  · rfl
  rintro _ ⟨⟨g1, d1⟩, rfl⟩
  simp only [fin, Act.put, List.setIfInBounds_toArray, List.set_cons_zero, List.set_cons_succ]
  intro u7 A7 u24 _
  have HA := Lib.hid (A7.base HM2.out.size)
  have T4 : Hid (∀ g d, Calls Try.prog 84 #[.agg #[.int .u8 (by8 k 0), .int .u8 (by8 k 1), .int .u8 (by8 k 2), .int .u8 (by8 k 3), .int .u8 (by8 k 4), .int .u8 (by8 k 5), .int .u8 (by8 k 6), .int .u8 (by8 k 7)], u7] (plus (plus W2 g1 d1) g d) fun e w' => e = .returned (.agg #[.int .u8 (by8 z 0), .int .u8 (by8 z 1), .int .u8 (by8 z 2), .int .u8 (by8 z 3), .int .u8 (by8 z 4), .int .u8 (by8 z 5), .int .u8 (by8 z 6), .int .u8 (by8 z 7)]) ∧ Below (plus (plus W2 g1 d1) g d).heap.size (plus (plus W2 g1 d1) g d) w') := fun g d => check_to k u7 m (by omega) z HZ.out _ (A7.bsl.plus g d)
  clear A7
  have HBW := Lib.hid (HM2.out.below HN2.out)
  clear HM2 T3 HV3
  go_wp2_with fail
  by_cases hzc : z = c
  · obtain ⟨rfl, rfl⟩ := HX1.out hzc
    subst hzc
    refine wp_region_rq (by kernel_rfl) (by kernel_rfl) (by kernel_rfl) ?_
    repeat (first
      | (refine B_skip ?_ ?_; (· rfl); (try simp only [Act.put, List.setIfInBounds_toArray, List.set_cons_zero, List.set_cons_succ]))
      | (refine B_move rfl ?_ ?_; (· rfl); (try simp only [Act.eval, Act.put, Array.getD_eq_getD_getElem?, List.getElem?_toArray, List.getElem?_cons_succ, List.getElem?_cons_zero, Option.getD_some, List.setIfInBounds_toArray, List.set_cons_zero, List.set_cons_succ]))
      | (refine B_plain ?_ ?_; (· rfl); intro K hK; go_big_quiet_op; with_reducible refine hK _ ?_; clear hK K)
      | (refine B_callX (v := ?_) (f := 84) rfl (by kernel_rfl) ?_ (fun xq => ?_) ?_; rotate_left; (· rfl); (· ((simp only [List.map_toArray, List.map_cons, List.map_nil, Act.eval, Array.getD_eq_getD_getElem?, List.getElem?_toArray, List.getElem?_cons_succ, List.getElem?_cons_zero, Option.getD_some]); with_reducible apply retB; with_reducible exact (T4.out _ _))); (try simp only [Act.put, List.setIfInBounds_toArray, List.set_cons_zero, List.set_cons_succ])))
    refine B_nil ?_ rfl ?_ ?_
    · kernel_rfl
    · rfl
    rintro _ ⟨⟨g2, d2⟩, rfl⟩
    simp only [fin, Act.put, List.setIfInBounds_toArray, List.set_cons_zero, List.set_cons_succ]
    go_wp2
    refine bodyPost_ret (v := .tuple #[u7, .int .i64 0]) (by simp [results, Try.results64, go_sem]) rfl ⟨_, rfl, bplus HBW.out _ _, by have := HA.out.plus g2 d2; rwa [plus_plus] at this⟩
  · obtain ⟨rfl, rfl⟩ := HX2.out hzc
    have hzq : (z == c) = false := by simpa using hzc
    refine wp_region_rq (by kernel_rfl) (by kernel_rfl) (by kernel_rfl) ?_
    repeat (first
      | (refine B_skip ?_ ?_; (· rfl); (try simp only [Act.put, List.setIfInBounds_toArray, List.set_cons_zero, List.set_cons_succ]))
      | (refine B_move rfl ?_ ?_; (· rfl); (try simp only [Act.eval, Act.put, Array.getD_eq_getD_getElem?, List.getElem?_toArray, List.getElem?_cons_succ, List.getElem?_cons_zero, Option.getD_some, List.setIfInBounds_toArray, List.set_cons_zero, List.set_cons_succ]))
      | (refine B_plain ?_ ?_; (· rfl); intro K hK; go_big_quiet_op; with_reducible refine hK _ ?_; clear hK K)
      | (refine B_callX (v := ?_) (f := 84) rfl (by kernel_rfl) ?_ (fun xq => ?_) ?_; rotate_left; (· rfl); (· ((simp only [List.map_toArray, List.map_cons, List.map_nil, Act.eval, Array.getD_eq_getD_getElem?, List.getElem?_toArray, List.getElem?_cons_succ, List.getElem?_cons_zero, Option.getD_some]); with_reducible apply retB; with_reducible exact (T4.out _ _))); (try simp only [Act.put, List.setIfInBounds_toArray, List.set_cons_zero, List.set_cons_succ])))
    refine B_nil ?_ rfl ?_ ?_
    · kernel_rfl
    · rfl
    rintro _ ⟨⟨g2, d2⟩, rfl⟩
    simp only [fin, Act.put, List.setIfInBounds_toArray, List.set_cons_zero, List.set_cons_succ]
    go_wp2
    refine bodyPost_ret (v := .tuple #[.slice none 0 0, .int .i64 29]) (by simp [results, Try.results64, go_sem]) rfl ⟨_, rfl, bplus HBW.out _ _, Ans.nil _ _⟩

set_option maxRecDepth 100000 in
set_option maxHeartbeats 1000000 in
theorem open_any (k : BitVec 64) (v : Value) (l : List UInt8) (hlm : l.length ≤ 9223372036854775807) (x : List UInt8) (er : Nat) (hx : openF k l = (x, er)) (w : World) (hv : BSl w v l) :
    Calls Try.prog 64 #[.agg #[.int .u8 (by8 k 0), .int .u8 (by8 k 1), .int .u8 (by8 k 2), .int .u8 (by8 k 3), .int .u8 (by8 k 4), .int .u8 (by8 k 5), .int .u8 (by8 k 6), .int .u8 (by8 k 7)], v] w fun e w' => ∃ u, e = .returned (.tuple #[u, .int .i64 er]) ∧ Below w.heap.size w w' ∧ Ans w.heap.size x u w' := by
  unfold openF at hx
  by_cases h8 : l.length < 8
  · rw [if_pos h8] at hx
    cases hx
    obtain ⟨ao, cap, rfl, -⟩ := hv.open_
    go_enter Try.func64, Try.ntmps64
    go_wp2
    refine bodyPost_ret (v := .tuple #[.slice none 0 0, .int .i64 4]) (by simp [results, Try.results64, go_sem]) rfl ⟨_, rfl, by (repeat' (first | (with_reducible exact Below.refl _ _) | (with_reducible refine bplus ?_ _ _) | (with_reducible refine balloc ?_ _) | (with_reducible refine Below.drew ?_) | (with_reducible refine bdrewN ?_ _) | (with_reducible refine Below.setCell ?_ (by go_size) _))), Ans.nil _ _⟩
  by_cases hl : 65544 < l.length
  · rw [if_neg h8, if_pos hl] at hx
    cases hx
    obtain ⟨ao, cap, rfl, -⟩ := hv.open_
    go_enter Try.func64, Try.ntmps64
    go_wp2
    refine bodyPost_ret (v := .tuple #[.slice none 0 0, .int .i64 2]) (by simp [results, Try.results64, go_sem]) rfl ⟨_, rfl, by (repeat' (first | (with_reducible exact Below.refl _ _) | (with_reducible refine bplus ?_ _ _) | (with_reducible refine balloc ?_ _) | (with_reducible refine Below.drew ?_) | (with_reducible refine bdrewN ?_ _) | (with_reducible refine Below.setCell ?_ (by go_size) _))), Ans.nil _ _⟩
  rw [if_neg h8, if_neg hl] at hx
  refine open_mid k v l (by omega) (by omega) _ rfl _ rfl _ rfl x er (fun h => ?_) (fun h => ?_) w hv
  · rw [if_pos h] at hx; cases hx; exact ⟨rfl, rfl⟩
  · rw [if_neg h] at hx; cases hx; exact ⟨rfl, rfl⟩

end Go.Proofs.Ytghaiplhakeahaa
