/- veil: contracts of Commit, Opens, check, mixed. -/
import Derived.Test.YthdcfdfpfagamaaAns
import Derived.Test.YthdcfdfpfagamaaOn
import Derived.Test.YthdcfdfpfagamaaOf
import Derived.Outline
namespace Go.Proofs.Ythdcfdfpfagamaa
set_option linter.unusedSimpArgs false
set_option linter.unusedVariables false
open Go.RowKit

def commitF (s : BitVec 64) (l : List UInt8) : BitVec 64 := twoF (wordF s (strL { data := #[115, 97, 108, 116] })) (ofF l)
def checkF (k : BitVec 64) (l : List UInt8) : BitVec 64 := twoF (wordF k (strL { data := #[99, 104, 101, 99, 107] })) (ofF l)
def boxF (k wd : BitVec 64) : BitVec 64 := twoF (wordF k (strL { data := #[98, 111, 120] })) wd
noncomputable def turnF (k wd : BitVec 64) (l : List UInt8) : List UInt8 := List.zipWith (· ^^^ ·) (streamB (boxF k wd) l.length) l
theorem turnF_len (k wd : BitVec 64) (l : List UInt8) : (turnF k wd l).length = l.length := by simp [turnF, streamB_len]

set_option maxRecDepth 100000 in
set_option maxHeartbeats 1000000 in
theorem commit_to (s : BitVec 64) (v : Value) (l : List UInt8) (hl : l.length ≤ 65536) (z : BitVec 64) (hz : commitF s l = z) (w : World) (hv : BSl w v l) :
    Calls Try.prog 37 #[.agg #[.int .u8 (by8 s 0), .int .u8 (by8 s 1), .int .u8 (by8 s 2), .int .u8 (by8 s 3), .int .u8 (by8 s 4), .int .u8 (by8 s 5), .int .u8 (by8 s 6), .int .u8 (by8 s 7)], v] w fun e w' => e = .returned (.agg #[.int .u8 (by8 z 0), .int .u8 (by8 z 1), .int .u8 (by8 z 2), .int .u8 (by8 z 3), .int .u8 (by8 z 4), .int .u8 (by8 z 5), .int .u8 (by8 z 6), .int .u8 (by8 z 7)]) ∧ Below w.heap.size w w' := by
  obtain ⟨x, HX⟩ : ∃ x, Hid (wordF s (strL { data := #[115, 97, 108, 116] }) = x) := ⟨_, rfl⟩
  obtain ⟨y, HY⟩ : ∃ y, Hid (ofF l = y) := ⟨_, rfl⟩
  have HZ : Hid (twoF x y = z) := by show _ = _; rw [← hz, ← HX.out, ← HY.out]; rfl
  have h9 : l.length ≤ 1000000000 := by omega
  obtain ⟨ao, cap, rfl, -⟩ := hv.open_
  have HV := Lib.hid hv
  clear hv hz
  go_enter Try.func37, Try.ntmps37
  go_wp2_with fail
  refine (word_bytes s _ _ (by decide) x HX.out).mono ?_
  rintro e w1 ⟨rfl, hb1⟩; obtain ⟨g1, d1, rfl⟩ := plus_of_below hb1; clear hb1
  go_wp2_with fail
  refine (of_bytes _ l _ (((HV.out.alloc _).alloc _).plus _ _) h9 y HY.out).mono ?_
  rintro e w2 ⟨rfl, hb2⟩; obtain ⟨g2, d2, rfl⟩ := plus_of_below hb2; clear hb2
  go_wp2_with fail
  refine (two_to x y z HZ.out _).mono ?_
  rintro e w3 ⟨rfl, hb3⟩; obtain ⟨g3, d3, rfl⟩ := plus_of_below hb3; clear hb3
  go_wp2
  refine bodyPost_ret (v := .agg #[.int .u8 (by8 z 0), .int .u8 (by8 z 1), .int .u8 (by8 z 2), .int .u8 (by8 z 3), .int .u8 (by8 z 4), .int .u8 (by8 z 5), .int .u8 (by8 z 6), .int .u8 (by8 z 7)]) (by simp [results, Try.results37, go_sem]) rfl ⟨rfl, by (repeat' (first | (with_reducible exact Below.refl _ _) | (with_reducible refine bplus ?_ _ _) | (with_reducible refine balloc ?_ _) | (with_reducible refine Below.drew ?_) | (with_reducible refine bdrewN ?_ _) | (with_reducible refine Below.setCell ?_ (by go_size) _)))⟩

set_option maxRecDepth 100000 in
set_option maxHeartbeats 1000000 in
theorem commit_long (s : BitVec 64) (ao : Option Addr) (n cap : Nat) (hn : 65536 < n) (w : World) :
    Calls Try.prog 37 #[.agg #[.int .u8 (by8 s 0), .int .u8 (by8 s 1), .int .u8 (by8 s 2), .int .u8 (by8 s 3), .int .u8 (by8 s 4), .int .u8 (by8 s 5), .int .u8 (by8 s 6), .int .u8 (by8 s 7)], .slice ao n cap] w fun e w' => e = .returned (.agg #[.int .u8 0, .int .u8 0, .int .u8 0, .int .u8 0, .int .u8 0, .int .u8 0, .int .u8 0, .int .u8 0]) ∧ Below w.heap.size w w' := by
  go_enter Try.func37, Try.ntmps37
  go_wp2
  refine bodyPost_ret (v := .agg #[.int .u8 0, .int .u8 0, .int .u8 0, .int .u8 0, .int .u8 0, .int .u8 0, .int .u8 0, .int .u8 0]) (by simp [results, Try.results37, go_sem]) rfl ⟨rfl, by (repeat' (first | (with_reducible exact Below.refl _ _) | (with_reducible refine bplus ?_ _ _) | (with_reducible refine balloc ?_ _) | (with_reducible refine Below.drew ?_) | (with_reducible refine bdrewN ?_ _) | (with_reducible refine Below.setCell ?_ (by go_size) _)))⟩

set_option maxRecDepth 100000 in
set_option maxHeartbeats 1000000 in
theorem check_to (s : BitVec 64) (v : Value) (l : List UInt8) (hl : l.length ≤ 65536) (z : BitVec 64) (hz : checkF s l = z) (w : World) (hv : BSl w v l) :
    Calls Try.prog 60 #[.agg #[.int .u8 (by8 s 0), .int .u8 (by8 s 1), .int .u8 (by8 s 2), .int .u8 (by8 s 3), .int .u8 (by8 s 4), .int .u8 (by8 s 5), .int .u8 (by8 s 6), .int .u8 (by8 s 7)], v] w fun e w' => e = .returned (.agg #[.int .u8 (by8 z 0), .int .u8 (by8 z 1), .int .u8 (by8 z 2), .int .u8 (by8 z 3), .int .u8 (by8 z 4), .int .u8 (by8 z 5), .int .u8 (by8 z 6), .int .u8 (by8 z 7)]) ∧ Below w.heap.size w w' := by
  obtain ⟨x, HX⟩ : ∃ x, Hid (wordF s (strL { data := #[99, 104, 101, 99, 107] }) = x) := ⟨_, rfl⟩
  obtain ⟨y, HY⟩ : ∃ y, Hid (ofF l = y) := ⟨_, rfl⟩
  have HZ : Hid (twoF x y = z) := by show _ = _; rw [← hz, ← HX.out, ← HY.out]; rfl
  have h9 : l.length ≤ 1000000000 := by omega
  obtain ⟨ao, cap, rfl, -⟩ := hv.open_
  have HV := Lib.hid hv
  clear hv hz
  go_enter Try.func60, Try.ntmps60
  go_wp2_with fail
  refine (word_bytes s _ _ (by decide) x HX.out).mono ?_
  rintro e w1 ⟨rfl, hb1⟩; obtain ⟨g1, d1, rfl⟩ := plus_of_below hb1; clear hb1
  go_wp2_with fail
  refine (of_bytes _ l _ (((HV.out.alloc _).alloc _).plus _ _) h9 y HY.out).mono ?_
  rintro e w2 ⟨rfl, hb2⟩; obtain ⟨g2, d2, rfl⟩ := plus_of_below hb2; clear hb2
  go_wp2_with fail
  refine (two_to x y z HZ.out _).mono ?_
  rintro e w3 ⟨rfl, hb3⟩; obtain ⟨g3, d3, rfl⟩ := plus_of_below hb3; clear hb3
  go_wp2
  refine bodyPost_ret (v := .agg #[.int .u8 (by8 z 0), .int .u8 (by8 z 1), .int .u8 (by8 z 2), .int .u8 (by8 z 3), .int .u8 (by8 z 4), .int .u8 (by8 z 5), .int .u8 (by8 z 6), .int .u8 (by8 z 7)]) (by simp [results, Try.results60, go_sem]) rfl ⟨rfl, by (repeat' (first | (with_reducible exact Below.refl _ _) | (with_reducible refine bplus ?_ _ _) | (with_reducible refine balloc ?_ _) | (with_reducible refine Below.drew ?_) | (with_reducible refine bdrewN ?_ _) | (with_reducible refine Below.setCell ?_ (by go_size) _)))⟩

/-! ### Opens -/
set_option maxRecDepth 100000 in
set_option maxHeartbeats 1000000 in
theorem opens_to (c s : BitVec 64) (v : Value) (l : List UInt8) (hl : l.length ≤ 65536) (z : BitVec 64) (hz : commitF s l = z) (q : Bool) (hq : (z == c) = q) (w : World) (hv : BSl w v l) :
    Calls Try.prog 38 #[.agg #[.int .u8 (by8 c 0), .int .u8 (by8 c 1), .int .u8 (by8 c 2), .int .u8 (by8 c 3), .int .u8 (by8 c 4), .int .u8 (by8 c 5), .int .u8 (by8 c 6), .int .u8 (by8 c 7)], .agg #[.int .u8 (by8 s 0), .int .u8 (by8 s 1), .int .u8 (by8 s 2), .int .u8 (by8 s 3), .int .u8 (by8 s 4), .int .u8 (by8 s 5), .int .u8 (by8 s 6), .int .u8 (by8 s 7)], v] w fun e w' => e = .returned (.bool q) ∧ Below w.heap.size w w' := by
  obtain ⟨ao, cap, rfl, -⟩ := hv.open_
  have HV := Lib.hid hv
  have T1 := Lib.hid (fun g d => commit_to s (.slice ao l.length cap) l hl z hz _ (((hv.alloc (.cells #[.int .u8 (by8 c 0), .int .u8 (by8 c 1), .int .u8 (by8 c 2), .int .u8 (by8 c 3), .int .u8 (by8 c 4), .int .u8 (by8 c 5), .int .u8 (by8 c 6), .int .u8 (by8 c 7)] 24)).alloc (.cells #[.int .u8 (by8 s 0), .int .u8 (by8 s 1), .int .u8 (by8 s 2), .int .u8 (by8 s 3), .int .u8 (by8 s 4), .int .u8 (by8 s 5), .int .u8 (by8 s 6), .int .u8 (by8 s 7)] 24)).plus g d))
  have hli : ((l.length : Int) ≤ 65536) := by omega
  clear hv hz
  go_enter Try.func38, Try.ntmps38
  go_wp2
  refine wp_region_rq (by kernel_rfl) (by kernel_rfl) (by kernel_rfl) ?_
  repeat (first
    | (refine B_skip ?_ ?_; (· rfl); (try simp only [Act.put, List.setIfInBounds_toArray, List.set_cons_zero, List.set_cons_succ]))
    | (refine B_move rfl ?_ ?_; (· rfl); (try simp only [Act.eval, Act.put, Array.getD_eq_getD_getElem?, List.getElem?_toArray, List.getElem?_cons_succ, List.getElem?_cons_zero, Option.getD_some, List.setIfInBounds_toArray, List.set_cons_zero, List.set_cons_succ]))
    | (refine B_plain ?_ ?_; (· rfl); intro K hK; go_big_quiet_op; with_reducible refine hK _ ?_; clear hK K)
    | (refine B_callX (v := ?_) (f := 37) rfl (by kernel_rfl) ?_ (fun xq => ?_) ?_; rotate_left; (· rfl); (· ((simp only [List.map_toArray, List.map_cons, List.map_nil, Act.eval, Array.getD_eq_getD_getElem?, List.getElem?_toArray, List.getElem?_cons_succ, List.getElem?_cons_zero, Option.getD_some]); with_reducible apply retB; with_reducible exact (T1.out _ _))); (try simp only [Act.put, List.setIfInBounds_toArray, List.set_cons_zero, List.set_cons_succ])))
  refine B_nil ?_ rfl ?_ ?_
  · kernel_rfl
  · rfl
  rintro _ ⟨⟨g1, d1⟩, rfl⟩
  simp only [fin, Act.put, List.setIfInBounds_toArray, List.set_cons_zero, List.set_cons_succ]
  go_wp2
  go_ret
  exact ⟨rfl, by (repeat' (first | (with_reducible exact Below.refl _ _) | (with_reducible refine bplus ?_ _ _) | (with_reducible refine balloc ?_ _) | (with_reducible refine Below.drew ?_) | (with_reducible refine bdrewN ?_ _) | (with_reducible refine Below.setCell ?_ (by go_size) _)))⟩
set_option maxRecDepth 100000 in
set_option maxHeartbeats 1000000 in
theorem opens_long (s : BitVec 64) (c : Array Value) (ao : Option Addr) (n cap : Nat) (hn : 65536 < n) (w : World) :
    Calls Try.prog 38 #[.agg c, .agg #[.int .u8 (by8 s 0), .int .u8 (by8 s 1), .int .u8 (by8 s 2), .int .u8 (by8 s 3), .int .u8 (by8 s 4), .int .u8 (by8 s 5), .int .u8 (by8 s 6), .int .u8 (by8 s 7)], .slice ao n cap] w fun e w' => e = .returned (.bool false) ∧ Below w.heap.size w w' := by
  have hli : decide ((n : Int) ≤ 65536) = false := by rw [decide_eq_false_iff_not]; omega
  go_enter Try.func38, Try.ntmps38
  go_wp2
  refine wp_region_rq (by kernel_rfl) (by kernel_rfl) (by kernel_rfl) ?_
  repeat (first
    | (refine B_skip ?_ ?_; (· rfl); (try simp only [Act.put, List.setIfInBounds_toArray, List.set_cons_zero, List.set_cons_succ]))
    | (refine B_move rfl ?_ ?_; (· rfl); (try simp only [Act.eval, Act.put, Array.getD_eq_getD_getElem?, List.getElem?_toArray, List.getElem?_cons_succ, List.getElem?_cons_zero, Option.getD_some, List.setIfInBounds_toArray, List.set_cons_zero, List.set_cons_succ]))
    | (refine B_plain ?_ ?_; (· rfl); intro K hK; go_big_quiet_op; with_reducible refine hK _ ?_; clear hK K)
    | (fail))
  refine B_nil ?_ rfl ?_ ?_
  · kernel_rfl
  · rfl
  rintro _ ⟨⟨g1, d1⟩, rfl⟩
  simp only [fin, Act.put, List.setIfInBounds_toArray, List.set_cons_zero, List.set_cons_succ]
  go_wp2
  go_ret
  exact ⟨rfl, by (repeat' (first | (with_reducible exact Below.refl _ _) | (with_reducible refine bplus ?_ _ _) | (with_reducible refine balloc ?_ _) | (with_reducible refine Below.drew ?_) | (with_reducible refine bdrewN ?_ _) | (with_reducible refine Below.setCell ?_ (by go_size) _)))⟩

end Go.Proofs.Ythdcfdfpfagamaa
