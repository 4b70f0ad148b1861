/- veil: contracts of Commit, Opens, check, mixed. -/
import Derived.Test.YtghaiplhakeahaaAns
import Derived.Test.YtghaiplhakeahaaZ
import Derived.Test.YtghaiplhakeahaaOf
import Derived.Outline
namespace Go.Proofs.Ytghaiplhakeahaa
set_option linter.unusedSimpArgs false
set_option linter.unusedVariables false
open Go.RowKit

def commitF (s : BitVec 64) (l : List UInt8) : BitVec 64 := twoF (wordF s (strL { data := #[115, 97, 108, 116] })) (ofF l)
def checkF (k : BitVec 64) (l : List UInt8) : BitVec 64 := twoF (wordF k (strL { data := #[99, 104, 101, 99, 107] })) (ofF l)
def boxF (k wd : BitVec 64) : BitVec 64 := twoF (wordF k (strL { data := #[98, 111, 120] })) wd
noncomputable def turnF (k wd : BitVec 64) (l : List UInt8) : List UInt8 := List.zipWith (· ^^^ ·) (streamB (boxF k wd) l.length) l
theorem turnF_len (k wd : BitVec 64) (l : List UInt8) : (turnF k wd l).length = l.length := by simp [turnF, streamB_len]

set_option maxRecDepth 100000 in
set_option maxHeartbeats 1000000 in
theorem check_to (s : BitVec 64) (v : Value) (l : List UInt8) (hl : l.length ≤ 65536) (z : BitVec 64) (hz : checkF s l = z) (w : World) (hv : BSl w v l) :
    Calls Try.prog 84 #[.agg #[.int .u8 (by8 s 0), .int .u8 (by8 s 1), .int .u8 (by8 s 2), .int .u8 (by8 s 3), .int .u8 (by8 s 4), .int .u8 (by8 s 5), .int .u8 (by8 s 6), .int .u8 (by8 s 7)], v] w fun e w' => e = .returned (.agg #[.int .u8 (by8 z 0), .int .u8 (by8 z 1), .int .u8 (by8 z 2), .int .u8 (by8 z 3), .int .u8 (by8 z 4), .int .u8 (by8 z 5), .int .u8 (by8 z 6), .int .u8 (by8 z 7)]) ∧ Below w.heap.size w w' := by
  obtain ⟨x, HX⟩ : ∃ x, Hid (wordF s (strL { data := #[99, 104, 101, 99, 107] }) = x) := ⟨_, rfl⟩
  obtain ⟨y, HY⟩ : ∃ y, Hid (ofF l = y) := ⟨_, rfl⟩
  have HZ : Hid (twoF x y = z) := by show _ = _; rw [← hz, ← HX.out, ← HY.out]; rfl
  have h9 : l.length ≤ 1000000000 := by omega
  obtain ⟨ao, cap, rfl, -⟩ := hv.open_
  have HV := Lib.hid hv
  clear hv hz
  go_enter Try.func84, Try.ntmps84
  go_wp2_with fail
  refine (word_bytes s _ _ (by decide) x HX.out).mono ?_
  rintro e w1 ⟨rfl, hb1⟩; obtain ⟨g1, d1, rfl⟩ := plus_of_below hb1; clear hb1
  go_wp2_with fail
  refine (of_bytes _ l _ (((HV.out.alloc _).alloc _).plus _ _) h9 y HY.out).mono ?_
  rintro e w2 ⟨rfl, hb2⟩; obtain ⟨g2, d2, rfl⟩ := plus_of_below hb2; clear hb2
  go_wp2_with fail
  refine (two_to x y z HZ.out _).mono ?_
  rintro e w3 ⟨rfl, hb3⟩; obtain ⟨g3, d3, rfl⟩ := plus_of_below hb3; clear hb3
  go_wp2
  refine bodyPost_ret (v := .agg #[.int .u8 (by8 z 0), .int .u8 (by8 z 1), .int .u8 (by8 z 2), .int .u8 (by8 z 3), .int .u8 (by8 z 4), .int .u8 (by8 z 5), .int .u8 (by8 z 6), .int .u8 (by8 z 7)]) (by simp [results, Try.results84, go_sem]) rfl ⟨rfl, by (repeat' (first | (with_reducible exact Below.refl _ _) | (with_reducible refine bplus ?_ _ _) | (with_reducible refine balloc ?_ _) | (with_reducible refine Below.drew ?_) | (with_reducible refine bdrewN ?_ _) | (with_reducible refine Below.setCell ?_ (by go_size) _)))⟩

/-! ### Opens -/
end Go.Proofs.Ytghaiplhakeahaa
