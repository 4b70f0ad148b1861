/- Contracts of the reference's Of and Word. -/
import Derived.Test.YtghaiplhakeahaaRb
import Derived.Deep.RegionLaw
namespace Go.Proofs.Ytghaiplhakeahaa
set_option linter.unusedSimpArgs false
set_option linter.unusedVariables false
open Go.RowKit

theorem refOut_to (s : St) (z : BitVec 64) (hz : givesF s = z) (w : World) :
    Calls Try.prog 93 #[.agg #[.int .u64 (nv s.a), .int .u64 (nv s.b), .int .u64 (nv s.c), .int .u64 (nv s.d)]] w fun e w' => e = .returned (.agg #[.int .u8 (by8 z 0), .int .u8 (by8 z 1), .int .u8 (by8 z 2), .int .u8 (by8 z 3), .int .u8 (by8 z 4), .int .u8 (by8 z 5), .int .u8 (by8 z 6), .int .u8 (by8 z 7)]) ∧ Below w.heap.size w w' := by
  subst hz; exact refOut_any s w
theorem refIn_st (s z : St) (x : BitVec 64) (hz : takeF s x = z) (w : World) :
    Calls Try.prog 95 #[.agg #[.int .u64 (nv s.a), .int .u64 (nv s.b), .int .u64 (nv s.c), .int .u64 (nv s.d)], .int .u64 (nv x)] w fun e w' => e = .returned (.agg #[.int .u64 (nv z.a), .int .u64 (nv z.b), .int .u64 (nv z.c), .int .u64 (nv z.d)]) ∧ Below w.heap.size w w' := by
  subst hz; exact refIn_any s x w
theorem refBegin_to (n : Nat) (z : St) (hn : n < 18446744073709551616) (hz : beginF (BitVec.ofNat 64 n) = z) (w : World) :
    Calls Try.prog 96 #[.int .u64 n] w fun e w' => e = .returned (.agg #[.int .u64 (nv z.a), .int .u64 (nv z.b), .int .u64 (nv z.c), .int .u64 (nv z.d)]) ∧ Below w.heap.size w w' := by
  subst hz; exact refBegin_any _ _ (nv_lit n hn) w

set_option maxRecDepth 100000 in
set_option maxHeartbeats 1000000 in
theorem refOf_bytes (v : Value) (l : List UInt8) (w : World) (hv : BSl w v l) (hl : l.length ≤ 1000000) (z : BitVec 64) (hz : ofF l = z) :
    Calls Try.prog 105 #[v] w fun e w' => e = .returned (.agg #[.int .u8 (by8 z 0), .int .u8 (by8 z 1), .int .u8 (by8 z 2), .int .u8 (by8 z 3), .int .u8 (by8 z 4), .int .u8 (by8 z 5), .int .u8 (by8 z 6), .int .u8 (by8 z 7)]) ∧ Below w.heap.size w w' := by
  have HV := Lib.hid hv
  obtain ⟨s0, HS0⟩ : ∃ s0, Hid (beginF (BitVec.ofNat 64 1) = s0) := ⟨_, rfl⟩
  obtain ⟨t, HT⟩ : ∃ t, Hid (bytesF s0 l = t) := ⟨_, rfl⟩
  have HZ : Hid (givesF t = z) := by show _ = _; rw [← HT.out, ← HS0.out]; exact hz
  clear hv hz
  go_enter Try.func105, Try.ntmps105
  go_wp2_with (first
    | (go_at_call 96; refine (refBegin_to 1 s0 (by omega) HS0.out _).mono ?_; rintro e w1 ⟨rfl, hb1⟩; obtain ⟨g1, d1, rfl⟩ := plus_of_below hb1; clear hb1)
    | (go_at_call 94; refine (refBytes_any s0 v l _ ((HV.out.alloc _).plus _ _) hl t HT.out).mono ?_; rintro e w2 ⟨rfl, hb2⟩; obtain ⟨g2, d2, rfl⟩ := plus_of_below hb2; clear hb2)
    | (go_at_call 93; refine (refOut_to t z HZ.out _).mono ?_; rintro e w3 ⟨rfl, hb3⟩; obtain ⟨g3, d3, rfl⟩ := plus_of_below hb3; clear hb3))
  refine bodyPost_ret (v := .agg #[.int .u8 (by8 z 0), .int .u8 (by8 z 1), .int .u8 (by8 z 2), .int .u8 (by8 z 3), .int .u8 (by8 z 4), .int .u8 (by8 z 5), .int .u8 (by8 z 6), .int .u8 (by8 z 7)]) (by simp [results, Try.results105, go_sem]) rfl ⟨rfl, by (repeat' (first | (with_reducible exact Below.refl _ _) | (with_reducible refine bplus ?_ _ _) | (with_reducible refine balloc ?_ _) | (with_reducible refine Below.drew ?_) | (with_reducible refine bdrewN ?_ _) | (with_reducible refine Below.setCell ?_ (by go_size) _)))⟩

end Go.Proofs.Ytghaiplhakeahaa
