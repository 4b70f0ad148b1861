/- Contracts of the small functions of package hash and of its reference, over any world. -/
import Derived.Test.YteopbfehfipcmaaRows
import Derived.Test.YteopbfehfipcmaaL
import Derived.Test.YteopbfehfipcmaaM
namespace Go.Proofs.Yteopbfehfipcmaa
set_option linter.unusedSimpArgs false
set_option linter.unusedVariables false
open Go.RowKit

theorem ret_u64 {a b : Int} (h : a = b) : Ending.returned (.int .u64 a) = .returned (.int .u64 b) := by rw [h]

set_option maxRecDepth 100000 in
set_option maxHeartbeats 1000000 in
theorem fromNum_any (x : BitVec 64) (w : World) :
    Calls Try.prog 6 #[.int .u64 (nv x)] w fun e w' => e = .returned (.agg #[.int .u8 (by8 x 0), .int .u8 (by8 x 1), .int .u8 (by8 x 2), .int .u8 (by8 x 3), .int .u8 (by8 x 4), .int .u8 (by8 x 5), .int .u8 (by8 x 6), .int .u8 (by8 x 7)]) ∧ Below w.heap.size w w' := by
  have hx := nv_bd x
  go_enter Try.func6, Try.ntmps6
  go_wp2
  go_rounds 9
  rw [← by8_0, ← by8_1, ← by8_2, ← by8_3, ← by8_4, ← by8_5, ← by8_6, ← by8_7]
  refine bodyPost_ret (v := .agg #[.int .u8 (by8 x 0), .int .u8 (by8 x 1), .int .u8 (by8 x 2), .int .u8 (by8 x 3), .int .u8 (by8 x 4), .int .u8 (by8 x 5), .int .u8 (by8 x 6), .int .u8 (by8 x 7)]) (by simp [results, Try.results6, go_sem]) rfl ⟨rfl, by (repeat' (first | (with_reducible exact Below.refl _ _) | (with_reducible refine bplus ?_ _ _) | (with_reducible refine balloc ?_ _) | (with_reducible refine Below.drew ?_) | (with_reducible refine bdrewN ?_ _) | (with_reducible refine Below.setCell ?_ (by go_size) _)))⟩

theorem fromNum_lit (x : BitVec 64) (n : Int) (hn : nv x = n) (w : World) :
    Calls Try.prog 6 #[.int .u64 n] w fun e w' => e = .returned (.agg #[.int .u8 (by8 x 0), .int .u8 (by8 x 1), .int .u8 (by8 x 2), .int .u8 (by8 x 3), .int .u8 (by8 x 4), .int .u8 (by8 x 5), .int .u8 (by8 x 6), .int .u8 (by8 x 7)]) ∧ Below w.heap.size w w' := by
  subst hn; exact fromNum_any x w

theorem and_32 : bits .and .u64 32 63 = 32 := by decide
theorem and_24 : bits .and .u64 24 63 = 24 := by decide
theorem and_16 : bits .and .u64 16 63 = 16 := by decide
theorem and_63 : bits .and .u64 63 63 = 63 := by decide

end Go.Proofs.Yteopbfehfipcmaa
