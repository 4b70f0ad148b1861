/- Contracts of the reference's functions. -/
import Derived.Test.YteopbfehfipcmaaC
namespace Go.Proofs.Yteopbfehfipcmaa
set_option linter.unusedSimpArgs false
set_option linter.unusedVariables false
open Go.RowKit

theorem ref_num_law (x : BitVec 64) : ((((((by8 x 7 * 256 + by8 x 6) * 256 + by8 x 5) * 256 + by8 x 4) * 256 + by8 x 3) * 256 + by8 x 2) * 256 + by8 x 1) * 256 + by8 x 0 = nv x := by
  have hx := nv_bd x
  rw [by8_0, by8_1, by8_2, by8_3, by8_4, by8_5, by8_6, by8_7]; omega

theorem by8_n2 (x : BitVec 64) : by8 x 2 = nv x / 256 / 256 % 256 := by have := nv_bd x; rw [by8_2]; omega
theorem by8_n3 (x : BitVec 64) : by8 x 3 = nv x / 256 / 256 / 256 % 256 := by have := nv_bd x; rw [by8_3]; omega
theorem by8_n4 (x : BitVec 64) : by8 x 4 = nv x / 256 / 256 / 256 / 256 % 256 := by have := nv_bd x; rw [by8_4]; omega
theorem by8_n5 (x : BitVec 64) : by8 x 5 = nv x / 256 / 256 / 256 / 256 / 256 % 256 := by have := nv_bd x; rw [by8_5]; omega
theorem by8_n6 (x : BitVec 64) : by8 x 6 = nv x / 256 / 256 / 256 / 256 / 256 / 256 % 256 := by have := nv_bd x; rw [by8_6]; omega
theorem by8_n7 (x : BitVec 64) : by8 x 7 = nv x / 256 / 256 / 256 / 256 / 256 / 256 / 256 % 256 := by have := nv_bd x; rw [by8_7]; omega

end Go.Proofs.Yteopbfehfipcmaa
