/- talk: a Talker's bounds, compared. -/
import Derived.Test.YtgjodjkmefdilaaTalkAgain
import Derived.Laws.StructEq
namespace Go.Proofs.Ytgjodjkmefdilaa
set_option linter.unusedSimpArgs false
set_option linter.unusedVariables false
open Go.RowKit

theorem bounds_eq (a b c d : Nat) (w : World) (r : Bool) (hr : (decide (a = c ∧ b = d)) = r) : (Op.equalIn 10000 80 (.agg #[.int .i64 a, .int .i64 b]) (.agg #[.int .i64 c, .int .i64 d])).run Try.prog w = .ok r w := by
  have hf : (Try.prog.fieldsOf 80).toList = [{ name := "most", type := 3, offset := 0, embedded := false, tag := "", pkgPath := "baize/talk", byteOffset := 0 }, { name := "again", type := 3, offset := 1, embedded := false, tag := "", pkgPath := "baize/talk", byteOffset := 8 }] := by kernel_rfl
  rw [run_equalIn_struct w 9999 80 _ _ (by kernel_rfl) (by kernel_rfl), hf]
  have p0 : ∀ (x y : Nat) w, (part 3 #[.int .i64 x, .int .i64 y] 0).run Try.prog w = .ok (.int .i64 x) w := fun x y w => by
    simp [part, Sem.run_bind, Result.andThen]
  have p1 : ∀ (x y : Nat) w, (part 3 #[.int .i64 x, .int .i64 y] 1).run Try.prog w = .ok (.int .i64 y) w := fun x y w => by
    simp [part, Sem.run_bind, Result.andThen]
  have hi : ∀ (x y : Nat) w, (Op.equalIn 9999 3 (.int .i64 x) (.int .i64 y)).run Try.prog w = .ok ((x : Int) == (y : Int)) w := fun x y w => run_equalIn_int w 9998 3 .i64 .i64 x y Try.underlying3
  by_cases h1 : a = c
  · have e1 : ((a : Int) == (c : Int)) = true := by simp [h1]
    by_cases h2 : b = d
    · have e2 : ((b : Int) == (d : Int)) = true := by simp [h2]
      simp [Op.eqFields, Sem.run_bind, p0, p1, hi, e1, e2, Result.andThen, ← hr, h1, h2]
    · have e2 : ((b : Int) == (d : Int)) = false := by simp; omega
      simp [Op.eqFields, Sem.run_bind, p0, p1, hi, e1, e2, Result.andThen, ← hr, h1, h2]
  · have e1 : ((a : Int) == (c : Int)) = false := by simp; omega
    simp [Op.eqFields, Sem.run_bind, p0, p1, hi, e1, Result.andThen, ← hr, h1]

end Go.Proofs.Ytgjodjkmefdilaa
