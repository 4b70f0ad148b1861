/- guard: contract of Same. -/
import Derived.Test.YtghaiplhakeahaaGf
import Derived.Test.YtghaiplhakeahaaRs
import Derived.Test.YtghaiplhakeahaaAe
import Derived.Laws.StructEq
namespace Go.Proofs.Ytghaiplhakeahaa
set_option linter.unusedSimpArgs false
set_option linter.unusedVariables false
open Go.RowKit

/-- Are both the same? -/
def sameG (G H : GS) : Bool := decide (G.nonce = H.nonce ∧ G.towers = H.towers ∧ G.need = H.need ∧ G.noted = H.noted ∧ G.hint = H.hint ∧ G.num = H.num ∧ G.box = H.box ∧ (((List.range 16).all fun i => G.said i == H.said i) = true) ∧ (G.slf = H.slf ∧ G.slt = H.slt))
theorem natEq_t {a b : Nat} (h : a = b) : ((a : Int) == (b : Int)) = true := by subst h; simp
theorem natEq_f {a b : Nat} (h : a ≠ b) : ((a : Int) == (b : Int)) = false := by simp; omega
theorem sleep_eq (a b c d : Int) (w : World) (r : Bool) (hr : (decide (a = c ∧ b = d)) = r) : (Op.equalIn 10000 130 (.agg #[.int .i64 a, .int .i64 b]) (.agg #[.int .i64 c, .int .i64 d])).run Try.prog w = .ok r w := by
  have hf : (Try.prog.fieldsOf 130).toList = [{ name := "from", type := 3, offset := 0, embedded := false, tag := "", pkgPath := "baize/guard", byteOffset := 0 }, { name := "to", type := 3, offset := 1, embedded := false, tag := "", pkgPath := "baize/guard", byteOffset := 8 }] := by kernel_rfl
  rw [run_equalIn_struct w 9999 130 _ _ (by kernel_rfl) (by kernel_rfl), hf]
  have p0 : ∀ (x y : Int) w, (part 3 #[.int .i64 x, .int .i64 y] 0).run Try.prog w = .ok (.int .i64 x) w := fun x y w => by
    simp [part, Sem.run_bind, Result.andThen]
  have p1 : ∀ (x y : Int) w, (part 3 #[.int .i64 x, .int .i64 y] 1).run Try.prog w = .ok (.int .i64 y) w := fun x y w => by
    simp [part, Sem.run_bind, Result.andThen]
  have hi : ∀ (x y : Int) w, (Op.equalIn 9999 3 (.int .i64 x) (.int .i64 y)).run Try.prog w = .ok (x == y) w := fun x y w => run_equalIn_int w 9998 3 .i64 .i64 x y Try.underlying3
  by_cases h1 : a = c
  · have e1 : (a == c) = true := by simp [h1]
    by_cases h2 : b = d
    · have e2 : (b == d) = true := by simp [h2]
      simp [Op.eqFields, Sem.run_bind, p0, p1, hi, e1, e2, Result.andThen, ← hr, h1, h2]
    · have e2 : (b == d) = false := by simp [h2]
      simp [Op.eqFields, Sem.run_bind, p0, p1, hi, e1, e2, Result.andThen, ← hr, h1, h2]
  · have e1 : (a == c) = false := by simp [h1]
    simp [Op.eqFields, Sem.run_bind, p0, p1, hi, e1, Result.andThen, ← hr, h1]
def saidA (G : GS) : Array Value := #[.int .i64 (G.said 0), .int .i64 (G.said 1), .int .i64 (G.said 2), .int .i64 (G.said 3), .int .i64 (G.said 4), .int .i64 (G.said 5), .int .i64 (G.said 6), .int .i64 (G.said 7), .int .i64 (G.said 8), .int .i64 (G.said 9), .int .i64 (G.said 10), .int .i64 (G.said 11), .int .i64 (G.said 12), .int .i64 (G.said 13), .int .i64 (G.said 14), .int .i64 (G.said 15)]
theorem saidA_get (G : GS) (k : Nat) (hk : k < 16) : (saidA G)[k]? = some (.int .i64 (G.said k)) := by
  rcases (by omega : k = 0 ∨ k = 1 ∨ k = 2 ∨ k = 3 ∨ k = 4 ∨ k = 5 ∨ k = 6 ∨ k = 7 ∨ k = 8 ∨ k = 9 ∨ k = 10 ∨ k = 11 ∨ k = 12 ∨ k = 13 ∨ k = 14 ∨ k = 15) with rfl | rfl | rfl | rfl | rfl | rfl | rfl | rfl | rfl | rfl | rfl | rfl | rfl | rfl | rfl | rfl <;> rfl
theorem size_int (w : World) : (sizeOf 3).run Try.prog w = .ok 1 w := by kernel_rfl
theorem said_eq (G H : GS) (w : World) (r : Bool) (hr : ((List.range 16).all fun i => G.said i == H.said i) = r) : (Op.equalIn 10000 128 (.agg #[.int .i64 (G.said 0), .int .i64 (G.said 1), .int .i64 (G.said 2), .int .i64 (G.said 3), .int .i64 (G.said 4), .int .i64 (G.said 5), .int .i64 (G.said 6), .int .i64 (G.said 7), .int .i64 (G.said 8), .int .i64 (G.said 9), .int .i64 (G.said 10), .int .i64 (G.said 11), .int .i64 (G.said 12), .int .i64 (G.said 13), .int .i64 (G.said 14), .int .i64 (G.said 15)]) (.agg #[.int .i64 (H.said 0), .int .i64 (H.said 1), .int .i64 (H.said 2), .int .i64 (H.said 3), .int .i64 (H.said 4), .int .i64 (H.said 5), .int .i64 (H.said 6), .int .i64 (H.said 7), .int .i64 (H.said 8), .int .i64 (H.said 9), .int .i64 (H.said 10), .int .i64 (H.said 11), .int .i64 (H.said 12), .int .i64 (H.said 13), .int .i64 (H.said 14), .int .i64 (H.said 15)])).run Try.prog w = .ok r w := by
  refine (run_eq_ints w 128 3 16 .i64 Try.underlying128 Try.underlying3 (size_int w) (saidA G) (saidA H) G.said H.said (saidA_get G) (saidA_get H)).trans ?_
  rw [hr]

set_option maxRecDepth 100000 in
set_option maxHeartbeats 1000000 in
theorem gsame_nn (w : World) : Calls Try.prog 47 #[.pointer none, .pointer none] w fun e w' => e = .returned (.bool true) ∧ w' = w := by
  go_enter Try.func47, Try.ntmps47
  go_wp2
  go_ret
  exact ⟨rfl, rfl⟩
set_option maxRecDepth 100000 in
set_option maxHeartbeats 1000000 in
theorem gsame_np (p : Nat) (w : World) : Calls Try.prog 47 #[.pointer none, ptr p] w fun e w' => e = .returned (.bool false) ∧ w' = w := by
  go_enter Try.func47, Try.ntmps47
  go_wp2
  go_ret
  exact ⟨rfl, rfl⟩
set_option maxRecDepth 100000 in
set_option maxHeartbeats 1000000 in
theorem gsame_pn (p : Nat) (w : World) : Calls Try.prog 47 #[ptr p, .pointer none] w fun e w' => e = .returned (.bool false) ∧ w' = w := by
  go_enter Try.func47, Try.ntmps47
  go_wp2
  go_ret
  exact ⟨rfl, rfl⟩

set_option maxRecDepth 100000 in
set_option maxHeartbeats 4000000 in
theorem gs_f0 (w : World) (p q : Nat) (G H : GS) (v1 v2 : Value) (HBp : HasBlk w p 132 (gcs G v1)) (HBq : HasBlk w q 132 (gcs H v2))  (k0 : ¬ (G.nonce = H.nonce)) :
    Calls Try.prog 47 #[ptr p, ptr q] w fun e w' => e = .returned (.bool false) ∧ Ow w' w [] := by
  have e0 : (G.nonce == H.nonce) = false := by simp [k0]
  have cp0 : w.cell? ⟨p, 0, none⟩ = some (.int .u8 (by8 G.nonce 0)) := HBp.cell 0
  have cq0 : w.cell? ⟨q, 0, none⟩ = some (.int .u8 (by8 H.nonce 0)) := HBq.cell 0
  have cp1 : w.cell? ⟨p, 1, none⟩ = some (.int .u8 (by8 G.nonce 1)) := HBp.cell 1
  have cq1 : w.cell? ⟨q, 1, none⟩ = some (.int .u8 (by8 H.nonce 1)) := HBq.cell 1
  have cp2 : w.cell? ⟨p, 2, none⟩ = some (.int .u8 (by8 G.nonce 2)) := HBp.cell 2
  have cq2 : w.cell? ⟨q, 2, none⟩ = some (.int .u8 (by8 H.nonce 2)) := HBq.cell 2
  have cp3 : w.cell? ⟨p, 3, none⟩ = some (.int .u8 (by8 G.nonce 3)) := HBp.cell 3
  have cq3 : w.cell? ⟨q, 3, none⟩ = some (.int .u8 (by8 H.nonce 3)) := HBq.cell 3
  have cp4 : w.cell? ⟨p, 4, none⟩ = some (.int .u8 (by8 G.nonce 4)) := HBp.cell 4
  have cq4 : w.cell? ⟨q, 4, none⟩ = some (.int .u8 (by8 H.nonce 4)) := HBq.cell 4
  have cp5 : w.cell? ⟨p, 5, none⟩ = some (.int .u8 (by8 G.nonce 5)) := HBp.cell 5
  have cq5 : w.cell? ⟨q, 5, none⟩ = some (.int .u8 (by8 H.nonce 5)) := HBq.cell 5
  have cp6 : w.cell? ⟨p, 6, none⟩ = some (.int .u8 (by8 G.nonce 6)) := HBp.cell 6
  have cq6 : w.cell? ⟨q, 6, none⟩ = some (.int .u8 (by8 H.nonce 6)) := HBq.cell 6
  have cp7 : w.cell? ⟨p, 7, none⟩ = some (.int .u8 (by8 G.nonce 7)) := HBp.cell 7
  have cq7 : w.cell? ⟨q, 7, none⟩ = some (.int .u8 (by8 H.nonce 7)) := HBq.cell 7
  have cp8 : w.cell? ⟨p, 8, none⟩ = some (.int .i64 G.towers) := HBp.cell 8
  have cq8 : w.cell? ⟨q, 8, none⟩ = some (.int .i64 H.towers) := HBq.cell 8
  have cp9 : w.cell? ⟨p, 9, none⟩ = some (.int .i64 G.need) := HBp.cell 9
  have cq9 : w.cell? ⟨q, 9, none⟩ = some (.int .i64 H.need) := HBq.cell 9
  have cp10 : w.cell? ⟨p, 10, none⟩ = some (.bool G.noted) := HBp.cell 10
  have cq10 : w.cell? ⟨q, 10, none⟩ = some (.bool H.noted) := HBq.cell 10
  have cp11 : w.cell? ⟨p, 11, none⟩ = some (.int .u8 (by8 G.hint 0)) := HBp.cell 11
  have cq11 : w.cell? ⟨q, 11, none⟩ = some (.int .u8 (by8 H.hint 0)) := HBq.cell 11
  have cp12 : w.cell? ⟨p, 12, none⟩ = some (.int .u8 (by8 G.hint 1)) := HBp.cell 12
  have cq12 : w.cell? ⟨q, 12, none⟩ = some (.int .u8 (by8 H.hint 1)) := HBq.cell 12
  have cp13 : w.cell? ⟨p, 13, none⟩ = some (.int .u8 (by8 G.hint 2)) := HBp.cell 13
  have cq13 : w.cell? ⟨q, 13, none⟩ = some (.int .u8 (by8 H.hint 2)) := HBq.cell 13
  have cp14 : w.cell? ⟨p, 14, none⟩ = some (.int .u8 (by8 G.hint 3)) := HBp.cell 14
  have cq14 : w.cell? ⟨q, 14, none⟩ = some (.int .u8 (by8 H.hint 3)) := HBq.cell 14
  have cp15 : w.cell? ⟨p, 15, none⟩ = some (.int .u8 (by8 G.hint 4)) := HBp.cell 15
  have cq15 : w.cell? ⟨q, 15, none⟩ = some (.int .u8 (by8 H.hint 4)) := HBq.cell 15
  have cp16 : w.cell? ⟨p, 16, none⟩ = some (.int .u8 (by8 G.hint 5)) := HBp.cell 16
  have cq16 : w.cell? ⟨q, 16, none⟩ = some (.int .u8 (by8 H.hint 5)) := HBq.cell 16
  have cp17 : w.cell? ⟨p, 17, none⟩ = some (.int .u8 (by8 G.hint 6)) := HBp.cell 17
  have cq17 : w.cell? ⟨q, 17, none⟩ = some (.int .u8 (by8 H.hint 6)) := HBq.cell 17
  have cp18 : w.cell? ⟨p, 18, none⟩ = some (.int .u8 (by8 G.hint 7)) := HBp.cell 18
  have cq18 : w.cell? ⟨q, 18, none⟩ = some (.int .u8 (by8 H.hint 7)) := HBq.cell 18
  have cp19 : w.cell? ⟨p, 19, none⟩ = some (.int .i64 G.num) := HBp.cell 19
  have cq19 : w.cell? ⟨q, 19, none⟩ = some (.int .i64 H.num) := HBq.cell 19
  have cp20 : w.cell? ⟨p, 20, none⟩ = some (v1) := HBp.cell 20
  have cq20 : w.cell? ⟨q, 20, none⟩ = some (v2) := HBq.cell 20
  have cp21 : w.cell? ⟨p, 21, none⟩ = some (.int .i64 (G.said 0)) := HBp.cell 21
  have cq21 : w.cell? ⟨q, 21, none⟩ = some (.int .i64 (H.said 0)) := HBq.cell 21
  have cp22 : w.cell? ⟨p, 22, none⟩ = some (.int .i64 (G.said 1)) := HBp.cell 22
  have cq22 : w.cell? ⟨q, 22, none⟩ = some (.int .i64 (H.said 1)) := HBq.cell 22
  have cp23 : w.cell? ⟨p, 23, none⟩ = some (.int .i64 (G.said 2)) := HBp.cell 23
  have cq23 : w.cell? ⟨q, 23, none⟩ = some (.int .i64 (H.said 2)) := HBq.cell 23
  have cp24 : w.cell? ⟨p, 24, none⟩ = some (.int .i64 (G.said 3)) := HBp.cell 24
  have cq24 : w.cell? ⟨q, 24, none⟩ = some (.int .i64 (H.said 3)) := HBq.cell 24
  have cp25 : w.cell? ⟨p, 25, none⟩ = some (.int .i64 (G.said 4)) := HBp.cell 25
  have cq25 : w.cell? ⟨q, 25, none⟩ = some (.int .i64 (H.said 4)) := HBq.cell 25
  have cp26 : w.cell? ⟨p, 26, none⟩ = some (.int .i64 (G.said 5)) := HBp.cell 26
  have cq26 : w.cell? ⟨q, 26, none⟩ = some (.int .i64 (H.said 5)) := HBq.cell 26
  have cp27 : w.cell? ⟨p, 27, none⟩ = some (.int .i64 (G.said 6)) := HBp.cell 27
  have cq27 : w.cell? ⟨q, 27, none⟩ = some (.int .i64 (H.said 6)) := HBq.cell 27
  have cp28 : w.cell? ⟨p, 28, none⟩ = some (.int .i64 (G.said 7)) := HBp.cell 28
  have cq28 : w.cell? ⟨q, 28, none⟩ = some (.int .i64 (H.said 7)) := HBq.cell 28
  have cp29 : w.cell? ⟨p, 29, none⟩ = some (.int .i64 (G.said 8)) := HBp.cell 29
  have cq29 : w.cell? ⟨q, 29, none⟩ = some (.int .i64 (H.said 8)) := HBq.cell 29
  have cp30 : w.cell? ⟨p, 30, none⟩ = some (.int .i64 (G.said 9)) := HBp.cell 30
  have cq30 : w.cell? ⟨q, 30, none⟩ = some (.int .i64 (H.said 9)) := HBq.cell 30
  have cp31 : w.cell? ⟨p, 31, none⟩ = some (.int .i64 (G.said 10)) := HBp.cell 31
  have cq31 : w.cell? ⟨q, 31, none⟩ = some (.int .i64 (H.said 10)) := HBq.cell 31
  have cp32 : w.cell? ⟨p, 32, none⟩ = some (.int .i64 (G.said 11)) := HBp.cell 32
  have cq32 : w.cell? ⟨q, 32, none⟩ = some (.int .i64 (H.said 11)) := HBq.cell 32
  have cp33 : w.cell? ⟨p, 33, none⟩ = some (.int .i64 (G.said 12)) := HBp.cell 33
  have cq33 : w.cell? ⟨q, 33, none⟩ = some (.int .i64 (H.said 12)) := HBq.cell 33
  have cp34 : w.cell? ⟨p, 34, none⟩ = some (.int .i64 (G.said 13)) := HBp.cell 34
  have cq34 : w.cell? ⟨q, 34, none⟩ = some (.int .i64 (H.said 13)) := HBq.cell 34
  have cp35 : w.cell? ⟨p, 35, none⟩ = some (.int .i64 (G.said 14)) := HBp.cell 35
  have cq35 : w.cell? ⟨q, 35, none⟩ = some (.int .i64 (H.said 14)) := HBq.cell 35
  have cp36 : w.cell? ⟨p, 36, none⟩ = some (.int .i64 (G.said 15)) := HBp.cell 36
  have cq36 : w.cell? ⟨q, 36, none⟩ = some (.int .i64 (H.said 15)) := HBq.cell 36
  have cp37 : w.cell? ⟨p, 37, none⟩ = some (.int .i64 G.slf) := HBp.cell 37
  have cq37 : w.cell? ⟨q, 37, none⟩ = some (.int .i64 H.slf) := HBq.cell 37
  have cp38 : w.cell? ⟨p, 38, none⟩ = some (.int .i64 G.slt) := HBp.cell 38
  have cq38 : w.cell? ⟨q, 38, none⟩ = some (.int .i64 H.slt) := HBq.cell 38
  have ltp := HBp.lt
  have ltq := HBq.lt
  have HS := Lib.hid (Ow.start w)
  clear HBp HBq
  go_enter Try.func47, Try.ntmps47
  go_wp2
  refine wp_region_rs (by kernel_rfl) (by kernel_rfl) (by kernel_rfl) ?_
  repeat (first
    | (refine B_skip ?_ ?_; (· rfl); (try simp only [Act.put, List.setIfInBounds_toArray, List.set_cons_zero, List.set_cons_succ]))
    | (refine B_move rfl ?_ ?_; (· rfl); (try simp only [Act.eval, Act.put, Array.getD_eq_getD_getElem?, List.getElem?_toArray, List.getElem?_cons_succ, List.getElem?_cons_zero, Option.getD_some, List.setIfInBounds_toArray, List.set_cons_zero, List.set_cons_succ]))
    | (refine B_plain ?_ ?_; (· rfl); intro K hK; go_big_quiet_op; with_reducible refine hK _ ?_; clear hK K)
    | (refine B_nilck rfl rfl ?_ ?_; (· rfl); (try simp only [Act.put, List.setIfInBounds_toArray, List.set_cons_zero, List.set_cons_succ])))
  refine B_nil ?_ rfl ?_ ?_
  · kernel_rfl
  · rfl
  rintro _ ⟨⟨g1, d1⟩, rfl⟩
  simp only [fin, Act.put, List.setIfInBounds_toArray, List.set_cons_zero, List.set_cons_succ]
  go_wp2
  go_ret
  exact ⟨rfl, HS.out.plus _ _⟩
set_option maxRecDepth 100000 in
set_option maxHeartbeats 4000000 in
theorem gs_f1 (w : World) (p q : Nat) (G H : GS) (v1 v2 : Value) (HBp : HasBlk w p 132 (gcs G v1)) (HBq : HasBlk w q 132 (gcs H v2)) (k0 : G.nonce = H.nonce) (k1 : ¬ (G.towers = H.towers)) :
    Calls Try.prog 47 #[ptr p, ptr q] w fun e w' => e = .returned (.bool false) ∧ Ow w' w [] := by
  have e0 : (G.nonce == H.nonce) = true := by simp [k0]
  have e1 := natEq_f k1
  have cp0 : w.cell? ⟨p, 0, none⟩ = some (.int .u8 (by8 G.nonce 0)) := HBp.cell 0
  have cq0 : w.cell? ⟨q, 0, none⟩ = some (.int .u8 (by8 H.nonce 0)) := HBq.cell 0
  have cp1 : w.cell? ⟨p, 1, none⟩ = some (.int .u8 (by8 G.nonce 1)) := HBp.cell 1
  have cq1 : w.cell? ⟨q, 1, none⟩ = some (.int .u8 (by8 H.nonce 1)) := HBq.cell 1
  have cp2 : w.cell? ⟨p, 2, none⟩ = some (.int .u8 (by8 G.nonce 2)) := HBp.cell 2
  have cq2 : w.cell? ⟨q, 2, none⟩ = some (.int .u8 (by8 H.nonce 2)) := HBq.cell 2
  have cp3 : w.cell? ⟨p, 3, none⟩ = some (.int .u8 (by8 G.nonce 3)) := HBp.cell 3
  have cq3 : w.cell? ⟨q, 3, none⟩ = some (.int .u8 (by8 H.nonce 3)) := HBq.cell 3
  have cp4 : w.cell? ⟨p, 4, none⟩ = some (.int .u8 (by8 G.nonce 4)) := HBp.cell 4
  have cq4 : w.cell? ⟨q, 4, none⟩ = some (.int .u8 (by8 H.nonce 4)) := HBq.cell 4
  have cp5 : w.cell? ⟨p, 5, none⟩ = some (.int .u8 (by8 G.nonce 5)) := HBp.cell 5
  have cq5 : w.cell? ⟨q, 5, none⟩ = some (.int .u8 (by8 H.nonce 5)) := HBq.cell 5
  have cp6 : w.cell? ⟨p, 6, none⟩ = some (.int .u8 (by8 G.nonce 6)) := HBp.cell 6
  have cq6 : w.cell? ⟨q, 6, none⟩ = some (.int .u8 (by8 H.nonce 6)) := HBq.cell 6
  have cp7 : w.cell? ⟨p, 7, none⟩ = some (.int .u8 (by8 G.nonce 7)) := HBp.cell 7
  have cq7 : w.cell? ⟨q, 7, none⟩ = some (.int .u8 (by8 H.nonce 7)) := HBq.cell 7
  have cp8 : w.cell? ⟨p, 8, none⟩ = some (.int .i64 G.towers) := HBp.cell 8
  have cq8 : w.cell? ⟨q, 8, none⟩ = some (.int .i64 H.towers) := HBq.cell 8
  have cp9 : w.cell? ⟨p, 9, none⟩ = some (.int .i64 G.need) := HBp.cell 9
  have cq9 : w.cell? ⟨q, 9, none⟩ = some (.int .i64 H.need) := HBq.cell 9
  have cp10 : w.cell? ⟨p, 10, none⟩ = some (.bool G.noted) := HBp.cell 10
  have cq10 : w.cell? ⟨q, 10, none⟩ = some (.bool H.noted) := HBq.cell 10
  have cp11 : w.cell? ⟨p, 11, none⟩ = some (.int .u8 (by8 G.hint 0)) := HBp.cell 11
  have cq11 : w.cell? ⟨q, 11, none⟩ = some (.int .u8 (by8 H.hint 0)) := HBq.cell 11
  have cp12 : w.cell? ⟨p, 12, none⟩ = some (.int .u8 (by8 G.hint 1)) := HBp.cell 12
  have cq12 : w.cell? ⟨q, 12, none⟩ = some (.int .u8 (by8 H.hint 1)) := HBq.cell 12
  have cp13 : w.cell? ⟨p, 13, none⟩ = some (.int .u8 (by8 G.hint 2)) := HBp.cell 13
  have cq13 : w.cell? ⟨q, 13, none⟩ = some (.int .u8 (by8 H.hint 2)) := HBq.cell 13
  have cp14 : w.cell? ⟨p, 14, none⟩ = some (.int .u8 (by8 G.hint 3)) := HBp.cell 14
  have cq14 : w.cell? ⟨q, 14, none⟩ = some (.int .u8 (by8 H.hint 3)) := HBq.cell 14
  have cp15 : w.cell? ⟨p, 15, none⟩ = some (.int .u8 (by8 G.hint 4)) := HBp.cell 15
  have cq15 : w.cell? ⟨q, 15, none⟩ = some (.int .u8 (by8 H.hint 4)) := HBq.cell 15
  have cp16 : w.cell? ⟨p, 16, none⟩ = some (.int .u8 (by8 G.hint 5)) := HBp.cell 16
  have cq16 : w.cell? ⟨q, 16, none⟩ = some (.int .u8 (by8 H.hint 5)) := HBq.cell 16
  have cp17 : w.cell? ⟨p, 17, none⟩ = some (.int .u8 (by8 G.hint 6)) := HBp.cell 17
  have cq17 : w.cell? ⟨q, 17, none⟩ = some (.int .u8 (by8 H.hint 6)) := HBq.cell 17
  have cp18 : w.cell? ⟨p, 18, none⟩ = some (.int .u8 (by8 G.hint 7)) := HBp.cell 18
  have cq18 : w.cell? ⟨q, 18, none⟩ = some (.int .u8 (by8 H.hint 7)) := HBq.cell 18
  have cp19 : w.cell? ⟨p, 19, none⟩ = some (.int .i64 G.num) := HBp.cell 19
  have cq19 : w.cell? ⟨q, 19, none⟩ = some (.int .i64 H.num) := HBq.cell 19
  have cp20 : w.cell? ⟨p, 20, none⟩ = some (v1) := HBp.cell 20
  have cq20 : w.cell? ⟨q, 20, none⟩ = some (v2) := HBq.cell 20
  have cp21 : w.cell? ⟨p, 21, none⟩ = some (.int .i64 (G.said 0)) := HBp.cell 21
  have cq21 : w.cell? ⟨q, 21, none⟩ = some (.int .i64 (H.said 0)) := HBq.cell 21
  have cp22 : w.cell? ⟨p, 22, none⟩ = some (.int .i64 (G.said 1)) := HBp.cell 22
  have cq22 : w.cell? ⟨q, 22, none⟩ = some (.int .i64 (H.said 1)) := HBq.cell 22
  have cp23 : w.cell? ⟨p, 23, none⟩ = some (.int .i64 (G.said 2)) := HBp.cell 23
  have cq23 : w.cell? ⟨q, 23, none⟩ = some (.int .i64 (H.said 2)) := HBq.cell 23
  have cp24 : w.cell? ⟨p, 24, none⟩ = some (.int .i64 (G.said 3)) := HBp.cell 24
  have cq24 : w.cell? ⟨q, 24, none⟩ = some (.int .i64 (H.said 3)) := HBq.cell 24
  have cp25 : w.cell? ⟨p, 25, none⟩ = some (.int .i64 (G.said 4)) := HBp.cell 25
  have cq25 : w.cell? ⟨q, 25, none⟩ = some (.int .i64 (H.said 4)) := HBq.cell 25
  have cp26 : w.cell? ⟨p, 26, none⟩ = some (.int .i64 (G.said 5)) := HBp.cell 26
  have cq26 : w.cell? ⟨q, 26, none⟩ = some (.int .i64 (H.said 5)) := HBq.cell 26
  have cp27 : w.cell? ⟨p, 27, none⟩ = some (.int .i64 (G.said 6)) := HBp.cell 27
  have cq27 : w.cell? ⟨q, 27, none⟩ = some (.int .i64 (H.said 6)) := HBq.cell 27
  have cp28 : w.cell? ⟨p, 28, none⟩ = some (.int .i64 (G.said 7)) := HBp.cell 28
  have cq28 : w.cell? ⟨q, 28, none⟩ = some (.int .i64 (H.said 7)) := HBq.cell 28
  have cp29 : w.cell? ⟨p, 29, none⟩ = some (.int .i64 (G.said 8)) := HBp.cell 29
  have cq29 : w.cell? ⟨q, 29, none⟩ = some (.int .i64 (H.said 8)) := HBq.cell 29
  have cp30 : w.cell? ⟨p, 30, none⟩ = some (.int .i64 (G.said 9)) := HBp.cell 30
  have cq30 : w.cell? ⟨q, 30, none⟩ = some (.int .i64 (H.said 9)) := HBq.cell 30
  have cp31 : w.cell? ⟨p, 31, none⟩ = some (.int .i64 (G.said 10)) := HBp.cell 31
  have cq31 : w.cell? ⟨q, 31, none⟩ = some (.int .i64 (H.said 10)) := HBq.cell 31
  have cp32 : w.cell? ⟨p, 32, none⟩ = some (.int .i64 (G.said 11)) := HBp.cell 32
  have cq32 : w.cell? ⟨q, 32, none⟩ = some (.int .i64 (H.said 11)) := HBq.cell 32
  have cp33 : w.cell? ⟨p, 33, none⟩ = some (.int .i64 (G.said 12)) := HBp.cell 33
  have cq33 : w.cell? ⟨q, 33, none⟩ = some (.int .i64 (H.said 12)) := HBq.cell 33
  have cp34 : w.cell? ⟨p, 34, none⟩ = some (.int .i64 (G.said 13)) := HBp.cell 34
  have cq34 : w.cell? ⟨q, 34, none⟩ = some (.int .i64 (H.said 13)) := HBq.cell 34
  have cp35 : w.cell? ⟨p, 35, none⟩ = some (.int .i64 (G.said 14)) := HBp.cell 35
  have cq35 : w.cell? ⟨q, 35, none⟩ = some (.int .i64 (H.said 14)) := HBq.cell 35
  have cp36 : w.cell? ⟨p, 36, none⟩ = some (.int .i64 (G.said 15)) := HBp.cell 36
  have cq36 : w.cell? ⟨q, 36, none⟩ = some (.int .i64 (H.said 15)) := HBq.cell 36
  have cp37 : w.cell? ⟨p, 37, none⟩ = some (.int .i64 G.slf) := HBp.cell 37
  have cq37 : w.cell? ⟨q, 37, none⟩ = some (.int .i64 H.slf) := HBq.cell 37
  have cp38 : w.cell? ⟨p, 38, none⟩ = some (.int .i64 G.slt) := HBp.cell 38
  have cq38 : w.cell? ⟨q, 38, none⟩ = some (.int .i64 H.slt) := HBq.cell 38
  have ltp := HBp.lt
  have ltq := HBq.lt
  have HS := Lib.hid (Ow.start w)
  clear HBp HBq
  go_enter Try.func47, Try.ntmps47
  go_wp2
  refine wp_region_rs (by kernel_rfl) (by kernel_rfl) (by kernel_rfl) ?_
  repeat (first
    | (refine B_skip ?_ ?_; (· rfl); (try simp only [Act.put, List.setIfInBounds_toArray, List.set_cons_zero, List.set_cons_succ]))
    | (refine B_move rfl ?_ ?_; (· rfl); (try simp only [Act.eval, Act.put, Array.getD_eq_getD_getElem?, List.getElem?_toArray, List.getElem?_cons_succ, List.getElem?_cons_zero, Option.getD_some, List.setIfInBounds_toArray, List.set_cons_zero, List.set_cons_succ]))
    | (refine B_plain ?_ ?_; (· rfl); intro K hK; go_big_quiet_op; with_reducible refine hK _ ?_; clear hK K)
    | (refine B_nilck rfl rfl ?_ ?_; (· rfl); (try simp only [Act.put, List.setIfInBounds_toArray, List.set_cons_zero, List.set_cons_succ])))
  refine B_nil ?_ rfl ?_ ?_
  · kernel_rfl
  · rfl
  rintro _ ⟨⟨g1, d1⟩, rfl⟩
  simp only [fin, Act.put, List.setIfInBounds_toArray, List.set_cons_zero, List.set_cons_succ]
  go_wp2
  go_ret
  exact ⟨rfl, HS.out.plus _ _⟩
set_option maxRecDepth 100000 in
set_option maxHeartbeats 4000000 in
theorem gs_f2 (w : World) (p q : Nat) (G H : GS) (v1 v2 : Value) (HBp : HasBlk w p 132 (gcs G v1)) (HBq : HasBlk w q 132 (gcs H v2)) (k0 : G.nonce = H.nonce) (k1 : G.towers = H.towers) (k2 : ¬ (G.need = H.need)) :
    Calls Try.prog 47 #[ptr p, ptr q] w fun e w' => e = .returned (.bool false) ∧ Ow w' w [] := by
  have e0 : (G.nonce == H.nonce) = true := by simp [k0]
  have e1 := natEq_t k1
  have e2 := natEq_f k2
  have cp0 : w.cell? ⟨p, 0, none⟩ = some (.int .u8 (by8 G.nonce 0)) := HBp.cell 0
  have cq0 : w.cell? ⟨q, 0, none⟩ = some (.int .u8 (by8 H.nonce 0)) := HBq.cell 0
  have cp1 : w.cell? ⟨p, 1, none⟩ = some (.int .u8 (by8 G.nonce 1)) := HBp.cell 1
  have cq1 : w.cell? ⟨q, 1, none⟩ = some (.int .u8 (by8 H.nonce 1)) := HBq.cell 1
  have cp2 : w.cell? ⟨p, 2, none⟩ = some (.int .u8 (by8 G.nonce 2)) := HBp.cell 2
  have cq2 : w.cell? ⟨q, 2, none⟩ = some (.int .u8 (by8 H.nonce 2)) := HBq.cell 2
  have cp3 : w.cell? ⟨p, 3, none⟩ = some (.int .u8 (by8 G.nonce 3)) := HBp.cell 3
  have cq3 : w.cell? ⟨q, 3, none⟩ = some (.int .u8 (by8 H.nonce 3)) := HBq.cell 3
  have cp4 : w.cell? ⟨p, 4, none⟩ = some (.int .u8 (by8 G.nonce 4)) := HBp.cell 4
  have cq4 : w.cell? ⟨q, 4, none⟩ = some (.int .u8 (by8 H.nonce 4)) := HBq.cell 4
  have cp5 : w.cell? ⟨p, 5, none⟩ = some (.int .u8 (by8 G.nonce 5)) := HBp.cell 5
  have cq5 : w.cell? ⟨q, 5, none⟩ = some (.int .u8 (by8 H.nonce 5)) := HBq.cell 5
  have cp6 : w.cell? ⟨p, 6, none⟩ = some (.int .u8 (by8 G.nonce 6)) := HBp.cell 6
  have cq6 : w.cell? ⟨q, 6, none⟩ = some (.int .u8 (by8 H.nonce 6)) := HBq.cell 6
  have cp7 : w.cell? ⟨p, 7, none⟩ = some (.int .u8 (by8 G.nonce 7)) := HBp.cell 7
  have cq7 : w.cell? ⟨q, 7, none⟩ = some (.int .u8 (by8 H.nonce 7)) := HBq.cell 7
  have cp8 : w.cell? ⟨p, 8, none⟩ = some (.int .i64 G.towers) := HBp.cell 8
  have cq8 : w.cell? ⟨q, 8, none⟩ = some (.int .i64 H.towers) := HBq.cell 8
  have cp9 : w.cell? ⟨p, 9, none⟩ = some (.int .i64 G.need) := HBp.cell 9
  have cq9 : w.cell? ⟨q, 9, none⟩ = some (.int .i64 H.need) := HBq.cell 9
  have cp10 : w.cell? ⟨p, 10, none⟩ = some (.bool G.noted) := HBp.cell 10
  have cq10 : w.cell? ⟨q, 10, none⟩ = some (.bool H.noted) := HBq.cell 10
  have cp11 : w.cell? ⟨p, 11, none⟩ = some (.int .u8 (by8 G.hint 0)) := HBp.cell 11
  have cq11 : w.cell? ⟨q, 11, none⟩ = some (.int .u8 (by8 H.hint 0)) := HBq.cell 11
  have cp12 : w.cell? ⟨p, 12, none⟩ = some (.int .u8 (by8 G.hint 1)) := HBp.cell 12
  have cq12 : w.cell? ⟨q, 12, none⟩ = some (.int .u8 (by8 H.hint 1)) := HBq.cell 12
  have cp13 : w.cell? ⟨p, 13, none⟩ = some (.int .u8 (by8 G.hint 2)) := HBp.cell 13
  have cq13 : w.cell? ⟨q, 13, none⟩ = some (.int .u8 (by8 H.hint 2)) := HBq.cell 13
  have cp14 : w.cell? ⟨p, 14, none⟩ = some (.int .u8 (by8 G.hint 3)) := HBp.cell 14
  have cq14 : w.cell? ⟨q, 14, none⟩ = some (.int .u8 (by8 H.hint 3)) := HBq.cell 14
  have cp15 : w.cell? ⟨p, 15, none⟩ = some (.int .u8 (by8 G.hint 4)) := HBp.cell 15
  have cq15 : w.cell? ⟨q, 15, none⟩ = some (.int .u8 (by8 H.hint 4)) := HBq.cell 15
  have cp16 : w.cell? ⟨p, 16, none⟩ = some (.int .u8 (by8 G.hint 5)) := HBp.cell 16
  have cq16 : w.cell? ⟨q, 16, none⟩ = some (.int .u8 (by8 H.hint 5)) := HBq.cell 16
  have cp17 : w.cell? ⟨p, 17, none⟩ = some (.int .u8 (by8 G.hint 6)) := HBp.cell 17
  have cq17 : w.cell? ⟨q, 17, none⟩ = some (.int .u8 (by8 H.hint 6)) := HBq.cell 17
  have cp18 : w.cell? ⟨p, 18, none⟩ = some (.int .u8 (by8 G.hint 7)) := HBp.cell 18
  have cq18 : w.cell? ⟨q, 18, none⟩ = some (.int .u8 (by8 H.hint 7)) := HBq.cell 18
  have cp19 : w.cell? ⟨p, 19, none⟩ = some (.int .i64 G.num) := HBp.cell 19
  have cq19 : w.cell? ⟨q, 19, none⟩ = some (.int .i64 H.num) := HBq.cell 19
  have cp20 : w.cell? ⟨p, 20, none⟩ = some (v1) := HBp.cell 20
  have cq20 : w.cell? ⟨q, 20, none⟩ = some (v2) := HBq.cell 20
  have cp21 : w.cell? ⟨p, 21, none⟩ = some (.int .i64 (G.said 0)) := HBp.cell 21
  have cq21 : w.cell? ⟨q, 21, none⟩ = some (.int .i64 (H.said 0)) := HBq.cell 21
  have cp22 : w.cell? ⟨p, 22, none⟩ = some (.int .i64 (G.said 1)) := HBp.cell 22
  have cq22 : w.cell? ⟨q, 22, none⟩ = some (.int .i64 (H.said 1)) := HBq.cell 22
  have cp23 : w.cell? ⟨p, 23, none⟩ = some (.int .i64 (G.said 2)) := HBp.cell 23
  have cq23 : w.cell? ⟨q, 23, none⟩ = some (.int .i64 (H.said 2)) := HBq.cell 23
  have cp24 : w.cell? ⟨p, 24, none⟩ = some (.int .i64 (G.said 3)) := HBp.cell 24
  have cq24 : w.cell? ⟨q, 24, none⟩ = some (.int .i64 (H.said 3)) := HBq.cell 24
  have cp25 : w.cell? ⟨p, 25, none⟩ = some (.int .i64 (G.said 4)) := HBp.cell 25
  have cq25 : w.cell? ⟨q, 25, none⟩ = some (.int .i64 (H.said 4)) := HBq.cell 25
  have cp26 : w.cell? ⟨p, 26, none⟩ = some (.int .i64 (G.said 5)) := HBp.cell 26
  have cq26 : w.cell? ⟨q, 26, none⟩ = some (.int .i64 (H.said 5)) := HBq.cell 26
  have cp27 : w.cell? ⟨p, 27, none⟩ = some (.int .i64 (G.said 6)) := HBp.cell 27
  have cq27 : w.cell? ⟨q, 27, none⟩ = some (.int .i64 (H.said 6)) := HBq.cell 27
  have cp28 : w.cell? ⟨p, 28, none⟩ = some (.int .i64 (G.said 7)) := HBp.cell 28
  have cq28 : w.cell? ⟨q, 28, none⟩ = some (.int .i64 (H.said 7)) := HBq.cell 28
  have cp29 : w.cell? ⟨p, 29, none⟩ = some (.int .i64 (G.said 8)) := HBp.cell 29
  have cq29 : w.cell? ⟨q, 29, none⟩ = some (.int .i64 (H.said 8)) := HBq.cell 29
  have cp30 : w.cell? ⟨p, 30, none⟩ = some (.int .i64 (G.said 9)) := HBp.cell 30
  have cq30 : w.cell? ⟨q, 30, none⟩ = some (.int .i64 (H.said 9)) := HBq.cell 30
  have cp31 : w.cell? ⟨p, 31, none⟩ = some (.int .i64 (G.said 10)) := HBp.cell 31
  have cq31 : w.cell? ⟨q, 31, none⟩ = some (.int .i64 (H.said 10)) := HBq.cell 31
  have cp32 : w.cell? ⟨p, 32, none⟩ = some (.int .i64 (G.said 11)) := HBp.cell 32
  have cq32 : w.cell? ⟨q, 32, none⟩ = some (.int .i64 (H.said 11)) := HBq.cell 32
  have cp33 : w.cell? ⟨p, 33, none⟩ = some (.int .i64 (G.said 12)) := HBp.cell 33
  have cq33 : w.cell? ⟨q, 33, none⟩ = some (.int .i64 (H.said 12)) := HBq.cell 33
  have cp34 : w.cell? ⟨p, 34, none⟩ = some (.int .i64 (G.said 13)) := HBp.cell 34
  have cq34 : w.cell? ⟨q, 34, none⟩ = some (.int .i64 (H.said 13)) := HBq.cell 34
  have cp35 : w.cell? ⟨p, 35, none⟩ = some (.int .i64 (G.said 14)) := HBp.cell 35
  have cq35 : w.cell? ⟨q, 35, none⟩ = some (.int .i64 (H.said 14)) := HBq.cell 35
  have cp36 : w.cell? ⟨p, 36, none⟩ = some (.int .i64 (G.said 15)) := HBp.cell 36
  have cq36 : w.cell? ⟨q, 36, none⟩ = some (.int .i64 (H.said 15)) := HBq.cell 36
  have cp37 : w.cell? ⟨p, 37, none⟩ = some (.int .i64 G.slf) := HBp.cell 37
  have cq37 : w.cell? ⟨q, 37, none⟩ = some (.int .i64 H.slf) := HBq.cell 37
  have cp38 : w.cell? ⟨p, 38, none⟩ = some (.int .i64 G.slt) := HBp.cell 38
  have cq38 : w.cell? ⟨q, 38, none⟩ = some (.int .i64 H.slt) := HBq.cell 38
  have ltp := HBp.lt
  have ltq := HBq.lt
  have HS := Lib.hid (Ow.start w)
  clear HBp HBq
  go_enter Try.func47, Try.ntmps47
  go_wp2
  refine wp_region_rs (by kernel_rfl) (by kernel_rfl) (by kernel_rfl) ?_
  repeat (first
    | (refine B_skip ?_ ?_; (· rfl); (try simp only [Act.put, List.setIfInBounds_toArray, List.set_cons_zero, List.set_cons_succ]))
    | (refine B_move rfl ?_ ?_; (· rfl); (try simp only [Act.eval, Act.put, Array.getD_eq_getD_getElem?, List.getElem?_toArray, List.getElem?_cons_succ, List.getElem?_cons_zero, Option.getD_some, List.setIfInBounds_toArray, List.set_cons_zero, List.set_cons_succ]))
    | (refine B_plain ?_ ?_; (· rfl); intro K hK; go_big_quiet_op; with_reducible refine hK _ ?_; clear hK K)
    | (refine B_nilck rfl rfl ?_ ?_; (· rfl); (try simp only [Act.put, List.setIfInBounds_toArray, List.set_cons_zero, List.set_cons_succ])))
  refine B_nil ?_ rfl ?_ ?_
  · kernel_rfl
  · rfl
  rintro _ ⟨⟨g1, d1⟩, rfl⟩
  simp only [fin, Act.put, List.setIfInBounds_toArray, List.set_cons_zero, List.set_cons_succ]
  go_wp2
  go_ret
  exact ⟨rfl, HS.out.plus _ _⟩
set_option maxRecDepth 100000 in
set_option maxHeartbeats 4000000 in
theorem gs_f3 (w : World) (p q : Nat) (G H : GS) (v1 v2 : Value) (HBp : HasBlk w p 132 (gcs G v1)) (HBq : HasBlk w q 132 (gcs H v2)) (k0 : G.nonce = H.nonce) (k1 : G.towers = H.towers) (k2 : G.need = H.need) (k3 : ¬ (G.noted = H.noted)) :
    Calls Try.prog 47 #[ptr p, ptr q] w fun e w' => e = .returned (.bool false) ∧ Ow w' w [] := by
  have e0 : (G.nonce == H.nonce) = true := by simp [k0]
  have e1 := natEq_t k1
  have e2 := natEq_t k2
  have e3 : (G.noted == H.noted) = false := by simp [k3]
  have cp0 : w.cell? ⟨p, 0, none⟩ = some (.int .u8 (by8 G.nonce 0)) := HBp.cell 0
  have cq0 : w.cell? ⟨q, 0, none⟩ = some (.int .u8 (by8 H.nonce 0)) := HBq.cell 0
  have cp1 : w.cell? ⟨p, 1, none⟩ = some (.int .u8 (by8 G.nonce 1)) := HBp.cell 1
  have cq1 : w.cell? ⟨q, 1, none⟩ = some (.int .u8 (by8 H.nonce 1)) := HBq.cell 1
  have cp2 : w.cell? ⟨p, 2, none⟩ = some (.int .u8 (by8 G.nonce 2)) := HBp.cell 2
  have cq2 : w.cell? ⟨q, 2, none⟩ = some (.int .u8 (by8 H.nonce 2)) := HBq.cell 2
  have cp3 : w.cell? ⟨p, 3, none⟩ = some (.int .u8 (by8 G.nonce 3)) := HBp.cell 3
  have cq3 : w.cell? ⟨q, 3, none⟩ = some (.int .u8 (by8 H.nonce 3)) := HBq.cell 3
  have cp4 : w.cell? ⟨p, 4, none⟩ = some (.int .u8 (by8 G.nonce 4)) := HBp.cell 4
  have cq4 : w.cell? ⟨q, 4, none⟩ = some (.int .u8 (by8 H.nonce 4)) := HBq.cell 4
  have cp5 : w.cell? ⟨p, 5, none⟩ = some (.int .u8 (by8 G.nonce 5)) := HBp.cell 5
  have cq5 : w.cell? ⟨q, 5, none⟩ = some (.int .u8 (by8 H.nonce 5)) := HBq.cell 5
  have cp6 : w.cell? ⟨p, 6, none⟩ = some (.int .u8 (by8 G.nonce 6)) := HBp.cell 6
  have cq6 : w.cell? ⟨q, 6, none⟩ = some (.int .u8 (by8 H.nonce 6)) := HBq.cell 6
  have cp7 : w.cell? ⟨p, 7, none⟩ = some (.int .u8 (by8 G.nonce 7)) := HBp.cell 7
  have cq7 : w.cell? ⟨q, 7, none⟩ = some (.int .u8 (by8 H.nonce 7)) := HBq.cell 7
  have cp8 : w.cell? ⟨p, 8, none⟩ = some (.int .i64 G.towers) := HBp.cell 8
  have cq8 : w.cell? ⟨q, 8, none⟩ = some (.int .i64 H.towers) := HBq.cell 8
  have cp9 : w.cell? ⟨p, 9, none⟩ = some (.int .i64 G.need) := HBp.cell 9
  have cq9 : w.cell? ⟨q, 9, none⟩ = some (.int .i64 H.need) := HBq.cell 9
  have cp10 : w.cell? ⟨p, 10, none⟩ = some (.bool G.noted) := HBp.cell 10
  have cq10 : w.cell? ⟨q, 10, none⟩ = some (.bool H.noted) := HBq.cell 10
  have cp11 : w.cell? ⟨p, 11, none⟩ = some (.int .u8 (by8 G.hint 0)) := HBp.cell 11
  have cq11 : w.cell? ⟨q, 11, none⟩ = some (.int .u8 (by8 H.hint 0)) := HBq.cell 11
  have cp12 : w.cell? ⟨p, 12, none⟩ = some (.int .u8 (by8 G.hint 1)) := HBp.cell 12
  have cq12 : w.cell? ⟨q, 12, none⟩ = some (.int .u8 (by8 H.hint 1)) := HBq.cell 12
  have cp13 : w.cell? ⟨p, 13, none⟩ = some (.int .u8 (by8 G.hint 2)) := HBp.cell 13
  have cq13 : w.cell? ⟨q, 13, none⟩ = some (.int .u8 (by8 H.hint 2)) := HBq.cell 13
  have cp14 : w.cell? ⟨p, 14, none⟩ = some (.int .u8 (by8 G.hint 3)) := HBp.cell 14
  have cq14 : w.cell? ⟨q, 14, none⟩ = some (.int .u8 (by8 H.hint 3)) := HBq.cell 14
  have cp15 : w.cell? ⟨p, 15, none⟩ = some (.int .u8 (by8 G.hint 4)) := HBp.cell 15
  have cq15 : w.cell? ⟨q, 15, none⟩ = some (.int .u8 (by8 H.hint 4)) := HBq.cell 15
  have cp16 : w.cell? ⟨p, 16, none⟩ = some (.int .u8 (by8 G.hint 5)) := HBp.cell 16
  have cq16 : w.cell? ⟨q, 16, none⟩ = some (.int .u8 (by8 H.hint 5)) := HBq.cell 16
  have cp17 : w.cell? ⟨p, 17, none⟩ = some (.int .u8 (by8 G.hint 6)) := HBp.cell 17
  have cq17 : w.cell? ⟨q, 17, none⟩ = some (.int .u8 (by8 H.hint 6)) := HBq.cell 17
  have cp18 : w.cell? ⟨p, 18, none⟩ = some (.int .u8 (by8 G.hint 7)) := HBp.cell 18
  have cq18 : w.cell? ⟨q, 18, none⟩ = some (.int .u8 (by8 H.hint 7)) := HBq.cell 18
  have cp19 : w.cell? ⟨p, 19, none⟩ = some (.int .i64 G.num) := HBp.cell 19
  have cq19 : w.cell? ⟨q, 19, none⟩ = some (.int .i64 H.num) := HBq.cell 19
  have cp20 : w.cell? ⟨p, 20, none⟩ = some (v1) := HBp.cell 20
  have cq20 : w.cell? ⟨q, 20, none⟩ = some (v2) := HBq.cell 20
  have cp21 : w.cell? ⟨p, 21, none⟩ = some (.int .i64 (G.said 0)) := HBp.cell 21
  have cq21 : w.cell? ⟨q, 21, none⟩ = some (.int .i64 (H.said 0)) := HBq.cell 21
  have cp22 : w.cell? ⟨p, 22, none⟩ = some (.int .i64 (G.said 1)) := HBp.cell 22
  have cq22 : w.cell? ⟨q, 22, none⟩ = some (.int .i64 (H.said 1)) := HBq.cell 22
  have cp23 : w.cell? ⟨p, 23, none⟩ = some (.int .i64 (G.said 2)) := HBp.cell 23
  have cq23 : w.cell? ⟨q, 23, none⟩ = some (.int .i64 (H.said 2)) := HBq.cell 23
  have cp24 : w.cell? ⟨p, 24, none⟩ = some (.int .i64 (G.said 3)) := HBp.cell 24
  have cq24 : w.cell? ⟨q, 24, none⟩ = some (.int .i64 (H.said 3)) := HBq.cell 24
  have cp25 : w.cell? ⟨p, 25, none⟩ = some (.int .i64 (G.said 4)) := HBp.cell 25
  have cq25 : w.cell? ⟨q, 25, none⟩ = some (.int .i64 (H.said 4)) := HBq.cell 25
  have cp26 : w.cell? ⟨p, 26, none⟩ = some (.int .i64 (G.said 5)) := HBp.cell 26
  have cq26 : w.cell? ⟨q, 26, none⟩ = some (.int .i64 (H.said 5)) := HBq.cell 26
  have cp27 : w.cell? ⟨p, 27, none⟩ = some (.int .i64 (G.said 6)) := HBp.cell 27
  have cq27 : w.cell? ⟨q, 27, none⟩ = some (.int .i64 (H.said 6)) := HBq.cell 27
  have cp28 : w.cell? ⟨p, 28, none⟩ = some (.int .i64 (G.said 7)) := HBp.cell 28
  have cq28 : w.cell? ⟨q, 28, none⟩ = some (.int .i64 (H.said 7)) := HBq.cell 28
  have cp29 : w.cell? ⟨p, 29, none⟩ = some (.int .i64 (G.said 8)) := HBp.cell 29
  have cq29 : w.cell? ⟨q, 29, none⟩ = some (.int .i64 (H.said 8)) := HBq.cell 29
  have cp30 : w.cell? ⟨p, 30, none⟩ = some (.int .i64 (G.said 9)) := HBp.cell 30
  have cq30 : w.cell? ⟨q, 30, none⟩ = some (.int .i64 (H.said 9)) := HBq.cell 30
  have cp31 : w.cell? ⟨p, 31, none⟩ = some (.int .i64 (G.said 10)) := HBp.cell 31
  have cq31 : w.cell? ⟨q, 31, none⟩ = some (.int .i64 (H.said 10)) := HBq.cell 31
  have cp32 : w.cell? ⟨p, 32, none⟩ = some (.int .i64 (G.said 11)) := HBp.cell 32
  have cq32 : w.cell? ⟨q, 32, none⟩ = some (.int .i64 (H.said 11)) := HBq.cell 32
  have cp33 : w.cell? ⟨p, 33, none⟩ = some (.int .i64 (G.said 12)) := HBp.cell 33
  have cq33 : w.cell? ⟨q, 33, none⟩ = some (.int .i64 (H.said 12)) := HBq.cell 33
  have cp34 : w.cell? ⟨p, 34, none⟩ = some (.int .i64 (G.said 13)) := HBp.cell 34
  have cq34 : w.cell? ⟨q, 34, none⟩ = some (.int .i64 (H.said 13)) := HBq.cell 34
  have cp35 : w.cell? ⟨p, 35, none⟩ = some (.int .i64 (G.said 14)) := HBp.cell 35
  have cq35 : w.cell? ⟨q, 35, none⟩ = some (.int .i64 (H.said 14)) := HBq.cell 35
  have cp36 : w.cell? ⟨p, 36, none⟩ = some (.int .i64 (G.said 15)) := HBp.cell 36
  have cq36 : w.cell? ⟨q, 36, none⟩ = some (.int .i64 (H.said 15)) := HBq.cell 36
  have cp37 : w.cell? ⟨p, 37, none⟩ = some (.int .i64 G.slf) := HBp.cell 37
  have cq37 : w.cell? ⟨q, 37, none⟩ = some (.int .i64 H.slf) := HBq.cell 37
  have cp38 : w.cell? ⟨p, 38, none⟩ = some (.int .i64 G.slt) := HBp.cell 38
  have cq38 : w.cell? ⟨q, 38, none⟩ = some (.int .i64 H.slt) := HBq.cell 38
  have ltp := HBp.lt
  have ltq := HBq.lt
  have HS := Lib.hid (Ow.start w)
  clear HBp HBq
  go_enter Try.func47, Try.ntmps47
  go_wp2
  refine wp_region_rs (by kernel_rfl) (by kernel_rfl) (by kernel_rfl) ?_
  repeat (first
    | (refine B_skip ?_ ?_; (· rfl); (try simp only [Act.put, List.setIfInBounds_toArray, List.set_cons_zero, List.set_cons_succ]))
    | (refine B_move rfl ?_ ?_; (· rfl); (try simp only [Act.eval, Act.put, Array.getD_eq_getD_getElem?, List.getElem?_toArray, List.getElem?_cons_succ, List.getElem?_cons_zero, Option.getD_some, List.setIfInBounds_toArray, List.set_cons_zero, List.set_cons_succ]))
    | (refine B_plain ?_ ?_; (· rfl); intro K hK; go_big_quiet_op; with_reducible refine hK _ ?_; clear hK K)
    | (refine B_nilck rfl rfl ?_ ?_; (· rfl); (try simp only [Act.put, List.setIfInBounds_toArray, List.set_cons_zero, List.set_cons_succ])))
  refine B_nil ?_ rfl ?_ ?_
  · kernel_rfl
  · rfl
  rintro _ ⟨⟨g1, d1⟩, rfl⟩
  simp only [fin, Act.put, List.setIfInBounds_toArray, List.set_cons_zero, List.set_cons_succ]
  go_wp2
  go_ret
  exact ⟨rfl, HS.out.plus _ _⟩
set_option maxRecDepth 100000 in
set_option maxHeartbeats 4000000 in
theorem gs_f4 (w : World) (p q : Nat) (G H : GS) (v1 v2 : Value) (HBp : HasBlk w p 132 (gcs G v1)) (HBq : HasBlk w q 132 (gcs H v2)) (k0 : G.nonce = H.nonce) (k1 : G.towers = H.towers) (k2 : G.need = H.need) (k3 : G.noted = H.noted) (k4 : ¬ (G.hint = H.hint)) :
    Calls Try.prog 47 #[ptr p, ptr q] w fun e w' => e = .returned (.bool false) ∧ Ow w' w [] := by
  have e0 : (G.nonce == H.nonce) = true := by simp [k0]
  have e1 := natEq_t k1
  have e2 := natEq_t k2
  have e3 : (G.noted == H.noted) = true := by simp [k3]
  have e4 : (G.hint == H.hint) = false := by simp [k4]
  have cp0 : w.cell? ⟨p, 0, none⟩ = some (.int .u8 (by8 G.nonce 0)) := HBp.cell 0
  have cq0 : w.cell? ⟨q, 0, none⟩ = some (.int .u8 (by8 H.nonce 0)) := HBq.cell 0
  have cp1 : w.cell? ⟨p, 1, none⟩ = some (.int .u8 (by8 G.nonce 1)) := HBp.cell 1
  have cq1 : w.cell? ⟨q, 1, none⟩ = some (.int .u8 (by8 H.nonce 1)) := HBq.cell 1
  have cp2 : w.cell? ⟨p, 2, none⟩ = some (.int .u8 (by8 G.nonce 2)) := HBp.cell 2
  have cq2 : w.cell? ⟨q, 2, none⟩ = some (.int .u8 (by8 H.nonce 2)) := HBq.cell 2
  have cp3 : w.cell? ⟨p, 3, none⟩ = some (.int .u8 (by8 G.nonce 3)) := HBp.cell 3
  have cq3 : w.cell? ⟨q, 3, none⟩ = some (.int .u8 (by8 H.nonce 3)) := HBq.cell 3
  have cp4 : w.cell? ⟨p, 4, none⟩ = some (.int .u8 (by8 G.nonce 4)) := HBp.cell 4
  have cq4 : w.cell? ⟨q, 4, none⟩ = some (.int .u8 (by8 H.nonce 4)) := HBq.cell 4
  have cp5 : w.cell? ⟨p, 5, none⟩ = some (.int .u8 (by8 G.nonce 5)) := HBp.cell 5
  have cq5 : w.cell? ⟨q, 5, none⟩ = some (.int .u8 (by8 H.nonce 5)) := HBq.cell 5
  have cp6 : w.cell? ⟨p, 6, none⟩ = some (.int .u8 (by8 G.nonce 6)) := HBp.cell 6
  have cq6 : w.cell? ⟨q, 6, none⟩ = some (.int .u8 (by8 H.nonce 6)) := HBq.cell 6
  have cp7 : w.cell? ⟨p, 7, none⟩ = some (.int .u8 (by8 G.nonce 7)) := HBp.cell 7
  have cq7 : w.cell? ⟨q, 7, none⟩ = some (.int .u8 (by8 H.nonce 7)) := HBq.cell 7
  have cp8 : w.cell? ⟨p, 8, none⟩ = some (.int .i64 G.towers) := HBp.cell 8
  have cq8 : w.cell? ⟨q, 8, none⟩ = some (.int .i64 H.towers) := HBq.cell 8
  have cp9 : w.cell? ⟨p, 9, none⟩ = some (.int .i64 G.need) := HBp.cell 9
  have cq9 : w.cell? ⟨q, 9, none⟩ = some (.int .i64 H.need) := HBq.cell 9
  have cp10 : w.cell? ⟨p, 10, none⟩ = some (.bool G.noted) := HBp.cell 10
  have cq10 : w.cell? ⟨q, 10, none⟩ = some (.bool H.noted) := HBq.cell 10
  have cp11 : w.cell? ⟨p, 11, none⟩ = some (.int .u8 (by8 G.hint 0)) := HBp.cell 11
  have cq11 : w.cell? ⟨q, 11, none⟩ = some (.int .u8 (by8 H.hint 0)) := HBq.cell 11
  have cp12 : w.cell? ⟨p, 12, none⟩ = some (.int .u8 (by8 G.hint 1)) := HBp.cell 12
  have cq12 : w.cell? ⟨q, 12, none⟩ = some (.int .u8 (by8 H.hint 1)) := HBq.cell 12
  have cp13 : w.cell? ⟨p, 13, none⟩ = some (.int .u8 (by8 G.hint 2)) := HBp.cell 13
  have cq13 : w.cell? ⟨q, 13, none⟩ = some (.int .u8 (by8 H.hint 2)) := HBq.cell 13
  have cp14 : w.cell? ⟨p, 14, none⟩ = some (.int .u8 (by8 G.hint 3)) := HBp.cell 14
  have cq14 : w.cell? ⟨q, 14, none⟩ = some (.int .u8 (by8 H.hint 3)) := HBq.cell 14
  have cp15 : w.cell? ⟨p, 15, none⟩ = some (.int .u8 (by8 G.hint 4)) := HBp.cell 15
  have cq15 : w.cell? ⟨q, 15, none⟩ = some (.int .u8 (by8 H.hint 4)) := HBq.cell 15
  have cp16 : w.cell? ⟨p, 16, none⟩ = some (.int .u8 (by8 G.hint 5)) := HBp.cell 16
  have cq16 : w.cell? ⟨q, 16, none⟩ = some (.int .u8 (by8 H.hint 5)) := HBq.cell 16
  have cp17 : w.cell? ⟨p, 17, none⟩ = some (.int .u8 (by8 G.hint 6)) := HBp.cell 17
  have cq17 : w.cell? ⟨q, 17, none⟩ = some (.int .u8 (by8 H.hint 6)) := HBq.cell 17
  have cp18 : w.cell? ⟨p, 18, none⟩ = some (.int .u8 (by8 G.hint 7)) := HBp.cell 18
  have cq18 : w.cell? ⟨q, 18, none⟩ = some (.int .u8 (by8 H.hint 7)) := HBq.cell 18
  have cp19 : w.cell? ⟨p, 19, none⟩ = some (.int .i64 G.num) := HBp.cell 19
  have cq19 : w.cell? ⟨q, 19, none⟩ = some (.int .i64 H.num) := HBq.cell 19
  have cp20 : w.cell? ⟨p, 20, none⟩ = some (v1) := HBp.cell 20
  have cq20 : w.cell? ⟨q, 20, none⟩ = some (v2) := HBq.cell 20
  have cp21 : w.cell? ⟨p, 21, none⟩ = some (.int .i64 (G.said 0)) := HBp.cell 21
  have cq21 : w.cell? ⟨q, 21, none⟩ = some (.int .i64 (H.said 0)) := HBq.cell 21
  have cp22 : w.cell? ⟨p, 22, none⟩ = some (.int .i64 (G.said 1)) := HBp.cell 22
  have cq22 : w.cell? ⟨q, 22, none⟩ = some (.int .i64 (H.said 1)) := HBq.cell 22
  have cp23 : w.cell? ⟨p, 23, none⟩ = some (.int .i64 (G.said 2)) := HBp.cell 23
  have cq23 : w.cell? ⟨q, 23, none⟩ = some (.int .i64 (H.said 2)) := HBq.cell 23
  have cp24 : w.cell? ⟨p, 24, none⟩ = some (.int .i64 (G.said 3)) := HBp.cell 24
  have cq24 : w.cell? ⟨q, 24, none⟩ = some (.int .i64 (H.said 3)) := HBq.cell 24
  have cp25 : w.cell? ⟨p, 25, none⟩ = some (.int .i64 (G.said 4)) := HBp.cell 25
  have cq25 : w.cell? ⟨q, 25, none⟩ = some (.int .i64 (H.said 4)) := HBq.cell 25
  have cp26 : w.cell? ⟨p, 26, none⟩ = some (.int .i64 (G.said 5)) := HBp.cell 26
  have cq26 : w.cell? ⟨q, 26, none⟩ = some (.int .i64 (H.said 5)) := HBq.cell 26
  have cp27 : w.cell? ⟨p, 27, none⟩ = some (.int .i64 (G.said 6)) := HBp.cell 27
  have cq27 : w.cell? ⟨q, 27, none⟩ = some (.int .i64 (H.said 6)) := HBq.cell 27
  have cp28 : w.cell? ⟨p, 28, none⟩ = some (.int .i64 (G.said 7)) := HBp.cell 28
  have cq28 : w.cell? ⟨q, 28, none⟩ = some (.int .i64 (H.said 7)) := HBq.cell 28
  have cp29 : w.cell? ⟨p, 29, none⟩ = some (.int .i64 (G.said 8)) := HBp.cell 29
  have cq29 : w.cell? ⟨q, 29, none⟩ = some (.int .i64 (H.said 8)) := HBq.cell 29
  have cp30 : w.cell? ⟨p, 30, none⟩ = some (.int .i64 (G.said 9)) := HBp.cell 30
  have cq30 : w.cell? ⟨q, 30, none⟩ = some (.int .i64 (H.said 9)) := HBq.cell 30
  have cp31 : w.cell? ⟨p, 31, none⟩ = some (.int .i64 (G.said 10)) := HBp.cell 31
  have cq31 : w.cell? ⟨q, 31, none⟩ = some (.int .i64 (H.said 10)) := HBq.cell 31
  have cp32 : w.cell? ⟨p, 32, none⟩ = some (.int .i64 (G.said 11)) := HBp.cell 32
  have cq32 : w.cell? ⟨q, 32, none⟩ = some (.int .i64 (H.said 11)) := HBq.cell 32
  have cp33 : w.cell? ⟨p, 33, none⟩ = some (.int .i64 (G.said 12)) := HBp.cell 33
  have cq33 : w.cell? ⟨q, 33, none⟩ = some (.int .i64 (H.said 12)) := HBq.cell 33
  have cp34 : w.cell? ⟨p, 34, none⟩ = some (.int .i64 (G.said 13)) := HBp.cell 34
  have cq34 : w.cell? ⟨q, 34, none⟩ = some (.int .i64 (H.said 13)) := HBq.cell 34
  have cp35 : w.cell? ⟨p, 35, none⟩ = some (.int .i64 (G.said 14)) := HBp.cell 35
  have cq35 : w.cell? ⟨q, 35, none⟩ = some (.int .i64 (H.said 14)) := HBq.cell 35
  have cp36 : w.cell? ⟨p, 36, none⟩ = some (.int .i64 (G.said 15)) := HBp.cell 36
  have cq36 : w.cell? ⟨q, 36, none⟩ = some (.int .i64 (H.said 15)) := HBq.cell 36
  have cp37 : w.cell? ⟨p, 37, none⟩ = some (.int .i64 G.slf) := HBp.cell 37
  have cq37 : w.cell? ⟨q, 37, none⟩ = some (.int .i64 H.slf) := HBq.cell 37
  have cp38 : w.cell? ⟨p, 38, none⟩ = some (.int .i64 G.slt) := HBp.cell 38
  have cq38 : w.cell? ⟨q, 38, none⟩ = some (.int .i64 H.slt) := HBq.cell 38
  have ltp := HBp.lt
  have ltq := HBq.lt
  have HS := Lib.hid (Ow.start w)
  clear HBp HBq
  go_enter Try.func47, Try.ntmps47
  go_wp2
  refine wp_region_rs (by kernel_rfl) (by kernel_rfl) (by kernel_rfl) ?_
  repeat (first
    | (refine B_skip ?_ ?_; (· rfl); (try simp only [Act.put, List.setIfInBounds_toArray, List.set_cons_zero, List.set_cons_succ]))
    | (refine B_move rfl ?_ ?_; (· rfl); (try simp only [Act.eval, Act.put, Array.getD_eq_getD_getElem?, List.getElem?_toArray, List.getElem?_cons_succ, List.getElem?_cons_zero, Option.getD_some, List.setIfInBounds_toArray, List.set_cons_zero, List.set_cons_succ]))
    | (refine B_plain ?_ ?_; (· rfl); intro K hK; go_big_quiet_op; with_reducible refine hK _ ?_; clear hK K)
    | (refine B_nilck rfl rfl ?_ ?_; (· rfl); (try simp only [Act.put, List.setIfInBounds_toArray, List.set_cons_zero, List.set_cons_succ])))
  refine B_nil ?_ rfl ?_ ?_
  · kernel_rfl
  · rfl
  rintro _ ⟨⟨g1, d1⟩, rfl⟩
  simp only [fin, Act.put, List.setIfInBounds_toArray, List.set_cons_zero, List.set_cons_succ]
  go_wp2
  go_ret
  exact ⟨rfl, HS.out.plus _ _⟩
set_option maxRecDepth 100000 in
set_option maxHeartbeats 4000000 in
theorem gs_f5 (w : World) (p q : Nat) (G H : GS) (v1 v2 : Value) (HBp : HasBlk w p 132 (gcs G v1)) (HBq : HasBlk w q 132 (gcs H v2)) (k0 : G.nonce = H.nonce) (k1 : G.towers = H.towers) (k2 : G.need = H.need) (k3 : G.noted = H.noted) (k4 : G.hint = H.hint) (k5 : ¬ (G.num = H.num)) :
    Calls Try.prog 47 #[ptr p, ptr q] w fun e w' => e = .returned (.bool false) ∧ Ow w' w [] := by
  have e0 : (G.nonce == H.nonce) = true := by simp [k0]
  have e1 := natEq_t k1
  have e2 := natEq_t k2
  have e3 : (G.noted == H.noted) = true := by simp [k3]
  have e4 : (G.hint == H.hint) = true := by simp [k4]
  have e5 : (G.num == H.num) = false := by simp [k5]
  have cp0 : w.cell? ⟨p, 0, none⟩ = some (.int .u8 (by8 G.nonce 0)) := HBp.cell 0
  have cq0 : w.cell? ⟨q, 0, none⟩ = some (.int .u8 (by8 H.nonce 0)) := HBq.cell 0
  have cp1 : w.cell? ⟨p, 1, none⟩ = some (.int .u8 (by8 G.nonce 1)) := HBp.cell 1
  have cq1 : w.cell? ⟨q, 1, none⟩ = some (.int .u8 (by8 H.nonce 1)) := HBq.cell 1
  have cp2 : w.cell? ⟨p, 2, none⟩ = some (.int .u8 (by8 G.nonce 2)) := HBp.cell 2
  have cq2 : w.cell? ⟨q, 2, none⟩ = some (.int .u8 (by8 H.nonce 2)) := HBq.cell 2
  have cp3 : w.cell? ⟨p, 3, none⟩ = some (.int .u8 (by8 G.nonce 3)) := HBp.cell 3
  have cq3 : w.cell? ⟨q, 3, none⟩ = some (.int .u8 (by8 H.nonce 3)) := HBq.cell 3
  have cp4 : w.cell? ⟨p, 4, none⟩ = some (.int .u8 (by8 G.nonce 4)) := HBp.cell 4
  have cq4 : w.cell? ⟨q, 4, none⟩ = some (.int .u8 (by8 H.nonce 4)) := HBq.cell 4
  have cp5 : w.cell? ⟨p, 5, none⟩ = some (.int .u8 (by8 G.nonce 5)) := HBp.cell 5
  have cq5 : w.cell? ⟨q, 5, none⟩ = some (.int .u8 (by8 H.nonce 5)) := HBq.cell 5
  have cp6 : w.cell? ⟨p, 6, none⟩ = some (.int .u8 (by8 G.nonce 6)) := HBp.cell 6
  have cq6 : w.cell? ⟨q, 6, none⟩ = some (.int .u8 (by8 H.nonce 6)) := HBq.cell 6
  have cp7 : w.cell? ⟨p, 7, none⟩ = some (.int .u8 (by8 G.nonce 7)) := HBp.cell 7
  have cq7 : w.cell? ⟨q, 7, none⟩ = some (.int .u8 (by8 H.nonce 7)) := HBq.cell 7
  have cp8 : w.cell? ⟨p, 8, none⟩ = some (.int .i64 G.towers) := HBp.cell 8
  have cq8 : w.cell? ⟨q, 8, none⟩ = some (.int .i64 H.towers) := HBq.cell 8
  have cp9 : w.cell? ⟨p, 9, none⟩ = some (.int .i64 G.need) := HBp.cell 9
  have cq9 : w.cell? ⟨q, 9, none⟩ = some (.int .i64 H.need) := HBq.cell 9
  have cp10 : w.cell? ⟨p, 10, none⟩ = some (.bool G.noted) := HBp.cell 10
  have cq10 : w.cell? ⟨q, 10, none⟩ = some (.bool H.noted) := HBq.cell 10
  have cp11 : w.cell? ⟨p, 11, none⟩ = some (.int .u8 (by8 G.hint 0)) := HBp.cell 11
  have cq11 : w.cell? ⟨q, 11, none⟩ = some (.int .u8 (by8 H.hint 0)) := HBq.cell 11
  have cp12 : w.cell? ⟨p, 12, none⟩ = some (.int .u8 (by8 G.hint 1)) := HBp.cell 12
  have cq12 : w.cell? ⟨q, 12, none⟩ = some (.int .u8 (by8 H.hint 1)) := HBq.cell 12
  have cp13 : w.cell? ⟨p, 13, none⟩ = some (.int .u8 (by8 G.hint 2)) := HBp.cell 13
  have cq13 : w.cell? ⟨q, 13, none⟩ = some (.int .u8 (by8 H.hint 2)) := HBq.cell 13
  have cp14 : w.cell? ⟨p, 14, none⟩ = some (.int .u8 (by8 G.hint 3)) := HBp.cell 14
  have cq14 : w.cell? ⟨q, 14, none⟩ = some (.int .u8 (by8 H.hint 3)) := HBq.cell 14
  have cp15 : w.cell? ⟨p, 15, none⟩ = some (.int .u8 (by8 G.hint 4)) := HBp.cell 15
  have cq15 : w.cell? ⟨q, 15, none⟩ = some (.int .u8 (by8 H.hint 4)) := HBq.cell 15
  have cp16 : w.cell? ⟨p, 16, none⟩ = some (.int .u8 (by8 G.hint 5)) := HBp.cell 16
  have cq16 : w.cell? ⟨q, 16, none⟩ = some (.int .u8 (by8 H.hint 5)) := HBq.cell 16
  have cp17 : w.cell? ⟨p, 17, none⟩ = some (.int .u8 (by8 G.hint 6)) := HBp.cell 17
  have cq17 : w.cell? ⟨q, 17, none⟩ = some (.int .u8 (by8 H.hint 6)) := HBq.cell 17
  have cp18 : w.cell? ⟨p, 18, none⟩ = some (.int .u8 (by8 G.hint 7)) := HBp.cell 18
  have cq18 : w.cell? ⟨q, 18, none⟩ = some (.int .u8 (by8 H.hint 7)) := HBq.cell 18
  have cp19 : w.cell? ⟨p, 19, none⟩ = some (.int .i64 G.num) := HBp.cell 19
  have cq19 : w.cell? ⟨q, 19, none⟩ = some (.int .i64 H.num) := HBq.cell 19
  have cp20 : w.cell? ⟨p, 20, none⟩ = some (v1) := HBp.cell 20
  have cq20 : w.cell? ⟨q, 20, none⟩ = some (v2) := HBq.cell 20
  have cp21 : w.cell? ⟨p, 21, none⟩ = some (.int .i64 (G.said 0)) := HBp.cell 21
  have cq21 : w.cell? ⟨q, 21, none⟩ = some (.int .i64 (H.said 0)) := HBq.cell 21
  have cp22 : w.cell? ⟨p, 22, none⟩ = some (.int .i64 (G.said 1)) := HBp.cell 22
  have cq22 : w.cell? ⟨q, 22, none⟩ = some (.int .i64 (H.said 1)) := HBq.cell 22
  have cp23 : w.cell? ⟨p, 23, none⟩ = some (.int .i64 (G.said 2)) := HBp.cell 23
  have cq23 : w.cell? ⟨q, 23, none⟩ = some (.int .i64 (H.said 2)) := HBq.cell 23
  have cp24 : w.cell? ⟨p, 24, none⟩ = some (.int .i64 (G.said 3)) := HBp.cell 24
  have cq24 : w.cell? ⟨q, 24, none⟩ = some (.int .i64 (H.said 3)) := HBq.cell 24
  have cp25 : w.cell? ⟨p, 25, none⟩ = some (.int .i64 (G.said 4)) := HBp.cell 25
  have cq25 : w.cell? ⟨q, 25, none⟩ = some (.int .i64 (H.said 4)) := HBq.cell 25
  have cp26 : w.cell? ⟨p, 26, none⟩ = some (.int .i64 (G.said 5)) := HBp.cell 26
  have cq26 : w.cell? ⟨q, 26, none⟩ = some (.int .i64 (H.said 5)) := HBq.cell 26
  have cp27 : w.cell? ⟨p, 27, none⟩ = some (.int .i64 (G.said 6)) := HBp.cell 27
  have cq27 : w.cell? ⟨q, 27, none⟩ = some (.int .i64 (H.said 6)) := HBq.cell 27
  have cp28 : w.cell? ⟨p, 28, none⟩ = some (.int .i64 (G.said 7)) := HBp.cell 28
  have cq28 : w.cell? ⟨q, 28, none⟩ = some (.int .i64 (H.said 7)) := HBq.cell 28
  have cp29 : w.cell? ⟨p, 29, none⟩ = some (.int .i64 (G.said 8)) := HBp.cell 29
  have cq29 : w.cell? ⟨q, 29, none⟩ = some (.int .i64 (H.said 8)) := HBq.cell 29
  have cp30 : w.cell? ⟨p, 30, none⟩ = some (.int .i64 (G.said 9)) := HBp.cell 30
  have cq30 : w.cell? ⟨q, 30, none⟩ = some (.int .i64 (H.said 9)) := HBq.cell 30
  have cp31 : w.cell? ⟨p, 31, none⟩ = some (.int .i64 (G.said 10)) := HBp.cell 31
  have cq31 : w.cell? ⟨q, 31, none⟩ = some (.int .i64 (H.said 10)) := HBq.cell 31
  have cp32 : w.cell? ⟨p, 32, none⟩ = some (.int .i64 (G.said 11)) := HBp.cell 32
  have cq32 : w.cell? ⟨q, 32, none⟩ = some (.int .i64 (H.said 11)) := HBq.cell 32
  have cp33 : w.cell? ⟨p, 33, none⟩ = some (.int .i64 (G.said 12)) := HBp.cell 33
  have cq33 : w.cell? ⟨q, 33, none⟩ = some (.int .i64 (H.said 12)) := HBq.cell 33
  have cp34 : w.cell? ⟨p, 34, none⟩ = some (.int .i64 (G.said 13)) := HBp.cell 34
  have cq34 : w.cell? ⟨q, 34, none⟩ = some (.int .i64 (H.said 13)) := HBq.cell 34
  have cp35 : w.cell? ⟨p, 35, none⟩ = some (.int .i64 (G.said 14)) := HBp.cell 35
  have cq35 : w.cell? ⟨q, 35, none⟩ = some (.int .i64 (H.said 14)) := HBq.cell 35
  have cp36 : w.cell? ⟨p, 36, none⟩ = some (.int .i64 (G.said 15)) := HBp.cell 36
  have cq36 : w.cell? ⟨q, 36, none⟩ = some (.int .i64 (H.said 15)) := HBq.cell 36
  have cp37 : w.cell? ⟨p, 37, none⟩ = some (.int .i64 G.slf) := HBp.cell 37
  have cq37 : w.cell? ⟨q, 37, none⟩ = some (.int .i64 H.slf) := HBq.cell 37
  have cp38 : w.cell? ⟨p, 38, none⟩ = some (.int .i64 G.slt) := HBp.cell 38
  have cq38 : w.cell? ⟨q, 38, none⟩ = some (.int .i64 H.slt) := HBq.cell 38
  have ltp := HBp.lt
  have ltq := HBq.lt
  have HS := Lib.hid (Ow.start w)
  clear HBp HBq
  go_enter Try.func47, Try.ntmps47
  go_wp2
  refine wp_region_rs (by kernel_rfl) (by kernel_rfl) (by kernel_rfl) ?_
  repeat (first
    | (refine B_skip ?_ ?_; (· rfl); (try simp only [Act.put, List.setIfInBounds_toArray, List.set_cons_zero, List.set_cons_succ]))
    | (refine B_move rfl ?_ ?_; (· rfl); (try simp only [Act.eval, Act.put, Array.getD_eq_getD_getElem?, List.getElem?_toArray, List.getElem?_cons_succ, List.getElem?_cons_zero, Option.getD_some, List.setIfInBounds_toArray, List.set_cons_zero, List.set_cons_succ]))
    | (refine B_plain ?_ ?_; (· rfl); intro K hK; go_big_quiet_op; with_reducible refine hK _ ?_; clear hK K)
    | (refine B_nilck rfl rfl ?_ ?_; (· rfl); (try simp only [Act.put, List.setIfInBounds_toArray, List.set_cons_zero, List.set_cons_succ])))
  refine B_nil ?_ rfl ?_ ?_
  · kernel_rfl
  · rfl
  rintro _ ⟨⟨g1, d1⟩, rfl⟩
  simp only [fin, Act.put, List.setIfInBounds_toArray, List.set_cons_zero, List.set_cons_succ]
  go_wp2
  go_ret
  exact ⟨rfl, HS.out.plus _ _⟩
set_option maxRecDepth 100000 in
set_option maxHeartbeats 4000000 in
theorem gs_f6 (w : World) (p q : Nat) (G H : GS) (v1 v2 : Value) (HBp : HasBlk w p 132 (gcs G v1)) (HBq : HasBlk w q 132 (gcs H v2)) (k0 : G.nonce = H.nonce) (k1 : G.towers = H.towers) (k2 : G.need = H.need) (k3 : G.noted = H.noted) (k4 : G.hint = H.hint) (k5 : G.num = H.num) (k6 : ¬ (G.box = H.box)) (E1' : ∀ g d, Calls Try.prog 72 #[v1, v2] (plus w g d) fun e w' => e = .returned (.bool false) ∧ w' = plus w g d) :
    Calls Try.prog 47 #[ptr p, ptr q] w fun e w' => e = .returned (.bool false) ∧ Ow w' w [] := by
  have e0 : (G.nonce == H.nonce) = true := by simp [k0]
  have e1 := natEq_t k1
  have e2 := natEq_t k2
  have e3 : (G.noted == H.noted) = true := by simp [k3]
  have e4 : (G.hint == H.hint) = true := by simp [k4]
  have e5 : (G.num == H.num) = true := by simp [k5]
  have E1 := Lib.hid E1'
  clear E1'
  have cp0 : w.cell? ⟨p, 0, none⟩ = some (.int .u8 (by8 G.nonce 0)) := HBp.cell 0
  have cq0 : w.cell? ⟨q, 0, none⟩ = some (.int .u8 (by8 H.nonce 0)) := HBq.cell 0
  have cp1 : w.cell? ⟨p, 1, none⟩ = some (.int .u8 (by8 G.nonce 1)) := HBp.cell 1
  have cq1 : w.cell? ⟨q, 1, none⟩ = some (.int .u8 (by8 H.nonce 1)) := HBq.cell 1
  have cp2 : w.cell? ⟨p, 2, none⟩ = some (.int .u8 (by8 G.nonce 2)) := HBp.cell 2
  have cq2 : w.cell? ⟨q, 2, none⟩ = some (.int .u8 (by8 H.nonce 2)) := HBq.cell 2
  have cp3 : w.cell? ⟨p, 3, none⟩ = some (.int .u8 (by8 G.nonce 3)) := HBp.cell 3
  have cq3 : w.cell? ⟨q, 3, none⟩ = some (.int .u8 (by8 H.nonce 3)) := HBq.cell 3
  have cp4 : w.cell? ⟨p, 4, none⟩ = some (.int .u8 (by8 G.nonce 4)) := HBp.cell 4
  have cq4 : w.cell? ⟨q, 4, none⟩ = some (.int .u8 (by8 H.nonce 4)) := HBq.cell 4
  have cp5 : w.cell? ⟨p, 5, none⟩ = some (.int .u8 (by8 G.nonce 5)) := HBp.cell 5
  have cq5 : w.cell? ⟨q, 5, none⟩ = some (.int .u8 (by8 H.nonce 5)) := HBq.cell 5
  have cp6 : w.cell? ⟨p, 6, none⟩ = some (.int .u8 (by8 G.nonce 6)) := HBp.cell 6
  have cq6 : w.cell? ⟨q, 6, none⟩ = some (.int .u8 (by8 H.nonce 6)) := HBq.cell 6
  have cp7 : w.cell? ⟨p, 7, none⟩ = some (.int .u8 (by8 G.nonce 7)) := HBp.cell 7
  have cq7 : w.cell? ⟨q, 7, none⟩ = some (.int .u8 (by8 H.nonce 7)) := HBq.cell 7
  have cp8 : w.cell? ⟨p, 8, none⟩ = some (.int .i64 G.towers) := HBp.cell 8
  have cq8 : w.cell? ⟨q, 8, none⟩ = some (.int .i64 H.towers) := HBq.cell 8
  have cp9 : w.cell? ⟨p, 9, none⟩ = some (.int .i64 G.need) := HBp.cell 9
  have cq9 : w.cell? ⟨q, 9, none⟩ = some (.int .i64 H.need) := HBq.cell 9
  have cp10 : w.cell? ⟨p, 10, none⟩ = some (.bool G.noted) := HBp.cell 10
  have cq10 : w.cell? ⟨q, 10, none⟩ = some (.bool H.noted) := HBq.cell 10
  have cp11 : w.cell? ⟨p, 11, none⟩ = some (.int .u8 (by8 G.hint 0)) := HBp.cell 11
  have cq11 : w.cell? ⟨q, 11, none⟩ = some (.int .u8 (by8 H.hint 0)) := HBq.cell 11
  have cp12 : w.cell? ⟨p, 12, none⟩ = some (.int .u8 (by8 G.hint 1)) := HBp.cell 12
  have cq12 : w.cell? ⟨q, 12, none⟩ = some (.int .u8 (by8 H.hint 1)) := HBq.cell 12
  have cp13 : w.cell? ⟨p, 13, none⟩ = some (.int .u8 (by8 G.hint 2)) := HBp.cell 13
  have cq13 : w.cell? ⟨q, 13, none⟩ = some (.int .u8 (by8 H.hint 2)) := HBq.cell 13
  have cp14 : w.cell? ⟨p, 14, none⟩ = some (.int .u8 (by8 G.hint 3)) := HBp.cell 14
  have cq14 : w.cell? ⟨q, 14, none⟩ = some (.int .u8 (by8 H.hint 3)) := HBq.cell 14
  have cp15 : w.cell? ⟨p, 15, none⟩ = some (.int .u8 (by8 G.hint 4)) := HBp.cell 15
  have cq15 : w.cell? ⟨q, 15, none⟩ = some (.int .u8 (by8 H.hint 4)) := HBq.cell 15
  have cp16 : w.cell? ⟨p, 16, none⟩ = some (.int .u8 (by8 G.hint 5)) := HBp.cell 16
  have cq16 : w.cell? ⟨q, 16, none⟩ = some (.int .u8 (by8 H.hint 5)) := HBq.cell 16
  have cp17 : w.cell? ⟨p, 17, none⟩ = some (.int .u8 (by8 G.hint 6)) := HBp.cell 17
  have cq17 : w.cell? ⟨q, 17, none⟩ = some (.int .u8 (by8 H.hint 6)) := HBq.cell 17
  have cp18 : w.cell? ⟨p, 18, none⟩ = some (.int .u8 (by8 G.hint 7)) := HBp.cell 18
  have cq18 : w.cell? ⟨q, 18, none⟩ = some (.int .u8 (by8 H.hint 7)) := HBq.cell 18
  have cp19 : w.cell? ⟨p, 19, none⟩ = some (.int .i64 G.num) := HBp.cell 19
  have cq19 : w.cell? ⟨q, 19, none⟩ = some (.int .i64 H.num) := HBq.cell 19
  have cp20 : w.cell? ⟨p, 20, none⟩ = some (v1) := HBp.cell 20
  have cq20 : w.cell? ⟨q, 20, none⟩ = some (v2) := HBq.cell 20
  have cp21 : w.cell? ⟨p, 21, none⟩ = some (.int .i64 (G.said 0)) := HBp.cell 21
  have cq21 : w.cell? ⟨q, 21, none⟩ = some (.int .i64 (H.said 0)) := HBq.cell 21
  have cp22 : w.cell? ⟨p, 22, none⟩ = some (.int .i64 (G.said 1)) := HBp.cell 22
  have cq22 : w.cell? ⟨q, 22, none⟩ = some (.int .i64 (H.said 1)) := HBq.cell 22
  have cp23 : w.cell? ⟨p, 23, none⟩ = some (.int .i64 (G.said 2)) := HBp.cell 23
  have cq23 : w.cell? ⟨q, 23, none⟩ = some (.int .i64 (H.said 2)) := HBq.cell 23
  have cp24 : w.cell? ⟨p, 24, none⟩ = some (.int .i64 (G.said 3)) := HBp.cell 24
  have cq24 : w.cell? ⟨q, 24, none⟩ = some (.int .i64 (H.said 3)) := HBq.cell 24
  have cp25 : w.cell? ⟨p, 25, none⟩ = some (.int .i64 (G.said 4)) := HBp.cell 25
  have cq25 : w.cell? ⟨q, 25, none⟩ = some (.int .i64 (H.said 4)) := HBq.cell 25
  have cp26 : w.cell? ⟨p, 26, none⟩ = some (.int .i64 (G.said 5)) := HBp.cell 26
  have cq26 : w.cell? ⟨q, 26, none⟩ = some (.int .i64 (H.said 5)) := HBq.cell 26
  have cp27 : w.cell? ⟨p, 27, none⟩ = some (.int .i64 (G.said 6)) := HBp.cell 27
  have cq27 : w.cell? ⟨q, 27, none⟩ = some (.int .i64 (H.said 6)) := HBq.cell 27
  have cp28 : w.cell? ⟨p, 28, none⟩ = some (.int .i64 (G.said 7)) := HBp.cell 28
  have cq28 : w.cell? ⟨q, 28, none⟩ = some (.int .i64 (H.said 7)) := HBq.cell 28
  have cp29 : w.cell? ⟨p, 29, none⟩ = some (.int .i64 (G.said 8)) := HBp.cell 29
  have cq29 : w.cell? ⟨q, 29, none⟩ = some (.int .i64 (H.said 8)) := HBq.cell 29
  have cp30 : w.cell? ⟨p, 30, none⟩ = some (.int .i64 (G.said 9)) := HBp.cell 30
  have cq30 : w.cell? ⟨q, 30, none⟩ = some (.int .i64 (H.said 9)) := HBq.cell 30
  have cp31 : w.cell? ⟨p, 31, none⟩ = some (.int .i64 (G.said 10)) := HBp.cell 31
  have cq31 : w.cell? ⟨q, 31, none⟩ = some (.int .i64 (H.said 10)) := HBq.cell 31
  have cp32 : w.cell? ⟨p, 32, none⟩ = some (.int .i64 (G.said 11)) := HBp.cell 32
  have cq32 : w.cell? ⟨q, 32, none⟩ = some (.int .i64 (H.said 11)) := HBq.cell 32
  have cp33 : w.cell? ⟨p, 33, none⟩ = some (.int .i64 (G.said 12)) := HBp.cell 33
  have cq33 : w.cell? ⟨q, 33, none⟩ = some (.int .i64 (H.said 12)) := HBq.cell 33
  have cp34 : w.cell? ⟨p, 34, none⟩ = some (.int .i64 (G.said 13)) := HBp.cell 34
  have cq34 : w.cell? ⟨q, 34, none⟩ = some (.int .i64 (H.said 13)) := HBq.cell 34
  have cp35 : w.cell? ⟨p, 35, none⟩ = some (.int .i64 (G.said 14)) := HBp.cell 35
  have cq35 : w.cell? ⟨q, 35, none⟩ = some (.int .i64 (H.said 14)) := HBq.cell 35
  have cp36 : w.cell? ⟨p, 36, none⟩ = some (.int .i64 (G.said 15)) := HBp.cell 36
  have cq36 : w.cell? ⟨q, 36, none⟩ = some (.int .i64 (H.said 15)) := HBq.cell 36
  have cp37 : w.cell? ⟨p, 37, none⟩ = some (.int .i64 G.slf) := HBp.cell 37
  have cq37 : w.cell? ⟨q, 37, none⟩ = some (.int .i64 H.slf) := HBq.cell 37
  have cp38 : w.cell? ⟨p, 38, none⟩ = some (.int .i64 G.slt) := HBp.cell 38
  have cq38 : w.cell? ⟨q, 38, none⟩ = some (.int .i64 H.slt) := HBq.cell 38
  have ltp := HBp.lt
  have ltq := HBq.lt
  have HS := Lib.hid (Ow.start w)
  clear HBp HBq
  go_enter Try.func47, Try.ntmps47
  go_wp2
  refine wp_region_rs (by kernel_rfl) (by kernel_rfl) (by kernel_rfl) ?_
  repeat (first
    | (refine B_skip ?_ ?_; (· rfl); (try simp only [Act.put, List.setIfInBounds_toArray, List.set_cons_zero, List.set_cons_succ]))
    | (refine B_move rfl ?_ ?_; (· rfl); (try simp only [Act.eval, Act.put, Array.getD_eq_getD_getElem?, List.getElem?_toArray, List.getElem?_cons_succ, List.getElem?_cons_zero, Option.getD_some, List.setIfInBounds_toArray, List.set_cons_zero, List.set_cons_succ]))
    | (refine B_plain ?_ ?_; (· rfl); intro K hK; go_big_quiet_op; with_reducible refine hK _ ?_; clear hK K)
    | (refine B_callX (v := ?_) (f := 72) rfl (by kernel_rfl) ?_ (fun xq => ?_) ?_; rotate_left; (· rfl); (· ((simp only [List.map_toArray, List.map_cons, List.map_nil, Act.eval, Array.getD_eq_getD_getElem?, List.getElem?_toArray, List.getElem?_cons_succ, List.getElem?_cons_zero, Option.getD_some]); with_reducible apply retB_same; with_reducible exact (E1.out _ _))); (try simp only [Act.put, List.setIfInBounds_toArray, List.set_cons_zero, List.set_cons_succ]))
    | (refine B_nilck rfl rfl ?_ ?_; (· rfl); (try simp only [Act.put, List.setIfInBounds_toArray, List.set_cons_zero, List.set_cons_succ])))
  refine B_nil ?_ rfl ?_ ?_
  · kernel_rfl
  · rfl
  rintro _ ⟨⟨g1, d1⟩, rfl⟩
  simp only [fin, Act.put, List.setIfInBounds_toArray, List.set_cons_zero, List.set_cons_succ]
  go_wp2
  go_ret
  exact ⟨rfl, HS.out.plus _ _⟩
set_option maxRecDepth 100000 in
set_option maxHeartbeats 4000000 in
theorem gs_f7 (w : World) (p q : Nat) (G H : GS) (v1 v2 : Value) (HBp : HasBlk w p 132 (gcs G v1)) (HBq : HasBlk w q 132 (gcs H v2)) (k0 : G.nonce = H.nonce) (k1 : G.towers = H.towers) (k2 : G.need = H.need) (k3 : G.noted = H.noted) (k4 : G.hint = H.hint) (k5 : G.num = H.num) (k6 : G.box = H.box) (k7 : ¬ (((List.range 16).all fun i => G.said i == H.said i) = true)) (E1' : ∀ g d, Calls Try.prog 72 #[v1, v2] (plus w g d) fun e w' => e = .returned (.bool true) ∧ w' = plus w g d) :
    Calls Try.prog 47 #[ptr p, ptr q] w fun e w' => e = .returned (.bool false) ∧ Ow w' w [] := by
  have e0 : (G.nonce == H.nonce) = true := by simp [k0]
  have e1 := natEq_t k1
  have e2 := natEq_t k2
  have e3 : (G.noted == H.noted) = true := by simp [k3]
  have e4 : (G.hint == H.hint) = true := by simp [k4]
  have e5 : (G.num == H.num) = true := by simp [k5]
  have e7 := fun W => said_eq G H W false (by simpa using k7)
  have E1 := Lib.hid E1'
  clear E1'
  have cp0 : w.cell? ⟨p, 0, none⟩ = some (.int .u8 (by8 G.nonce 0)) := HBp.cell 0
  have cq0 : w.cell? ⟨q, 0, none⟩ = some (.int .u8 (by8 H.nonce 0)) := HBq.cell 0
  have cp1 : w.cell? ⟨p, 1, none⟩ = some (.int .u8 (by8 G.nonce 1)) := HBp.cell 1
  have cq1 : w.cell? ⟨q, 1, none⟩ = some (.int .u8 (by8 H.nonce 1)) := HBq.cell 1
  have cp2 : w.cell? ⟨p, 2, none⟩ = some (.int .u8 (by8 G.nonce 2)) := HBp.cell 2
  have cq2 : w.cell? ⟨q, 2, none⟩ = some (.int .u8 (by8 H.nonce 2)) := HBq.cell 2
  have cp3 : w.cell? ⟨p, 3, none⟩ = some (.int .u8 (by8 G.nonce 3)) := HBp.cell 3
  have cq3 : w.cell? ⟨q, 3, none⟩ = some (.int .u8 (by8 H.nonce 3)) := HBq.cell 3
  have cp4 : w.cell? ⟨p, 4, none⟩ = some (.int .u8 (by8 G.nonce 4)) := HBp.cell 4
  have cq4 : w.cell? ⟨q, 4, none⟩ = some (.int .u8 (by8 H.nonce 4)) := HBq.cell 4
  have cp5 : w.cell? ⟨p, 5, none⟩ = some (.int .u8 (by8 G.nonce 5)) := HBp.cell 5
  have cq5 : w.cell? ⟨q, 5, none⟩ = some (.int .u8 (by8 H.nonce 5)) := HBq.cell 5
  have cp6 : w.cell? ⟨p, 6, none⟩ = some (.int .u8 (by8 G.nonce 6)) := HBp.cell 6
  have cq6 : w.cell? ⟨q, 6, none⟩ = some (.int .u8 (by8 H.nonce 6)) := HBq.cell 6
  have cp7 : w.cell? ⟨p, 7, none⟩ = some (.int .u8 (by8 G.nonce 7)) := HBp.cell 7
  have cq7 : w.cell? ⟨q, 7, none⟩ = some (.int .u8 (by8 H.nonce 7)) := HBq.cell 7
  have cp8 : w.cell? ⟨p, 8, none⟩ = some (.int .i64 G.towers) := HBp.cell 8
  have cq8 : w.cell? ⟨q, 8, none⟩ = some (.int .i64 H.towers) := HBq.cell 8
  have cp9 : w.cell? ⟨p, 9, none⟩ = some (.int .i64 G.need) := HBp.cell 9
  have cq9 : w.cell? ⟨q, 9, none⟩ = some (.int .i64 H.need) := HBq.cell 9
  have cp10 : w.cell? ⟨p, 10, none⟩ = some (.bool G.noted) := HBp.cell 10
  have cq10 : w.cell? ⟨q, 10, none⟩ = some (.bool H.noted) := HBq.cell 10
  have cp11 : w.cell? ⟨p, 11, none⟩ = some (.int .u8 (by8 G.hint 0)) := HBp.cell 11
  have cq11 : w.cell? ⟨q, 11, none⟩ = some (.int .u8 (by8 H.hint 0)) := HBq.cell 11
  have cp12 : w.cell? ⟨p, 12, none⟩ = some (.int .u8 (by8 G.hint 1)) := HBp.cell 12
  have cq12 : w.cell? ⟨q, 12, none⟩ = some (.int .u8 (by8 H.hint 1)) := HBq.cell 12
  have cp13 : w.cell? ⟨p, 13, none⟩ = some (.int .u8 (by8 G.hint 2)) := HBp.cell 13
  have cq13 : w.cell? ⟨q, 13, none⟩ = some (.int .u8 (by8 H.hint 2)) := HBq.cell 13
  have cp14 : w.cell? ⟨p, 14, none⟩ = some (.int .u8 (by8 G.hint 3)) := HBp.cell 14
  have cq14 : w.cell? ⟨q, 14, none⟩ = some (.int .u8 (by8 H.hint 3)) := HBq.cell 14
  have cp15 : w.cell? ⟨p, 15, none⟩ = some (.int .u8 (by8 G.hint 4)) := HBp.cell 15
  have cq15 : w.cell? ⟨q, 15, none⟩ = some (.int .u8 (by8 H.hint 4)) := HBq.cell 15
  have cp16 : w.cell? ⟨p, 16, none⟩ = some (.int .u8 (by8 G.hint 5)) := HBp.cell 16
  have cq16 : w.cell? ⟨q, 16, none⟩ = some (.int .u8 (by8 H.hint 5)) := HBq.cell 16
  have cp17 : w.cell? ⟨p, 17, none⟩ = some (.int .u8 (by8 G.hint 6)) := HBp.cell 17
  have cq17 : w.cell? ⟨q, 17, none⟩ = some (.int .u8 (by8 H.hint 6)) := HBq.cell 17
  have cp18 : w.cell? ⟨p, 18, none⟩ = some (.int .u8 (by8 G.hint 7)) := HBp.cell 18
  have cq18 : w.cell? ⟨q, 18, none⟩ = some (.int .u8 (by8 H.hint 7)) := HBq.cell 18
  have cp19 : w.cell? ⟨p, 19, none⟩ = some (.int .i64 G.num) := HBp.cell 19
  have cq19 : w.cell? ⟨q, 19, none⟩ = some (.int .i64 H.num) := HBq.cell 19
  have cp20 : w.cell? ⟨p, 20, none⟩ = some (v1) := HBp.cell 20
  have cq20 : w.cell? ⟨q, 20, none⟩ = some (v2) := HBq.cell 20
  have cp21 : w.cell? ⟨p, 21, none⟩ = some (.int .i64 (G.said 0)) := HBp.cell 21
  have cq21 : w.cell? ⟨q, 21, none⟩ = some (.int .i64 (H.said 0)) := HBq.cell 21
  have cp22 : w.cell? ⟨p, 22, none⟩ = some (.int .i64 (G.said 1)) := HBp.cell 22
  have cq22 : w.cell? ⟨q, 22, none⟩ = some (.int .i64 (H.said 1)) := HBq.cell 22
  have cp23 : w.cell? ⟨p, 23, none⟩ = some (.int .i64 (G.said 2)) := HBp.cell 23
  have cq23 : w.cell? ⟨q, 23, none⟩ = some (.int .i64 (H.said 2)) := HBq.cell 23
  have cp24 : w.cell? ⟨p, 24, none⟩ = some (.int .i64 (G.said 3)) := HBp.cell 24
  have cq24 : w.cell? ⟨q, 24, none⟩ = some (.int .i64 (H.said 3)) := HBq.cell 24
  have cp25 : w.cell? ⟨p, 25, none⟩ = some (.int .i64 (G.said 4)) := HBp.cell 25
  have cq25 : w.cell? ⟨q, 25, none⟩ = some (.int .i64 (H.said 4)) := HBq.cell 25
  have cp26 : w.cell? ⟨p, 26, none⟩ = some (.int .i64 (G.said 5)) := HBp.cell 26
  have cq26 : w.cell? ⟨q, 26, none⟩ = some (.int .i64 (H.said 5)) := HBq.cell 26
  have cp27 : w.cell? ⟨p, 27, none⟩ = some (.int .i64 (G.said 6)) := HBp.cell 27
  have cq27 : w.cell? ⟨q, 27, none⟩ = some (.int .i64 (H.said 6)) := HBq.cell 27
  have cp28 : w.cell? ⟨p, 28, none⟩ = some (.int .i64 (G.said 7)) := HBp.cell 28
  have cq28 : w.cell? ⟨q, 28, none⟩ = some (.int .i64 (H.said 7)) := HBq.cell 28
  have cp29 : w.cell? ⟨p, 29, none⟩ = some (.int .i64 (G.said 8)) := HBp.cell 29
  have cq29 : w.cell? ⟨q, 29, none⟩ = some (.int .i64 (H.said 8)) := HBq.cell 29
  have cp30 : w.cell? ⟨p, 30, none⟩ = some (.int .i64 (G.said 9)) := HBp.cell 30
  have cq30 : w.cell? ⟨q, 30, none⟩ = some (.int .i64 (H.said 9)) := HBq.cell 30
  have cp31 : w.cell? ⟨p, 31, none⟩ = some (.int .i64 (G.said 10)) := HBp.cell 31
  have cq31 : w.cell? ⟨q, 31, none⟩ = some (.int .i64 (H.said 10)) := HBq.cell 31
  have cp32 : w.cell? ⟨p, 32, none⟩ = some (.int .i64 (G.said 11)) := HBp.cell 32
  have cq32 : w.cell? ⟨q, 32, none⟩ = some (.int .i64 (H.said 11)) := HBq.cell 32
  have cp33 : w.cell? ⟨p, 33, none⟩ = some (.int .i64 (G.said 12)) := HBp.cell 33
  have cq33 : w.cell? ⟨q, 33, none⟩ = some (.int .i64 (H.said 12)) := HBq.cell 33
  have cp34 : w.cell? ⟨p, 34, none⟩ = some (.int .i64 (G.said 13)) := HBp.cell 34
  have cq34 : w.cell? ⟨q, 34, none⟩ = some (.int .i64 (H.said 13)) := HBq.cell 34
  have cp35 : w.cell? ⟨p, 35, none⟩ = some (.int .i64 (G.said 14)) := HBp.cell 35
  have cq35 : w.cell? ⟨q, 35, none⟩ = some (.int .i64 (H.said 14)) := HBq.cell 35
  have cp36 : w.cell? ⟨p, 36, none⟩ = some (.int .i64 (G.said 15)) := HBp.cell 36
  have cq36 : w.cell? ⟨q, 36, none⟩ = some (.int .i64 (H.said 15)) := HBq.cell 36
  have cp37 : w.cell? ⟨p, 37, none⟩ = some (.int .i64 G.slf) := HBp.cell 37
  have cq37 : w.cell? ⟨q, 37, none⟩ = some (.int .i64 H.slf) := HBq.cell 37
  have cp38 : w.cell? ⟨p, 38, none⟩ = some (.int .i64 G.slt) := HBp.cell 38
  have cq38 : w.cell? ⟨q, 38, none⟩ = some (.int .i64 H.slt) := HBq.cell 38
  have ltp := HBp.lt
  have ltq := HBq.lt
  have HS := Lib.hid (Ow.start w)
  clear HBp HBq
  go_enter Try.func47, Try.ntmps47
  go_wp2
  refine wp_region_rs (by kernel_rfl) (by kernel_rfl) (by kernel_rfl) ?_
  repeat (first
    | (refine B_skip ?_ ?_; (· rfl); (try simp only [Act.put, List.setIfInBounds_toArray, List.set_cons_zero, List.set_cons_succ]))
    | (refine B_move rfl ?_ ?_; (· rfl); (try simp only [Act.eval, Act.put, Array.getD_eq_getD_getElem?, List.getElem?_toArray, List.getElem?_cons_succ, List.getElem?_cons_zero, Option.getD_some, List.setIfInBounds_toArray, List.set_cons_zero, List.set_cons_succ]))
    | (refine B_plain ?_ ?_; (· rfl); intro K hK; go_big_quiet_op; with_reducible refine hK _ ?_; clear hK K)
    | (refine B_callX (v := ?_) (f := 72) rfl (by kernel_rfl) ?_ (fun xq => ?_) ?_; rotate_left; (· rfl); (· ((simp only [List.map_toArray, List.map_cons, List.map_nil, Act.eval, Array.getD_eq_getD_getElem?, List.getElem?_toArray, List.getElem?_cons_succ, List.getElem?_cons_zero, Option.getD_some]); with_reducible apply retB_same; with_reducible exact (E1.out _ _))); (try simp only [Act.put, List.setIfInBounds_toArray, List.set_cons_zero, List.set_cons_succ]))
    | (refine B_nilck rfl rfl ?_ ?_; (· rfl); (try simp only [Act.put, List.setIfInBounds_toArray, List.set_cons_zero, List.set_cons_succ])))
  refine B_nil ?_ rfl ?_ ?_
  · kernel_rfl
  · rfl
  rintro _ ⟨⟨g1, d1⟩, rfl⟩
  simp only [fin, Act.put, List.setIfInBounds_toArray, List.set_cons_zero, List.set_cons_succ]
  go_wp2
  go_ret
  exact ⟨rfl, HS.out.plus _ _⟩
set_option maxRecDepth 100000 in
set_option maxHeartbeats 4000000 in
theorem gs_f8 (w : World) (p q : Nat) (G H : GS) (v1 v2 : Value) (HBp : HasBlk w p 132 (gcs G v1)) (HBq : HasBlk w q 132 (gcs H v2)) (k0 : G.nonce = H.nonce) (k1 : G.towers = H.towers) (k2 : G.need = H.need) (k3 : G.noted = H.noted) (k4 : G.hint = H.hint) (k5 : G.num = H.num) (k6 : G.box = H.box) (k7 : ((List.range 16).all fun i => G.said i == H.said i) = true) (k8 : ¬ (G.slf = H.slf ∧ G.slt = H.slt)) (E1' : ∀ g d, Calls Try.prog 72 #[v1, v2] (plus w g d) fun e w' => e = .returned (.bool true) ∧ w' = plus w g d) :
    Calls Try.prog 47 #[ptr p, ptr q] w fun e w' => e = .returned (.bool false) ∧ Ow w' w [] := by
  have e0 : (G.nonce == H.nonce) = true := by simp [k0]
  have e1 := natEq_t k1
  have e2 := natEq_t k2
  have e3 : (G.noted == H.noted) = true := by simp [k3]
  have e4 : (G.hint == H.hint) = true := by simp [k4]
  have e5 : (G.num == H.num) = true := by simp [k5]
  have e7 := fun W => said_eq G H W true (k7)
  have e8 := fun W => sleep_eq G.slf G.slt H.slf H.slt W false (decide_eq_false k8)
  have E1 := Lib.hid E1'
  clear E1'
  have cp0 : w.cell? ⟨p, 0, none⟩ = some (.int .u8 (by8 G.nonce 0)) := HBp.cell 0
  have cq0 : w.cell? ⟨q, 0, none⟩ = some (.int .u8 (by8 H.nonce 0)) := HBq.cell 0
  have cp1 : w.cell? ⟨p, 1, none⟩ = some (.int .u8 (by8 G.nonce 1)) := HBp.cell 1
  have cq1 : w.cell? ⟨q, 1, none⟩ = some (.int .u8 (by8 H.nonce 1)) := HBq.cell 1
  have cp2 : w.cell? ⟨p, 2, none⟩ = some (.int .u8 (by8 G.nonce 2)) := HBp.cell 2
  have cq2 : w.cell? ⟨q, 2, none⟩ = some (.int .u8 (by8 H.nonce 2)) := HBq.cell 2
  have cp3 : w.cell? ⟨p, 3, none⟩ = some (.int .u8 (by8 G.nonce 3)) := HBp.cell 3
  have cq3 : w.cell? ⟨q, 3, none⟩ = some (.int .u8 (by8 H.nonce 3)) := HBq.cell 3
  have cp4 : w.cell? ⟨p, 4, none⟩ = some (.int .u8 (by8 G.nonce 4)) := HBp.cell 4
  have cq4 : w.cell? ⟨q, 4, none⟩ = some (.int .u8 (by8 H.nonce 4)) := HBq.cell 4
  have cp5 : w.cell? ⟨p, 5, none⟩ = some (.int .u8 (by8 G.nonce 5)) := HBp.cell 5
  have cq5 : w.cell? ⟨q, 5, none⟩ = some (.int .u8 (by8 H.nonce 5)) := HBq.cell 5
  have cp6 : w.cell? ⟨p, 6, none⟩ = some (.int .u8 (by8 G.nonce 6)) := HBp.cell 6
  have cq6 : w.cell? ⟨q, 6, none⟩ = some (.int .u8 (by8 H.nonce 6)) := HBq.cell 6
  have cp7 : w.cell? ⟨p, 7, none⟩ = some (.int .u8 (by8 G.nonce 7)) := HBp.cell 7
  have cq7 : w.cell? ⟨q, 7, none⟩ = some (.int .u8 (by8 H.nonce 7)) := HBq.cell 7
  have cp8 : w.cell? ⟨p, 8, none⟩ = some (.int .i64 G.towers) := HBp.cell 8
  have cq8 : w.cell? ⟨q, 8, none⟩ = some (.int .i64 H.towers) := HBq.cell 8
  have cp9 : w.cell? ⟨p, 9, none⟩ = some (.int .i64 G.need) := HBp.cell 9
  have cq9 : w.cell? ⟨q, 9, none⟩ = some (.int .i64 H.need) := HBq.cell 9
  have cp10 : w.cell? ⟨p, 10, none⟩ = some (.bool G.noted) := HBp.cell 10
  have cq10 : w.cell? ⟨q, 10, none⟩ = some (.bool H.noted) := HBq.cell 10
  have cp11 : w.cell? ⟨p, 11, none⟩ = some (.int .u8 (by8 G.hint 0)) := HBp.cell 11
  have cq11 : w.cell? ⟨q, 11, none⟩ = some (.int .u8 (by8 H.hint 0)) := HBq.cell 11
  have cp12 : w.cell? ⟨p, 12, none⟩ = some (.int .u8 (by8 G.hint 1)) := HBp.cell 12
  have cq12 : w.cell? ⟨q, 12, none⟩ = some (.int .u8 (by8 H.hint 1)) := HBq.cell 12
  have cp13 : w.cell? ⟨p, 13, none⟩ = some (.int .u8 (by8 G.hint 2)) := HBp.cell 13
  have cq13 : w.cell? ⟨q, 13, none⟩ = some (.int .u8 (by8 H.hint 2)) := HBq.cell 13
  have cp14 : w.cell? ⟨p, 14, none⟩ = some (.int .u8 (by8 G.hint 3)) := HBp.cell 14
  have cq14 : w.cell? ⟨q, 14, none⟩ = some (.int .u8 (by8 H.hint 3)) := HBq.cell 14
  have cp15 : w.cell? ⟨p, 15, none⟩ = some (.int .u8 (by8 G.hint 4)) := HBp.cell 15
  have cq15 : w.cell? ⟨q, 15, none⟩ = some (.int .u8 (by8 H.hint 4)) := HBq.cell 15
  have cp16 : w.cell? ⟨p, 16, none⟩ = some (.int .u8 (by8 G.hint 5)) := HBp.cell 16
  have cq16 : w.cell? ⟨q, 16, none⟩ = some (.int .u8 (by8 H.hint 5)) := HBq.cell 16
  have cp17 : w.cell? ⟨p, 17, none⟩ = some (.int .u8 (by8 G.hint 6)) := HBp.cell 17
  have cq17 : w.cell? ⟨q, 17, none⟩ = some (.int .u8 (by8 H.hint 6)) := HBq.cell 17
  have cp18 : w.cell? ⟨p, 18, none⟩ = some (.int .u8 (by8 G.hint 7)) := HBp.cell 18
  have cq18 : w.cell? ⟨q, 18, none⟩ = some (.int .u8 (by8 H.hint 7)) := HBq.cell 18
  have cp19 : w.cell? ⟨p, 19, none⟩ = some (.int .i64 G.num) := HBp.cell 19
  have cq19 : w.cell? ⟨q, 19, none⟩ = some (.int .i64 H.num) := HBq.cell 19
  have cp20 : w.cell? ⟨p, 20, none⟩ = some (v1) := HBp.cell 20
  have cq20 : w.cell? ⟨q, 20, none⟩ = some (v2) := HBq.cell 20
  have cp21 : w.cell? ⟨p, 21, none⟩ = some (.int .i64 (G.said 0)) := HBp.cell 21
  have cq21 : w.cell? ⟨q, 21, none⟩ = some (.int .i64 (H.said 0)) := HBq.cell 21
  have cp22 : w.cell? ⟨p, 22, none⟩ = some (.int .i64 (G.said 1)) := HBp.cell 22
  have cq22 : w.cell? ⟨q, 22, none⟩ = some (.int .i64 (H.said 1)) := HBq.cell 22
  have cp23 : w.cell? ⟨p, 23, none⟩ = some (.int .i64 (G.said 2)) := HBp.cell 23
  have cq23 : w.cell? ⟨q, 23, none⟩ = some (.int .i64 (H.said 2)) := HBq.cell 23
  have cp24 : w.cell? ⟨p, 24, none⟩ = some (.int .i64 (G.said 3)) := HBp.cell 24
  have cq24 : w.cell? ⟨q, 24, none⟩ = some (.int .i64 (H.said 3)) := HBq.cell 24
  have cp25 : w.cell? ⟨p, 25, none⟩ = some (.int .i64 (G.said 4)) := HBp.cell 25
  have cq25 : w.cell? ⟨q, 25, none⟩ = some (.int .i64 (H.said 4)) := HBq.cell 25
  have cp26 : w.cell? ⟨p, 26, none⟩ = some (.int .i64 (G.said 5)) := HBp.cell 26
  have cq26 : w.cell? ⟨q, 26, none⟩ = some (.int .i64 (H.said 5)) := HBq.cell 26
  have cp27 : w.cell? ⟨p, 27, none⟩ = some (.int .i64 (G.said 6)) := HBp.cell 27
  have cq27 : w.cell? ⟨q, 27, none⟩ = some (.int .i64 (H.said 6)) := HBq.cell 27
  have cp28 : w.cell? ⟨p, 28, none⟩ = some (.int .i64 (G.said 7)) := HBp.cell 28
  have cq28 : w.cell? ⟨q, 28, none⟩ = some (.int .i64 (H.said 7)) := HBq.cell 28
  have cp29 : w.cell? ⟨p, 29, none⟩ = some (.int .i64 (G.said 8)) := HBp.cell 29
  have cq29 : w.cell? ⟨q, 29, none⟩ = some (.int .i64 (H.said 8)) := HBq.cell 29
  have cp30 : w.cell? ⟨p, 30, none⟩ = some (.int .i64 (G.said 9)) := HBp.cell 30
  have cq30 : w.cell? ⟨q, 30, none⟩ = some (.int .i64 (H.said 9)) := HBq.cell 30
  have cp31 : w.cell? ⟨p, 31, none⟩ = some (.int .i64 (G.said 10)) := HBp.cell 31
  have cq31 : w.cell? ⟨q, 31, none⟩ = some (.int .i64 (H.said 10)) := HBq.cell 31
  have cp32 : w.cell? ⟨p, 32, none⟩ = some (.int .i64 (G.said 11)) := HBp.cell 32
  have cq32 : w.cell? ⟨q, 32, none⟩ = some (.int .i64 (H.said 11)) := HBq.cell 32
  have cp33 : w.cell? ⟨p, 33, none⟩ = some (.int .i64 (G.said 12)) := HBp.cell 33
  have cq33 : w.cell? ⟨q, 33, none⟩ = some (.int .i64 (H.said 12)) := HBq.cell 33
  have cp34 : w.cell? ⟨p, 34, none⟩ = some (.int .i64 (G.said 13)) := HBp.cell 34
  have cq34 : w.cell? ⟨q, 34, none⟩ = some (.int .i64 (H.said 13)) := HBq.cell 34
  have cp35 : w.cell? ⟨p, 35, none⟩ = some (.int .i64 (G.said 14)) := HBp.cell 35
  have cq35 : w.cell? ⟨q, 35, none⟩ = some (.int .i64 (H.said 14)) := HBq.cell 35
  have cp36 : w.cell? ⟨p, 36, none⟩ = some (.int .i64 (G.said 15)) := HBp.cell 36
  have cq36 : w.cell? ⟨q, 36, none⟩ = some (.int .i64 (H.said 15)) := HBq.cell 36
  have cp37 : w.cell? ⟨p, 37, none⟩ = some (.int .i64 G.slf) := HBp.cell 37
  have cq37 : w.cell? ⟨q, 37, none⟩ = some (.int .i64 H.slf) := HBq.cell 37
  have cp38 : w.cell? ⟨p, 38, none⟩ = some (.int .i64 G.slt) := HBp.cell 38
  have cq38 : w.cell? ⟨q, 38, none⟩ = some (.int .i64 H.slt) := HBq.cell 38
  have ltp := HBp.lt
  have ltq := HBq.lt
  have HS := Lib.hid (Ow.start w)
  clear HBp HBq
  go_enter Try.func47, Try.ntmps47
  go_wp2
  refine wp_region_rs (by kernel_rfl) (by kernel_rfl) (by kernel_rfl) ?_
  repeat (first
    | (refine B_skip ?_ ?_; (· rfl); (try simp only [Act.put, List.setIfInBounds_toArray, List.set_cons_zero, List.set_cons_succ]))
    | (refine B_move rfl ?_ ?_; (· rfl); (try simp only [Act.eval, Act.put, Array.getD_eq_getD_getElem?, List.getElem?_toArray, List.getElem?_cons_succ, List.getElem?_cons_zero, Option.getD_some, List.setIfInBounds_toArray, List.set_cons_zero, List.set_cons_succ]))
    | (refine B_plain ?_ ?_; (· rfl); intro K hK; go_big_quiet_op; with_reducible refine hK _ ?_; clear hK K)
    | (refine B_callX (v := ?_) (f := 72) rfl (by kernel_rfl) ?_ (fun xq => ?_) ?_; rotate_left; (· rfl); (· ((simp only [List.map_toArray, List.map_cons, List.map_nil, Act.eval, Array.getD_eq_getD_getElem?, List.getElem?_toArray, List.getElem?_cons_succ, List.getElem?_cons_zero, Option.getD_some]); with_reducible apply retB_same; with_reducible exact (E1.out _ _))); (try simp only [Act.put, List.setIfInBounds_toArray, List.set_cons_zero, List.set_cons_succ]))
    | (refine B_nilck rfl rfl ?_ ?_; (· rfl); (try simp only [Act.put, List.setIfInBounds_toArray, List.set_cons_zero, List.set_cons_succ])))
  refine B_nil ?_ rfl ?_ ?_
  · kernel_rfl
  · rfl
  rintro _ ⟨⟨g1, d1⟩, rfl⟩
  simp only [fin, Act.put, List.setIfInBounds_toArray, List.set_cons_zero, List.set_cons_succ]
  go_wp2
  go_ret
  exact ⟨rfl, HS.out.plus _ _⟩
set_option maxRecDepth 100000 in
set_option maxHeartbeats 4000000 in
theorem gs_yes (w : World) (p q : Nat) (G H : GS) (v1 v2 : Value) (HBp : HasBlk w p 132 (gcs G v1)) (HBq : HasBlk w q 132 (gcs H v2)) (k0 : G.nonce = H.nonce) (k1 : G.towers = H.towers) (k2 : G.need = H.need) (k3 : G.noted = H.noted) (k4 : G.hint = H.hint) (k5 : G.num = H.num) (k6 : G.box = H.box) (k7 : ((List.range 16).all fun i => G.said i == H.said i) = true) (k8 : G.slf = H.slf ∧ G.slt = H.slt) (E1' : ∀ g d, Calls Try.prog 72 #[v1, v2] (plus w g d) fun e w' => e = .returned (.bool true) ∧ w' = plus w g d) :
    Calls Try.prog 47 #[ptr p, ptr q] w fun e w' => e = .returned (.bool true) ∧ Ow w' w [] := by
  have e0 : (G.nonce == H.nonce) = true := by simp [k0]
  have e1 := natEq_t k1
  have e2 := natEq_t k2
  have e3 : (G.noted == H.noted) = true := by simp [k3]
  have e4 : (G.hint == H.hint) = true := by simp [k4]
  have e5 : (G.num == H.num) = true := by simp [k5]
  have e7 := fun W => said_eq G H W true (k7)
  have e8 := fun W => sleep_eq G.slf G.slt H.slf H.slt W true (decide_eq_true k8)
  have E1 := Lib.hid E1'
  clear E1'
  have cp0 : w.cell? ⟨p, 0, none⟩ = some (.int .u8 (by8 G.nonce 0)) := HBp.cell 0
  have cq0 : w.cell? ⟨q, 0, none⟩ = some (.int .u8 (by8 H.nonce 0)) := HBq.cell 0
  have cp1 : w.cell? ⟨p, 1, none⟩ = some (.int .u8 (by8 G.nonce 1)) := HBp.cell 1
  have cq1 : w.cell? ⟨q, 1, none⟩ = some (.int .u8 (by8 H.nonce 1)) := HBq.cell 1
  have cp2 : w.cell? ⟨p, 2, none⟩ = some (.int .u8 (by8 G.nonce 2)) := HBp.cell 2
  have cq2 : w.cell? ⟨q, 2, none⟩ = some (.int .u8 (by8 H.nonce 2)) := HBq.cell 2
  have cp3 : w.cell? ⟨p, 3, none⟩ = some (.int .u8 (by8 G.nonce 3)) := HBp.cell 3
  have cq3 : w.cell? ⟨q, 3, none⟩ = some (.int .u8 (by8 H.nonce 3)) := HBq.cell 3
  have cp4 : w.cell? ⟨p, 4, none⟩ = some (.int .u8 (by8 G.nonce 4)) := HBp.cell 4
  have cq4 : w.cell? ⟨q, 4, none⟩ = some (.int .u8 (by8 H.nonce 4)) := HBq.cell 4
  have cp5 : w.cell? ⟨p, 5, none⟩ = some (.int .u8 (by8 G.nonce 5)) := HBp.cell 5
  have cq5 : w.cell? ⟨q, 5, none⟩ = some (.int .u8 (by8 H.nonce 5)) := HBq.cell 5
  have cp6 : w.cell? ⟨p, 6, none⟩ = some (.int .u8 (by8 G.nonce 6)) := HBp.cell 6
  have cq6 : w.cell? ⟨q, 6, none⟩ = some (.int .u8 (by8 H.nonce 6)) := HBq.cell 6
  have cp7 : w.cell? ⟨p, 7, none⟩ = some (.int .u8 (by8 G.nonce 7)) := HBp.cell 7
  have cq7 : w.cell? ⟨q, 7, none⟩ = some (.int .u8 (by8 H.nonce 7)) := HBq.cell 7
  have cp8 : w.cell? ⟨p, 8, none⟩ = some (.int .i64 G.towers) := HBp.cell 8
  have cq8 : w.cell? ⟨q, 8, none⟩ = some (.int .i64 H.towers) := HBq.cell 8
  have cp9 : w.cell? ⟨p, 9, none⟩ = some (.int .i64 G.need) := HBp.cell 9
  have cq9 : w.cell? ⟨q, 9, none⟩ = some (.int .i64 H.need) := HBq.cell 9
  have cp10 : w.cell? ⟨p, 10, none⟩ = some (.bool G.noted) := HBp.cell 10
  have cq10 : w.cell? ⟨q, 10, none⟩ = some (.bool H.noted) := HBq.cell 10
  have cp11 : w.cell? ⟨p, 11, none⟩ = some (.int .u8 (by8 G.hint 0)) := HBp.cell 11
  have cq11 : w.cell? ⟨q, 11, none⟩ = some (.int .u8 (by8 H.hint 0)) := HBq.cell 11
  have cp12 : w.cell? ⟨p, 12, none⟩ = some (.int .u8 (by8 G.hint 1)) := HBp.cell 12
  have cq12 : w.cell? ⟨q, 12, none⟩ = some (.int .u8 (by8 H.hint 1)) := HBq.cell 12
  have cp13 : w.cell? ⟨p, 13, none⟩ = some (.int .u8 (by8 G.hint 2)) := HBp.cell 13
  have cq13 : w.cell? ⟨q, 13, none⟩ = some (.int .u8 (by8 H.hint 2)) := HBq.cell 13
  have cp14 : w.cell? ⟨p, 14, none⟩ = some (.int .u8 (by8 G.hint 3)) := HBp.cell 14
  have cq14 : w.cell? ⟨q, 14, none⟩ = some (.int .u8 (by8 H.hint 3)) := HBq.cell 14
  have cp15 : w.cell? ⟨p, 15, none⟩ = some (.int .u8 (by8 G.hint 4)) := HBp.cell 15
  have cq15 : w.cell? ⟨q, 15, none⟩ = some (.int .u8 (by8 H.hint 4)) := HBq.cell 15
  have cp16 : w.cell? ⟨p, 16, none⟩ = some (.int .u8 (by8 G.hint 5)) := HBp.cell 16
  have cq16 : w.cell? ⟨q, 16, none⟩ = some (.int .u8 (by8 H.hint 5)) := HBq.cell 16
  have cp17 : w.cell? ⟨p, 17, none⟩ = some (.int .u8 (by8 G.hint 6)) := HBp.cell 17
  have cq17 : w.cell? ⟨q, 17, none⟩ = some (.int .u8 (by8 H.hint 6)) := HBq.cell 17
  have cp18 : w.cell? ⟨p, 18, none⟩ = some (.int .u8 (by8 G.hint 7)) := HBp.cell 18
  have cq18 : w.cell? ⟨q, 18, none⟩ = some (.int .u8 (by8 H.hint 7)) := HBq.cell 18
  have cp19 : w.cell? ⟨p, 19, none⟩ = some (.int .i64 G.num) := HBp.cell 19
  have cq19 : w.cell? ⟨q, 19, none⟩ = some (.int .i64 H.num) := HBq.cell 19
  have cp20 : w.cell? ⟨p, 20, none⟩ = some (v1) := HBp.cell 20
  have cq20 : w.cell? ⟨q, 20, none⟩ = some (v2) := HBq.cell 20
  have cp21 : w.cell? ⟨p, 21, none⟩ = some (.int .i64 (G.said 0)) := HBp.cell 21
  have cq21 : w.cell? ⟨q, 21, none⟩ = some (.int .i64 (H.said 0)) := HBq.cell 21
  have cp22 : w.cell? ⟨p, 22, none⟩ = some (.int .i64 (G.said 1)) := HBp.cell 22
  have cq22 : w.cell? ⟨q, 22, none⟩ = some (.int .i64 (H.said 1)) := HBq.cell 22
  have cp23 : w.cell? ⟨p, 23, none⟩ = some (.int .i64 (G.said 2)) := HBp.cell 23
  have cq23 : w.cell? ⟨q, 23, none⟩ = some (.int .i64 (H.said 2)) := HBq.cell 23
  have cp24 : w.cell? ⟨p, 24, none⟩ = some (.int .i64 (G.said 3)) := HBp.cell 24
  have cq24 : w.cell? ⟨q, 24, none⟩ = some (.int .i64 (H.said 3)) := HBq.cell 24
  have cp25 : w.cell? ⟨p, 25, none⟩ = some (.int .i64 (G.said 4)) := HBp.cell 25
  have cq25 : w.cell? ⟨q, 25, none⟩ = some (.int .i64 (H.said 4)) := HBq.cell 25
  have cp26 : w.cell? ⟨p, 26, none⟩ = some (.int .i64 (G.said 5)) := HBp.cell 26
  have cq26 : w.cell? ⟨q, 26, none⟩ = some (.int .i64 (H.said 5)) := HBq.cell 26
  have cp27 : w.cell? ⟨p, 27, none⟩ = some (.int .i64 (G.said 6)) := HBp.cell 27
  have cq27 : w.cell? ⟨q, 27, none⟩ = some (.int .i64 (H.said 6)) := HBq.cell 27
  have cp28 : w.cell? ⟨p, 28, none⟩ = some (.int .i64 (G.said 7)) := HBp.cell 28
  have cq28 : w.cell? ⟨q, 28, none⟩ = some (.int .i64 (H.said 7)) := HBq.cell 28
  have cp29 : w.cell? ⟨p, 29, none⟩ = some (.int .i64 (G.said 8)) := HBp.cell 29
  have cq29 : w.cell? ⟨q, 29, none⟩ = some (.int .i64 (H.said 8)) := HBq.cell 29
  have cp30 : w.cell? ⟨p, 30, none⟩ = some (.int .i64 (G.said 9)) := HBp.cell 30
  have cq30 : w.cell? ⟨q, 30, none⟩ = some (.int .i64 (H.said 9)) := HBq.cell 30
  have cp31 : w.cell? ⟨p, 31, none⟩ = some (.int .i64 (G.said 10)) := HBp.cell 31
  have cq31 : w.cell? ⟨q, 31, none⟩ = some (.int .i64 (H.said 10)) := HBq.cell 31
  have cp32 : w.cell? ⟨p, 32, none⟩ = some (.int .i64 (G.said 11)) := HBp.cell 32
  have cq32 : w.cell? ⟨q, 32, none⟩ = some (.int .i64 (H.said 11)) := HBq.cell 32
  have cp33 : w.cell? ⟨p, 33, none⟩ = some (.int .i64 (G.said 12)) := HBp.cell 33
  have cq33 : w.cell? ⟨q, 33, none⟩ = some (.int .i64 (H.said 12)) := HBq.cell 33
  have cp34 : w.cell? ⟨p, 34, none⟩ = some (.int .i64 (G.said 13)) := HBp.cell 34
  have cq34 : w.cell? ⟨q, 34, none⟩ = some (.int .i64 (H.said 13)) := HBq.cell 34
  have cp35 : w.cell? ⟨p, 35, none⟩ = some (.int .i64 (G.said 14)) := HBp.cell 35
  have cq35 : w.cell? ⟨q, 35, none⟩ = some (.int .i64 (H.said 14)) := HBq.cell 35
  have cp36 : w.cell? ⟨p, 36, none⟩ = some (.int .i64 (G.said 15)) := HBp.cell 36
  have cq36 : w.cell? ⟨q, 36, none⟩ = some (.int .i64 (H.said 15)) := HBq.cell 36
  have cp37 : w.cell? ⟨p, 37, none⟩ = some (.int .i64 G.slf) := HBp.cell 37
  have cq37 : w.cell? ⟨q, 37, none⟩ = some (.int .i64 H.slf) := HBq.cell 37
  have cp38 : w.cell? ⟨p, 38, none⟩ = some (.int .i64 G.slt) := HBp.cell 38
  have cq38 : w.cell? ⟨q, 38, none⟩ = some (.int .i64 H.slt) := HBq.cell 38
  have ltp := HBp.lt
  have ltq := HBq.lt
  have HS := Lib.hid (Ow.start w)
  clear HBp HBq
  go_enter Try.func47, Try.ntmps47
  go_wp2
  refine wp_region_rs (by kernel_rfl) (by kernel_rfl) (by kernel_rfl) ?_
  repeat (first
    | (refine B_skip ?_ ?_; (· rfl); (try simp only [Act.put, List.setIfInBounds_toArray, List.set_cons_zero, List.set_cons_succ]))
    | (refine B_move rfl ?_ ?_; (· rfl); (try simp only [Act.eval, Act.put, Array.getD_eq_getD_getElem?, List.getElem?_toArray, List.getElem?_cons_succ, List.getElem?_cons_zero, Option.getD_some, List.setIfInBounds_toArray, List.set_cons_zero, List.set_cons_succ]))
    | (refine B_plain ?_ ?_; (· rfl); intro K hK; go_big_quiet_op; with_reducible refine hK _ ?_; clear hK K)
    | (refine B_callX (v := ?_) (f := 72) rfl (by kernel_rfl) ?_ (fun xq => ?_) ?_; rotate_left; (· rfl); (· ((simp only [List.map_toArray, List.map_cons, List.map_nil, Act.eval, Array.getD_eq_getD_getElem?, List.getElem?_toArray, List.getElem?_cons_succ, List.getElem?_cons_zero, Option.getD_some]); with_reducible apply retB_same; with_reducible exact (E1.out _ _))); (try simp only [Act.put, List.setIfInBounds_toArray, List.set_cons_zero, List.set_cons_succ]))
    | (refine B_nilck rfl rfl ?_ ?_; (· rfl); (try simp only [Act.put, List.setIfInBounds_toArray, List.set_cons_zero, List.set_cons_succ])))
  refine B_nil ?_ rfl ?_ ?_
  · kernel_rfl
  · rfl
  rintro _ ⟨⟨g1, d1⟩, rfl⟩
  simp only [fin, Act.put, List.setIfInBounds_toArray, List.set_cons_zero, List.set_cons_succ]
  go_wp2
  go_ret
  exact ⟨rfl, HS.out.plus _ _⟩

theorem gsame_to (w w0 : World) (Y X : List Blk) (p q : Nat) (G H : GS) (v1 v2 : Value) (O : Ow w w0 Y) (hX : Sub X Y) (hp : (⟨p, 132, gcs G v1⟩ : Blk) ∈ Y) (hq : (⟨q, 132, gcs H v2⟩ : Blk) ∈ Y) (m1 : Msg w0 X v1 G.box) (m2 : Msg w0 X v2 H.box) (b : Bool) (hb : sameG G H = b) :
    Calls Try.prog 47 #[ptr p, ptr q] w fun e w' => e = .returned (.bool b) ∧ Ow w' w [] := by
  have HBp := O.has hp
  have HBq := O.has hq
  have V1 := m1.bsl O hX
  have V2 := m2.bsl O hX
  unfold sameG at hb
  have F : ∀ {P : Prop} [Decidable P], decide P = b → ¬ P → Calls Try.prog 47 #[ptr p, ptr q] w (fun e w' => e = .returned (.bool false) ∧ Ow w' w []) → Calls Try.prog 47 #[ptr p, ptr q] w (fun e w' => e = .returned (.bool b) ∧ Ow w' w []) := by
    intro P _ h1 h2 h3
    rw [← h1, decide_eq_false h2]; exact h3
  have E : ∀ (c : Bool) (hc : (G.box == H.box) = c) (g : Array Obj) (d : Nat), Calls Try.prog 72 #[v1, v2] (plus w g d) fun e w' => e = .returned (.bool c) ∧ w' = plus w g d :=
    fun c hc g d => equalB_any v1 v2 G.box H.box c hc _ (V1.plus g d) (V2.plus g d)
  by_cases k0 : G.nonce = H.nonce
  · skip
    by_cases k1 : G.towers = H.towers
    · skip
      by_cases k2 : G.need = H.need
      · skip
        by_cases k3 : G.noted = H.noted
        · skip
          by_cases k4 : G.hint = H.hint
          · skip
            by_cases k5 : G.num = H.num
            · skip
              by_cases k6 : G.box = H.box
              · skip
                by_cases k7 : ((List.range 16).all fun i => G.said i == H.said i) = true
                · skip
                  by_cases k8 : G.slf = H.slf ∧ G.slt = H.slt
                  · skip
                    rw [← hb, decide_eq_true (show _ from ⟨k0, k1, k2, k3, k4, k5, k6, k7, k8⟩)]
                    exact gs_yes w p q G H v1 v2 HBp HBq k0 k1 k2 k3 k4 k5 k6 k7 k8 (E true (by simp [k6]))
                  · exact F hb (fun h => k8 h.2.2.2.2.2.2.2.2) (gs_f8 w p q G H v1 v2 HBp HBq k0 k1 k2 k3 k4 k5 k6 k7 k8 (E true (by simp [k6])))
                · exact F hb (fun h => k7 h.2.2.2.2.2.2.2.1) (gs_f7 w p q G H v1 v2 HBp HBq k0 k1 k2 k3 k4 k5 k6 k7 (E true (by simp [k6])))
              · exact F hb (fun h => k6 h.2.2.2.2.2.2.1) (gs_f6 w p q G H v1 v2 HBp HBq k0 k1 k2 k3 k4 k5 k6 (E false (by simp [k6])))
            · exact F hb (fun h => k5 h.2.2.2.2.2.1) (gs_f5 w p q G H v1 v2 HBp HBq k0 k1 k2 k3 k4 k5)
          · exact F hb (fun h => k4 h.2.2.2.2.1) (gs_f4 w p q G H v1 v2 HBp HBq k0 k1 k2 k3 k4)
        · exact F hb (fun h => k3 h.2.2.2.1) (gs_f3 w p q G H v1 v2 HBp HBq k0 k1 k2 k3)
      · exact F hb (fun h => k2 h.2.2.1) (gs_f2 w p q G H v1 v2 HBp HBq k0 k1 k2)
    · exact F hb (fun h => k1 h.2.1) (gs_f1 w p q G H v1 v2 HBp HBq k0 k1)
  · exact F hb (fun h => k0 h.1) (gs_f0 w p q G H v1 v2 HBp HBq k0)

end Go.Proofs.Ytghaiplhakeahaa
