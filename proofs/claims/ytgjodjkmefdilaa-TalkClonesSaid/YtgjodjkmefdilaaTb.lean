/- talk: contract of begin. -/
import Derived.Test.YtgjodjkmefdilaaTz
namespace Go.Proofs.Ytgjodjkmefdilaa
set_option linter.unusedSimpArgs false
set_option linter.unusedVariables false
open Go.RowKit

/-- What is left of a number of 64 bits, as the laws take it. -/
def cutN (x : Int) (m : Nat) : Nat := (x % 18446744073709551616).toNat % m

theorem cut_eq (x : Int) (m : Nat) (hm : 0 < m) (hm2 : m ≤ 1000000) : wrap64 ((IntKind.u64.wrap x).tmod (m : Int)) = (cutN x m : Int) := by
  have e : IntKind.u64.wrap x = x % 18446744073709551616 := by simp [IntKind.wrap, IntKind.bits, IntKind.signed]
  have h0 : 0 ≤ x % 18446744073709551616 := Int.emod_nonneg _ (by omega)
  rw [e, Int.tmod_eq_emod_of_nonneg h0]
  have h1 : (x % 18446744073709551616) % (m : Int) = (cutN x m : Int) := by
    unfold cutN
    rw [Int.natCast_emod, Int.toNat_of_nonneg h0]
  rw [h1]
  have h2 : cutN x m < m := Nat.mod_lt _ hm
  unfold wrap64
  omega

set_option maxRecDepth 100000 in
set_option maxHeartbeats 2000000 in
theorem begin_to (x y : Int) (w w0 : World) (F : List Blk) (O : Ow w w0 F) (a b : Nat) (ha : 1 + cutN x 64 = a) (hb : 1 + cutN y 1000 = b) :
    Calls Try.prog 11 #[.agg #[.int .i64 x, .int .i64 y]] w fun e w' => ∃ p B, e = .returned (.tuple #[ptr p, .agg #[.int .i64 a, .int .i64 b, .slice none 0 0, .int .i64 0, .int .i64 0, .slice none 0 0, .int .i64 0, .int .i64 0, .bool false, .bool false]]) ∧ Ow w' w0 (B ++ F) ∧ TkB w0 [] p (newT a b) B := by
  have HO := Lib.hid ((O.alloc (.cells #[.int .i64 x, .int .i64 y] 22)).key #[.int .i64 0, .int .i64 0, .slice none 0 0, .int .i64 0, .int .i64 0, .slice none 0 0, .int .i64 0, .int .i64 0, .bool false, .bool false] 27 (w.heap.size + 1) (by simp))
  have ex := cut_eq x 64 (by omega) (by omega)
  have ey := cut_eq y 1000 (by omega) (by omega)
  have hx : cutN x 64 < 64 := Nat.mod_lt _ (by omega)
  have hy : cutN y 1000 < 1000 := Nat.mod_lt _ (by omega)
  generalize cutN x 64 = cx at *
  generalize cutN y 1000 = cy at *
  have hax : (1 : Int) + (cx : Int) = (a : Int) := by omega
  have hby : (1 : Int) + (cy : Int) = (b : Int) := by omega
  have ex' : wrap64 ((IntKind.u64.wrap x).tmod 64) = (cx : Int) := ex
  have ey' : wrap64 ((IntKind.u64.wrap y).tmod 1000) = (cy : Int) := ey
  clear ex ey
  clear O
  go_enter Try.func11, Try.ntmps11
  go_wp2_with fail
  refine wp_region_rq (by kernel_rfl) (by kernel_rfl) (by kernel_rfl) ?_
  repeat (first
    | (refine B_skip ?_ ?_; (· rfl); (try simp only [Act.put, List.setIfInBounds_toArray, List.set_cons_zero, List.set_cons_succ]))
    | (refine B_move rfl ?_ ?_; (· rfl); (try simp only [Act.eval, Act.put, Array.getD_eq_getD_getElem?, List.getElem?_toArray, List.getElem?_cons_succ, List.getElem?_cons_zero, Option.getD_some, List.setIfInBounds_toArray, List.set_cons_zero, List.set_cons_succ]))
    | (refine B_plain ?_ ?_; (· rfl); intro K hK; go_big_quiet_op; with_reducible refine hK _ ?_; clear hK K)
    | (refine B_nilck rfl rfl ?_ ?_; (· rfl); (try simp only [Act.put, List.setIfInBounds_toArray, List.set_cons_zero, List.set_cons_succ])))
  refine B_nil ?_ rfl ?_ ?_
  · kernel_rfl
  · rfl
  rintro _ ⟨⟨g1, d1⟩, rfl⟩
  simp only [fin, Act.put, List.setIfInBounds_toArray, List.set_cons_zero, List.set_cons_succ]
  go_wp2_with fail
  refine (new_yes a b _ w0 _ (HO.out.plus g1 d1) (by omega) (by omega) (by omega) (by omega)).mono ?_
  rintro e w2 ⟨p, B, rfl, O2, T2⟩
  have HO2 := Lib.hid O2.unfront
  have HT2 := Lib.hid T2
  clear O2 T2
  go_wp2_with (refine wpList_store_ow rfl 27 (.tmp 3) (.tmp 29) rfl HO2.out (by rfl) #[.int .i64 a, .int .i64 b, .slice none 0 0, .int .i64 0, .int .i64 0, .slice none 0 0, .int .i64 0, .int .i64 0, .bool false, .bool false] (by rfl) (by kernel_rfl) (by rfl) (by simp [Value.oneCell']) ?_; intro w3 O3)
  have HB := O3.has (List.mem_cons_self ..)
  have d0 := HB.cell 0
  have d1 := HB.cell 1
  have d2 := HB.cell 2
  have d3 := HB.cell 3
  have d4 := HB.cell 4
  have d5 := HB.cell 5
  have d6 := HB.cell 6
  have d7 := HB.cell 7
  have d8 := HB.cell 8
  have d9 := HB.cell 9
  have HO3 := Lib.hid O3
  clear O3 HB
  go_wp2
  refine bodyPost_ret (v := .tuple #[ptr p, .agg #[.int .i64 a, .int .i64 b, .slice none 0 0, .int .i64 0, .int .i64 0, .slice none 0 0, .int .i64 0, .int .i64 0, .bool false, .bool false]]) (by simp [results, Try.results11, go_sem, d0, d1, d2, d3, d4, d5, d6, d7, d8, d9]) rfl ?_
  exact ⟨p, B, rfl, HO3.out.drop1, HT2.out⟩

end Go.Proofs.Ytgjodjkmefdilaa
