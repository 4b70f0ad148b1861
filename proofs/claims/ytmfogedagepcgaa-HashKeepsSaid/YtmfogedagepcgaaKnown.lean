/- baizelaw02.known answers yes. -/
import Derived.Test.YtmfogedagepcgaaStream
import Derived.Test.YtmfogedagepcgaaZ
import Derived.Test.YtmfogedagepcgaaEqd
import Derived.Deep.DeepCutAuto
import Derived.Test.YtmfogedagepcgaaRq
namespace Go.Proofs.Ytmfogedagepcgaa
set_option linter.unusedSimpArgs false
set_option linter.unusedVariables false
open Go.RowKit

theorem num_at (x : BitVec 64) (v : Value) (h : v = .agg #[.int .u8 (by8 x 0), .int .u8 (by8 x 1), .int .u8 (by8 x 2), .int .u8 (by8 x 3), .int .u8 (by8 x 4), .int .u8 (by8 x 5), .int .u8 (by8 x 6), .int .u8 (by8 x 7)]) (w : World) :
    Calls Try.prog 29 #[v] w fun e w' => e = .returned (.int .u64 (nv x)) ∧ Below w.heap.size w w' := by
  subst h; exact num_any x w

set_option maxRecDepth 100000 in
set_option maxHeartbeats 1000000 in
theorem known02_any (w : World) :
    Calls Try.prog 30 #[] w fun e w' => e = .returned (.bool true) ∧ Below w.heap.size w w' := by
  obtain ⟨z, hz⟩ : ∃ z, z = 261#64 := ⟨_, rfl⟩
  have HL : Hid (nv z = 261) := by show _ = _; rw [hz, nv_eq]; rfl
  have hb0 : (by8 z 0 == 5) = true := by rw [hz, by8_eq]; decide
  have hb1 : (by8 z 1 == 1) = true := by rw [hz, by8_eq]; decide
  have hn : (nv z == 261) = true := by rw [hz, nv_eq]; decide
  obtain ⟨y, HY⟩ : ∃ y, Hid (oneF z = y) := ⟨_, rfl⟩
  obtain ⟨x, HX⟩ : ∃ x, Hid (oneF y = x) := ⟨_, rfl⟩
  have HC : Hid (chainF z 2 = x) := by show oneF (oneF z) = x; rw [HY.out, HX.out]
  have HD : Hid (Value.agg #[.int .u8 5, .int .u8 1, .int .u8 0, .int .u8 0, .int .u8 0, .int .u8 0, .int .u8 0, .int .u8 0] = .agg #[.int .u8 (by8 z 0), .int .u8 (by8 z 1), .int .u8 (by8 z 2), .int .u8 (by8 z 3), .int .u8 (by8 z 4), .int .u8 (by8 z 5), .int .u8 (by8 z 6), .int .u8 (by8 z 7)]) := by show _ = _; simp only [by8_eq, hz]; rfl
  clear hz
  have H22 : Hid ((2 : Int) = ((2 : Nat) : Int)) := rfl
  have l2 : 2 ≤ 1048576 := by omega
  go_enter Try.func30, Try.ntmps30
  go_upto_if 3 with (first
    | (go_at_call 28; refine (fromNum_lit z 261 HL.out _).mono ?_; rintro e w1 ⟨rfl, hb1⟩; obtain ⟨g1, d1, rfl⟩ := plus_of_below hb1; clear hb1))
  refine wp_region_rq (by kernel_rfl) (by kernel_rfl) (by kernel_rfl) ?_
  repeat (first
    | (refine B_skip ?_ ?_; (· rfl); (try simp only [Act.put, List.setIfInBounds_toArray, List.set_cons_zero, List.set_cons_succ]))
    | (refine B_move rfl ?_ ?_; (· rfl); (try simp only [Act.eval, Act.put, Array.getD_eq_getD_getElem?, List.getElem?_toArray, List.getElem?_cons_succ, List.getElem?_cons_zero, Option.getD_some, List.setIfInBounds_toArray, List.set_cons_zero, List.set_cons_succ]))
    | (refine B_plain ?_ ?_; (· rfl); intro K hK; go_big_quiet_op; with_reducible refine hK _ ?_; clear hK K)
    | (refine B_callX (v := ?_) (f := 29) rfl (by kernel_rfl) ?_ (fun xq => ?_) ?_; rotate_left; (· rfl); (· ((simp only [List.map_toArray, List.map_cons, List.map_nil, Act.eval, Array.getD_eq_getD_getElem?, List.getElem?_toArray, List.getElem?_cons_succ, List.getElem?_cons_zero, Option.getD_some]); with_reducible apply retB; with_reducible exact (num_at z _ HD.out _))); (try simp only [Act.put, List.setIfInBounds_toArray, List.set_cons_zero, List.set_cons_succ]))
    | (refine B_callX (v := ?_) (f := 33) rfl (by kernel_rfl) ?_ (fun xq => ?_) ?_; rotate_left; (· rfl); (· ((simp only [List.map_toArray, List.map_cons, List.map_nil, Act.eval, Array.getD_eq_getD_getElem?, List.getElem?_toArray, List.getElem?_cons_succ, List.getElem?_cons_zero, Option.getD_some]); with_reducible apply retB; with_reducible exact (chain_int z x 2 2 H22.out l2 HC.out _))); (try simp only [Act.put, List.setIfInBounds_toArray, List.set_cons_zero, List.set_cons_succ]))
    | (refine B_callX (v := ?_) (f := 35) rfl (by kernel_rfl) ?_ (fun xq => ?_) ?_; rotate_left; (· rfl); (· ((simp only [List.map_toArray, List.map_cons, List.map_nil, Act.eval, Array.getD_eq_getD_getElem?, List.getElem?_toArray, List.getElem?_cons_succ, List.getElem?_cons_zero, Option.getD_some]); with_reducible apply retB; with_reducible exact (one_to z y HY.out _))); (try simp only [Act.put, List.setIfInBounds_toArray, List.set_cons_zero, List.set_cons_succ]))
    | (refine B_callX (v := ?_) (f := 35) rfl (by kernel_rfl) ?_ (fun xq => ?_) ?_; rotate_left; (· rfl); (· ((simp only [List.map_toArray, List.map_cons, List.map_nil, Act.eval, Array.getD_eq_getD_getElem?, List.getElem?_toArray, List.getElem?_cons_succ, List.getElem?_cons_zero, Option.getD_some]); with_reducible apply retB; with_reducible exact (one_to y x HX.out _))); (try simp only [Act.put, List.setIfInBounds_toArray, List.set_cons_zero, List.set_cons_succ]))
    | (refine B_callR (fun v _ => ∃ ao, v = .slice ao 9 9) (fun _ _ _ _ h => h) (f := 36) rfl rfl (by kernel_rfl) ?_ (fun xq => ?_) ?_; (· rfl); (· ((simp only [List.map_toArray, List.map_cons, List.map_nil, Act.eval, Array.getD_eq_getD_getElem?, List.getElem?_toArray, List.getElem?_cons_succ, List.getElem?_cons_zero, Option.getD_some]); (with_reducible apply retR); refine (stream_some z 9 (by omega) (by omega) _).mono ?_; rintro e w' ⟨ao, h1, h2, -⟩; exact ⟨_, h1, h2, ao, rfl⟩)))
    | (refine B_readX (s := 26) (Ψ := fun v _ => ∃ ao, v = .slice ao 9 9) (v := .int .i64 9) rfl ?_ ?_ ?_; (· rfl); (· (rintro xq u ⟨ao, rfl⟩; go_simp)); (try simp only [Act.put, List.setIfInBounds_toArray, List.set_cons_zero, List.set_cons_succ])))
  refine B_nil ?_ rfl ?_ ?_
  · kernel_rfl
  · rfl
  rintro _ ⟨⟨g2, d2⟩, rfl⟩
  simp only [fin, Act.put, List.setIfInBounds_toArray, List.set_cons_zero, List.set_cons_succ]
  rintro _ ⟨ao5, rfl⟩
  go_wp2
  go_ret
  exact ⟨rfl, by (repeat' (first | (with_reducible exact Below.refl _ _) | (with_reducible refine bplus ?_ _ _) | (with_reducible refine balloc ?_ _) | (with_reducible refine Below.drew ?_) | (with_reducible refine bdrewN ?_ _) | (with_reducible refine Below.setCell ?_ (by go_size) _)))⟩

end Go.Proofs.Ytmfogedagepcgaa
