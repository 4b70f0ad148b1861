/- The law OnceKeys: its walk. -/
import Derived.Test.YthdcfdfpfagamaaK5
namespace Go.Proofs.Ythdcfdfpfagamaa
set_option linter.unusedSimpArgs false
set_option linter.unusedVariables false
open Go.RowKit

set_option maxRecDepth 100000 in
set_option maxHeartbeats 2000000 in
theorem onceKeys_any (s m : BitVec 64) (w : World) :
    Calls Try.prog 3 #[.agg #[.int .u8 (by8 s 0), .int .u8 (by8 s 1), .int .u8 (by8 s 2), .int .u8 (by8 s 3), .int .u8 (by8 s 4), .int .u8 (by8 s 5), .int .u8 (by8 s 6), .int .u8 (by8 s 7)], .agg #[.int .u8 (by8 m 0), .int .u8 (by8 m 1), .int .u8 (by8 m 2), .int .u8 (by8 m 3), .int .u8 (by8 m 4), .int .u8 (by8 m 5), .int .u8 (by8 m 6), .int .u8 (by8 m 7)]] w fun e w' => e = .returned (.bool true) ∧ Below w.heap.size w w' := by
  have e0 := fun W : World => eq_dgA m (dgA m) (fun i => dgt m i) (fun i hi => dgA_get m i hi) true (by simp) W
  obtain ⟨z, HZ⟩ : ∃ z, Hid (publicF s = z) := ⟨_, rfl⟩
  have HL : Hid ((signB s m).length ≤ 1000000) := by show _ ≤ _; rw [signB_len]; omega
  go_enter Try.func3, Try.ntmps3
  go_wp2
  refine wp_region_rq (by kernel_rfl) (by kernel_rfl) (by kernel_rfl) ?_
  repeat (first
    | (refine B_skip ?_ ?_; (· rfl); (try simp only [Act.put, List.setIfInBounds_toArray, List.set_cons_zero, List.set_cons_succ]))
    | (refine B_move rfl ?_ ?_; (· rfl); (try simp only [Act.eval, Act.put, Array.getD_eq_getD_getElem?, List.getElem?_toArray, List.getElem?_cons_succ, List.getElem?_cons_zero, Option.getD_some, List.setIfInBounds_toArray, List.set_cons_zero, List.set_cons_succ]))
    | (refine B_plain ?_ ?_; (· rfl); intro K hK; go_big_quiet_op; with_reducible refine hK _ ?_; clear hK K)
    | (refine B_callX (v := ?_) (f := 19) rfl (by kernel_rfl) ?_ (fun xq => ?_) ?_; rotate_left; (· rfl); (· ((simp only [List.map_toArray, List.map_cons, List.map_nil, Act.eval, Array.getD_eq_getD_getElem?, List.getElem?_toArray, List.getElem?_cons_succ, List.getElem?_cons_zero, Option.getD_some]); with_reducible apply retB; with_reducible exact (known05_any _))); (try simp only [Act.put, List.setIfInBounds_toArray, List.set_cons_zero, List.set_cons_succ]))
    | (refine B_callX (v := ?_) (f := 20) rfl (by kernel_rfl) ?_ (fun xq => ?_) ?_; rotate_left; (· rfl); (· ((simp only [List.map_toArray, List.map_cons, List.map_nil, Act.eval, Array.getD_eq_getD_getElem?, List.getElem?_toArray, List.getElem?_cons_succ, List.getElem?_cons_zero, Option.getD_some]); with_reducible apply retB; with_reducible exact (public_to s z HZ.out _))); (try simp only [Act.put, List.setIfInBounds_toArray, List.set_cons_zero, List.set_cons_succ]))
    | (refine B_callX (v := ?_) (f := 21) rfl (by kernel_rfl) ?_ (fun xq => ?_) ?_; rotate_left; (· rfl); (· ((simp only [List.map_toArray, List.map_cons, List.map_nil, Act.eval, Array.getD_eq_getD_getElem?, List.getElem?_toArray, List.getElem?_cons_succ, List.getElem?_cons_zero, Option.getD_some]); with_reducible apply retB; with_reducible exact (refPublic_to s z HZ.out _))); (try simp only [Act.put, List.setIfInBounds_toArray, List.set_cons_zero, List.set_cons_succ]))
    | (refine B_callR ((fun v w => BSl w v (signB s m))) ((stays_bsl _)) (f := 23) rfl rfl (by kernel_rfl) ?_ (fun xq => ?_) ?_; (· rfl); (· ((simp only [List.map_toArray, List.map_cons, List.map_nil, Act.eval, Array.getD_eq_getD_getElem?, List.getElem?_toArray, List.getElem?_cons_succ, List.getElem?_cons_zero, Option.getD_some]); (with_reducible apply retR); with_reducible exact sign_to s m _)))
    | (refine B_callR ((fun v w => BSl w v (signB s m))) ((stays_bsl _)) (f := 24) rfl rfl (by kernel_rfl) ?_ (fun xq => ?_) ?_; (· rfl); (· ((simp only [List.map_toArray, List.map_cons, List.map_nil, Act.eval, Array.getD_eq_getD_getElem?, List.getElem?_toArray, List.getElem?_cons_succ, List.getElem?_cons_zero, Option.getD_some]); (with_reducible apply retR); with_reducible exact refSign_to s m _)))
    | (refine B_callRX (v := .bool true) (f := 22) rfl (by kernel_rfl) ?_ (fun xq vs hvs => ?_) ?_; (· rfl); (· (obtain ⟨a1, _, rfl, e1, a2, _, rfl, e2, e3⟩ := hvs; cases e3; (with_reducible apply retB); exact same01_yes a1 a2 (signB s m) _ e1 e2 HL.out)); (try simp only [Act.put, List.setIfInBounds_toArray, List.set_cons_zero, List.set_cons_succ]))
    | (refine B_callX (v := ?_) (f := 25) rfl (by kernel_rfl) ?_ (fun xq => ?_) ?_; rotate_left; (· rfl); (· ((simp only [List.map_toArray, List.map_cons, List.map_nil, Act.eval, Array.getD_eq_getD_getElem?, List.getElem?_toArray, List.getElem?_cons_succ, List.getElem?_cons_zero, Option.getD_some]); with_reducible apply retB; with_reducible exact (reach_any m _))); (try simp only [Act.put, List.setIfInBounds_toArray, List.set_cons_zero, List.set_cons_succ]))
    | (refine B_callX (v := ?_) (f := 26) rfl (by kernel_rfl) ?_ (fun xq => ?_) ?_; rotate_left; (· rfl); (· ((simp only [List.map_toArray, List.map_cons, List.map_nil, Act.eval, Array.getD_eq_getD_getElem?, List.getElem?_toArray, List.getElem?_cons_succ, List.getElem?_cons_zero, Option.getD_some]); with_reducible apply retB; with_reducible exact (digits_any m _))); (try simp only [Act.put, List.setIfInBounds_toArray, List.set_cons_zero, List.set_cons_succ])))
  refine B_nil ?_ rfl ?_ ?_
  · kernel_rfl
  · rfl
  rintro _ ⟨⟨g1, d1⟩, rfl⟩
  simp only [fin, Act.put, List.setIfInBounds_toArray, List.set_cons_zero, List.set_cons_succ]
  rintro v1 - v2 -
  go_wp2
  go_ret
  exact ⟨rfl, by (repeat' (first | (with_reducible exact Below.refl _ _) | (with_reducible refine bplus ?_ _ _) | (with_reducible refine balloc ?_ _) | (with_reducible refine Below.drew ?_) | (with_reducible refine bdrewN ?_ _) | (with_reducible refine Below.setCell ?_ (by go_size) _)))⟩

end Go.Proofs.Ythdcfdfpfagamaa
