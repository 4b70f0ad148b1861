/- The law OnceSigns: its walk. -/
import Derived.Test.YthdcfdfpfagamaaK5
namespace Go.Proofs.Ythdcfdfpfagamaa
set_option linter.unusedSimpArgs false
set_option linter.unusedVariables false
open Go.RowKit

set_option maxRecDepth 100000 in
set_option maxHeartbeats 2000000 in
theorem onceSigns_any (s m : BitVec 64) (w : World) :
    Calls Try.prog 4 #[.agg #[.int .u8 (by8 s 0), .int .u8 (by8 s 1), .int .u8 (by8 s 2), .int .u8 (by8 s 3), .int .u8 (by8 s 4), .int .u8 (by8 s 5), .int .u8 (by8 s 6), .int .u8 (by8 s 7)], .agg #[.int .u8 (by8 m 0), .int .u8 (by8 m 1), .int .u8 (by8 m 2), .int .u8 (by8 m 3), .int .u8 (by8 m 4), .int .u8 (by8 m 5), .int .u8 (by8 m 6), .int .u8 (by8 m 7)]] w fun e w' => e = .returned (.bool true) ∧ Below w.heap.size w w' := by
  obtain ⟨z, HZ⟩ : ∃ z, Hid (publicF s = z) := ⟨_, rfl⟩
  have HT : Hid (toldF m (signB s m) = z) := by show _ = _; rw [told_sign, HZ.out]
  have HL : Hid ((signB s m).length = 144) := signB_len _ _
  have HQ : Hid ((z == z) = true) := by show _ = _; simp
  go_enter Try.func4, Try.ntmps4
  go_wp2_with (first
    | (go_at_call 23; refine (sign_to s m _).mono ?_; rintro e w6 ⟨v, rfl, hb6, hv6⟩; have HS := Lib.hid hv6; obtain ⟨ao, cap, rfl, _, _, _⟩ := hv6.open_; rw [HL.out] at HS ⊢; obtain ⟨g6, d6, rfl⟩ := plus_of_below hb6; clear hb6 hv6)
    | (go_at_call 27; refine (told_yes m _ (signB s m) HL.out _ HS.out z HT.out).mono ?_; rintro e w2 ⟨rfl, hb2⟩; obtain ⟨g2, d2, rfl⟩ := plus_of_below hb2; clear hb2))
  have HS2 : Hid (∀ g d o, BSl ((plus ((w.alloc (.cells #[.int .u8 (by8 s 0), .int .u8 (by8 s 1), .int .u8 (by8 s 2), .int .u8 (by8 s 3), .int .u8 (by8 s 4), .int .u8 (by8 s 5), .int .u8 (by8 s 6), .int .u8 (by8 s 7)] 22)).alloc (.cells #[.int .u8 (by8 m 0), .int .u8 (by8 m 1), .int .u8 (by8 m 2), .int .u8 (by8 m 3), .int .u8 (by8 m 4), .int .u8 (by8 m 5), .int .u8 (by8 m 6), .int .u8 (by8 m 7)] 22)) (g6 ++ g) d).alloc o) (.slice ao 144 cap) (signB s m)) := fun g d o => by
    have := (HS.out.plus g d).alloc o
    rwa [plus_plus] at this
  refine wp_region_rq (by kernel_rfl) (by kernel_rfl) (by kernel_rfl) ?_
  repeat (first
    | (refine B_skip ?_ ?_; (· rfl); (try simp only [Act.put, List.setIfInBounds_toArray, List.set_cons_zero, List.set_cons_succ]))
    | (refine B_move rfl ?_ ?_; (· rfl); (try simp only [Act.eval, Act.put, Array.getD_eq_getD_getElem?, List.getElem?_toArray, List.getElem?_cons_succ, List.getElem?_cons_zero, Option.getD_some, List.setIfInBounds_toArray, List.set_cons_zero, List.set_cons_succ]))
    | (refine B_plain ?_ ?_; (· rfl); intro K hK; go_big_quiet_op; with_reducible refine hK _ ?_; clear hK K)
    | (refine B_callX (v := ?_) (f := 19) rfl (by kernel_rfl) ?_ (fun xq => ?_) ?_; rotate_left; (· rfl); (· ((simp only [List.map_toArray, List.map_cons, List.map_nil, Act.eval, Array.getD_eq_getD_getElem?, List.getElem?_toArray, List.getElem?_cons_succ, List.getElem?_cons_zero, Option.getD_some]); with_reducible apply retB; with_reducible exact (known05_any _))); (try simp only [Act.put, List.setIfInBounds_toArray, List.set_cons_zero, List.set_cons_succ]))
    | (refine B_callX (v := ?_) (f := 20) rfl (by kernel_rfl) ?_ (fun xq => ?_) ?_; rotate_left; (· rfl); (· ((simp only [List.map_toArray, List.map_cons, List.map_nil, Act.eval, Array.getD_eq_getD_getElem?, List.getElem?_toArray, List.getElem?_cons_succ, List.getElem?_cons_zero, Option.getD_some]); with_reducible apply retB; with_reducible exact (public_to s z HZ.out _))); (try simp only [Act.put, List.setIfInBounds_toArray, List.set_cons_zero, List.set_cons_succ]))
    | (refine B_callX (v := ?_) (f := 28) rfl (by kernel_rfl) ?_ (fun xq => ?_) ?_; rotate_left; (· rfl); (· ((simp only [List.map_toArray, List.map_cons, List.map_nil, Act.eval, Array.getD_eq_getD_getElem?, List.getElem?_toArray, List.getElem?_cons_succ, List.getElem?_cons_zero, Option.getD_some]); with_reducible apply retB; with_reducible exact (verify_yes z m _ (signB s m) HL.out _ ((HS2.out _ _ _).plus _ _) z HT.out true HQ.out))); (try simp only [Act.put, List.setIfInBounds_toArray, List.set_cons_zero, List.set_cons_succ])))
  refine B_nil ?_ rfl ?_ ?_
  · kernel_rfl
  · rfl
  rintro _ ⟨⟨g3, d3⟩, rfl⟩
  simp only [fin, Act.put, List.setIfInBounds_toArray, List.set_cons_zero, List.set_cons_succ]
  go_wp2
  go_ret
  exact ⟨rfl, by (repeat' (first | (with_reducible exact Below.refl _ _) | (with_reducible refine bplus ?_ _ _) | (with_reducible refine balloc ?_ _) | (with_reducible refine Below.drew ?_) | (with_reducible refine bdrewN ?_ _) | (with_reducible refine Below.setCell ?_ (by go_size) _)))⟩

end Go.Proofs.Ythdcfdfpfagamaa
