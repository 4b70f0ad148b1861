/- The law HashChains: its walk. -/
import Derived.Test.YtmfogedagepcgaaKnown
import Derived.Test.YtmfogedagepcgaaRq
import Derived.Outline
namespace Go.Proofs.Ytmfogedagepcgaa
open Go.RowKit

set_option maxRecDepth 100000 in
set_option maxHeartbeats 1000000 in


theorem hashChains_yes (x : BitVec 64) (m n : Nat) (hm : m < 65536) (hn : n < 65536) (far : Int) (w : World) :
    Calls Try.prog 9 #[.agg #[.int .u8 (by8 x 0), .int .u8 (by8 x 1), .int .u8 (by8 x 2), .int .u8 (by8 x 3), .int .u8 (by8 x 4), .int .u8 (by8 x 5), .int .u8 (by8 x 6), .int .u8 (by8 x 7)], .int .u16 m, .int .u16 n, .int .i64 far] w fun e w' => e = .returned (.bool true) ∧ Below w.heap.size w w' := by
  obtain ⟨a, ha, ha3⟩ : ∃ a : Nat, ((m : Int) % 300) = a ∧ a < 300 := ⟨m % 300, by omega, by omega⟩
  obtain ⟨b, hb, hb3⟩ : ∃ b : Nat, ((n : Int) % 300) = b ∧ b < 300 := ⟨n % 300, by omega, by omega⟩
  obtain ⟨y, HY⟩ : ∃ y, Hid (chainF x a = y) := ⟨_, rfl⟩
  obtain ⟨z, HZ⟩ : ∃ z, Hid (chainF y b = z) := ⟨_, rfl⟩
  have HY2 : Hid (chainF x (a + 1) = oneF y) := by show oneF (chainF x a) = _; rw [HY.out]
  have HZ2 : Hid (chainF x (a + b) = z) := by show _ = _; rw [← chainF_add, HY.out, HZ.out]
  have la : a ≤ 1048576 := by omega
  have lb : b ≤ 1048576 := by omega
  have lab : a + b ≤ 1048576 := by omega
  have la1 : a + 1 ≤ 1048576 := by omega
  have HAB : Hid ((a : Int) + (b : Int) = ((a + b : Nat) : Int)) := by show _ = _; omega
  have HA1 : Hid ((a : Int) + 1 = ((a + 1 : Nat) : Int)) := by show _ = _; omega
  have hc : (far < 1 ∧ decide (1 ≤ far) = false) ∨ (1 ≤ far ∧ far ≤ 1048576 ∧ decide (1 ≤ far) = true ∧ decide (far ≤ 1048576) = true) ∨ (1048576 < far ∧ decide (1 ≤ far) = true ∧ decide (far ≤ 1048576) = false) := by
    by_cases h1 : far < 1
    · exact .inl ⟨h1, decide_eq_false (by omega)⟩
    · by_cases h2 : far ≤ 1048576
      · exact .inr (.inl ⟨by omega, h2, decide_eq_true (by omega), decide_eq_true (by omega)⟩)
      · exact .inr (.inr ⟨by omega, decide_eq_true (by omega), decide_eq_false (by omega)⟩)
  rcases hc with ⟨h1, hd1⟩ | ⟨h1, h2, hd1, hd2⟩ | ⟨h1, hd1, hd2⟩
  all_goals
    first | have HN : Hid (far < 1 ∨ 1048576 < far) := .inl h1 | have HN : Hid (far < 1 ∨ 1048576 < far) := .inr h1 | skip

    go_enter Try.func9, Try.ntmps9
    go_wp2
    rw [ha, hb]
    refine wp_region_rq (by kernel_rfl) (by kernel_rfl) (by kernel_rfl) ?_
    repeat (first
      | (refine B_skip ?_ ?_; (· rfl); (try simp only [Act.put, List.setIfInBounds_toArray, List.set_cons_zero, List.set_cons_succ]))
      | (refine B_move rfl ?_ ?_; (· rfl); (try simp only [Act.eval, Act.put, Array.getD_eq_getD_getElem?, List.getElem?_toArray, List.getElem?_cons_succ, List.getElem?_cons_zero, Option.getD_some, List.setIfInBounds_toArray, List.set_cons_zero, List.set_cons_succ]))
      | (refine B_plain ?_ ?_; (· rfl); intro K hK; go_big_quiet_op; with_reducible refine hK _ ?_; clear hK K)
      | (refine B_callX (v := ?_) (f := 30) rfl (by kernel_rfl) ?_ (fun xq => ?_) ?_; rotate_left; (· rfl); (· ((simp only [List.map_toArray, List.map_cons, List.map_nil, Act.eval, Array.getD_eq_getD_getElem?, List.getElem?_toArray, List.getElem?_cons_succ, List.getElem?_cons_zero, Option.getD_some]); with_reducible apply retB; with_reducible exact (known02_any _))); (try simp only [Act.put, List.setIfInBounds_toArray, List.set_cons_zero, List.set_cons_succ]))
      | (refine B_callX (v := ?_) (f := 33) rfl (by kernel_rfl) ?_ (fun xq => ?_) ?_; rotate_left; (· rfl); (· ((simp only [List.map_toArray, List.map_cons, List.map_nil, Act.eval, Array.getD_eq_getD_getElem?, List.getElem?_toArray, List.getElem?_cons_succ, List.getElem?_cons_zero, Option.getD_some]); with_reducible apply retB; with_reducible exact (chain_int x y _ a rfl la HY.out _))); (try simp only [Act.put, List.setIfInBounds_toArray, List.set_cons_zero, List.set_cons_succ]))
      | (refine B_callX (v := ?_) (f := 33) rfl (by kernel_rfl) ?_ (fun xq => ?_) ?_; rotate_left; (· rfl); (· ((simp only [List.map_toArray, List.map_cons, List.map_nil, Act.eval, Array.getD_eq_getD_getElem?, List.getElem?_toArray, List.getElem?_cons_succ, List.getElem?_cons_zero, Option.getD_some]); with_reducible apply retB; with_reducible exact (chain_int y z _ b rfl lb HZ.out _))); (try simp only [Act.put, List.setIfInBounds_toArray, List.set_cons_zero, List.set_cons_succ]))
      | (refine B_callX (v := ?_) (f := 33) rfl (by kernel_rfl) ?_ (fun xq => ?_) ?_; rotate_left; (· rfl); (· ((simp only [List.map_toArray, List.map_cons, List.map_nil, Act.eval, Array.getD_eq_getD_getElem?, List.getElem?_toArray, List.getElem?_cons_succ, List.getElem?_cons_zero, Option.getD_some]); with_reducible apply retB; with_reducible exact (chain_int x z _ (a + b) HAB.out lab HZ2.out _))); (try simp only [Act.put, List.setIfInBounds_toArray, List.set_cons_zero, List.set_cons_succ]))
      | (refine B_callX (v := ?_) (f := 33) rfl (by kernel_rfl) ?_ (fun xq => ?_) ?_; rotate_left; (· rfl); (· ((simp only [List.map_toArray, List.map_cons, List.map_nil, Act.eval, Array.getD_eq_getD_getElem?, List.getElem?_toArray, List.getElem?_cons_succ, List.getElem?_cons_zero, Option.getD_some]); with_reducible apply retB; with_reducible exact (chain_int x (oneF y) _ (a + 1) HA1.out la1 HY2.out _))); (try simp only [Act.put, List.setIfInBounds_toArray, List.set_cons_zero, List.set_cons_succ]))
      | (refine B_callX (v := ?_) (f := 34) rfl (by kernel_rfl) ?_ (fun xq => ?_) ?_; rotate_left; (· rfl); (· ((simp only [List.map_toArray, List.map_cons, List.map_nil, Act.eval, Array.getD_eq_getD_getElem?, List.getElem?_toArray, List.getElem?_cons_succ, List.getElem?_cons_zero, Option.getD_some]); with_reducible apply retB; with_reducible exact (refChain_int x y _ a rfl la HY.out _))); (try simp only [Act.put, List.setIfInBounds_toArray, List.set_cons_zero, List.set_cons_succ]))
      | (refine B_callX (v := ?_) (f := 35) rfl (by kernel_rfl) ?_ (fun xq => ?_) ?_; rotate_left; (· rfl); (· ((simp only [List.map_toArray, List.map_cons, List.map_nil, Act.eval, Array.getD_eq_getD_getElem?, List.getElem?_toArray, List.getElem?_cons_succ, List.getElem?_cons_zero, Option.getD_some]); with_reducible apply retB; with_reducible exact (one_any _ _))); (try simp only [Act.put, List.setIfInBounds_toArray, List.set_cons_zero, List.set_cons_succ])))
    refine B_nil ?_ rfl ?_ ?_
    · kernel_rfl
    · rfl
    rintro _ ⟨⟨g1, d1⟩, rfl⟩
    simp only [fin, Act.put, List.setIfInBounds_toArray, List.set_cons_zero, List.set_cons_succ]

    go_wp2

    refine wp_region_rq (by kernel_rfl) (by kernel_rfl) (by kernel_rfl) ?_
    repeat (first
      | (refine B_skip ?_ ?_; (· rfl); (try simp only [Act.put, List.setIfInBounds_toArray, List.set_cons_zero, List.set_cons_succ]))
      | (refine B_move rfl ?_ ?_; (· rfl); (try simp only [Act.eval, Act.put, Array.getD_eq_getD_getElem?, List.getElem?_toArray, List.getElem?_cons_succ, List.getElem?_cons_zero, Option.getD_some, List.setIfInBounds_toArray, List.set_cons_zero, List.set_cons_succ]))
      | (refine B_plain ?_ ?_; (· rfl); intro K hK; go_big_quiet_op; with_reducible refine hK _ ?_; clear hK K)
      | (refine B_callX (v := ?_) (f := 33) rfl (by kernel_rfl) ?_ (fun xq => ?_) ?_; rotate_left; (· rfl); (· ((simp only [List.map_toArray, List.map_cons, List.map_nil, Act.eval, Array.getD_eq_getD_getElem?, List.getElem?_toArray, List.getElem?_cons_succ, List.getElem?_cons_zero, Option.getD_some]); with_reducible apply retB; with_reducible exact (chain_none x far HN.out _))); (try simp only [Act.put, List.setIfInBounds_toArray, List.set_cons_zero, List.set_cons_succ])))
    refine B_nil ?_ rfl ?_ ?_
    · kernel_rfl
    · rfl
    rintro _ ⟨⟨g2, d2⟩, rfl⟩
    simp only [fin, Act.put, List.setIfInBounds_toArray, List.set_cons_zero, List.set_cons_succ]

    go_wp2

    go_ret
    exact ⟨rfl, by (repeat' (first | (with_reducible exact Below.refl _ _) | (with_reducible refine bplus ?_ _ _) | (with_reducible refine balloc ?_ _) | (with_reducible refine Below.drew ?_) | (with_reducible refine bdrewN ?_ _) | (with_reducible refine Below.setCell ?_ (by go_size) _)))⟩


end Go.Proofs.Ytmfogedagepcgaa
