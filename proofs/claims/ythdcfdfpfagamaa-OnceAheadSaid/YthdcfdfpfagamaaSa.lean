/- baizeref01.Same of the same bytes; once's examples. -/
import Derived.Test.YthdcfdfpfagamaaSg
namespace Go.Proofs.Ythdcfdfpfagamaa
set_option linter.unusedSimpArgs false
set_option linter.unusedVariables false
open Go.RowKit

set_option maxRecDepth 100000 in
set_option maxHeartbeats 1000000 in
theorem same01_yes (u v : Value) (l : List UInt8) (w : World) (hu : BSl w u l) (hv : BSl w v l) (hl : l.length ≤ 1000000) :
    Calls Try.prog 22 #[u, v] w fun e w' => e = .returned (.bool true) ∧ Below w.heap.size w w' := by
  obtain ⟨ao, cap, rfl, h1, h2, h3⟩ := hu.open_
  obtain ⟨ao', cap', rfl, h1', h2', h3'⟩ := hv.open_
  have H3 := Lib.hid h3
  have H3' := Lib.hid h3'
  clear hu hv h2 h2' h3 h3'
  go_enter Try.func22, Try.ntmps22
  go_wp2
  go_loopw [5] (fun i wr => ∃ (k : Nat) (g : Array Obj) (d : Nat), k ≤ l.length ∧ i = .int .i64 k ∧ wr = plus w g d) (fun i _ => l.length - (intOf i).toNat)
  case atStart => exact ⟨0, #[], w.drawn, by omega, rfl, plus_self _⟩
  case round =>
    obtain ⟨k, g, d, hk, rfl, rfl⟩ := hrel
    by_cases hlt : k < l.length
    · obtain ⟨b, o, rfl, hb, hc⟩ : ∃ b o, ao = some ⟨b, o, none⟩ ∧ b < w.heap.size ∧ ∀ i, i < l.length → w.cell? ⟨b, o + i, none⟩ = some (.int .u8 ((l.getD i 0).toNat : Int)) := by
        rcases H3.out with rfl | h
        · simp at hlt
        · exact h
      obtain ⟨b', o', rfl, hb', hc'⟩ : ∃ b o, ao' = some ⟨b, o, none⟩ ∧ b < w.heap.size ∧ ∀ i, i < l.length → w.cell? ⟨b, o + i, none⟩ = some (.int .u8 ((l.getD i 0).toNat : Int)) := by
        rcases H3'.out with rfl | h
        · simp at hlt
        · exact h
      have c1 := hc k hlt
      have c2 := hc' k hlt
      obtain ⟨q, hq⟩ : ∃ q, q = l.getD k 0 := ⟨_, rfl⟩
      rw [← hq] at c1 c2
      have i0 : (0 : Int) ≤ k := by omega
      have i1 : (k : Int) < l.length := by omega
      clear hc hc' hq
      go_wp2
      refine wp_region_rq (by kernel_rfl) (by kernel_rfl) (by kernel_rfl) ?_
      repeat (first
        | (refine B_skip ?_ ?_; (· rfl); (try simp only [Act.put, List.setIfInBounds_toArray, List.set_cons_zero, List.set_cons_succ]))
        | (refine B_move rfl ?_ ?_; (· rfl); (try simp only [Act.eval, Act.put, Array.getD_eq_getD_getElem?, List.getElem?_toArray, List.getElem?_cons_succ, List.getElem?_cons_zero, Option.getD_some, List.setIfInBounds_toArray, List.set_cons_zero, List.set_cons_succ]))
        | (refine B_plain ?_ ?_; (· rfl); intro K hK; go_big_quiet_op; with_reducible refine hK _ ?_; clear hK K)
        | (fail))
      refine B_nil ?_ rfl ?_ ?_
      · kernel_rfl
      · rfl
      rintro _ ⟨⟨g1, d1⟩, rfl⟩
      simp only [fin, Act.put, List.setIfInBounds_toArray, List.set_cons_zero, List.set_cons_succ]
      go_wp2
      go_roundw
      case rel => exact ⟨k + 1, _, _, by omega, by go_num, rfl⟩
      case measure => simp [intOf]; omega
    · obtain rfl : k = l.length := by omega
      go_wp2
      go_ret
      exact ⟨rfl, by (repeat' (first | (with_reducible exact Below.refl _ _) | (with_reducible refine bplus ?_ _ _) | (with_reducible refine balloc ?_ _) | (with_reducible refine Below.drew ?_) | (with_reducible refine bdrewN ?_ _) | (with_reducible refine Below.setCell ?_ (by go_size) _)))⟩

end Go.Proofs.Ythdcfdfpfagamaa
