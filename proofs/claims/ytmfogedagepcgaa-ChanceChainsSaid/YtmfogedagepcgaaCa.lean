/- chance: Answer. -/
import Derived.Test.YtmfogedagepcgaaCh
namespace Go.Proofs.Ytmfogedagepcgaa
set_option linter.unusedSimpArgs false
set_option linter.unusedVariables false
open Go.RowKit

/-- The greatest place below k whose next one is the tip: is there one, and its value (0: none). -/
def AnsLaw (s t : BitVec 64) (f : Nat → Bool × BitVec 64) : Prop := f 0 = (false, 0#64) ∧ ∀ k, (oneF (chainF s k) = t → f (k + 1) = (true, chainF s k)) ∧ (oneF (chainF s k) ≠ t → f (k + 1) = f k)
theorem ans_ex (s t : BitVec 64) : ∃ f, AnsLaw s t f := by
  have : ∀ c : Nat → BitVec 64, ∃ f : Nat → Bool × BitVec 64, f 0 = (false, 0#64) ∧ ∀ k, (oneF (c k) = t → f (k + 1) = (true, c k)) ∧ (oneF (c k) ≠ t → f (k + 1) = f k) := by
    intro c
    generalize oneF = o
    refine ⟨fun n => Nat.rec (false, 0#64) (fun k r => if o (c k) = t then (true, c k) else r) n, rfl, fun k => ⟨fun h => ?_, fun h => ?_⟩⟩
    · exact if_pos h
    · exact if_neg h
  obtain ⟨f, h⟩ := this (chainF s)
  exact ⟨f, h⟩
noncomputable def ansP (s t : BitVec 64) : Nat → Bool × BitVec 64 := Classical.choose (ans_ex s t)
theorem ansP_law (s t : BitVec 64) : AnsLaw s t (ansP s t) := Classical.choose_spec (ans_ex s t)
noncomputable def fndF (s t : BitVec 64) (k : Nat) : BitVec 64 := (ansP s t k).2
noncomputable def hasF (s t : BitVec 64) (k : Nat) : Bool := (ansP s t k).1
theorem ans_0 (s t : BitVec 64) : hasF s t 0 = false ∧ fndF s t 0 = 0#64 := by
  have h := (ansP_law s t).1
  unfold hasF fndF; rw [h]; exact ⟨rfl, rfl⟩
theorem ans_hit (s t : BitVec 64) (k : Nat) (h : oneF (chainF s k) = t) : hasF s t (k + 1) = true ∧ fndF s t (k + 1) = chainF s k := by
  have h := ((ansP_law s t).2 k).1 h
  unfold hasF fndF; rw [h]; exact ⟨rfl, rfl⟩
theorem ans_miss (s t : BitVec 64) (k : Nat) (h : oneF (chainF s k) ≠ t) : hasF s t (k + 1) = hasF s t k ∧ fndF s t (k + 1) = fndF s t k := by
  have h := ((ansP_law s t).2 k).2 h
  unfold hasF fndF; rw [h]; exact ⟨rfl, rfl⟩

theorem ans_none (s t : BitVec 64) (k : Nat) (h : hasF s t k = false) : fndF s t k = 0#64 := by
  induction k with
  | zero => exact (ans_0 s t).2
  | succ k ih =>
    by_cases e : oneF (chainF s k) = t
    · rw [(ans_hit s t k e).1] at h; cases h
    · rw [(ans_miss s t k e).2]; exact ih (by rw [← (ans_miss s t k e).1]; exact h)

set_option maxRecDepth 100000 in
set_option maxHeartbeats 1000000 in
theorem answer_nil (t : BitVec 64) (w : World) :
    Calls Try.prog 59 #[.pointer none, .agg #[.int .u8 (by8 t 0), .int .u8 (by8 t 1), .int .u8 (by8 t 2), .int .u8 (by8 t 3), .int .u8 (by8 t 4), .int .u8 (by8 t 5), .int .u8 (by8 t 6), .int .u8 (by8 t 7)]] w fun e w' => e = .returned (.tuple #[.agg #[.int .u8 (by8 (0#64) 0), .int .u8 (by8 (0#64) 1), .int .u8 (by8 (0#64) 2), .int .u8 (by8 (0#64) 3), .int .u8 (by8 (0#64) 4), .int .u8 (by8 (0#64) 5), .int .u8 (by8 (0#64) 6), .int .u8 (by8 (0#64) 7)], .int .i64 1]) ∧ Below w.heap.size w w' := by
  have hz := Lib.hid dg_zero
  go_enter Try.func59, Try.ntmps59
  go_wp2
  refine bodyPost_ret (v := .tuple #[.agg #[.int .u8 0, .int .u8 0, .int .u8 0, .int .u8 0, .int .u8 0, .int .u8 0, .int .u8 0, .int .u8 0], .int .i64 1]) (by simp [results, Try.results59, go_sem]) rfl ⟨by rw [hz.out], by (repeat' (first | (with_reducible exact Below.refl _ _) | (with_reducible refine bplus ?_ _ _) | (with_reducible refine balloc ?_ _) | (with_reducible refine Below.drew ?_) | (with_reducible refine bdrewN ?_ _) | (with_reducible refine Below.setCell ?_ (by go_size) _)))⟩

end Go.Proofs.Ytmfogedagepcgaa
