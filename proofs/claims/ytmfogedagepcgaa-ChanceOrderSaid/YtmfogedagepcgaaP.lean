/- The law ChanceOrder: what is plain of it, and its walk. -/
import Derived.Test.YtmfogedagepcgaaK
namespace Go.Proofs.Ytmfogedagepcgaa
open Go.RowKit

theorem count_range' (p q i : Nat) : (List.range' p q).count i = if p ≤ i ∧ i < p + q then 1 else 0 := by
  induction q with
  | zero => rw [if_neg (by omega)]; simp
  | succ q ih =>
    rw [List.range'_concat, List.count_append, ih, Nat.one_mul, List.count_singleton]
    have hb : (if (p + q == i) = true then 1 else 0 : Nat) = if p + q = i then 1 else 0 := by simp
    rw [hb]
    split <;> split <;> split <;> omega

theorem stay_app (gone : List Bool) (p q r : Nat) : stay gone p q ++ stay gone (p + q) r = stay gone p (q + r) := by
  unfold stay
  rw [← List.filter_append]
  congr 1
  have := List.range'_append (s := p) (m := q) (n := r) (step := 1)
  rwa [Nat.one_mul] at this

theorem stay_count (gone : List Bool) (p q i : Nat) (h : gone.getD i true = false) : (stay gone p q).count i = if p ≤ i ∧ i < p + q then 1 else 0 := by
  unfold stay
  rw [List.count_filter (by rw [h]; rfl), count_range']

theorem order_count (m : Nat) (gone : List Bool) (i : Nat) (hm : m < gone.length) (hi : i < gone.length) (h : gone.getD i true = false) : (orderL m gone).count i = 1 := by
  unfold orderL
  rw [List.count_append, stay_count _ _ _ _ h, stay_count _ _ _ _ h]
  by_cases hc : m + 1 ≤ i
  · rw [if_pos (by omega), if_neg (by omega)]
  · rw [if_neg (by omega), if_pos (by omega)]

theorem order_len (m : Nat) (gone : List Bool) (hm : m < gone.length) : (orderL m gone).length = (stay gone 0 gone.length).length := by
  have h := stay_app gone 0 (m + 1) (gone.length - (m + 1))
  rw [Nat.zero_add, show m + 1 + (gone.length - (m + 1)) = gone.length by omega] at h
  unfold orderL
  rw [← h, List.length_append, List.length_append, Nat.add_comm]

theorem order_last (m : Nat) (gone : List Bool) (h : gone.getD m true = false) : 0 < (orderL m gone).length ∧ (orderL m gone).getD ((orderL m gone).length - 1) 0 = m := by
  unfold orderL
  rw [stay_stays gone 0 m (by rw [Nat.zero_add]; exact h), Nat.zero_add, ← List.append_assoc]
  generalize stay gone (m + 1) (gone.length - (m + 1)) ++ stay gone 0 m = l
  rw [List.length_append, List.length_singleton, Nat.add_sub_cancel, List.getD_eq_getElem?_getD, List.getElem?_append_right (Nat.le_refl _), Nat.sub_self]
  exact ⟨by omega, rfl⟩

theorem order_le (m : Nat) (gone : List Bool) (hm : m < gone.length) : (orderL m gone).length ≤ gone.length := by
  rw [← partL_all m gone hm]; exact partL_le _ _ _

end Go.Proofs.Ytmfogedagepcgaa
