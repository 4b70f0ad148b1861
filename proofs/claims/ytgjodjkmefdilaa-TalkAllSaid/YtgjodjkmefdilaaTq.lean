/- talk: EqualFunc over messages; the reference's Same. -/
import Derived.Test.YtgjodjkmefdilaaTc
namespace Go.Proofs.Ytgjodjkmefdilaa
set_option linter.unusedSimpArgs false
set_option linter.unusedVariables false
open Go.RowKit

theorem list_ext_getD {α : Type} (d : α) {l r : List α} (hl : l.length = r.length) (h : ∀ j, j < l.length → l.getD j d = r.getD j d) : l = r := by
  apply List.ext_getElem hl
  intro i h1 h2
  have := h i h1
  rw [List.getD_eq_getElem?_getD, List.getD_eq_getElem?_getD, List.getElem?_eq_getElem h1, List.getElem?_eq_getElem h2] at this
  simpa using this

set_option maxRecDepth 100000 in
set_option maxHeartbeats 2000000 in
theorem eqfun_to (v1 v2 : Value) (l r : List (List UInt8)) (w : World) (hn : l.length ≤ 1000000000) (hn2 : r.length ≤ 1000000000) (h1 : MsgL w [] v1 l) (h2 : MsgL w [] v2 r) (b : Bool) (hb : decide (l = r) = b) :
    Calls Try.prog 39 #[v1, v2, .func (.func 40) #[] #[]] w fun e w' => e = .returned (.bool b) ∧ Ow w' w [] := by
  obtain ⟨a1, c1, rfl⟩ := h1.slice
  obtain ⟨a2, c2, rfl⟩ := h2.slice
  have HV1 := Lib.hid h1
  have HV2 := Lib.hid h2
  have HS := Lib.hid (Ow.start w)
  have HB := Lib.hid hb
  clear h1 h2 hb
  by_cases hlen : l.length = r.length
  · generalize hr : r.length = n at *
    have hd : ((n : Int) != (n : Int)) = false := by simp
    rw [hlen] at HV1
    rw [hlen]
    go_enter Try.func39, Try.ntmps39
    go_wp2_with fail
    go_loopw [17] (fun i wr => ∃ (k : Nat), i = .int .i64 k ∧ k ≤ n ∧ (∀ j, j < k → l.getD j [] = r.getD j []) ∧ Ow wr w []) (fun i _ => n - (intOf i).toNat)
    case atStart => exact ⟨0, rfl, by omega, fun j hj => by omega, HS.out⟩
    case round =>
      obtain ⟨k, rfl, hk, hj, O⟩ := hrel
      have HO := Lib.hid O
      have HJ := Lib.hid hj
      by_cases hlt : k < n
      · obtain ⟨r1, o1, ak, ck, rfl, hr1, hc1, hm1⟩ := HV1.out.at_ O sub_nil k (by omega)
        obtain ⟨r2, o2, bk, dk, rfl, hr2, hc2, hm2⟩ := HV2.out.at_ O sub_nil k (by omega)
        obtain ⟨m1, HM1⟩ : ∃ m, Hid (l.getD k [] = m) := ⟨_, rfl⟩
        obtain ⟨m2, HM2⟩ : ∃ m, Hid (r.getD k [] = m) := ⟨_, rfl⟩
        rw [HM1.out] at hc1 hm1
        rw [HM2.out] at hc2 hm2
        have HX1 := Lib.hid (hm1.bsl O sub_nil)
        have HX2 := Lib.hid (hm2.bsl O sub_nil)
        clear O hj hm1 hm2
        cases hb : (m1 == m2) with
        | true =>
          go_wp2_with fail
          refine (equalB_any _ _ m1 m2 true hb _ HX1.out HX2.out).mono ?_
          rintro e w1 ⟨rfl, rfl⟩
          go_wp2
          refine ⟨⟨k + 1, by simp, by omega, fun j hj => ?_, HO.out⟩, by simp [intOf]; omega⟩
          rcases Nat.lt_succ_iff_lt_or_eq.1 hj with h | rfl
          · exact HJ.out j h
          · rw [HM1.out, HM2.out]; simpa using hb
        | false =>
          go_wp2_with fail
          refine (equalB_any _ _ m1 m2 false hb _ HX1.out HX2.out).mono ?_
          rintro e w1 ⟨rfl, rfl⟩
          go_wp2
          go_ret
          have hne : l ≠ r := fun e => by
            have := HM1.out
            rw [e, HM2.out] at this
            subst this
            simp at hb
          refine ⟨?_, HO.out⟩
          rw [← HB.out, decide_eq_false hne]
          rfl
      · obtain rfl : k = n := by omega
        clear O hj
        go_wp2
        go_ret
        have he : l = r := list_ext_getD [] (by omega) (fun j hj => HJ.out j (by omega))
        refine ⟨?_, HO.out⟩
        rw [← HB.out, decide_eq_true he]
        rfl
  · have hd : ((l.length : Int) == (r.length : Int)) = false := by simp; omega
    go_enter Try.func39, Try.ntmps39
    go_wp2
    go_ret
    refine ⟨?_, HS.out⟩
    rw [← HB.out, decide_eq_false (fun e => hlen (by rw [e]))]
    rfl

theorem run_strB (W : World) (v : Value) (l : List UInt8) (h : BSl W v l) : (convert 34 9 v).run Try.prog W = .ok (.string { data := l.toArray }) W :=
  run_str W _ _ _ v l Try.underlying34 Try.underlying5 Try.underlying9 h

set_option maxRecDepth 100000 in
set_option maxHeartbeats 2000000 in
theorem same_to (v1 v2 : Value) (l r : List (List UInt8)) (w : World) (hn : l.length ≤ 1000000000) (hn2 : r.length ≤ 1000000000) (h1 : MsgL w [] v1 l) (h2 : MsgL w [] v2 r) (b : Bool) (hb : decide (l = r) = b) :
    Calls Try.prog 17 #[v1, v2] w fun e w' => e = .returned (.bool b) ∧ Ow w' w [] := by
  obtain ⟨a1, c1, rfl⟩ := h1.slice
  obtain ⟨a2, c2, rfl⟩ := h2.slice
  have HV1 := Lib.hid h1
  have HV2 := Lib.hid h2
  have HS := Lib.hid (Ow.start w)
  have HB := Lib.hid hb
  clear h1 h2 hb
  by_cases hlen : l.length = r.length
  · generalize hr : r.length = n at *
    have hd : ((n : Int) != (n : Int)) = false := by simp
    rw [hlen] at HV1
    rw [hlen]
    go_enter Try.func17, Try.ntmps17
    go_wp2_with fail
    go_loopw [5] (fun i wr => ∃ (k : Nat), i = .int .i64 k ∧ k ≤ n ∧ (∀ j, j < k → l.getD j [] = r.getD j []) ∧ Ow wr w []) (fun i _ => n - (intOf i).toNat)
    case atStart => exact ⟨0, rfl, by omega, fun j hj => by omega, HS.out⟩
    case round =>
      obtain ⟨k, rfl, hk, hj, O⟩ := hrel
      have HO := Lib.hid O
      have HJ := Lib.hid hj
      by_cases hlt : k < n
      · obtain ⟨r1, o1, ak, ck, rfl, hr1, hc1, hm1⟩ := HV1.out.at_ O sub_nil k (by omega)
        obtain ⟨r2, o2, bk, dk, rfl, hr2, hc2, hm2⟩ := HV2.out.at_ O sub_nil k (by omega)
        obtain ⟨m1, HM1⟩ : ∃ m, Hid (l.getD k [] = m) := ⟨_, rfl⟩
        obtain ⟨m2, HM2⟩ : ∃ m, Hid (r.getD k [] = m) := ⟨_, rfl⟩
        rw [HM1.out] at hc1 hm1
        rw [HM2.out] at hc2 hm2
        have hs1 : ∀ g d, (convert 34 9 (.slice ak m1.length ck)).run Try.prog (plus wr g d) = .ok (.string { data := m1.toArray }) (plus wr g d) := fun g d => run_strB _ _ m1 ((hm1.bsl O sub_nil).plus g d)
        have hs2 : ∀ g d, (convert 34 9 (.slice bk m2.length dk)).run Try.prog (plus wr g d) = .ok (.string { data := m2.toArray }) (plus wr g d) := fun g d => run_strB _ _ m2 ((hm2.bsl O sub_nil).plus g d)
        clear O hj hm1 hm2
        cases hb : (m1 == m2) with
        | true =>
          have hbb := (str_eq' m1 m2).trans hb
          go_wp2_with fail
          refine wp_region_rq (by kernel_rfl) (by kernel_rfl) (by kernel_rfl) ?_
          repeat (first
            | (refine B_skip ?_ ?_; (· rfl); (try simp only [Act.put, List.setIfInBounds_toArray, List.set_cons_zero, List.set_cons_succ]))
            | (refine B_move rfl ?_ ?_; (· rfl); (try simp only [Act.eval, Act.put, Array.getD_eq_getD_getElem?, List.getElem?_toArray, List.getElem?_cons_succ, List.getElem?_cons_zero, Option.getD_some, List.setIfInBounds_toArray, List.set_cons_zero, List.set_cons_succ]))
            | (refine B_plain ?_ ?_; (· rfl); intro K hK; go_big_quiet_op; with_reducible refine hK _ ?_; clear hK K)
            | (refine B_nilck rfl rfl ?_ ?_; (· rfl); (try simp only [Act.put, List.setIfInBounds_toArray, List.set_cons_zero, List.set_cons_succ])))
          refine B_nil ?_ rfl ?_ ?_
          · kernel_rfl
          · rfl
          rintro _ ⟨⟨g1, d1⟩, rfl⟩
          simp only [fin, Act.put, List.setIfInBounds_toArray, List.set_cons_zero, List.set_cons_succ]
          go_wp2
          refine ⟨⟨k + 1, by simp, by omega, fun j hj => ?_, HO.out.plus _ _⟩, by simp [intOf]; omega⟩
          rcases Nat.lt_succ_iff_lt_or_eq.1 hj with h | rfl
          · exact HJ.out j h
          · rw [HM1.out, HM2.out]; simpa using hb
        | false =>
          have hbb := (str_eq' m1 m2).trans hb
          go_wp2_with fail
          refine wp_region_rq (by kernel_rfl) (by kernel_rfl) (by kernel_rfl) ?_
          repeat (first
            | (refine B_skip ?_ ?_; (· rfl); (try simp only [Act.put, List.setIfInBounds_toArray, List.set_cons_zero, List.set_cons_succ]))
            | (refine B_move rfl ?_ ?_; (· rfl); (try simp only [Act.eval, Act.put, Array.getD_eq_getD_getElem?, List.getElem?_toArray, List.getElem?_cons_succ, List.getElem?_cons_zero, Option.getD_some, List.setIfInBounds_toArray, List.set_cons_zero, List.set_cons_succ]))
            | (refine B_plain ?_ ?_; (· rfl); intro K hK; go_big_quiet_op; with_reducible refine hK _ ?_; clear hK K)
            | (refine B_nilck rfl rfl ?_ ?_; (· rfl); (try simp only [Act.put, List.setIfInBounds_toArray, List.set_cons_zero, List.set_cons_succ])))
          refine B_nil ?_ rfl ?_ ?_
          · kernel_rfl
          · rfl
          rintro _ ⟨⟨g1, d1⟩, rfl⟩
          simp only [fin, Act.put, List.setIfInBounds_toArray, List.set_cons_zero, List.set_cons_succ]
          go_wp2
          go_ret
          have hne : l ≠ r := fun e => by
            have := HM1.out
            rw [e, HM2.out] at this
            subst this
            simp at hb
          refine ⟨?_, HO.out.plus _ _⟩
          rw [← HB.out, decide_eq_false hne]
          rfl
      · obtain rfl : k = n := by omega
        clear O hj
        go_wp2
        go_ret
        have he : l = r := list_ext_getD [] (by omega) (fun j hj => HJ.out j (by omega))
        refine ⟨?_, HO.out⟩
        rw [← HB.out, decide_eq_true he]
        rfl
  · have hd : ((l.length : Int) == (r.length : Int)) = false := by simp; omega
    go_enter Try.func17, Try.ntmps17
    go_wp2
    go_ret
    refine ⟨?_, HS.out⟩
    rw [← HB.out, decide_eq_false (fun e => hlen (by rw [e]))]
    rfl

end Go.Proofs.Ytgjodjkmefdilaa
