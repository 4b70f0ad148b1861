/- talk: contracts of right and of what it calls; of EqualFunc over messages. -/
import Derived.Test.YtgjodjkmefdilaaTc
namespace Go.Proofs.Ytgjodjkmefdilaa
set_option linter.unusedSimpArgs false
set_option linter.unusedVariables false
open Go.RowKit

/-- Is one of the messages too long? -/
def longL (ms : List (List UInt8)) : Bool := ms.any fun m => decide (4096 < m.length)
theorem longL_yes {ms : List (List UInt8)} {k : Nat} (hk : k < ms.length) (h : 4096 < (ms.getD k []).length) : longL ms = true := by
  unfold longL
  rw [List.any_eq_true]
  refine ⟨ms[k], List.getElem_mem hk, ?_⟩
  rw [List.getD_eq_getElem?_getD, List.getElem?_eq_getElem hk] at h
  simpa using h
theorem longL_no {ms : List (List UInt8)} (h : ∀ j, j < ms.length → (ms.getD j []).length ≤ 4096) : longL ms = false := by
  unfold longL
  rw [List.any_eq_false]
  intro m hm
  obtain ⟨i, hi, rfl⟩ := List.getElem_of_mem hm
  have := h i hi
  rw [List.getD_eq_getElem?_getD, List.getElem?_eq_getElem hi] at this
  simp at this ⊢
  omega

set_option maxRecDepth 100000 in
set_option maxHeartbeats 1000000 in
theorem right1_to (ao : Option Addr) (n cap : Nat) (w : World) (b : Bool) (hb : decide (4096 < n) = b) :
    Calls Try.prog 42 #[.slice ao n cap] w fun e w' => e = .returned (.bool b) ∧ w' = w := by
  have hd : decide ((4096 : Int) < (n : Int)) = b := by rw [← hb, Bool.eq_iff_iff, decide_eq_true_iff, decide_eq_true_iff]; omega
  go_enter Try.func42, Try.ntmps42
  go_wp2
  go_ret
  exact ⟨by rw [← hd]; rfl, rfl⟩

set_option maxRecDepth 100000 in
set_option maxHeartbeats 2000000 in
theorem index_to (v : Value) (ms : List (List UInt8)) (w : World) (hn : ms.length ≤ 1000000000) (hv : MsgL w [] v ms) :
    Calls Try.prog 43 #[v, .func (.func 42) #[] #[]] w fun e w' => ∃ z : Int, e = .returned (.int .i64 z) ∧ decide (0 ≤ z) = longL ms ∧ Ow w' w [] := by
  obtain ⟨ao, cap, rfl⟩ := hv.slice
  have HV := Lib.hid hv
  have HS := Lib.hid (Ow.start w)
  clear hv
  go_enter Try.func43, Try.ntmps43
  go_wp2_with fail
  go_loopw [8] (fun i wr => ∃ (k : Nat), i = .int .i64 k ∧ k ≤ ms.length ∧ (∀ j, j < k → (ms.getD j []).length ≤ 4096) ∧ Ow wr w []) (fun i _ => ms.length - (intOf i).toNat)
  case atStart => exact ⟨0, rfl, by omega, fun j hj => by omega, HS.out⟩
  case round =>
    obtain ⟨k, rfl, hk, hj, O⟩ := hrel
    have HO := Lib.hid O
    have HJ := Lib.hid hj
    by_cases hlt : k < ms.length
    · obtain ⟨r, o, ak, ck, rfl, hr, hc, hm⟩ := HV.out.at_ O sub_nil k hlt
      obtain ⟨m, HMk⟩ : ∃ m, Hid (ms.getD k [] = m) := ⟨_, rfl⟩
      rw [HMk.out] at hc
      clear O hj hm
      cases hb : decide (4096 < m.length) with
      | true =>
        go_wp2_with fail
        refine (right1_to _ _ _ _ true hb).mono ?_
        rintro e w1 ⟨rfl, rfl⟩
        go_wp2
        go_ret
        refine ⟨_, rfl, ?_, HO.out⟩
        rw [longL_yes hlt (by rw [HMk.out]; simpa using hb)]
        simp
      | false =>
        go_wp2_with fail
        refine (right1_to _ _ _ _ false hb).mono ?_
        rintro e w1 ⟨rfl, rfl⟩
        go_wp2
        refine ⟨⟨k + 1, by simp, by omega, fun j hj => ?_, HO.out⟩, by simp [intOf]; omega⟩
        rcases Nat.lt_succ_iff_lt_or_eq.1 hj with h | rfl
        · exact HJ.out j h
        · rw [HMk.out]; simpa using hb
    · obtain rfl : k = ms.length := by omega
      clear O hj
      go_wp2
      go_ret
      refine ⟨_, rfl, ?_, HO.out⟩
      rw [longL_no HJ.out]
      rfl

set_option maxRecDepth 100000 in
set_option maxHeartbeats 2000000 in
theorem contains_to (v : Value) (ms : List (List UInt8)) (w : World) (hn : ms.length ≤ 1000000000) (hv : MsgL w [] v ms) (b : Bool) (hb : longL ms = b) :
    Calls Try.prog 41 #[v, .func (.func 42) #[] #[]] w fun e w' => e = .returned (.bool b) ∧ Ow w' w [] := by
  go_enter Try.func41, Try.ntmps41
  go_wp2_with fail
  refine (index_to v ms _ hn hv).mono ?_
  rintro e w1 ⟨z, rfl, hz, O⟩
  have HO := Lib.hid O
  rw [hb] at hz
  clear O
  go_wp2
  go_ret
  exact ⟨by rw [← hz]; rfl, HO.out⟩

/-- May a packet be? -/
def rightT (T : TS) (fi : Int) (ms : List (List UInt8)) (he : Int) : Bool := decide (0 ≤ fi) && decide (0 ≤ he) && decide (ms.length ≤ 64) && !longL ms && decide (he ≤ T.said)

set_option maxRecDepth 100000 in
set_option maxHeartbeats 2000000 in
theorem right_to (p : Nat) (T : TS) (B F L : List Blk) (w w0 : World) (O : Ow w w0 (B ++ F)) (hT : TkB w0 L p T B) (fi he : Int) (v : Value) (ms : List (List UInt8)) (hn : ms.length ≤ 1000000000) (hv : MsgL w [] v ms) (b : Bool) (hb : rightT T fi ms he = b) :
    Calls Try.prog 36 #[ptr p, .agg #[.int .i64 fi, v, .int .i64 he]] w fun e w' => e = .returned (.bool b) ∧ Ow w' w [] := by
  obtain ⟨vw, ws, Bw, vg, gs, Bg, Rw, Mw, Rg, Mg, O', HB, -⟩ := hT.open_ O
  obtain ⟨ao, cap, rfl⟩ := hv.slice
  have c4 := HB.cell 4
  have hlt := HB.lt
  simp only [tcs] at c4
  have HV := Lib.hid (hv.here ((Ow.start w).key #[.int .i64 fi, .slice ao ms.length cap, .int .i64 he] 36 w.heap.size rfl) sub_nil)
  have HS := Lib.hid ((Ow.start w).key #[.int .i64 fi, .slice ao ms.length cap, .int .i64 he] 36 w.heap.size rfl)
  have HO := Lib.hid O'
  have HB0 := Lib.hid hb
  generalize hlen : ms.length = n at *
  clear O O' HB Rw Mw Rg Mg hT hv hb
  unfold rightT at HB0
  have key : ∀ c, Hid (c = b) → c = b := fun c h => h.out
  replace HB0 := key _ HB0
  by_cases h1 : fi < 0
  · have e1 : decide (0 ≤ fi) = false := decide_eq_false (by omega)
    rw [e1] at HB0
    simp only [Bool.false_and] at HB0
    subst HB0
    go_enter Try.func36, Try.ntmps36
    go_wp2
    go_ret
    exact ⟨rfl, HS.out.drop1⟩
  · have e1 : decide (0 ≤ fi) = true := decide_eq_true (by omega)
    rw [e1] at HB0
    by_cases h2 : he < 0
    · have e2 : decide (0 ≤ he) = false := decide_eq_false (by omega)
      rw [e2] at HB0
      simp only [Bool.false_and, Bool.true_and] at HB0
      subst HB0
      go_enter Try.func36, Try.ntmps36
      go_wp2
      go_ret
      exact ⟨rfl, HS.out.drop1⟩
    · have e2 : decide (0 ≤ he) = true := decide_eq_true (by omega)
      rw [e2] at HB0
      by_cases h3 : 64 < n
      · have e3 : decide (n ≤ 64) = false := decide_eq_false (by omega)
        have e3' : decide ((64 : Int) < (n : Int)) = true := decide_eq_true (by omega)
        rw [hlen, e3] at HB0
        simp only [Bool.false_and, Bool.and_false] at HB0
        subst HB0
        go_enter Try.func36, Try.ntmps36
        go_wp2
        go_ret
        exact ⟨rfl, HS.out.drop1⟩
      · have e3 : decide (n ≤ 64) = true := decide_eq_true (by omega)
        have e3' : decide ((64 : Int) < (n : Int)) = false := decide_eq_false (by omega)
        rw [hlen, e3] at HB0
        simp only [Bool.true_and] at HB0
        go_enter Try.func36, Try.ntmps36
        go_wp2_with fail
        refine (contains_to _ ms _ (by omega) HV.out _ rfl).mono ?_
        rintro e w1 ⟨rfl, O1⟩
        have O2 := (HO.out.key #[.int .i64 fi, .slice ao n cap, .int .i64 he] 36 w.heap.size rfl).of_below O1.below
        have HBq := O2.has (List.mem_cons_self ..)
        have HBp := O2.has (List.mem_cons_of_mem _ (List.mem_cons_self ..))
        have d2 := HBq.cell 2
        have lt2 := HBq.lt
        have e4 := HBp.cell 4
        have ltp := HBp.lt
        simp only [tcs] at e4
        have HB5 := Lib.hid (HS.out.of_below O1.below)
        clear O1 O2 HBq HBp c4 hlt
        cases hl : longL ms with
        | true =>
          rw [hl] at HB0
          simp only [Bool.not_true, Bool.false_and] at HB0
          subst HB0
          go_wp2
          go_ret
          exact ⟨rfl, HB5.out.drop1⟩
        | false =>
          rw [hl] at HB0
          simp only [Bool.not_false, Bool.true_and] at HB0
          go_wp2
          refine wp_region_rq (by kernel_rfl) (by kernel_rfl) (by kernel_rfl) ?_
          repeat (first
            | (refine B_skip ?_ ?_; (· rfl); (try simp only [Act.put, List.setIfInBounds_toArray, List.set_cons_zero, List.set_cons_succ]))
            | (refine B_move rfl ?_ ?_; (· rfl); (try simp only [Act.eval, Act.put, Array.getD_eq_getD_getElem?, List.getElem?_toArray, List.getElem?_cons_succ, List.getElem?_cons_zero, Option.getD_some, List.setIfInBounds_toArray, List.set_cons_zero, List.set_cons_succ]))
            | (refine B_plain ?_ ?_; (· rfl); intro K hK; go_big_quiet_op; with_reducible refine hK _ ?_; clear hK K)
            | (refine B_nilck rfl rfl ?_ ?_; (· rfl); (try simp only [Act.put, List.setIfInBounds_toArray, List.set_cons_zero, List.set_cons_succ])))
          refine B_nil ?_ rfl ?_ ?_
          · kernel_rfl
          · rfl
          rintro _ ⟨⟨g1, d1⟩, rfl⟩
          simp only [fin, Act.put, List.setIfInBounds_toArray, List.set_cons_zero, List.set_cons_succ]
          go_wp2
          go_ret
          exact ⟨by rw [← HB0]; rfl, (HB5.out.plus _ _).drop1⟩

end Go.Proofs.Ytgjodjkmefdilaa
