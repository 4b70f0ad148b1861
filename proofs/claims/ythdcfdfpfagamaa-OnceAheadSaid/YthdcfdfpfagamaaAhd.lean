/- once.Ahead and the reference's: contracts. -/
import Derived.Test.YthdcfdfpfagamaaOnceShows
import Derived.Test.YthdcfdfpfagamaaOnceDigits
import Derived.WalkMore
namespace Go.Proofs.Ythdcfdfpfagamaa
set_option linter.unusedSimpArgs false
set_option linter.unusedVariables false
open Go.RowKit

/-- The first digit in which a is ahead of b. -/
def AheadR (a b : BitVec 64) (r : Int) : Prop := (∃ c : Nat, c < 18 ∧ r = c ∧ dgt b c < dgt a c ∧ ∀ j, j < c → dgt a j ≤ dgt b j) ∨ (r = -1 ∧ ∀ j, j < 18 → dgt a j ≤ dgt b j)
theorem ahead_ex (a b : BitVec 64) : ∃ r, AheadR a b r := by
  have h : ∀ n, n ≤ 18 → (∃ c : Nat, c < n ∧ dgt b c < dgt a c ∧ ∀ j, j < c → dgt a j ≤ dgt b j) ∨ ∀ j, j < n → dgt a j ≤ dgt b j := by
    intro n
    induction n with
    | zero => intro _; right; intro j hj; omega
    | succ n ih =>
      intro hn
      rcases ih (by omega) with ⟨c, h1, h2, h3⟩ | h
      · exact .inl ⟨c, by omega, h2, h3⟩
      · by_cases hd : dgt b n < dgt a n
        · exact .inl ⟨n, by omega, hd, h⟩
        · right
          intro j hj
          by_cases he : j = n
          · subst he; omega
          · exact h j (by omega)
  rcases h 18 (Nat.le_refl _) with ⟨c, h1, h2, h3⟩ | h
  · exact ⟨c, .inl ⟨c, h1, rfl, h2, h3⟩⟩
  · exact ⟨-1, .inr ⟨rfl, h⟩⟩
theorem AheadR.unique {a b : BitVec 64} {r r' : Int} (h : AheadR a b r) (h' : AheadR a b r') : r = r' := by
  rcases h with ⟨c, h1, rfl, h2, h3⟩ | ⟨rfl, h3⟩ <;> rcases h' with ⟨c', h1', rfl, h2', h3'⟩ | ⟨rfl, h3'⟩
  · rcases Nat.lt_trichotomy c c' with h | h | h
    · have := h3' c h; omega
    · rw [h]
    · have := h3 c' h; omega
  · have := h3' c h1; omega
  · have := h3 c' h1'; omega
  · rfl
theorem AheadR.self {a : BitVec 64} {r : Int} (h : AheadR a a r) : r = -1 := by
  rcases h with ⟨c, h1, rfl, h2, h3⟩ | ⟨rfl, _⟩
  · omega
  · rfl
theorem smDg_mono {a b : BitVec 64} (h : ∀ j, j < 18 → dgt a j ≤ dgt b j) : ∀ k, k ≤ 18 → smDg a k ≤ smDg b k
  | 0, _ => by simp [smDg]
  | k + 1, hk => by
    have := smDg_mono h k (by omega)
    have := h k (by omega)
    simp only [smDg]; omega
theorem smDg_eq {a b : BitVec 64} (h : ∀ j, j < 18 → dgt a j ≤ dgt b j) : ∀ k, k ≤ 18 → smDg a k = smDg b k → ∀ j, j < k → dgt a j = dgt b j
  | 0, _, _, j, hj => by omega
  | k + 1, hk, he, j, hj => by
    have h1 := smDg_mono h k (by omega)
    have h2 := h k (by omega)
    simp only [smDg] at he
    by_cases hjk : j = k
    · subst hjk; omega
    · exact smDg_eq h k (by omega) (by omega) j (by omega)
theorem dgt_inj {a b : BitVec 64} (h : ∀ j, j < 16 → dgt a j = dgt b j) : a = b := by
  apply by8_inj
  intro i hi
  have h1 := h (2 * i) (by omega)
  have h2 := h (2 * i + 1) (by omega)
  rw [← dgt_lo a i hi, ← dgt_lo b i hi] at h1
  rw [← dgt_hi a i hi, ← dgt_hi b i hi] at h2
  omega
theorem AheadR.other {a b : BitVec 64} {r : Int} (h : AheadR a b r) (hne : a ≠ b) : ∃ c : Nat, c < 18 ∧ r = c ∧ dgt b c < dgt a c := by
  rcases h with ⟨c, h1, h2, h3, _⟩ | ⟨_, h⟩
  · exact ⟨c, h1, h2, h3⟩
  · exfalso
    have hle : ∀ j, j < 18 → dgt a j ≤ dgt b j := fun j hj => h j hj
    have e1 := smDg_all a
    have e2 := smDg_all b
    have m := smDg_mono hle 16 (by omega)
    have d16 := hle 16 (by omega)
    have d17 := hle 17 (by omega)
    exact hne (dgt_inj (smDg_eq hle 16 (by omega) (by omega)))

set_option maxRecDepth 100000 in
set_option maxHeartbeats 4000000 in
theorem refAhead_to (a b : BitVec 64) (r : Int) (hr : AheadR a b r) (w : World) :
    Calls Try.prog 44 #[.agg #[.int .u8 (by8 a 0), .int .u8 (by8 a 1), .int .u8 (by8 a 2), .int .u8 (by8 a 3), .int .u8 (by8 a 4), .int .u8 (by8 a 5), .int .u8 (by8 a 6), .int .u8 (by8 a 7)], .agg #[.int .u8 (by8 b 0), .int .u8 (by8 b 1), .int .u8 (by8 b 2), .int .u8 (by8 b 3), .int .u8 (by8 b 4), .int .u8 (by8 b 5), .int .u8 (by8 b 6), .int .u8 (by8 b 7)]] w fun e w' => e = .returned (.int .i64 r) ∧ Below w.heap.size w w' := by
  have HR := Lib.hid hr
  clear hr
  go_enter Try.func44, Try.ntmps44
  go_wp2_with fail
  refine wpk_mem (fun W => Mem W w [(⟨w.heap.size + 1, 22, #[.int .u8 (by8 b 0), .int .u8 (by8 b 1), .int .u8 (by8 b 2), .int .u8 (by8 b 3), .int .u8 (by8 b 4), .int .u8 (by8 b 5), .int .u8 (by8 b 6), .int .u8 (by8 b 7)]⟩ : Blk), (⟨w.heap.size, 22, #[.int .u8 (by8 a 0), .int .u8 (by8 a 1), .int .u8 (by8 a 2), .int .u8 (by8 a 3), .int .u8 (by8 a 4), .int .u8 (by8 a 5), .int .u8 (by8 a 6), .int .u8 (by8 a 7)]⟩ : Blk)]) (((Mem.start w).key #[.int .u8 (by8 a 0), .int .u8 (by8 a 1), .int .u8 (by8 a 2), .int .u8 (by8 a 3), .int .u8 (by8 a 4), .int .u8 (by8 a 5), .int .u8 (by8 a 6), .int .u8 (by8 a 7)] 22 w.heap.size rfl).key #[.int .u8 (by8 b 0), .int .u8 (by8 b 1), .int .u8 (by8 b 2), .int .u8 (by8 b 3), .int .u8 (by8 b 4), .int .u8 (by8 b 5), .int .u8 (by8 b 6), .int .u8 (by8 b 7)] 22 (w.heap.size + 1) (by simp)) ?_
  intro W M
  have HN0 : Hid (New w [(⟨w.heap.size + 1, 22, #[.int .u8 (by8 b 0), .int .u8 (by8 b 1), .int .u8 (by8 b 2), .int .u8 (by8 b 3), .int .u8 (by8 b 4), .int .u8 (by8 b 5), .int .u8 (by8 b 6), .int .u8 (by8 b 7)]⟩ : Blk), (⟨w.heap.size, 22, #[.int .u8 (by8 a 0), .int .u8 (by8 a 1), .int .u8 (by8 a 2), .int .u8 (by8 a 3), .int .u8 (by8 a 4), .int .u8 (by8 a 5), .int .u8 (by8 a 6), .int .u8 (by8 a 7)]⟩ : Blk)]) := New.cons (Nat.le_succ _) (New.cons (Nat.le_refl _) (New.nil _))
  have cA := M.cell (b := w.heap.size) (t := 22) (cs := #[.int .u8 (by8 a 0), .int .u8 (by8 a 1), .int .u8 (by8 a 2), .int .u8 (by8 a 3), .int .u8 (by8 a 4), .int .u8 (by8 a 5), .int .u8 (by8 a 6), .int .u8 (by8 a 7)]) (by simp)
  have cB := M.cell (b := w.heap.size + 1) (t := 22) (cs := #[.int .u8 (by8 b 0), .int .u8 (by8 b 1), .int .u8 (by8 b 2), .int .u8 (by8 b 3), .int .u8 (by8 b 4), .int .u8 (by8 b 5), .int .u8 (by8 b 6), .int .u8 (by8 b 7)]) (by simp)
  have lA : w.heap.size < W.heap.size := M.lt (x := (⟨w.heap.size, 22, #[.int .u8 (by8 a 0), .int .u8 (by8 a 1), .int .u8 (by8 a 2), .int .u8 (by8 a 3), .int .u8 (by8 a 4), .int .u8 (by8 a 5), .int .u8 (by8 a 6), .int .u8 (by8 a 7)]⟩ : Blk)) (by simp)
  have lB : w.heap.size + 1 < W.heap.size := M.lt (x := (⟨w.heap.size + 1, 22, #[.int .u8 (by8 b 0), .int .u8 (by8 b 1), .int .u8 (by8 b 2), .int .u8 (by8 b 3), .int .u8 (by8 b 4), .int .u8 (by8 b 5), .int .u8 (by8 b 6), .int .u8 (by8 b 7)]⟩ : Blk)) (by simp)
  have HWW := Lib.hid (M.below HN0.out)
  clear M HN0
  refine wp_region_ri 6 2 5 6 ?_ (by kernel_rfl) (by kernel_rfl) (by kernel_rfl) (by kernel_rfl) (by kernel_rfl) ?_
  · exact ⟨fun b hb => by simp [undef] at hb, fun b hb => by simp [undef] at hb, fun b c hb => by simp [undef] at hb⟩
  simp only [List.take_succ_cons, List.take_zero]
  repeat (first
    | (refine B_skip ?_ ?_; (· rfl); (try simp only [Act.put, List.setIfInBounds_toArray, List.set_cons_zero, List.set_cons_succ]))
    | (refine B_move rfl ?_ ?_; (· rfl); (try simp only [Act.eval, Act.put, Array.getD_eq_getD_getElem?, List.getElem?_toArray, List.getElem?_cons_succ, List.getElem?_cons_zero, Option.getD_some, List.setIfInBounds_toArray, List.set_cons_zero, List.set_cons_succ]))
    | (refine B_plain ?_ ?_; (· rfl); intro K hK; go_big_quiet_op; with_reducible refine hK _ ?_; clear hK K)
    | (refine B_callX (v := ?_) (f := 26) rfl (by kernel_rfl) ?_ (fun xq => ?_) ?_; rotate_left; (· rfl); (· ((simp only [List.map_toArray, List.map_cons, List.map_nil, Act.eval, Array.getD_eq_getD_getElem?, List.getElem?_toArray, List.getElem?_cons_succ, List.getElem?_cons_zero, Option.getD_some]); with_reducible apply retB; with_reducible exact (digits_any a _))); (try simp only [Act.put, List.setIfInBounds_toArray, List.set_cons_zero, List.set_cons_succ]))
    | (refine B_callX (v := ?_) (f := 26) rfl (by kernel_rfl) ?_ (fun xq => ?_) ?_; rotate_left; (· rfl); (· ((simp only [List.map_toArray, List.map_cons, List.map_nil, Act.eval, Array.getD_eq_getD_getElem?, List.getElem?_toArray, List.getElem?_cons_succ, List.getElem?_cons_zero, Option.getD_some]); with_reducible apply retB; with_reducible exact (digits_any b _))); (try simp only [Act.put, List.setIfInBounds_toArray, List.set_cons_zero, List.set_cons_succ]))
    | (refine B_new (t := 31) (z := .agg #[.int .i64 0, .int .i64 0, .int .i64 0, .int .i64 0, .int .i64 0, .int .i64 0, .int .i64 0, .int .i64 0, .int .i64 0, .int .i64 0, .int .i64 0, .int .i64 0, .int .i64 0, .int .i64 0, .int .i64 0, .int .i64 0, .int .i64 0, .int .i64 0]) rfl rfl (by kernel_rfl) ?_ ?_; (· rfl)))
  refine B_nili ?_ rfl ?_ ?_
  · kernel_rfl
  · rfl
  rintro _ ⟨⟨g2, d2⟩, rfl⟩
  simp only [fin, Act.put, List.setIfInBounds_toArray, List.set_cons_zero, List.set_cons_succ]
  rintro _ ⟨q, rfl, hq, hqb⟩ _ ⟨p, rfl, hp, hpb⟩ hap
  have hne : p ≠ q := hap.ne p q rfl rfl
  have HM1 := Lib.hid ((Mem.start W).found2 (w := plus W g2 d2) (X := [⟨p, 31, #[.int .i64 0, .int .i64 0, .int .i64 0, .int .i64 0, .int .i64 0, .int .i64 0, .int .i64 0, .int .i64 0, .int .i64 0, .int .i64 0, .int .i64 0, .int .i64 0, .int .i64 0, .int .i64 0, .int .i64 0, .int .i64 0, .int .i64 0, .int .i64 0]⟩, ⟨q, 31, #[.int .i64 0, .int .i64 0, .int .i64 0, .int .i64 0, .int .i64 0, .int .i64 0, .int .i64 0, .int .i64 0, .int .i64 0, .int .i64 0, .int .i64 0, .int .i64 0, .int .i64 0, .int .i64 0, .int .i64 0, .int .i64 0, .int .i64 0, .int .i64 0]⟩]) (by (repeat' (first | (with_reducible exact Below.refl _ _) | (with_reducible refine bplus ?_ _ _) | (with_reducible refine balloc ?_ _) | (with_reducible refine Below.drew ?_) | (with_reducible refine bdrewN ?_ _) | (with_reducible refine Below.setCell ?_ (by go_size) _)))) (fun x hx => by
    simp only [List.mem_cons, List.not_mem_nil, or_false] at hx
    rcases hx with rfl | rfl
    · exact ⟨hp, hpb⟩
    · exact ⟨hq, hqb⟩) (by simpa using hne))
  clear hap hpb hqb cA cB lA lB
  refine step_one (n := 1) (k := 6) (by kernel_rfl) (by rfl) (by rfl) ?_
  intro K hK
  refine wp_store_blk 31 (.tmp 5) (.tmp 9) rfl (B := []) HM1.out (by rfl) (dgA a) (by rfl) (by kernel_rfl) (by rw [dgA_size]; rfl) (dgA_one a) (fun w' M' => hK _ _ ?_)
  have HM2 := Lib.hid M'
  clear hK K M' HM1
  refine last_one (k := 7) (by kernel_rfl) (by kernel_rfl) (by rfl) ?_ ?_
  · rfl
  intro K hK
  refine wp_store_blk 31 (.tmp 6) (.tmp 11) rfl (B := [(⟨p, 31, dgA a⟩ : Blk)]) HM2.out (by rfl) (dgA b) (by rfl) (by kernel_rfl) (by rw [dgA_size]; rfl) (dgA_one b) (fun w3 M' => hK _ _ ?_)
  have HM3 := Lib.hid (show Mem w3 W [(⟨p, 31, dgA a⟩ : Blk), (⟨q, 31, dgA b⟩ : Blk)] from M')
  clear hK K M' HM2
  simp only [Act.put, List.setIfInBounds_toArray, List.set_cons_zero, List.set_cons_succ]
  have HNP : Hid (New W [(⟨p, 31, dgA a⟩ : Blk), (⟨q, 31, dgA b⟩ : Blk)]) := New.cons hp (New.cons hq (New.nil _))
  go_wp2_with fail
  go_loopw [7] (fun i wr => ∃ c : Nat, i = .int .i64 c ∧ c ≤ 18 ∧ (∀ j, j < c → dgt a j ≤ dgt b j) ∧ Mem wr W [(⟨p, 31, dgA a⟩ : Blk), (⟨q, 31, dgA b⟩ : Blk)]) (fun i _ => 18 - (intOf i).toNat)
  case atStart => exact ⟨0, rfl, by omega, fun j hj => by omega, HM3.out⟩
  case round =>
    obtain ⟨c, rfl, hc, hlow, M⟩ := hrel
    by_cases hlt : c < 18
    · have hpa := dgt_bd a c
      have hqb := dgt_bd b c
      obtain ⟨pn, hpn⟩ : ∃ pn : Nat, dgt a c = (pn : Int) := ⟨(dgt a c).toNat, by omega⟩
      obtain ⟨qn, hqn⟩ : ∃ qn : Nat, dgt b c = (qn : Int) := ⟨(dgt b c).toNat, by omega⟩
      have cP : wr.cell? ⟨p, c, none⟩ = some (.int .i64 pn) := by rw [M.cell (b := p) (t := 31) (cs := dgA a) (by simp) c, dgA_get a c hlt, hpn]
      have cQ : wr.cell? ⟨q, c, none⟩ = some (.int .i64 qn) := by rw [M.cell (b := q) (t := 31) (cs := dgA b) (by simp) c, dgA_get b c hlt, hqn]
      have lP : p < wr.heap.size := M.lt (x := (⟨p, 31, dgA a⟩ : Blk)) (by simp)
      have lQ : q < wr.heap.size := M.lt (x := (⟨q, 31, dgA b⟩ : Blk)) (by simp)
      have hci : (c : Int) < 18 := by omega
      have HLOW := Lib.hid hlow
      have HM := Lib.hid M
      have HBW := Lib.hid (Below.trans HWW.out ((M.below HNP.out).mono HWW.out.size))
      clear M hlow
      go_wp2_with fail
      by_cases hpq : qn < pn
      · have hd1 : decide ((qn : Int) < (pn : Int)) = true := by rw [decide_eq_true_iff]; omega
        have hd2 : decide (qn < pn) = true := by rw [decide_eq_true_iff]; omega
        obtain rfl : r = (c : Int) := HR.out.unique (.inl ⟨c, hlt, rfl, by omega, HLOW.out⟩)
        clear hpa hqb hpn hqn
        refine wp_region_rq (by kernel_rfl) (by kernel_rfl) (by kernel_rfl) ?_
        repeat (first
          | (refine B_skip ?_ ?_; (· rfl); (try simp only [Act.put, List.setIfInBounds_toArray, List.set_cons_zero, List.set_cons_succ]))
          | (refine B_move rfl ?_ ?_; (· rfl); (try simp only [Act.eval, Act.put, Array.getD_eq_getD_getElem?, List.getElem?_toArray, List.getElem?_cons_succ, List.getElem?_cons_zero, Option.getD_some, List.setIfInBounds_toArray, List.set_cons_zero, List.set_cons_succ]))
          | (refine B_plain ?_ ?_; (· rfl); intro K hK; go_big_quiet_op; with_reducible refine hK _ ?_; clear hK K)
          | (fail))
        refine B_nil ?_ rfl ?_ ?_
        · kernel_rfl
        · rfl
        rintro _ ⟨⟨g8, d8⟩, rfl⟩
        simp only [fin, Act.put, List.setIfInBounds_toArray, List.set_cons_zero, List.set_cons_succ]
        go_wp2
        first | go_ret | (rw [Exit.noGoto_ret]; go_ret)
        exact ⟨rfl, bplus HBW.out _ _⟩
      · have hd1 : decide ((qn : Int) < (pn : Int)) = false := by rw [decide_eq_false_iff_not]; omega
        have hd2 : decide (qn < pn) = false := by rw [decide_eq_false_iff_not]; omega
        have HLOW2 : Hid (∀ j, j < c + 1 → dgt a j ≤ dgt b j) := fun j hj => by
          by_cases h : j = c
          · subst h; omega
          · exact HLOW.out j (by omega)
        clear hpa hqb hpn hqn
        refine wp_region_rq (by kernel_rfl) (by kernel_rfl) (by kernel_rfl) ?_
        repeat (first
          | (refine B_skip ?_ ?_; (· rfl); (try simp only [Act.put, List.setIfInBounds_toArray, List.set_cons_zero, List.set_cons_succ]))
          | (refine B_move rfl ?_ ?_; (· rfl); (try simp only [Act.eval, Act.put, Array.getD_eq_getD_getElem?, List.getElem?_toArray, List.getElem?_cons_succ, List.getElem?_cons_zero, Option.getD_some, List.setIfInBounds_toArray, List.set_cons_zero, List.set_cons_succ]))
          | (refine B_plain ?_ ?_; (· rfl); intro K hK; go_big_quiet_op; with_reducible refine hK _ ?_; clear hK K)
          | (fail))
        refine B_nil ?_ rfl ?_ ?_
        · kernel_rfl
        · rfl
        rintro _ ⟨⟨g8, d8⟩, rfl⟩
        simp only [fin, Act.put, List.setIfInBounds_toArray, List.set_cons_zero, List.set_cons_succ]
        go_wp2
        go_roundw
        case rel => exact ⟨c + 1, by go_num, by omega, HLOW2.out, HM.out.plus _ _⟩
        case measure => simp [intOf]; omega
    · obtain rfl : c = 18 := by omega
      have HBW := Lib.hid (Below.trans HWW.out ((M.below HNP.out).mono HWW.out.size))
      obtain rfl : r = -1 := HR.out.unique (.inr ⟨rfl, hlow⟩)
      clear M hlow
      go_wp2
      first | go_ret | (rw [Exit.noGoto_ret]; go_ret)
      exact ⟨rfl, HBW.out⟩

set_option maxRecDepth 100000 in
set_option maxHeartbeats 4000000 in
theorem ahead_to (a b : BitVec 64) (r : Int) (hr : AheadR a b r) (w : World) :
    Calls Try.prog 43 #[.agg #[.int .u8 (by8 a 0), .int .u8 (by8 a 1), .int .u8 (by8 a 2), .int .u8 (by8 a 3), .int .u8 (by8 a 4), .int .u8 (by8 a 5), .int .u8 (by8 a 6), .int .u8 (by8 a 7)], .agg #[.int .u8 (by8 b 0), .int .u8 (by8 b 1), .int .u8 (by8 b 2), .int .u8 (by8 b 3), .int .u8 (by8 b 4), .int .u8 (by8 b 5), .int .u8 (by8 b 6), .int .u8 (by8 b 7)]] w fun e w' => e = .returned (.int .i64 r) ∧ Below w.heap.size w w' := by
  have HR := Lib.hid hr
  clear hr
  go_enter Try.func43, Try.ntmps43
  go_wp2_with fail
  refine wpk_mem (fun W => Mem W w [(⟨w.heap.size + 1, 24, #[.int .u8 (by8 b 0), .int .u8 (by8 b 1), .int .u8 (by8 b 2), .int .u8 (by8 b 3), .int .u8 (by8 b 4), .int .u8 (by8 b 5), .int .u8 (by8 b 6), .int .u8 (by8 b 7)]⟩ : Blk), (⟨w.heap.size, 24, #[.int .u8 (by8 a 0), .int .u8 (by8 a 1), .int .u8 (by8 a 2), .int .u8 (by8 a 3), .int .u8 (by8 a 4), .int .u8 (by8 a 5), .int .u8 (by8 a 6), .int .u8 (by8 a 7)]⟩ : Blk)]) (((Mem.start w).key #[.int .u8 (by8 a 0), .int .u8 (by8 a 1), .int .u8 (by8 a 2), .int .u8 (by8 a 3), .int .u8 (by8 a 4), .int .u8 (by8 a 5), .int .u8 (by8 a 6), .int .u8 (by8 a 7)] 24 w.heap.size rfl).key #[.int .u8 (by8 b 0), .int .u8 (by8 b 1), .int .u8 (by8 b 2), .int .u8 (by8 b 3), .int .u8 (by8 b 4), .int .u8 (by8 b 5), .int .u8 (by8 b 6), .int .u8 (by8 b 7)] 24 (w.heap.size + 1) (by simp)) ?_
  intro W M
  have HN0 : Hid (New w [(⟨w.heap.size + 1, 24, #[.int .u8 (by8 b 0), .int .u8 (by8 b 1), .int .u8 (by8 b 2), .int .u8 (by8 b 3), .int .u8 (by8 b 4), .int .u8 (by8 b 5), .int .u8 (by8 b 6), .int .u8 (by8 b 7)]⟩ : Blk), (⟨w.heap.size, 24, #[.int .u8 (by8 a 0), .int .u8 (by8 a 1), .int .u8 (by8 a 2), .int .u8 (by8 a 3), .int .u8 (by8 a 4), .int .u8 (by8 a 5), .int .u8 (by8 a 6), .int .u8 (by8 a 7)]⟩ : Blk)]) := New.cons (Nat.le_succ _) (New.cons (Nat.le_refl _) (New.nil _))
  have cA := M.cell (b := w.heap.size) (t := 24) (cs := #[.int .u8 (by8 a 0), .int .u8 (by8 a 1), .int .u8 (by8 a 2), .int .u8 (by8 a 3), .int .u8 (by8 a 4), .int .u8 (by8 a 5), .int .u8 (by8 a 6), .int .u8 (by8 a 7)]) (by simp)
  have cB := M.cell (b := w.heap.size + 1) (t := 24) (cs := #[.int .u8 (by8 b 0), .int .u8 (by8 b 1), .int .u8 (by8 b 2), .int .u8 (by8 b 3), .int .u8 (by8 b 4), .int .u8 (by8 b 5), .int .u8 (by8 b 6), .int .u8 (by8 b 7)]) (by simp)
  have lA : w.heap.size < W.heap.size := M.lt (x := (⟨w.heap.size, 24, #[.int .u8 (by8 a 0), .int .u8 (by8 a 1), .int .u8 (by8 a 2), .int .u8 (by8 a 3), .int .u8 (by8 a 4), .int .u8 (by8 a 5), .int .u8 (by8 a 6), .int .u8 (by8 a 7)]⟩ : Blk)) (by simp)
  have lB : w.heap.size + 1 < W.heap.size := M.lt (x := (⟨w.heap.size + 1, 24, #[.int .u8 (by8 b 0), .int .u8 (by8 b 1), .int .u8 (by8 b 2), .int .u8 (by8 b 3), .int .u8 (by8 b 4), .int .u8 (by8 b 5), .int .u8 (by8 b 6), .int .u8 (by8 b 7)]⟩ : Blk)) (by simp)
  have HWW := Lib.hid (M.below HN0.out)
  clear M HN0
  apply wp_scope_straight
  go_wp2_with fail
  refine wp_region_ri 6 2 5 6 ?_ (by kernel_rfl) (by kernel_rfl) (by kernel_rfl) (by kernel_rfl) (by kernel_rfl) ?_
  · exact ⟨fun b hb => by simp [undef] at hb, fun b hb => by simp [undef] at hb, fun b c hb => by simp [undef] at hb⟩
  simp only [List.take_succ_cons, List.take_zero]
  repeat (first
    | (refine B_skip ?_ ?_; (· rfl); (try simp only [Act.put, List.setIfInBounds_toArray, List.set_cons_zero, List.set_cons_succ]))
    | (refine B_move rfl ?_ ?_; (· rfl); (try simp only [Act.eval, Act.put, Array.getD_eq_getD_getElem?, List.getElem?_toArray, List.getElem?_cons_succ, List.getElem?_cons_zero, Option.getD_some, List.setIfInBounds_toArray, List.set_cons_zero, List.set_cons_succ]))
    | (refine B_plain ?_ ?_; (· rfl); intro K hK; go_big_quiet_op; with_reducible refine hK _ ?_; clear hK K)
    | (refine B_callX (v := ?_) (f := 25) rfl (by kernel_rfl) ?_ (fun xq => ?_) ?_; rotate_left; (· rfl); (· ((simp only [List.map_toArray, List.map_cons, List.map_nil, Act.eval, Array.getD_eq_getD_getElem?, List.getElem?_toArray, List.getElem?_cons_succ, List.getElem?_cons_zero, Option.getD_some]); with_reducible apply retB; with_reducible exact (reach_any a _))); (try simp only [Act.put, List.setIfInBounds_toArray, List.set_cons_zero, List.set_cons_succ]))
    | (refine B_callX (v := ?_) (f := 25) rfl (by kernel_rfl) ?_ (fun xq => ?_) ?_; rotate_left; (· rfl); (· ((simp only [List.map_toArray, List.map_cons, List.map_nil, Act.eval, Array.getD_eq_getD_getElem?, List.getElem?_toArray, List.getElem?_cons_succ, List.getElem?_cons_zero, Option.getD_some]); with_reducible apply retB; with_reducible exact (reach_any b _))); (try simp only [Act.put, List.setIfInBounds_toArray, List.set_cons_zero, List.set_cons_succ]))
    | (refine B_new (t := 31) (z := .agg #[.int .i64 0, .int .i64 0, .int .i64 0, .int .i64 0, .int .i64 0, .int .i64 0, .int .i64 0, .int .i64 0, .int .i64 0, .int .i64 0, .int .i64 0, .int .i64 0, .int .i64 0, .int .i64 0, .int .i64 0, .int .i64 0, .int .i64 0, .int .i64 0]) rfl rfl (by kernel_rfl) ?_ ?_; (· rfl)))
  refine B_nili ?_ rfl ?_ ?_
  · kernel_rfl
  · rfl
  rintro _ ⟨⟨g2, d2⟩, rfl⟩
  simp only [fin, Act.put, List.setIfInBounds_toArray, List.set_cons_zero, List.set_cons_succ]
  rintro _ ⟨q, rfl, hq, hqb⟩ _ ⟨p, rfl, hp, hpb⟩ hap
  have hne : p ≠ q := hap.ne p q rfl rfl
  have HM1 := Lib.hid ((Mem.start W).found2 (w := plus W g2 d2) (X := [⟨p, 31, #[.int .i64 0, .int .i64 0, .int .i64 0, .int .i64 0, .int .i64 0, .int .i64 0, .int .i64 0, .int .i64 0, .int .i64 0, .int .i64 0, .int .i64 0, .int .i64 0, .int .i64 0, .int .i64 0, .int .i64 0, .int .i64 0, .int .i64 0, .int .i64 0]⟩, ⟨q, 31, #[.int .i64 0, .int .i64 0, .int .i64 0, .int .i64 0, .int .i64 0, .int .i64 0, .int .i64 0, .int .i64 0, .int .i64 0, .int .i64 0, .int .i64 0, .int .i64 0, .int .i64 0, .int .i64 0, .int .i64 0, .int .i64 0, .int .i64 0, .int .i64 0]⟩]) (by (repeat' (first | (with_reducible exact Below.refl _ _) | (with_reducible refine bplus ?_ _ _) | (with_reducible refine balloc ?_ _) | (with_reducible refine Below.drew ?_) | (with_reducible refine bdrewN ?_ _) | (with_reducible refine Below.setCell ?_ (by go_size) _)))) (fun x hx => by
    simp only [List.mem_cons, List.not_mem_nil, or_false] at hx
    rcases hx with rfl | rfl
    · exact ⟨hp, hpb⟩
    · exact ⟨hq, hqb⟩) (by simpa using hne))
  clear hap hpb hqb cA cB lA lB
  refine step_one (n := 1) (k := 6) (by kernel_rfl) (by rfl) (by rfl) ?_
  intro K hK
  refine wp_store_blk 31 (.tmp 5) (.tmp 10) rfl (B := []) HM1.out (by rfl) (dgA a) (by rfl) (by kernel_rfl) (by rw [dgA_size]; rfl) (dgA_one a) (fun w' M' => hK _ _ ?_)
  have HM2 := Lib.hid M'
  clear hK K M' HM1
  refine last_one (k := 7) (by kernel_rfl) (by kernel_rfl) (by rfl) ?_ ?_
  · rfl
  intro K hK
  refine wp_store_blk 31 (.tmp 6) (.tmp 12) rfl (B := [(⟨p, 31, dgA a⟩ : Blk)]) HM2.out (by rfl) (dgA b) (by rfl) (by kernel_rfl) (by rw [dgA_size]; rfl) (dgA_one b) (fun w3 M' => hK _ _ ?_)
  have HM3 := Lib.hid (show Mem w3 W [(⟨p, 31, dgA a⟩ : Blk), (⟨q, 31, dgA b⟩ : Blk)] from M')
  clear hK K M' HM2
  simp only [Act.put, List.setIfInBounds_toArray, List.set_cons_zero, List.set_cons_succ]
  have HNP : Hid (New W [(⟨p, 31, dgA a⟩ : Blk), (⟨q, 31, dgA b⟩ : Blk)]) := New.cons hp (New.cons hq (New.nil _))
  have HP3 := Lib.hid (show HasBlk w3 p 31 (dgA a) from HM3.out.has (⟨p, 31, dgA a⟩ : Blk) (by simp))
  have HQ3 := Lib.hid (show HasBlk w3 q 31 (dgA b) from HM3.out.has (⟨q, 31, dgA b⟩ : Blk) (by simp))
  have HBW3 := Lib.hid (Below.trans HWW.out ((HM3.out.below HNP.out).mono HWW.out.size))
  by_cases hall : ∀ i, i < 18 → dgt a i = dgt b i
  · have heb : ((List.range 18).all fun i => dgt a i == dgt b i) = true := by
      rw [List.all_eq_true]
      intro i hi
      have := hall i (List.mem_range.1 hi)
      simpa using this
    have he := fun W => eq_dgA a (dgA b) (dgt b) (fun i hi => dgA_get b i hi) true heb W
    obtain rfl : r = -1 := HR.out.unique (.inr ⟨rfl, fun j hj => by rw [hall j hj]; exact Int.le_refl _⟩)
    clear heb hall
    go_wp2_with (first
      | (refine wpList_load_want (by rfl) 31 (.tmp 5) rfl _ (by rfl) _ _ _ _ HP3.out Try.underlying31 rfl (size_18 _) ?_)
      | (refine wpList_load_want (by rfl) 31 (.tmp 6) rfl _ (by rfl) _ _ _ _ HQ3.out Try.underlying31 rfl (size_18 _) ?_))
    first | go_ret | (rw [Exit.noGoto_ret]; go_ret)
    exact ⟨rfl, HBW3.out⟩
  · have heb : ((List.range 18).all fun i => dgt a i == dgt b i) = false := by
      rw [Bool.eq_false_iff]
      intro h
      rw [List.all_eq_true] at h
      exact hall fun i hi => by simpa using h i (List.mem_range.2 hi)
    have he := fun W => eq_dgA a (dgA b) (dgt b) (fun i hi => dgA_get b i hi) false heb W
    clear heb hall
    go_wp2_with (first
      | (refine wpList_load_want (by rfl) 31 (.tmp 5) rfl _ (by rfl) _ _ _ _ HP3.out Try.underlying31 rfl (size_18 _) ?_)
      | (refine wpList_load_want (by rfl) 31 (.tmp 6) rfl _ (by rfl) _ _ _ _ HQ3.out Try.underlying31 rfl (size_18 _) ?_))
    apply wp_label
    go_wp2_with fail
    go_loopw [7, 16] (fun v i wr => ∃ c : Nat, v = .int .i64 (-1) ∧ i = .int .i64 c ∧ c ≤ 18 ∧ (∀ j, j < c → dgt a j ≤ dgt b j) ∧ Mem wr W [(⟨p, 31, dgA a⟩ : Blk), (⟨q, 31, dgA b⟩ : Blk)]) (fun _ i _ => 18 - (intOf i).toNat)
    case atStart => exact ⟨0, rfl, rfl, by omega, fun j hj => by omega, HM3.out⟩
    case round =>
      clear he
      obtain ⟨c, rfl, rfl, hc, hlow, M⟩ := hrel
      by_cases hlt : c < 18
      · have hpa := dgt_bd a c
        have hqb := dgt_bd b c
        obtain ⟨pn, hpn⟩ : ∃ pn : Nat, dgt a c = (pn : Int) := ⟨(dgt a c).toNat, by omega⟩
        obtain ⟨qn, hqn⟩ : ∃ qn : Nat, dgt b c = (qn : Int) := ⟨(dgt b c).toNat, by omega⟩
        have cP : wr.cell? ⟨p, c, none⟩ = some (.int .i64 pn) := by rw [M.cell (b := p) (t := 31) (cs := dgA a) (by simp) c, dgA_get a c hlt, hpn]
        have cQ : wr.cell? ⟨q, c, none⟩ = some (.int .i64 qn) := by rw [M.cell (b := q) (t := 31) (cs := dgA b) (by simp) c, dgA_get b c hlt, hqn]
        have lP : p < wr.heap.size := M.lt (x := (⟨p, 31, dgA a⟩ : Blk)) (by simp)
        have lQ : q < wr.heap.size := M.lt (x := (⟨q, 31, dgA b⟩ : Blk)) (by simp)
        have hci : (c : Int) < 18 := by omega
        have HLOW := Lib.hid hlow
        have HM := Lib.hid M
        have HBW := Lib.hid (Below.trans HWW.out ((M.below HNP.out).mono HWW.out.size))
        clear M hlow
        go_wp2_with fail
        by_cases hpq : qn < pn
        · have hd1 : decide ((qn : Int) < (pn : Int)) = true := by rw [decide_eq_true_iff]; omega
          have hd2 : decide (qn < pn) = true := by rw [decide_eq_true_iff]; omega
          obtain rfl : r = (c : Int) := HR.out.unique (.inl ⟨c, hlt, rfl, by omega, HLOW.out⟩)
          clear hpa hqb hpn hqn
          refine wp_region_rq (by kernel_rfl) (by kernel_rfl) (by kernel_rfl) ?_
          repeat (first
            | (refine B_skip ?_ ?_; (· rfl); (try simp only [Act.put, List.setIfInBounds_toArray, List.set_cons_zero, List.set_cons_succ]))
            | (refine B_move rfl ?_ ?_; (· rfl); (try simp only [Act.eval, Act.put, Array.getD_eq_getD_getElem?, List.getElem?_toArray, List.getElem?_cons_succ, List.getElem?_cons_zero, Option.getD_some, List.setIfInBounds_toArray, List.set_cons_zero, List.set_cons_succ]))
            | (refine B_plain ?_ ?_; (· rfl); intro K hK; go_big_quiet_op; with_reducible refine hK _ ?_; clear hK K)
            | (fail))
          refine B_nil ?_ rfl ?_ ?_
          · kernel_rfl
          · rfl
          rintro _ ⟨⟨g8, d8⟩, rfl⟩
          simp only [fin, Act.put, List.setIfInBounds_toArray, List.set_cons_zero, List.set_cons_succ]
          go_wp2
          first | go_ret | (rw [Exit.noGoto_ret]; go_ret)
          exact ⟨rfl, bplus HBW.out _ _⟩
        · have hd1 : decide ((qn : Int) < (pn : Int)) = false := by rw [decide_eq_false_iff_not]; omega
          have hd2 : decide (qn < pn) = false := by rw [decide_eq_false_iff_not]; omega
          have HLOW2 : Hid (∀ j, j < c + 1 → dgt a j ≤ dgt b j) := fun j hj => by
            by_cases h : j = c
            · subst h; omega
            · exact HLOW.out j (by omega)
          clear hpa hqb hpn hqn
          refine wp_region_rq (by kernel_rfl) (by kernel_rfl) (by kernel_rfl) ?_
          repeat (first
            | (refine B_skip ?_ ?_; (· rfl); (try simp only [Act.put, List.setIfInBounds_toArray, List.set_cons_zero, List.set_cons_succ]))
            | (refine B_move rfl ?_ ?_; (· rfl); (try simp only [Act.eval, Act.put, Array.getD_eq_getD_getElem?, List.getElem?_toArray, List.getElem?_cons_succ, List.getElem?_cons_zero, Option.getD_some, List.setIfInBounds_toArray, List.set_cons_zero, List.set_cons_succ]))
            | (refine B_plain ?_ ?_; (· rfl); intro K hK; go_big_quiet_op; with_reducible refine hK _ ?_; clear hK K)
            | (fail))
          refine B_nil ?_ rfl ?_ ?_
          · kernel_rfl
          · rfl
          rintro _ ⟨⟨g8, d8⟩, rfl⟩
          simp only [fin, Act.put, List.setIfInBounds_toArray, List.set_cons_zero, List.set_cons_succ]
          go_wp2
          go_roundw
          case rel => exact ⟨c + 1, rfl, by go_num, by omega, HLOW2.out, HM.out.plus _ _⟩
          case measure => simp [intOf]; omega
      · obtain rfl : c = 18 := by omega
        have HBW := Lib.hid (Below.trans HWW.out ((M.below HNP.out).mono HWW.out.size))
        obtain rfl : r = -1 := HR.out.unique (.inr ⟨rfl, hlow⟩)
        clear M hlow
        go_wp2
        first | go_ret | (rw [Exit.noGoto_ret]; go_ret)
        exact ⟨rfl, HBW.out⟩

end Go.Proofs.Ythdcfdfpfagamaa
