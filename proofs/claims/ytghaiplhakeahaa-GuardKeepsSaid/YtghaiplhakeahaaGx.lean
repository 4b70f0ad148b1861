/- baizeref52: a guard of the document; contracts of New, Note, Due, Asleep, Same. -/
import Derived.Test.YtghaiplhakeahaaGf
namespace Go.Proofs.Ytghaiplhakeahaa
set_option linter.unusedSimpArgs false
set_option linter.unusedVariables false
open Go.RowKit

/-- A guard of the document (its slice of what towers have beside it). -/
structure RS where
  towers : Nat
  need : Nat
  newest : Int
  claim : List UInt8
  has : List Int
  sl : Bool
  fr : Int
  to : Int
theorem Own.sl {e : TypeId} {base n : Nat} {xs : List Value} {u : Value} {W : World} (h : Own e 1 base n xs u W) : Sl W [] u n xs := by
  obtain ⟨ao, cap, B, rfl, R, hB⟩ := h
  have hl := R.len
  cases R with
  | void => exact Sl.nil W []
  | one r n cap cur h1 h2 h3 =>
    have hb := (hB _ (List.mem_singleton.2 rfl)).2
    refine ⟨by omega, _, cap, rfl, ⟨h1, fun h => by cases h⟩, .inr ⟨r, 0, rfl, .inl ⟨hb.lt, fun j u hj => ?_⟩⟩⟩
    rw [Nat.zero_add, hb.cell]
    rw [List.getElem?_take] at hj
    split at hj
    · simpa using hj
    · cases hj
/-- What a slice holds, at a place. -/
theorem Sl.at_ {w0 w : World} {L X : List Blk} {ao : Option Addr} {n m cap : Nat} {xs : List Value} (h : Sl w0 L (.slice ao m cap) n xs) (M : Ow w w0 X) (hL : ∀ x ∈ L, x ∈ X) (k : Nat) (hk : k < n) : ∃ r o, ao = some ⟨r, o, none⟩ ∧ r < w.heap.size ∧ ∀ u, xs[k]? = some u → w.cell? ⟨r, o + k, none⟩ = some u := by
  obtain ⟨r, o, h1, h2, h3⟩ := h.open_ M hL (by omega)
  exact ⟨r, o, h1, h2, fun u hu => h3 k u hu⟩
theorem Sl.here {w w0 : World} {L X : List Blk} {v : Value} {n : Nat} {xs : List Value} (h : Sl w0 L v n xs) (M : Ow w w0 X) (hL : ∀ x ∈ L, x ∈ X) : Sl w [] v n xs := by
  obtain ⟨h0, ao, cap, rfl, h1, h2⟩ := h
  refine ⟨h0, ao, cap, rfl, h1, h2.imp id ?_⟩
  rintro ⟨r, o, rfl, h3⟩
  exact ⟨r, o, rfl, .inl ⟨h3.lt M hL, fun j u hj => h3.get M hL j u hj⟩⟩
theorem ics_get (l : List Int) (k : Nat) (hk : k < l.length) : (ics l)[k]? = some (.int .i64 (l.getD k 0)) := by
  simp [ics, hk]

theorem rnew_no (n k : Int) (h : ¬(1 ≤ n ∧ n ≤ 16 ∧ 1 ≤ k ∧ k ≤ n)) (w : World) :
    Calls Try.prog 40 #[.int .i64 n, .int .i64 k] w fun e w' => e = .returned (.tuple #[.agg #[.int .i64 0, .int .i64 0, .int .i64 0, .string ByteArray.empty, .slice none 0 0, .bool false, .int .i64 0, .int .i64 0], .bool false]) ∧ Below w.heap.size w w' := by
  have h1 : decide (n < 1) = true ∨ decide (n < 1) = false := by cases decide (n < 1) <;> simp
  have h2 : decide (16 < n) = true ∨ decide (16 < n) = false := by cases decide (16 < n) <;> simp
  have h3 : decide (k < 1) = true ∨ decide (k < 1) = false := by cases decide (k < 1) <;> simp
  rcases h1 with h1 | h1
  · go_enter Try.func40, Try.ntmps40
    go_wp2
    refine bodyPost_ret (v := .tuple #[.agg #[.int .i64 0, .int .i64 0, .int .i64 0, .string ByteArray.empty, .slice none 0 0, .bool false, .int .i64 0, .int .i64 0], .bool false]) (by simp [results, Try.results40, go_sem] <;> rfl) rfl ⟨rfl, by (repeat' (first | (with_reducible exact Below.refl _ _) | (with_reducible refine bplus ?_ _ _) | (with_reducible refine balloc ?_ _) | (with_reducible refine Below.drew ?_) | (with_reducible refine bdrewN ?_ _) | (with_reducible refine Below.setCell ?_ (by go_size) _)))⟩
  · rcases h2 with h2 | h2
    · go_enter Try.func40, Try.ntmps40
      go_wp2
      refine bodyPost_ret (v := .tuple #[.agg #[.int .i64 0, .int .i64 0, .int .i64 0, .string ByteArray.empty, .slice none 0 0, .bool false, .int .i64 0, .int .i64 0], .bool false]) (by simp [results, Try.results40, go_sem] <;> rfl) rfl ⟨rfl, by (repeat' (first | (with_reducible exact Below.refl _ _) | (with_reducible refine bplus ?_ _ _) | (with_reducible refine balloc ?_ _) | (with_reducible refine Below.drew ?_) | (with_reducible refine bdrewN ?_ _) | (with_reducible refine Below.setCell ?_ (by go_size) _)))⟩
    · rcases h3 with h3 | h3
      · go_enter Try.func40, Try.ntmps40
        go_wp2
        refine bodyPost_ret (v := .tuple #[.agg #[.int .i64 0, .int .i64 0, .int .i64 0, .string ByteArray.empty, .slice none 0 0, .bool false, .int .i64 0, .int .i64 0], .bool false]) (by simp [results, Try.results40, go_sem] <;> rfl) rfl ⟨rfl, by (repeat' (first | (with_reducible exact Below.refl _ _) | (with_reducible refine bplus ?_ _ _) | (with_reducible refine balloc ?_ _) | (with_reducible refine Below.drew ?_) | (with_reducible refine bdrewN ?_ _) | (with_reducible refine Below.setCell ?_ (by go_size) _)))⟩
      · have h4 : decide (n < k) = true := by
          simp at h1 h2 h3 ⊢; omega
        go_enter Try.func40, Try.ntmps40
        go_wp2
        refine bodyPost_ret (v := .tuple #[.agg #[.int .i64 0, .int .i64 0, .int .i64 0, .string ByteArray.empty, .slice none 0 0, .bool false, .int .i64 0, .int .i64 0], .bool false]) (by simp [results, Try.results40, go_sem] <;> rfl) rfl ⟨rfl, by (repeat' (first | (with_reducible exact Below.refl _ _) | (with_reducible refine bplus ?_ _ _) | (with_reducible refine balloc ?_ _) | (with_reducible refine Below.drew ?_) | (with_reducible refine bdrewN ?_ _) | (with_reducible refine Below.setCell ?_ (by go_size) _)))⟩

/-- The document's guard that knows nothing. -/
def newR (n k : Nat) : RS := ⟨n, k, -1, [], List.replicate n (-1), false, 0, 0⟩
theorem ics_rep (k : Nat) : ics (List.replicate (k + 1) (-1)) = ics (List.replicate k (-1)) ++ [.int .i64 (-1)] := by
  simp [ics, List.replicate_succ']
set_option maxRecDepth 100000 in
set_option maxHeartbeats 2000000 in
theorem rnew_yes (n k : Nat) (h1 : 1 ≤ n) (h2 : n ≤ 16) (h3 : 1 ≤ k) (h4 : k ≤ n) (w : World) :
    Calls Try.prog 40 #[.int .i64 n, .int .i64 k] w fun e w' => ∃ hv, e = .returned (.tuple #[.agg #[.int .i64 n, .int .i64 k, .int .i64 (-1), .string ByteArray.empty, hv, .bool false, .int .i64 0, .int .i64 0], .bool true]) ∧ Below w.heap.size w w' ∧ Own 3 1 w.heap.size n (ics (List.replicate n (-1))) hv w' := by
  obtain ⟨ze, hze⟩ : ∃ ze : ByteArray, ze = ⟨#[]⟩ := ⟨_, rfl⟩
  have HO := Lib.hid (((Ow.start w).key #[.int .i64 0, .int .i64 0, .int .i64 0, .string ByteArray.empty, .slice none 0 0, .bool false, .int .i64 0, .int .i64 0] 61 w.heap.size rfl).key #[.int .i64 n, .int .i64 k, .int .i64 (-1), .string ByteArray.empty, .slice none 0 0, .bool false, .int .i64 0, .int .i64 0] 61 (w.heap.size + 1) (by simp))
  go_enter Try.func40, Try.ntmps40
  have e1 : decide ((n : Int) < 1) = false := decide_eq_false (by omega)
  have e2 : decide ((16 : Int) < (n : Int)) = false := decide_eq_false (by omega)
  have e3 : decide ((k : Int) < 1) = false := decide_eq_false (by omega)
  have e4 : decide ((n : Int) < (k : Int)) = false := decide_eq_false (by omega)
  have e5 : decide (n < k) = false := decide_eq_false (by omega)
  go_wp2_with fail
  go_loopw [7] (fun vi wr => ∃ (i : Nat) (hv : Value) (B : List Blk), vi = .int .i64 i ∧ i ≤ n ∧ Row 3 1 hv i (ics (List.replicate i (-1))) B ∧ Ow wr w (⟨w.heap.size + 1, 61, #[.int .i64 n, .int .i64 k, .int .i64 (-1), .string ByteArray.empty, hv, .bool false, .int .i64 0, .int .i64 0]⟩ :: (⟨w.heap.size, 61, #[.int .i64 0, .int .i64 0, .int .i64 0, .string ByteArray.empty, .slice none 0 0, .bool false, .int .i64 0, .int .i64 0]⟩ :: B))) (fun vi _ => n - (intOf vi).toNat)
  case atStart => exact ⟨0, _, [], rfl, by omega, .void, HO.out⟩
  case round =>
    obtain ⟨i, hv, B, rfl, hi, R, O⟩ := hrel
    obtain ⟨ah, ch, rfl⟩ := R.slice
    have HR := Lib.hid R
    have HB := O.has (List.mem_cons_self ..)
    have lt := HB.lt
    have hc := HB.cell
    by_cases hlt : i < n
    · have hd : decide ((i : Int) < (n : Int)) = true := decide_eq_true (by omega)
      have c4 := hc 4
      simp only [List.getElem?_toArray, List.getElem?_cons_succ, List.getElem?_cons_zero] at c4
      have HO1 := Lib.hid (O.perm (L' := B ++ (⟨w.heap.size + 1, 61, #[.int .i64 n, .int .i64 k, .int .i64 (-1), .string ByteArray.empty, .slice ah i ch, .bool false, .int .i64 0, .int .i64 0]⟩ :: [⟨w.heap.size, 61, #[.int .i64 0, .int .i64 0, .int .i64 0, .string ByteArray.empty, .slice none 0 0, .bool false, .int .i64 0, .int .i64 0]⟩])) (perm_cnt fun x => by simp only [cnt_append, cnt_cons, cnt_nil] <;> omega))
      clear O R HB hc HO
      go_wp2_with (at_builtin; refine HO1.out.appendNew rfl (.tmp 33) (.tmp 34) 47 rfl elt_int (by rfl) HR.out #[.int .i64 (-1)] _ _ 1 1 (by rfl) (by simp) (by rfl) (by simp [Value.oneCell']) (by unfold maxLen; omega) (by omega) (i + 1) rfl (ics (List.replicate (i + 1) (-1))) (by rw [ics_rep]) (fun ao' cap' B' w7 R7 O7 => ?_); (have HR7 := Lib.hid R7); (have HB7 := O7.has (b := w.heap.size + 1) (List.mem_append_right _ (List.mem_cons_self ..))); (have lt7 := HB7.lt); (have c47 := HB7.cell 4); (have f47 := HB7.frozen 4); (have HO7 := Lib.hid (O7.perm (L' := ⟨w.heap.size + 1, 61, #[.int .i64 n, .int .i64 k, .int .i64 (-1), .string ByteArray.empty, .slice ah i ch, .bool false, .int .i64 0, .int .i64 0]⟩ :: (⟨w.heap.size, 61, #[.int .i64 0, .int .i64 0, .int .i64 0, .string ByteArray.empty, .slice none 0 0, .bool false, .int .i64 0, .int .i64 0]⟩ :: B')) (perm_cnt fun x => by simp only [cnt_append, cnt_cons, cnt_nil] <;> omega))); clear R7 O7 HB7)
      have O8 := HO7.out.set 4 (.slice ao' (i + 1) cap')
      exact ⟨⟨i + 1, _, B', by simp, by omega, HR7.out, by simpa using O8⟩, by simp [intOf]; omega⟩
    · obtain rfl : i = n := by omega
      have hd : decide ((i : Int) < (i : Int)) = false := decide_eq_false (by omega)
      have hc0 := hc 0; have hc1 := hc 1; have hc2 := hc 2; have hc3 := hc 3; have hc4 := hc 4; have hc5 := hc 5; have hc6 := hc 6; have hc7 := hc 7
      have HO1 := Lib.hid (O.perm (L' := ⟨w.heap.size, 61, #[.int .i64 0, .int .i64 0, .int .i64 0, .string ByteArray.empty, .slice none 0 0, .bool false, .int .i64 0, .int .i64 0]⟩ :: (⟨w.heap.size + 1, 61, #[.int .i64 i, .int .i64 k, .int .i64 (-1), .string ByteArray.empty, .slice ah i ch, .bool false, .int .i64 0, .int .i64 0]⟩ :: B)) (perm_cnt fun x => by simp only [cnt_append, cnt_cons, cnt_nil] <;> omega))
      clear O R HB hc HO
      go_wp2_with (refine HO1.out.storeL rfl 61 (.tmp 4) (.tmp 37) rfl (by rfl) #[.int .i64 i, .int .i64 k, .int .i64 (-1), .string ByteArray.empty, .slice ah i ch, .bool false, .int .i64 0, .int .i64 0] (by rfl) (by kernel_rfl) (by rfl) (by simp [Value.oneCell']) ?_; intro w3 O3)
      have HB3 := O3.has (List.mem_cons_self ..)
      have hd3 := HB3.cell
      refine bodyPost_ret (v := .tuple #[.agg #[.int .i64 i, .int .i64 k, .int .i64 (-1), .string ByteArray.empty, .slice ah i ch, .bool false, .int .i64 0, .int .i64 0], .bool true]) (by simp [results, Try.results40, go_sem, hd3]) rfl ?_
      exact ⟨_, rfl, O3.below, ah, ch, B, rfl, HR.out, fun z hz => ⟨O3.new z (by simp [hz]), O3.mem.has z (by simp [hz])⟩⟩

/-! ### Same, of numbers -/
theorem ics_eq (l r : List Int) (h : l.length = r.length) (k : Nat) (hk : k < l.length) (hall : ∀ j, j < l.length → l.getD j 0 = r.getD j 0) : l = r := by
  apply List.ext_getElem? 
  intro i
  by_cases hi : i < l.length
  · have := hall i hi
    simp [List.getD_eq_getElem?_getD, hi, (h ▸ hi : i < r.length)] at this
    simp [hi, (h ▸ hi : i < r.length), this]
  · rw [List.getElem?_eq_none (by omega), List.getElem?_eq_none (by omega)]
set_option maxRecDepth 100000 in
set_option maxHeartbeats 2000000 in
theorem rsame_to (u v : Value) (l r : List Int) (hl : l.length ≤ 1000000) (hr : r.length ≤ 1000000) (w : World) (hu : Sl w [] u l.length (ics l)) (hv : Sl w [] v r.length (ics r)) (b : Bool) (hb : decide (l = r) = b) :
    Calls Try.prog 31 #[u, v] w fun e w' => e = .returned (.bool b) ∧ Below w.heap.size w w' := by
  obtain ⟨a1, c1, rfl, -⟩ := hu.slice
  obtain ⟨a2, c2, rfl, -⟩ := hv.slice
  have HU := Lib.hid hu
  have HV := Lib.hid hv
  have HS := Lib.hid (Ow.start w)
  have HBB := Lib.hid hb
  clear hu hv hb
  by_cases hlen : l.length = r.length
  · generalize hn : r.length = n at *
    have hd : ((n : Int) != (n : Int)) = false := by simp
    rw [hlen] at HU
    rw [hlen]
    go_enter Try.func31, Try.ntmps31
    go_wp2_with fail
    go_loopw [5] (fun i wr => ∃ (k : Nat), i = .int .i64 k ∧ k ≤ n ∧ (∀ j, j < k → l.getD j 0 = r.getD j 0) ∧ Ow wr w []) (fun i _ => n - (intOf i).toNat)
    case atStart => exact ⟨0, rfl, by omega, fun j hj => by omega, HS.out⟩
    case round =>
      obtain ⟨k, rfl, hk, hj, O⟩ := hrel
      have HO := Lib.hid O
      have HJ := Lib.hid hj
      by_cases hlt : k < n
      · obtain ⟨r1, o1, rfl, hr1, hc1⟩ := HU.out.at_ O (by simp) k hlt
        obtain ⟨r2, o2, rfl, hr2, hc2⟩ := HV.out.at_ O (by simp) k hlt
        have d1 := hc1 _ (ics_get l k (by omega))
        have d2 := hc2 _ (ics_get r k (by omega))
        clear O hj hc1 hc2
        obtain ⟨x, HX⟩ : ∃ x, Hid (l.getD k 0 = x) := ⟨_, rfl⟩
        obtain ⟨y, HY⟩ : ∃ y, Hid (r.getD k 0 = y) := ⟨_, rfl⟩
        rw [HX.out] at d1
        rw [HY.out] at d2
        by_cases hxy : x = y
        · have hbb : (x != y) = false := by simp [hxy]
          go_wp2_with fail
          refine wp_region_rq (by kernel_rfl) (by kernel_rfl) (by kernel_rfl) ?_
          repeat (first
            | (refine B_skip ?_ ?_; (· rfl); (try simp only [Act.put, List.setIfInBounds_toArray, List.set_cons_zero, List.set_cons_succ]))
            | (refine B_move rfl ?_ ?_; (· rfl); (try simp only [Act.eval, Act.put, Array.getD_eq_getD_getElem?, List.getElem?_toArray, List.getElem?_cons_succ, List.getElem?_cons_zero, Option.getD_some, List.setIfInBounds_toArray, List.set_cons_zero, List.set_cons_succ]))
            | (refine B_plain ?_ ?_; (· rfl); intro K hK; go_big_quiet_op; with_reducible refine hK _ ?_; clear hK K)
            | (refine B_nilck rfl rfl ?_ ?_; (· rfl); (try simp only [Act.put, List.setIfInBounds_toArray, List.set_cons_zero, List.set_cons_succ])))
          refine B_nil ?_ rfl ?_ ?_
          · kernel_rfl
          · rfl
          rintro _ ⟨⟨g1, d1⟩, rfl⟩
          simp only [fin, Act.put, List.setIfInBounds_toArray, List.set_cons_zero, List.set_cons_succ]
          go_wp2
          refine ⟨⟨k + 1, by simp, by omega, fun j hj => ?_, HO.out.plus _ _⟩, by simp [intOf]; omega⟩
          rcases Nat.lt_succ_iff_lt_or_eq.1 hj with h | rfl
          · exact HJ.out j h
          · rw [HX.out, HY.out]; exact hxy
        · have hbb : (x != y) = true := by simp [hxy]
          go_wp2_with fail
          refine wp_region_rq (by kernel_rfl) (by kernel_rfl) (by kernel_rfl) ?_
          repeat (first
            | (refine B_skip ?_ ?_; (· rfl); (try simp only [Act.put, List.setIfInBounds_toArray, List.set_cons_zero, List.set_cons_succ]))
            | (refine B_move rfl ?_ ?_; (· rfl); (try simp only [Act.eval, Act.put, Array.getD_eq_getD_getElem?, List.getElem?_toArray, List.getElem?_cons_succ, List.getElem?_cons_zero, Option.getD_some, List.setIfInBounds_toArray, List.set_cons_zero, List.set_cons_succ]))
            | (refine B_plain ?_ ?_; (· rfl); intro K hK; go_big_quiet_op; with_reducible refine hK _ ?_; clear hK K)
            | (refine B_nilck rfl rfl ?_ ?_; (· rfl); (try simp only [Act.put, List.setIfInBounds_toArray, List.set_cons_zero, List.set_cons_succ])))
          refine B_nil ?_ rfl ?_ ?_
          · kernel_rfl
          · rfl
          rintro _ ⟨⟨g1, d1⟩, rfl⟩
          simp only [fin, Act.put, List.setIfInBounds_toArray, List.set_cons_zero, List.set_cons_succ]
          go_wp2
          go_ret
          have hne : l ≠ r := fun e => by
            have := HX.out
            rw [e, HY.out] at this
            exact hxy this.symm
          refine ⟨?_, (HO.out.plus _ _).below⟩
          rw [← HBB.out, decide_eq_false hne]
          rfl
      · obtain rfl : k = n := by omega
        clear O hj
        go_wp2
        go_ret
        have heq : l = r := by
          by_cases h0 : 0 < l.length
          · exact ics_eq l r (by omega) 0 h0 (fun j hj => HJ.out j (by omega))
          · rw [List.eq_nil_of_length_eq_zero (by omega : l.length = 0), List.eq_nil_of_length_eq_zero (by omega : r.length = 0)]
        refine ⟨?_, HO.out.below⟩
        rw [← HBB.out, decide_eq_true heq]
        rfl
  · have hd : ((l.length : Int) != (r.length : Int)) = true := by simp; omega
    go_enter Try.func31, Try.ntmps31
    go_wp2
    go_ret
    refine ⟨?_, by (repeat' (first | (with_reducible exact Below.refl _ _) | (with_reducible refine bplus ?_ _ _) | (with_reducible refine balloc ?_ _) | (with_reducible refine Below.drew ?_) | (with_reducible refine bdrewN ?_ _) | (with_reducible refine Below.setCell ?_ (by go_size) _)))⟩
    rw [← HBB.out, decide_eq_false (fun e => hlen (by rw [e]))]
    rfl

def rnoteE (R : RS) (n : Int) (made : Int) : Int := if isNum n = false then 2 else if n ≤ R.newest then 18 else if made ≠ 0 then made else 0
def rnoteR (R : RS) (n : Int) (l : List UInt8) (made : Int) : RS := if isNum n = true ∧ ¬ n ≤ R.newest ∧ made = 0 then { R with newest := n, claim := l } else R
set_option maxRecDepth 100000 in
set_option maxHeartbeats 2000000 in
theorem rnote_to (R : RS) (hv : Value) (n : Int) (v : Value) (l : List UInt8) (made : Int) (w : World) (hh : ∃ a m c, hv = .slice a m c) (hb : BSl w v l) (E : Int) (hE : rnoteE R n made = E) (R' : RS) (hR : rnoteR R n l made = R') :
    Calls Try.prog 73 #[.agg #[.int .i64 R.towers, .int .i64 R.need, .int .i64 R.newest, .string ⟨R.claim.toArray⟩, hv, .bool R.sl, .int .i64 R.fr, .int .i64 R.to], .int .i64 n, v, .int .i64 made] w fun e w' => e = .returned (.tuple #[.agg #[.int .i64 R'.towers, .int .i64 R'.need, .int .i64 R'.newest, .string ⟨R'.claim.toArray⟩, hv, .bool R'.sl, .int .i64 R'.fr, .int .i64 R'.to], .int .i64 E]) ∧ Below w.heap.size w w' := by
  obtain ⟨ah, mh, ch, rfl⟩ := hh
  have ec : ∀ A B, (convert 26 9 v).run Try.prog ((w.alloc (.cells A 61)).alloc (.cells B 61)) = .ok (.string ⟨l.toArray⟩) ((w.alloc (.cells A 61)).alloc (.cells B 61)) := fun A B => run_str _ _ _ _ v l Try.underlying26 Try.underlying5 Try.underlying9 ((hb.alloc _).alloc _)
  clear hb
  unfold rnoteE at hE
  unfold rnoteR at hR
  by_cases hn : isNum n = true
  · have bn := isNum_bd hn
    rw [if_neg (by rw [hn]; simp)] at hE
    have hd1 : decide (n < 0) = false := decide_eq_false (by omega)
    have hd2 : decide (1099511627776 < n) = false := decide_eq_false (by omega)
    by_cases hnew : n ≤ R.newest
    · rw [if_pos hnew] at hE
      rw [if_neg (fun h => h.2.1 hnew)] at hR
      subst hE hR
      have hd3 : decide (n ≤ R.newest) = true := decide_eq_true hnew
      clear ec hn
      go_enter Try.func73, Try.ntmps73
      go_wp2
      refine bodyPost_ret (v := .tuple #[.agg #[.int .i64 R.towers, .int .i64 R.need, .int .i64 R.newest, .string ⟨R.claim.toArray⟩, .slice ah mh ch, .bool R.sl, .int .i64 R.fr, .int .i64 R.to], .int .i64 18]) (by simp [results, Try.results73, go_sem]) rfl ⟨rfl, by (repeat' (first | (with_reducible exact Below.refl _ _) | (with_reducible refine bplus ?_ _ _) | (with_reducible refine balloc ?_ _) | (with_reducible refine Below.drew ?_) | (with_reducible refine bdrewN ?_ _) | (with_reducible refine Below.setCell ?_ (by go_size) _)))⟩
    · rw [if_neg hnew] at hE
      have hd3 : decide (n ≤ R.newest) = false := decide_eq_false hnew
      by_cases hm : made = 0
      · subst hm
        rw [if_neg (by simp)] at hE
        rw [if_pos ⟨hn, hnew, rfl⟩] at hR
        subst hE hR
        clear hn
        go_enter Try.func73, Try.ntmps73
        go_wp2
        refine bodyPost_ret (v := .tuple #[.agg #[.int .i64 R.towers, .int .i64 R.need, .int .i64 n, .string ⟨l.toArray⟩, .slice ah mh ch, .bool R.sl, .int .i64 R.fr, .int .i64 R.to], .int .i64 0]) (by simp [results, Try.results73, go_sem]) rfl ⟨rfl, by (repeat' (first | (with_reducible exact Below.refl _ _) | (with_reducible refine bplus ?_ _ _) | (with_reducible refine balloc ?_ _) | (with_reducible refine Below.drew ?_) | (with_reducible refine bdrewN ?_ _) | (with_reducible refine Below.setCell ?_ (by go_size) _)))⟩
      · rw [if_pos hm] at hE
        rw [if_neg (fun h => hm h.2.2)] at hR
        subst hE hR
        have hd4 : (made == 0) = false := by rw [beq_eq_false_iff_ne]; exact hm
        clear ec hn
        go_enter Try.func73, Try.ntmps73
        go_wp2
        refine bodyPost_ret (v := .tuple #[.agg #[.int .i64 R.towers, .int .i64 R.need, .int .i64 R.newest, .string ⟨R.claim.toArray⟩, .slice ah mh ch, .bool R.sl, .int .i64 R.fr, .int .i64 R.to], .int .i64 made]) (by simp [results, Try.results73, go_sem]) rfl ⟨rfl, by (repeat' (first | (with_reducible exact Below.refl _ _) | (with_reducible refine bplus ?_ _ _) | (with_reducible refine balloc ?_ _) | (with_reducible refine Below.drew ?_) | (with_reducible refine bdrewN ?_ _) | (with_reducible refine Below.setCell ?_ (by go_size) _)))⟩
  · have hn' : isNum n = false := by simpa using hn
    rw [if_pos hn'] at hE
    rw [if_neg (fun h => hn h.1)] at hR
    subst hE hR
    clear ec
    unfold isNum at hn'
    by_cases h0 : n < 0
    · have hd1 : decide (n < 0) = true := decide_eq_true h0
      clear hn hn'
      go_enter Try.func73, Try.ntmps73
      go_wp2
      refine bodyPost_ret (v := .tuple #[.agg #[.int .i64 R.towers, .int .i64 R.need, .int .i64 R.newest, .string ⟨R.claim.toArray⟩, .slice ah mh ch, .bool R.sl, .int .i64 R.fr, .int .i64 R.to], .int .i64 2]) (by simp [results, Try.results73, go_sem]) rfl ⟨rfl, by (repeat' (first | (with_reducible exact Below.refl _ _) | (with_reducible refine bplus ?_ _ _) | (with_reducible refine balloc ?_ _) | (with_reducible refine Below.drew ?_) | (with_reducible refine bdrewN ?_ _) | (with_reducible refine Below.setCell ?_ (by go_size) _)))⟩
    · have hd1 : decide (n < 0) = false := decide_eq_false h0
      have hd2 : decide (1099511627776 < n) = true := by
        simp at hn' ⊢; omega
      clear hn hn'
      go_enter Try.func73, Try.ntmps73
      go_wp2
      refine bodyPost_ret (v := .tuple #[.agg #[.int .i64 R.towers, .int .i64 R.need, .int .i64 R.newest, .string ⟨R.claim.toArray⟩, .slice ah mh ch, .bool R.sl, .int .i64 R.fr, .int .i64 R.to], .int .i64 2]) (by simp [results, Try.results73, go_sem]) rfl ⟨rfl, by (repeat' (first | (with_reducible exact Below.refl _ _) | (with_reducible refine bplus ?_ _ _) | (with_reducible refine balloc ?_ _) | (with_reducible refine Below.drew ?_) | (with_reducible refine bdrewN ?_ _) | (with_reducible refine Below.setCell ?_ (by go_size) _)))⟩

def rasleepE (R : RS) (now : Int) : Bool := R.sl && (decide (R.fr ≤ now) && decide (now < R.to))
set_option maxRecDepth 100000 in
set_option maxHeartbeats 2000000 in
theorem rasleep_to (R : RS) (hv : Value) (now : Int) (w : World) (hh : ∃ a m c, hv = .slice a m c) (b : Bool) (hb : rasleepE R now = b) :
    Calls Try.prog 78 #[.agg #[.int .i64 R.towers, .int .i64 R.need, .int .i64 R.newest, .string ⟨R.claim.toArray⟩, hv, .bool R.sl, .int .i64 R.fr, .int .i64 R.to], .int .i64 now] w fun e w' => e = .returned (.bool b) ∧ Below w.heap.size w w' := by
  obtain ⟨ah, mh, ch, rfl⟩ := hh
  unfold rasleepE at hb
  cases h1 : R.sl with
  | false =>
    rw [h1, Bool.false_and] at hb
    subst hb
    go_enter Try.func78, Try.ntmps78
    go_wp2
    go_ret
    exact ⟨rfl, by (repeat' (first | (with_reducible exact Below.refl _ _) | (with_reducible refine bplus ?_ _ _) | (with_reducible refine balloc ?_ _) | (with_reducible refine Below.drew ?_) | (with_reducible refine bdrewN ?_ _) | (with_reducible refine Below.setCell ?_ (by go_size) _)))⟩
  | true =>
    rw [h1, Bool.true_and] at hb
    cases h2 : decide (R.fr ≤ now) with
    | false =>
      rw [h2, Bool.false_and] at hb
      subst hb
      go_enter Try.func78, Try.ntmps78
      go_wp2
      go_ret
      exact ⟨rfl, by (repeat' (first | (with_reducible exact Below.refl _ _) | (with_reducible refine bplus ?_ _ _) | (with_reducible refine balloc ?_ _) | (with_reducible refine Below.drew ?_) | (with_reducible refine bdrewN ?_ _) | (with_reducible refine Below.setCell ?_ (by go_size) _)))⟩
    | true =>
      rw [h2, Bool.true_and] at hb
      subst hb
      go_enter Try.func78, Try.ntmps78
      go_wp2
      go_ret
      exact ⟨rfl, by (repeat' (first | (with_reducible exact Below.refl _ _) | (with_reducible refine bplus ?_ _ _) | (with_reducible refine balloc ?_ _) | (with_reducible refine Below.drew ?_) | (with_reducible refine bdrewN ?_ _) | (with_reducible refine Below.setCell ?_ (by go_size) _)))⟩

/-- The document's towers that are due, of the first k. -/
def rduK (R : RS) (k : Nat) : List Int := ((List.range k).filter fun i => decide (R.has.getD i 0 < R.newest)).map fun i : Nat => (i : Int)
def rdueL (R : RS) : List Int := if 0 ≤ R.newest then rduK R R.towers else []
theorem rduK_len (R : RS) (k : Nat) : (rduK R k).length ≤ k := by
  unfold rduK
  rw [List.length_map]
  exact Nat.le_trans (List.length_filter_le _ _) (by simp)
theorem rdueL_len (R : RS) : (rdueL R).length ≤ R.towers := by
  unfold rdueL
  split
  · exact rduK_len _ _
  · simp
theorem rduK_yes (R : RS) (k : Nat) (h : R.has.getD k 0 < R.newest) : rduK R (k + 1) = rduK R k ++ [(k : Int)] := by
  unfold rduK
  rw [List.range_succ, List.filter_append, List.map_append]
  congr 1
  rw [List.filter_cons_of_pos (by exact decide_eq_true h)]
  rfl
theorem rduK_no (R : RS) (k : Nat) (h : ¬ R.has.getD k 0 < R.newest) : rduK R (k + 1) = rduK R k := by
  unfold rduK
  rw [List.range_succ, List.filter_append, List.map_append, List.filter_cons_of_neg (by rw [Bool.not_eq_true]; exact decide_eq_false h)]
  simp
set_option maxRecDepth 100000 in
set_option maxHeartbeats 2000000 in
theorem rdue_to (R : RS) (hv : Value) (w : World) (hl : R.has.length = R.towers) (ht : R.towers ≤ 16) (hh : Sl w [] hv R.towers (ics R.has)) (l : List Int) (hd : rdueL R = l) :
    Calls Try.prog 77 #[.agg #[.int .i64 R.towers, .int .i64 R.need, .int .i64 R.newest, .string ⟨R.claim.toArray⟩, hv, .bool R.sl, .int .i64 R.fr, .int .i64 R.to]] w fun e w' => ∃ u, e = .returned u ∧ Below w.heap.size w w' ∧ Own 3 1 w.heap.size l.length (ics l) u w' := by
  obtain ⟨ah, ch, rfl, -⟩ := hh.slice
  have HH := Lib.hid hh
  have HS := Lib.hid ((Ow.start w).key #[.int .i64 R.towers, .int .i64 R.need, .int .i64 R.newest, .string ⟨R.claim.toArray⟩, .slice ah R.towers ch, .bool R.sl, .int .i64 R.fr, .int .i64 R.to] 61 w.heap.size rfl)
  subst hd
  unfold rdueL
  clear hh
  by_cases hn : 0 ≤ R.newest
  · rw [if_pos hn]
    have hd0 : decide (0 ≤ R.newest) = true := decide_eq_true hn
    go_enter Try.func77, Try.ntmps77
    go_wp2_with fail
    go_loopw [3, 4] (fun c i wr => ∃ (k : Nat) (B : List Blk), i = .int .i64 k ∧ k ≤ R.towers ∧ Row 3 1 c (rduK R k).length (ics (rduK R k)) B ∧ Ow wr w (B ++ [⟨w.heap.size, 61, #[.int .i64 R.towers, .int .i64 R.need, .int .i64 R.newest, .string ⟨R.claim.toArray⟩, .slice ah R.towers ch, .bool R.sl, .int .i64 R.fr, .int .i64 R.to]⟩])) (fun _ i _ => R.towers - (intOf i).toNat)
    case atStart => exact ⟨0, [], rfl, by omega, .void, HS.out⟩
    case round =>
      obtain ⟨k, B, rfl, hk, Rw, O⟩ := hrel
      obtain ⟨ac, cc, rfl⟩ := Rw.slice
      have HR := Lib.hid Rw
      have HO := Lib.hid O
      have HB := O.has (b := w.heap.size) (List.mem_append_right _ (List.mem_cons_self ..))
      have lt := HB.lt
      have c0 := HB.cell 0
      have c2 := HB.cell 2
      have c4 := HB.cell 4
      simp only [List.getElem?_toArray, List.getElem?_cons_succ, List.getElem?_cons_zero] at c0 c2 c4
      clear Rw HB HS
      by_cases hlt : k < R.towers
      · obtain ⟨r, o, rfl, hr, hc⟩ := HH.out.at_ O (by simp) k hlt
        have ck := hc _ (ics_get R.has k (by omega))
        clear O hc
        have hdk : decide ((k : Int) < (R.towers : Int)) = true := decide_eq_true (by omega)
        have hlen := rduK_len R k
        by_cases hs : R.has.getD k 0 < R.newest
        · have E1 := Lib.hid (rduK_yes R k hs)
          generalize R.has.getD k 0 = hx at ck hs
          have hb : decide (hx < R.newest) = true := decide_eq_true hs
          clear hs
          go_wp2_with fail
          refine wp_region_rq (by kernel_rfl) (by kernel_rfl) (by kernel_rfl) ?_
          repeat (first
            | (refine B_skip ?_ ?_; (· rfl); (try simp only [Act.put, List.setIfInBounds_toArray, List.set_cons_zero, List.set_cons_succ]))
            | (refine B_move rfl ?_ ?_; (· rfl); (try simp only [Act.eval, Act.put, Array.getD_eq_getD_getElem?, List.getElem?_toArray, List.getElem?_cons_succ, List.getElem?_cons_zero, Option.getD_some, List.setIfInBounds_toArray, List.set_cons_zero, List.set_cons_succ]))
            | (refine B_plain ?_ ?_; (· rfl); intro K hK; go_big_quiet_op; with_reducible refine hK _ ?_; clear hK K)
            | (refine B_nilck rfl rfl ?_ ?_; (· rfl); (try simp only [Act.put, List.setIfInBounds_toArray, List.set_cons_zero, List.set_cons_succ])))
          refine B_nil ?_ rfl ?_ ?_
          · kernel_rfl
          · rfl
          rintro _ ⟨⟨g5, d5⟩, rfl⟩
          simp only [fin, Act.put, List.setIfInBounds_toArray, List.set_cons_zero, List.set_cons_succ]
          have HO1 := Lib.hid (HO.out.plus g5 d5)
          have lt5 : w.heap.size < (plus wr g5 d5).heap.size := by simp; omega
          go_wp2_with (at_builtin; refine HO1.out.appendNew rfl (.tmp 24) (.tmp 26) 47 rfl elt_int (by rfl) HR.out #[.int .i64 k] _ _ 1 1 (by rfl) (by simp) (by rfl) (by simp [Value.oneCell']) (by unfold maxLen; omega) (by omega) ((rduK R k).length + 1) rfl (ics (rduK R (k + 1))) (by rw [E1.out, ics_app]; rfl) (fun ao' cap' B' w7 R7 O7 => ?_); (have HR7 := Lib.hid R7); (have HO7 := Lib.hid O7); clear R7 O7)
          exact ⟨⟨k + 1, B', by simp, by omega, by rw [show (rduK R (k + 1)).length = (rduK R k).length + 1 by rw [E1.out]; simp]; exact HR7.out, HO7.out⟩, by simp [intOf]; omega⟩
        · have E1 := Lib.hid (rduK_no R k hs)
          generalize R.has.getD k 0 = hx at ck hs
          have hb : decide (hx < R.newest) = false := decide_eq_false hs
          clear hs
          go_wp2_with fail
          refine wp_region_rq (by kernel_rfl) (by kernel_rfl) (by kernel_rfl) ?_
          repeat (first
            | (refine B_skip ?_ ?_; (· rfl); (try simp only [Act.put, List.setIfInBounds_toArray, List.set_cons_zero, List.set_cons_succ]))
            | (refine B_move rfl ?_ ?_; (· rfl); (try simp only [Act.eval, Act.put, Array.getD_eq_getD_getElem?, List.getElem?_toArray, List.getElem?_cons_succ, List.getElem?_cons_zero, Option.getD_some, List.setIfInBounds_toArray, List.set_cons_zero, List.set_cons_succ]))
            | (refine B_plain ?_ ?_; (· rfl); intro K hK; go_big_quiet_op; with_reducible refine hK _ ?_; clear hK K)
            | (refine B_nilck rfl rfl ?_ ?_; (· rfl); (try simp only [Act.put, List.setIfInBounds_toArray, List.set_cons_zero, List.set_cons_succ])))
          refine B_nil ?_ rfl ?_ ?_
          · kernel_rfl
          · rfl
          rintro _ ⟨⟨g5, d5⟩, rfl⟩
          simp only [fin, Act.put, List.setIfInBounds_toArray, List.set_cons_zero, List.set_cons_succ]
          go_wp2
          exact ⟨⟨k + 1, B, by simp, by omega, by rw [E1.out]; exact HR.out, HO.out.plus _ _⟩, by simp [intOf]; omega⟩
      · obtain rfl : k = R.towers := by omega
        have hdk : decide ((R.towers : Int) < (R.towers : Int)) = false := decide_eq_false (by omega)
        clear O
        go_wp2
        go_ret
        have O9 := HO.out.perm (L' := ⟨w.heap.size, 61, #[.int .i64 R.towers, .int .i64 R.need, .int .i64 R.newest, .string ⟨R.claim.toArray⟩, .slice ah R.towers ch, .bool R.sl, .int .i64 R.fr, .int .i64 R.to]⟩ :: B) (perm_cnt fun x => by simp only [cnt_append, cnt_cons, cnt_nil] <;> omega)
        exact ⟨_, rfl, HO.out.below, Own.mk HR.out O9.drop1⟩
  · rw [if_neg hn]
    have hd0 : decide (0 ≤ R.newest) = false := decide_eq_false hn
    go_enter Try.func77, Try.ntmps77
    go_wp2_with fail
    go_loopw [3, 4] (fun c i wr => c = .slice none 0 0 ∧ i = .int .i64 0 ∧ wr = w.alloc (.cells #[.int .i64 R.towers, .int .i64 R.need, .int .i64 R.newest, .string ⟨R.claim.toArray⟩, .slice ah R.towers ch, .bool R.sl, .int .i64 R.fr, .int .i64 R.to] 61)) (fun _ i _ => 0)
    case atStart => exact ⟨rfl, rfl, rfl⟩
    case round =>
      obtain ⟨rfl, rfl, rfl⟩ := hrel
      by_cases h0 : 0 < R.towers
      · have hdk : decide ((0 : Int) < (R.towers : Int)) = true := decide_eq_true (by omega)
        have hdk' : decide (0 < R.towers) = true := decide_eq_true h0
        go_wp2
        go_ret
        exact ⟨_, rfl, by (repeat' (first | (with_reducible exact Below.refl _ _) | (with_reducible refine bplus ?_ _ _) | (with_reducible refine balloc ?_ _) | (with_reducible refine Below.drew ?_) | (with_reducible refine bdrewN ?_ _) | (with_reducible refine Below.setCell ?_ (by go_size) _))), Own.mk .void (Ow.start _) |>.base (by simp)⟩
      · have hdk : decide ((0 : Int) < (R.towers : Int)) = false := decide_eq_false (by omega)
        have hdk' : decide (0 < R.towers) = false := decide_eq_false h0
        go_wp2
        go_ret
        exact ⟨_, rfl, by (repeat' (first | (with_reducible exact Below.refl _ _) | (with_reducible refine bplus ?_ _ _) | (with_reducible refine balloc ?_ _) | (with_reducible refine Below.drew ?_) | (with_reducible refine bdrewN ?_ _) | (with_reducible refine Below.setCell ?_ (by go_size) _))), Own.mk .void (Ow.start _) |>.base (by simp)⟩

def rsafeB (R : RS) : Bool := decide (R.newest < 0) || decide ((R.need : Int) ≤ (R.towers : Int) - ((rdueL R).length : Int))
set_option maxRecDepth 100000 in
set_option maxHeartbeats 2000000 in
theorem rsafe_to (R : RS) (hv : Value) (w : World) (hl : R.has.length = R.towers) (ht : R.towers ≤ 16) (hh : Sl w [] hv R.towers (ics R.has)) (b : Bool) (hb : rsafeB R = b) :
    Calls Try.prog 76 #[.agg #[.int .i64 R.towers, .int .i64 R.need, .int .i64 R.newest, .string ⟨R.claim.toArray⟩, hv, .bool R.sl, .int .i64 R.fr, .int .i64 R.to]] w fun e w' => e = .returned (.bool b) ∧ Below w.heap.size w w' := by
  obtain ⟨ah, ch, rfl, -⟩ := hh.slice
  have HH := Lib.hid hh
  unfold rsafeB at hb
  clear hh
  by_cases hn : R.newest < 0
  · have hd0 : decide (R.newest < 0) = true := decide_eq_true hn
    rw [hd0, Bool.true_or] at hb
    subst hb
    go_enter Try.func76, Try.ntmps76
    go_wp2_with fail
    refine wp_region_rq (by kernel_rfl) (by kernel_rfl) (by kernel_rfl) ?_
    repeat (first
      | (refine B_skip ?_ ?_; (· rfl); (try simp only [Act.put, List.setIfInBounds_toArray, List.set_cons_zero, List.set_cons_succ]))
      | (refine B_move rfl ?_ ?_; (· rfl); (try simp only [Act.eval, Act.put, Array.getD_eq_getD_getElem?, List.getElem?_toArray, List.getElem?_cons_succ, List.getElem?_cons_zero, Option.getD_some, List.setIfInBounds_toArray, List.set_cons_zero, List.set_cons_succ]))
      | (refine B_plain ?_ ?_; (· rfl); intro K hK; go_big_quiet_op; with_reducible refine hK _ ?_; clear hK K)
      | (refine B_nilck rfl rfl ?_ ?_; (· rfl); (try simp only [Act.put, List.setIfInBounds_toArray, List.set_cons_zero, List.set_cons_succ])))
    refine B_nil ?_ rfl ?_ ?_
    · kernel_rfl
    · rfl
    rintro _ ⟨⟨g1, d1⟩, rfl⟩
    simp only [fin, Act.put, List.setIfInBounds_toArray, List.set_cons_zero, List.set_cons_succ]
    go_wp2
    go_ret
    exact ⟨rfl, by (repeat' (first | (with_reducible exact Below.refl _ _) | (with_reducible refine bplus ?_ _ _) | (with_reducible refine balloc ?_ _) | (with_reducible refine Below.drew ?_) | (with_reducible refine bdrewN ?_ _) | (with_reducible refine Below.setCell ?_ (by go_size) _)))⟩
  · have hd0 : decide (R.newest < 0) = false := decide_eq_false hn
    rw [hd0, Bool.false_or] at hb
    obtain ⟨n, hN⟩ : ∃ n, (rdueL R).length = n := ⟨_, rfl⟩
    have hlen := rdueL_len R
    rw [hN] at hb hlen
    have T : Hid (∀ W, Ow W w [⟨w.heap.size, 61, #[.int .i64 R.towers, .int .i64 R.need, .int .i64 R.newest, .string ⟨R.claim.toArray⟩, .slice ah R.towers ch, .bool R.sl, .int .i64 R.fr, .int .i64 R.to]⟩] → Calls Try.prog 77 #[.agg #[.int .i64 R.towers, .int .i64 R.need, .int .i64 R.newest, .string ⟨R.claim.toArray⟩, .slice ah R.towers ch, .bool R.sl, .int .i64 R.fr, .int .i64 R.to]] W fun e w' => ∃ u, e = .returned u ∧ Below W.heap.size W w' ∧ Own 3 1 w.heap.size n (ics (rdueL R)) u w') := fun W OW => by
      refine (rdue_to R _ W hl ht (HH.out.here OW (by simp)) (rdueL R) rfl).mono ?_
      rintro e w' ⟨u, h1, h2, h3⟩
      rw [hN] at h3
      exact ⟨u, h1, h2, h3.base OW.below.size⟩
    have HS := Lib.hid ((Ow.start w).key #[.int .i64 R.towers, .int .i64 R.need, .int .i64 R.newest, .string ⟨R.claim.toArray⟩, .slice ah R.towers ch, .bool R.sl, .int .i64 R.fr, .int .i64 R.to] 61 w.heap.size rfl)
    have hsub : (R.towers : Int) - (n : Int) = ((R.towers - n : Nat) : Int) := by omega
    have hb' : decide (R.need ≤ R.towers - n) = b := by rw [← hb, hsub, decide_eq_decide]; omega
    subst hb'
    clear hb hN
    go_enter Try.func76, Try.ntmps76
    go_wp2_with fail
    refine wp_region_rq (by kernel_rfl) (by kernel_rfl) (by kernel_rfl) ?_
    repeat (first
      | (refine B_skip ?_ ?_; (· rfl); (try simp only [Act.put, List.setIfInBounds_toArray, List.set_cons_zero, List.set_cons_succ]))
      | (refine B_move rfl ?_ ?_; (· rfl); (try simp only [Act.eval, Act.put, Array.getD_eq_getD_getElem?, List.getElem?_toArray, List.getElem?_cons_succ, List.getElem?_cons_zero, Option.getD_some, List.setIfInBounds_toArray, List.set_cons_zero, List.set_cons_succ]))
      | (refine B_plain ?_ ?_; (· rfl); intro K hK; go_big_quiet_op; with_reducible refine hK _ ?_; clear hK K)
      | (refine B_callR (Own 3 1 w.heap.size n (ics (rdueL R))) (stays_own _ _ _ _ _) (f := 77) rfl rfl (by kernel_rfl) ?_ (fun xq => ?_) ?_; (· rfl); (· ((simp only [List.map_toArray, List.map_cons, List.map_nil, Act.eval, Array.getD_eq_getD_getElem?, List.getElem?_toArray, List.getElem?_cons_succ, List.getElem?_cons_zero, Option.getD_some]); (with_reducible apply retR); with_reducible exact T.out _ (HS.out.plus _ _))))
      | (refine B_nilck rfl rfl ?_ ?_; (· rfl); (try simp only [Act.put, List.setIfInBounds_toArray, List.set_cons_zero, List.set_cons_succ]))
      | (refine B_lenR n (s := 10) (ty := 0) rfl Try.underlying47 rfl rfl (fun u W hu => hu.slice) ?_ ?_ ?_; (· rfl); (· rfl); (try simp only [Act.put, List.setIfInBounds_toArray, List.set_cons_zero, List.set_cons_succ])))
    refine B_nil ?_ rfl ?_ ?_
    · kernel_rfl
    · rfl
    rintro _ ⟨⟨g1, d1⟩, rfl⟩
    simp only [fin, Act.put, List.setIfInBounds_toArray, List.set_cons_zero, List.set_cons_succ]
    intros
    go_wp2
    go_ret
    exact ⟨rfl, by (repeat' (first | (with_reducible exact Below.refl _ _) | (with_reducible refine bplus ?_ _ _) | (with_reducible refine balloc ?_ _) | (with_reducible refine Below.drew ?_) | (with_reducible refine bdrewN ?_ _) | (with_reducible refine Below.setCell ?_ (by go_size) _)))⟩

theorem Row.set {e : TypeId} {r n cap : Nat} {xs : List Value} {B : List Blk} (h : Row e 1 (.slice (some ⟨r, 0, none⟩) n cap) n xs B) (k : Nat) (hk : k < n) (v : Value) : ∃ cur, B = [⟨r, e, cur⟩] ∧ k < cur.size ∧ Row e 1 (.slice (some ⟨r, 0, none⟩) n cap) n (xs.set k v) [⟨r, e, cur.setIfInBounds k v⟩] := by
  cases h with
  | one r n cap cur h1 h2 h3 =>
    refine ⟨cur, rfl, by omega, ?_⟩
    have h := Row.one (e := e) (sz := 1) r n cap (cur.setIfInBounds k v) h1 h2 (by simpa using h3)
    have e1 : (cur.setIfInBounds k v).toList.take (n * 1) = (cur.toList.take (n * 1)).set k v := by
      rw [Array.toList_setIfInBounds, List.take_set]
    rw [e1] at h
    exact h
theorem ics_set (l : List Int) (k : Nat) (n : Int) : (ics l).set k (.int .i64 n) = ics (l.set k n) := by
  simp [ics]
def rackE (R : RS) (which n : Int) : Nat := if which < 0 ∨ (R.towers : Int) ≤ which then 28 else if R.newest < 0 ∨ R.newest < n then 20 else if n ≤ R.has.getD which.toNat 0 then 18 else 0
def rackR (R : RS) (k : Nat) (n : Int) : RS := { R with has := R.has.set k n }
set_option maxRecDepth 100000 in
set_option maxHeartbeats 2000000 in
theorem rack_no (R : RS) (hv : Value) (which n : Int) (w : World) (hl : R.has.length = R.towers) (hh : Sl w [] hv R.towers (ics R.has)) (E : Nat) (hE : rackE R which n = E) (h0 : E ≠ 0) :
    Calls Try.prog 74 #[.agg #[.int .i64 R.towers, .int .i64 R.need, .int .i64 R.newest, .string ⟨R.claim.toArray⟩, hv, .bool R.sl, .int .i64 R.fr, .int .i64 R.to], .int .i64 which, .int .i64 n] w fun e w' => e = .returned (.tuple #[.agg #[.int .i64 R.towers, .int .i64 R.need, .int .i64 R.newest, .string ⟨R.claim.toArray⟩, hv, .bool R.sl, .int .i64 R.fr, .int .i64 R.to], .int .i64 E]) ∧ Below w.heap.size w w' := by
  obtain ⟨ah, ch, rfl, hcap, hnil⟩ := hh.slice
  have HH := Lib.hid hh
  unfold rackE at hE
  clear hh hcap hnil
  by_cases hw0 : which < 0
  · rw [if_pos (.inl hw0)] at hE
    subst hE
    have hd : decide (which < 0) = true := decide_eq_true hw0
    clear h0
    go_enter Try.func74, Try.ntmps74
    go_wp2
    refine bodyPost_ret (by simp [results, Try.results74, go_sem] <;> rfl) rfl ⟨rfl, by (repeat' (first | (with_reducible exact Below.refl _ _) | (with_reducible refine bplus ?_ _ _) | (with_reducible refine balloc ?_ _) | (with_reducible refine Below.drew ?_) | (with_reducible refine bdrewN ?_ _) | (with_reducible refine Below.setCell ?_ (by go_size) _)))⟩
  obtain ⟨k, rfl⟩ : ∃ k : Nat, which = k := ⟨which.toNat, by omega⟩
  have hd0 : decide ((k : Int) < 0) = false := decide_eq_false hw0
  by_cases h1 : R.towers ≤ k
  · rw [if_pos (.inr (by omega))] at hE
    subst hE
    have hd : decide ((R.towers : Int) ≤ (k : Int)) = true := decide_eq_true (by omega)
    have hd' : decide (R.towers ≤ k) = true := decide_eq_true h1
    clear h0 h1
    go_enter Try.func74, Try.ntmps74
    go_wp2
    refine bodyPost_ret (by simp [results, Try.results74, go_sem] <;> rfl) rfl ⟨rfl, by (repeat' (first | (with_reducible exact Below.refl _ _) | (with_reducible refine bplus ?_ _ _) | (with_reducible refine balloc ?_ _) | (with_reducible refine Below.drew ?_) | (with_reducible refine bdrewN ?_ _) | (with_reducible refine Below.setCell ?_ (by go_size) _)))⟩
  have hd1 : decide ((R.towers : Int) ≤ (k : Int)) = false := decide_eq_false (by omega)
  have hd1' : decide (R.towers ≤ k) = false := decide_eq_false (by omega)
  rw [if_neg (by omega)] at hE
  by_cases hn : R.newest < 0
  · rw [if_pos (.inl hn)] at hE
    subst hE
    have hd : decide (R.newest < 0) = true := decide_eq_true hn
    clear h0
    go_enter Try.func74, Try.ntmps74
    go_wp2
    refine bodyPost_ret (by simp [results, Try.results74, go_sem] <;> rfl) rfl ⟨rfl, by (repeat' (first | (with_reducible exact Below.refl _ _) | (with_reducible refine bplus ?_ _ _) | (with_reducible refine balloc ?_ _) | (with_reducible refine Below.drew ?_) | (with_reducible refine bdrewN ?_ _) | (with_reducible refine Below.setCell ?_ (by go_size) _)))⟩
  have hd2 : decide (R.newest < 0) = false := decide_eq_false hn
  by_cases h2 : R.newest < n
  · rw [if_pos (.inr h2)] at hE
    subst hE
    have hd : decide (R.newest < n) = true := decide_eq_true h2
    clear h0
    go_enter Try.func74, Try.ntmps74
    go_wp2
    refine bodyPost_ret (by simp [results, Try.results74, go_sem] <;> rfl) rfl ⟨rfl, by (repeat' (first | (with_reducible exact Below.refl _ _) | (with_reducible refine bplus ?_ _ _) | (with_reducible refine balloc ?_ _) | (with_reducible refine Below.drew ?_) | (with_reducible refine bdrewN ?_ _) | (with_reducible refine Below.setCell ?_ (by go_size) _)))⟩
  have hd3 : decide (R.newest < n) = false := decide_eq_false h2
  rw [if_neg (by omega), Int.toNat_natCast] at hE
  have HO := Lib.hid (((Ow.start w).key #[.int .i64 R.towers, .int .i64 R.need, .int .i64 R.newest, .string ⟨R.claim.toArray⟩, .slice ah R.towers ch, .bool R.sl, .int .i64 R.fr, .int .i64 R.to] 61 w.heap.size rfl).alloc (.cells #[.int .i64 0, .int .i64 0, .int .i64 0, .string ByteArray.empty, .slice none 0 0, .bool false, .int .i64 0, .int .i64 0] 61))
  obtain ⟨r, o, rfl, hr, hc⟩ := HH.out.at_ HO.out (by simp) k (by omega)
  have ck := hc _ (ics_get R.has k (by omega))
  generalize R.has.getD k 0 = hx at ck hE
  have ckw : w.cell? ⟨r, o + k, none⟩ = some (.int .i64 hx) := by
    obtain ⟨r', o', e', hr', hc'⟩ := HH.out.at_ (Ow.start w) (by simp) k (by omega)
    cases e'
    have h3 := hc'
    rw [← HO.out.old hr' (o + k)]
    exact ck
  have hrw : r < w.heap.size := by
    obtain ⟨r', o', e', hr', hc'⟩ := HH.out.at_ (Ow.start w) (by simp) k (by omega)
    cases e'
    exact hr'
  clear hc ck hr HO
  by_cases h3 : n ≤ hx
  · rw [if_pos h3] at hE
    subst hE
    have hd : decide (n ≤ hx) = true := decide_eq_true h3
    clear h0
    go_enter Try.func74, Try.ntmps74
    go_wp2
    refine bodyPost_ret (by simp [results, Try.results74, go_sem] <;> rfl) rfl ⟨rfl, by (repeat' (first | (with_reducible exact Below.refl _ _) | (with_reducible refine bplus ?_ _ _) | (with_reducible refine balloc ?_ _) | (with_reducible refine Below.drew ?_) | (with_reducible refine bdrewN ?_ _) | (with_reducible refine Below.setCell ?_ (by go_size) _)))⟩
  · rw [if_neg h3] at hE
    exact absurd hE.symm h0
set_option maxRecDepth 100000 in
set_option maxHeartbeats 4000000 in
theorem rack_yes (R : RS) (hv : Value) (which n : Int) (w : World) (hl : R.has.length = R.towers) (ht : R.towers ≤ 16) (hh : Sl w [] hv R.towers (ics R.has)) (hE : rackE R which n = 0) :
    Calls Try.prog 74 #[.agg #[.int .i64 R.towers, .int .i64 R.need, .int .i64 R.newest, .string ⟨R.claim.toArray⟩, hv, .bool R.sl, .int .i64 R.fr, .int .i64 R.to], .int .i64 which, .int .i64 n] w fun e w' => ∃ hv', e = .returned (.tuple #[.agg #[.int .i64 R.towers, .int .i64 R.need, .int .i64 R.newest, .string ⟨R.claim.toArray⟩, hv', .bool R.sl, .int .i64 R.fr, .int .i64 R.to], .int .i64 0]) ∧ Below w.heap.size w w' ∧ Own 3 1 w.heap.size R.towers (ics (R.has.set which.toNat n)) hv' w' := by
  obtain ⟨ah, ch, rfl, hcap, hnil⟩ := hh.slice
  have HH := Lib.hid hh
  unfold rackE at hE
  clear hh hcap hnil
  have hw0 : ¬ which < 0 := fun h => by rw [if_pos (.inl h)] at hE; omega
  have h1 : ¬ (R.towers : Int) ≤ which := fun h => by rw [if_pos (.inr h)] at hE; omega
  rw [if_neg (by omega)] at hE
  have hn : ¬ R.newest < 0 := fun h => by rw [if_pos (.inl h)] at hE; omega
  have h2 : ¬ R.newest < n := fun h => by rw [if_pos (.inr h)] at hE; omega
  rw [if_neg (by omega)] at hE
  obtain ⟨k, rfl⟩ : ∃ k : Nat, which = k := ⟨which.toNat, by omega⟩
  rw [Int.toNat_natCast] at hE ⊢
  have h3 : ¬ n ≤ R.has.getD k 0 := fun h => by rw [if_pos h] at hE; omega
  clear hE
  have hd0 : decide ((k : Int) < 0) = false := decide_eq_false hw0
  have hd1 : decide ((R.towers : Int) ≤ (k : Int)) = false := decide_eq_false h1
  have hd1' : decide (R.towers ≤ k) = false := decide_eq_false (by omega)
  have hd2 : decide (R.newest < 0) = false := decide_eq_false hn
  have hd3 : decide (R.newest < n) = false := decide_eq_false h2
  have hkt : k < R.towers := by omega
  have HO := Lib.hid ((((Ow.start w).key #[.int .i64 R.towers, .int .i64 R.need, .int .i64 R.newest, .string ⟨R.claim.toArray⟩, .slice ah R.towers ch, .bool R.sl, .int .i64 R.fr, .int .i64 R.to] 61 w.heap.size rfl).key #[.int .i64 0, .int .i64 0, .int .i64 0, .string ByteArray.empty, .slice none 0 0, .bool false, .int .i64 0, .int .i64 0] 61 (w.heap.size + 1) (by simp)).key #[] 3 (w.heap.size + 1 + 1) (by simp))
  obtain ⟨r, o, rfl, hr, hc⟩ := HH.out.at_ (Ow.start w) (by simp) k hkt
  have ck := hc _ (ics_get R.has k (by omega))
  generalize R.has.getD k 0 = hx at ck h3
  have hd4 : decide (n ≤ hx) = false := decide_eq_false h3
  have HCl := Lib.hid (HH.out.cells HO.out (by simp))
  have HR0 := Lib.hid (Row.empty 3 1 (w.heap.size + 1 + 1))
  have HO' := Lib.hid (show Ow _ w ([⟨w.heap.size + 1 + 1, 3, #[]⟩] ++ [⟨w.heap.size + 1, 61, #[.int .i64 0, .int .i64 0, .int .i64 0, .string ByteArray.empty, .slice none 0 0, .bool false, .int .i64 0, .int .i64 0]⟩, ⟨w.heap.size, 61, #[.int .i64 R.towers, .int .i64 R.need, .int .i64 R.newest, .string ⟨R.claim.toArray⟩, .slice (some ⟨r, o, none⟩) R.towers ch, .bool R.sl, .int .i64 R.fr, .int .i64 R.to]⟩]) from HO.out)
  have hone : ∀ u ∈ ics R.has, u.oneCell' = true := by
    intro u hu
    simp only [ics, List.mem_map] at hu
    obtain ⟨z, -, rfl⟩ := hu
    rfl
  have HONE := Lib.hid hone
  clear hc HO hone h3 hn h2
  go_enter Try.func74, Try.ntmps74
  go_wp2_with (at_builtin; refine Stop.go ?_)
  unfold Stop
  refine HO'.out.appendRow rfl (.tmp 35) (.tmp 37) 47 rfl elt_int (by rfl) HR0.out (some ⟨r, o, none⟩) R.towers ch (ics R.has) (by rfl) (by rw [ics_len]; omega) (by simp) (fun ad had j u hj => ?_) HONE.out (by unfold maxLen; omega) (by omega) R.towers (by omega) (ics R.has) (by simp) (fun ao' cap' B' w7 R7 O7 => ?_)
  · exact HCl.out ad had j u hj
  have HR7 := Lib.hid R7
  have O8 := O7.perm (L' := ⟨w.heap.size, 61, #[.int .i64 R.towers, .int .i64 R.need, .int .i64 R.newest, .string ⟨R.claim.toArray⟩, .slice (some ⟨r, o, none⟩) R.towers ch, .bool R.sl, .int .i64 R.fr, .int .i64 R.to]⟩ :: (⟨w.heap.size + 1, 61, #[.int .i64 0, .int .i64 0, .int .i64 0, .string ByteArray.empty, .slice none 0 0, .bool false, .int .i64 0, .int .i64 0]⟩ :: B')) (perm_cnt fun x => by simp only [cnt_append, cnt_cons, cnt_nil] <;> omega)
  have HB0 := O8.has (List.mem_cons_self ..)
  have ltb := HB0.lt
  have d4 := HB0.cell 4
  have f4 := HB0.frozen 4
  obtain ⟨r7, cap7, e7, hcap7, lt7, hc7⟩ := R7.openP O7.mem (by omega)
  cases e7
  obtain ⟨cur, hB, hks, hRs⟩ := HR7.out.set k hkt (.int .i64 n)
  subst hB
  have HRs := Lib.hid hRs
  have HBr := O8.has (b := r7) (t := 3) (cs := cur) (by simp)
  have hne7 : r7 ≠ w.heap.size := fun e => by
    have := O8.mem.apart
    simp [e] at this
  have fkr := HBr.frozen k
  have ckr : w7.cell? ⟨r7, k, none⟩ = some (.int .i64 (R.has.getD k 0)) := hc7 k _ (ics_get R.has k (by omega))
  have O9 := O8.set 4 (.slice (some ⟨r7, 0, none⟩) R.towers cap')
  have O10 := (O9.perm (L' := ⟨r7, 3, cur⟩ :: (⟨w.heap.size, 61, #[.int .i64 R.towers, .int .i64 R.need, .int .i64 R.newest, .string ⟨R.claim.toArray⟩, .slice (some ⟨r7, 0, none⟩) R.towers cap', .bool R.sl, .int .i64 R.fr, .int .i64 R.to]⟩ :: [⟨w.heap.size + 1, 61, #[.int .i64 0, .int .i64 0, .int .i64 0, .string ByteArray.empty, .slice none 0 0, .bool false, .int .i64 0, .int .i64 0]⟩])) (by simp only [List.setIfInBounds_toArray, List.set_cons_zero, List.set_cons_succ]; exact (perm_cnt fun x => by simp only [cnt_append, cnt_cons, cnt_nil] <;> omega))).set k (.int .i64 n)
  have HO10 := Lib.hid (O10.perm (L' := ⟨w.heap.size + 1, 61, #[.int .i64 0, .int .i64 0, .int .i64 0, .string ByteArray.empty, .slice none 0 0, .bool false, .int .i64 0, .int .i64 0]⟩ :: (⟨w.heap.size, 61, #[.int .i64 R.towers, .int .i64 R.need, .int .i64 R.newest, .string ⟨R.claim.toArray⟩, .slice (some ⟨r7, 0, none⟩) R.towers cap', .bool R.sl, .int .i64 R.fr, .int .i64 R.to]⟩ :: [⟨r7, 3, cur.setIfInBounds k (.int .i64 n)⟩])) (perm_cnt fun x => by simp only [cnt_append, cnt_cons, cnt_nil] <;> omega))
  have HBx := O8.has (List.mem_cons_self ..)
  have x0 := HBx.cell 0; have x1 := HBx.cell 1; have x2 := HBx.cell 2; have x3 := HBx.cell 3; have x5 := HBx.cell 5; have x6 := HBx.cell 6; have x7 := HBx.cell 7
  simp only [List.getElem?_toArray, List.getElem?_cons_succ, List.getElem?_cons_zero] at x0 x1 x2 x3 x5 x6 x7 d4
  clear HBx O8 O9 O10 O7 R7 hc7 hRs HB0 HBr HO' HR0 HCl ck
  go_wp2_with (refine HO10.out.storeL rfl 61 (.tmp 6) (.tmp 45) rfl (by rfl) #[.int .i64 R.towers, .int .i64 R.need, .int .i64 R.newest, .string ⟨R.claim.toArray⟩, .slice (some ⟨r7, 0, none⟩) R.towers cap', .bool R.sl, .int .i64 R.fr, .int .i64 R.to] (by rfl) (by kernel_rfl) (by rfl) (by simp [Value.oneCell']) ?_; intro w11 O11; (have HO11 := Lib.hid O11); (have HB11 := O11.has (List.mem_cons_self ..)); (have hd11 := HB11.cell); clear O11 HB11)
  refine bodyPost_ret (v := .tuple #[.agg #[.int .i64 R.towers, .int .i64 R.need, .int .i64 R.newest, .string ⟨R.claim.toArray⟩, .slice (some ⟨r7, 0, none⟩) R.towers cap', .bool R.sl, .int .i64 R.fr, .int .i64 R.to], .int .i64 0]) (by simp [results, Try.results74, go_sem, hd11]) rfl ?_
  refine ⟨_, rfl, HO11.out.below, some ⟨r7, 0, none⟩, cap', [⟨r7, 3, cur.setIfInBounds k (.int .i64 n)⟩], rfl, ?_, fun z hz => ⟨HO11.out.new z (by simp [List.mem_singleton.1 hz]), HO11.out.mem.has z (by simp [List.mem_singleton.1 hz])⟩⟩
  have := HRs.out
  rwa [ics_set] at this

def rsleepE (R : RS) (bd most f t : Int) : Int := if bd ≠ 0 then bd else if f < 0 ∨ 1099511627776 < f ∨ t < f ∨ 1099511627776 < t then 2 else if R.sl = true ∧ f < R.to then 7 else if rsafeB R = false then 10 else if most < t - f then 5 else 0
def rsleepR (R : RS) (bd most f t : Int) : RS := if rsleepE R bd most f t = 0 then (if t = f then { R with sl := false, fr := 0, to := 0 } else { R with sl := true, fr := f, to := t }) else R
set_option maxRecDepth 100000 in
set_option maxHeartbeats 4000000 in
theorem rsleep_to (R : RS) (hv : Value) (bd most f t : Int) (hmo : bd = 0 → 0 ≤ most) (w : World) (hl : R.has.length = R.towers) (ht : R.towers ≤ 16) (hh : Sl w [] hv R.towers (ics R.has)) (E : Int) (hE : rsleepE R bd most f t = E) (R' : RS) (hR : rsleepR R bd most f t = R') :
    Calls Try.prog 75 #[.agg #[.int .i64 R.towers, .int .i64 R.need, .int .i64 R.newest, .string ⟨R.claim.toArray⟩, hv, .bool R.sl, .int .i64 R.fr, .int .i64 R.to], .int .i64 bd, .int .i64 most, .int .i64 f, .int .i64 t] w fun e w' => e = .returned (.tuple #[.agg #[.int .i64 R'.towers, .int .i64 R'.need, .int .i64 R'.newest, .string ⟨R'.claim.toArray⟩, hv, .bool R'.sl, .int .i64 R'.fr, .int .i64 R'.to], .int .i64 E]) ∧ Below w.heap.size w w' := by
  obtain ⟨ah, ch, rfl, -⟩ := hh.slice
  have HH := Lib.hid hh
  unfold rsleepR at hR
  rw [hE] at hR
  unfold rsleepE at hE
  clear hh
  by_cases hb : bd = 0
  · have hmo := hmo hb
    subst hb
    rw [if_neg (by simp)] at hE
    by_cases h1 : f < 0
    · rw [if_pos (.inl h1)] at hE
      subst hE
      rw [if_neg (by omega)] at hR
      subst hR
      have e1 : decide (f < 0) = true := decide_eq_true h1
      go_enter Try.func75, Try.ntmps75
      go_wp2
      refine bodyPost_ret (by simp [results, Try.results75, go_sem] <;> rfl) rfl ⟨rfl, by (repeat' (first | (with_reducible exact Below.refl _ _) | (with_reducible refine bplus ?_ _ _) | (with_reducible refine balloc ?_ _) | (with_reducible refine Below.drew ?_) | (with_reducible refine bdrewN ?_ _) | (with_reducible refine Below.setCell ?_ (by go_size) _)))⟩
    have e1 : decide (f < 0) = false := decide_eq_false h1
    by_cases h2 : 1099511627776 < f
    · rw [if_pos (.inr (.inl h2))] at hE
      subst hE
      rw [if_neg (by omega)] at hR
      subst hR
      have e2 : decide (1099511627776 < f) = true := decide_eq_true h2
      go_enter Try.func75, Try.ntmps75
      go_wp2
      refine bodyPost_ret (by simp [results, Try.results75, go_sem] <;> rfl) rfl ⟨rfl, by (repeat' (first | (with_reducible exact Below.refl _ _) | (with_reducible refine bplus ?_ _ _) | (with_reducible refine balloc ?_ _) | (with_reducible refine Below.drew ?_) | (with_reducible refine bdrewN ?_ _) | (with_reducible refine Below.setCell ?_ (by go_size) _)))⟩
    have e2 : decide (1099511627776 < f) = false := decide_eq_false h2
    by_cases h3 : t < f
    · rw [if_pos (.inr (.inr (.inl h3)))] at hE
      subst hE
      rw [if_neg (by omega)] at hR
      subst hR
      have e3 : decide (t < f) = true := decide_eq_true h3
      go_enter Try.func75, Try.ntmps75
      go_wp2
      refine bodyPost_ret (by simp [results, Try.results75, go_sem] <;> rfl) rfl ⟨rfl, by (repeat' (first | (with_reducible exact Below.refl _ _) | (with_reducible refine bplus ?_ _ _) | (with_reducible refine balloc ?_ _) | (with_reducible refine Below.drew ?_) | (with_reducible refine bdrewN ?_ _) | (with_reducible refine Below.setCell ?_ (by go_size) _)))⟩
    have e3 : decide (t < f) = false := decide_eq_false h3
    by_cases h4 : 1099511627776 < t
    · rw [if_pos (.inr (.inr (.inr h4)))] at hE
      subst hE
      rw [if_neg (by omega)] at hR
      subst hR
      have e4 : decide (1099511627776 < t) = true := decide_eq_true h4
      go_enter Try.func75, Try.ntmps75
      go_wp2
      refine bodyPost_ret (by simp [results, Try.results75, go_sem] <;> rfl) rfl ⟨rfl, by (repeat' (first | (with_reducible exact Below.refl _ _) | (with_reducible refine bplus ?_ _ _) | (with_reducible refine balloc ?_ _) | (with_reducible refine Below.drew ?_) | (with_reducible refine bdrewN ?_ _) | (with_reducible refine Below.setCell ?_ (by go_size) _)))⟩
    have e4 : decide (1099511627776 < t) = false := decide_eq_false h4
    rw [if_neg (by omega)] at hE
    by_cases h5 : R.sl = true ∧ f < R.to
    · rw [if_pos h5] at hE
      subst hE
      rw [if_neg (by omega)] at hR
      subst hR
      obtain ⟨h5, h6⟩ := h5
      have e6 : decide (f < R.to) = true := decide_eq_true h6
      go_enter Try.func75, Try.ntmps75
      go_wp2
      refine bodyPost_ret (by simp [results, Try.results75, go_sem] <;> rfl) rfl ⟨rfl, by (repeat' (first | (with_reducible exact Below.refl _ _) | (with_reducible refine bplus ?_ _ _) | (with_reducible refine balloc ?_ _) | (with_reducible refine Below.drew ?_) | (with_reducible refine bdrewN ?_ _) | (with_reducible refine Below.setCell ?_ (by go_size) _)))⟩
    rw [if_neg h5] at hE
    have hB : ∀ A, Below w.heap.size w (w.alloc A) := fun A => by (repeat' (first | (with_reducible exact Below.refl _ _) | (with_reducible refine bplus ?_ _ _) | (with_reducible refine balloc ?_ _) | (with_reducible refine Below.drew ?_) | (with_reducible refine bdrewN ?_ _) | (with_reducible refine Below.setCell ?_ (by go_size) _)))
    obtain ⟨sb, hsb⟩ : ∃ x, rsafeB R = x := ⟨_, rfl⟩
    rw [hsb] at hE
    have T : Hid (∀ W, Ow W w [] → Calls Try.prog 76 #[.agg #[.int .i64 R.towers, .int .i64 R.need, .int .i64 R.newest, .string ⟨R.claim.toArray⟩, .slice ah R.towers ch, .bool R.sl, .int .i64 R.fr, .int .i64 R.to]] W fun e w' => e = .returned (.bool sb) ∧ Below W.heap.size W w') := fun W OW => rsafe_to R _ W hl ht (HH.out.here OW (by simp)) sb hsb
    have HO := Lib.hid (((Ow.start w).alloc (.cells #[.int .i64 R.towers, .int .i64 R.need, .int .i64 R.newest, .string ⟨R.claim.toArray⟩, .slice ah R.towers ch, .bool R.sl, .int .i64 R.fr, .int .i64 R.to] 61)).alloc (.cells #[.int .i64 0, .int .i64 0, .int .i64 0, .string ByteArray.empty, .slice none 0 0, .bool false, .int .i64 0, .int .i64 0] 61))
    clear hsb hB
    have KEY : ∀ (hsl : R.sl = false ∨ (R.sl = true ∧ decide (f < R.to) = false)), Calls Try.prog 75 #[.agg #[.int .i64 R.towers, .int .i64 R.need, .int .i64 R.newest, .string ⟨R.claim.toArray⟩, .slice ah R.towers ch, .bool R.sl, .int .i64 R.fr, .int .i64 R.to], .int .i64 0, .int .i64 most, .int .i64 f, .int .i64 t] w fun e w' => e = .returned (.tuple #[.agg #[.int .i64 R'.towers, .int .i64 R'.need, .int .i64 R'.newest, .string ⟨R'.claim.toArray⟩, .slice ah R.towers ch, .bool R'.sl, .int .i64 R'.fr, .int .i64 R'.to], .int .i64 E]) ∧ Below w.heap.size w w' := by
      intro hsl
      have GO : Hid (Calls Try.prog 76 #[.agg #[.int .i64 R.towers, .int .i64 R.need, .int .i64 R.newest, .string ⟨R.claim.toArray⟩, .slice ah R.towers ch, .bool R.sl, .int .i64 R.fr, .int .i64 R.to]] ((w.alloc (.cells #[.int .i64 R.towers, .int .i64 R.need, .int .i64 R.newest, .string ⟨R.claim.toArray⟩, .slice ah R.towers ch, .bool R.sl, .int .i64 R.fr, .int .i64 R.to] 61)).alloc (.cells #[.int .i64 0, .int .i64 0, .int .i64 0, .string ByteArray.empty, .slice none 0 0, .bool false, .int .i64 0, .int .i64 0] 61)) fun e w' => e = .returned (.bool sb) ∧ Below ((w.alloc (.cells #[.int .i64 R.towers, .int .i64 R.need, .int .i64 R.newest, .string ⟨R.claim.toArray⟩, .slice ah R.towers ch, .bool R.sl, .int .i64 R.fr, .int .i64 R.to] 61)).alloc (.cells #[.int .i64 0, .int .i64 0, .int .i64 0, .string ByteArray.empty, .slice none 0 0, .bool false, .int .i64 0, .int .i64 0] 61)).heap.size ((w.alloc (.cells #[.int .i64 R.towers, .int .i64 R.need, .int .i64 R.newest, .string ⟨R.claim.toArray⟩, .slice ah R.towers ch, .bool R.sl, .int .i64 R.fr, .int .i64 R.to] 61)).alloc (.cells #[.int .i64 0, .int .i64 0, .int .i64 0, .string ByteArray.empty, .slice none 0 0, .bool false, .int .i64 0, .int .i64 0] 61)) w') := T.out _ HO.out
      have H5 := Lib.hid h5
      clear h5 T HO HH
      rcases hsl with hsl | ⟨hsl, e6⟩
      · rw [hsl] at GO ⊢
        go_enter Try.func75, Try.ntmps75
        go_wp2_with fail
        refine GO.out.mono ?_
        rintro e w1 ⟨rfl, hb1⟩
        obtain ⟨g1, d1, rfl⟩ := plus_of_below hb1
        clear hb1
        cases sb with
        | false =>
          rw [if_pos rfl] at hE
          subst hE
          rw [if_neg (by omega)] at hR
          subst hR
          go_wp2
          refine bodyPost_ret (by simp [results, Try.results75, go_sem] <;> rfl) rfl ⟨by rw [hsl], by (repeat' (first | (with_reducible exact Below.refl _ _) | (with_reducible refine bplus ?_ _ _) | (with_reducible refine balloc ?_ _) | (with_reducible refine Below.drew ?_) | (with_reducible refine bdrewN ?_ _) | (with_reducible refine Below.setCell ?_ (by go_size) _)))⟩
        | true =>
          rw [if_neg (by simp)] at hE
          by_cases hm : most < t - f
          · rw [if_pos hm] at hE
            subst hE
            rw [if_neg (by omega)] at hR
            subst hR
            have e7 : decide (most < t - f) = true := decide_eq_true hm
            go_wp2
            refine bodyPost_ret (by simp [results, Try.results75, go_sem] <;> rfl) rfl ⟨by rw [hsl], by (repeat' (first | (with_reducible exact Below.refl _ _) | (with_reducible refine bplus ?_ _ _) | (with_reducible refine balloc ?_ _) | (with_reducible refine Below.drew ?_) | (with_reducible refine bdrewN ?_ _) | (with_reducible refine Below.setCell ?_ (by go_size) _)))⟩
          · rw [if_neg hm] at hE
            subst hE
            rw [if_pos rfl] at hR
            have e7 : decide (most < t - f) = false := decide_eq_false hm
            by_cases htf : t = f
            · rw [if_pos htf] at hR
              subst hR
              have e8 : (t == f) = true := by rw [beq_iff_eq]; exact htf
              clear htf
              go_wp2
              refine bodyPost_ret (by simp [results, Try.results75, go_sem] <;> rfl) rfl ⟨rfl, by (repeat' (first | (with_reducible exact Below.refl _ _) | (with_reducible refine bplus ?_ _ _) | (with_reducible refine balloc ?_ _) | (with_reducible refine Below.drew ?_) | (with_reducible refine bdrewN ?_ _) | (with_reducible refine Below.setCell ?_ (by go_size) _)))⟩
            · rw [if_neg htf] at hR
              subst hR
              have e8 : (t == f) = false := by rw [beq_eq_false_iff_ne]; exact htf
              clear htf
              go_wp2
              refine bodyPost_ret (by simp [results, Try.results75, go_sem] <;> rfl) rfl ⟨rfl, by (repeat' (first | (with_reducible exact Below.refl _ _) | (with_reducible refine bplus ?_ _ _) | (with_reducible refine balloc ?_ _) | (with_reducible refine Below.drew ?_) | (with_reducible refine bdrewN ?_ _) | (with_reducible refine Below.setCell ?_ (by go_size) _)))⟩
      · rw [hsl] at GO ⊢
        go_enter Try.func75, Try.ntmps75
        go_wp2_with fail
        refine GO.out.mono ?_
        rintro e w1 ⟨rfl, hb1⟩
        obtain ⟨g1, d1, rfl⟩ := plus_of_below hb1
        clear hb1
        cases sb with
        | false =>
          rw [if_pos rfl] at hE
          subst hE
          rw [if_neg (by omega)] at hR
          subst hR
          go_wp2
          refine bodyPost_ret (by simp [results, Try.results75, go_sem] <;> rfl) rfl ⟨by rw [hsl], by (repeat' (first | (with_reducible exact Below.refl _ _) | (with_reducible refine bplus ?_ _ _) | (with_reducible refine balloc ?_ _) | (with_reducible refine Below.drew ?_) | (with_reducible refine bdrewN ?_ _) | (with_reducible refine Below.setCell ?_ (by go_size) _)))⟩
        | true =>
          rw [if_neg (by simp)] at hE
          by_cases hm : most < t - f
          · rw [if_pos hm] at hE
            subst hE
            rw [if_neg (by omega)] at hR
            subst hR
            have e7 : decide (most < t - f) = true := decide_eq_true hm
            go_wp2
            refine bodyPost_ret (by simp [results, Try.results75, go_sem] <;> rfl) rfl ⟨by rw [hsl], by (repeat' (first | (with_reducible exact Below.refl _ _) | (with_reducible refine bplus ?_ _ _) | (with_reducible refine balloc ?_ _) | (with_reducible refine Below.drew ?_) | (with_reducible refine bdrewN ?_ _) | (with_reducible refine Below.setCell ?_ (by go_size) _)))⟩
          · rw [if_neg hm] at hE
            subst hE
            rw [if_pos rfl] at hR
            have e7 : decide (most < t - f) = false := decide_eq_false hm
            by_cases htf : t = f
            · rw [if_pos htf] at hR
              subst hR
              have e8 : (t == f) = true := by rw [beq_iff_eq]; exact htf
              clear htf
              go_wp2
              refine bodyPost_ret (by simp [results, Try.results75, go_sem] <;> rfl) rfl ⟨rfl, by (repeat' (first | (with_reducible exact Below.refl _ _) | (with_reducible refine bplus ?_ _ _) | (with_reducible refine balloc ?_ _) | (with_reducible refine Below.drew ?_) | (with_reducible refine bdrewN ?_ _) | (with_reducible refine Below.setCell ?_ (by go_size) _)))⟩
            · rw [if_neg htf] at hR
              subst hR
              have e8 : (t == f) = false := by rw [beq_eq_false_iff_ne]; exact htf
              clear htf
              go_wp2
              refine bodyPost_ret (by simp [results, Try.results75, go_sem] <;> rfl) rfl ⟨rfl, by (repeat' (first | (with_reducible exact Below.refl _ _) | (with_reducible refine bplus ?_ _ _) | (with_reducible refine balloc ?_ _) | (with_reducible refine Below.drew ?_) | (with_reducible refine bdrewN ?_ _) | (with_reducible refine Below.setCell ?_ (by go_size) _)))⟩
    by_cases hs : R.sl = true
    · exact KEY (.inr ⟨hs, decide_eq_false fun h => h5 ⟨hs, h⟩⟩)
    · exact KEY (.inl (by simpa using hs))
  · rw [if_pos hb] at hE
    subst hE
    rw [if_neg hb] at hR
    subst hR
    have e0 : (bd == 0) = false := by rw [beq_eq_false_iff_ne]; exact hb
    clear hb
    go_enter Try.func75, Try.ntmps75
    go_wp2
    refine bodyPost_ret (by simp [results, Try.results75, go_sem] <;> rfl) rfl ⟨rfl, by (repeat' (first | (with_reducible exact Below.refl _ _) | (with_reducible refine bplus ?_ _ _) | (with_reducible refine balloc ?_ _) | (with_reducible refine Below.drew ?_) | (with_reducible refine bdrewN ?_ _) | (with_reducible refine Below.setCell ?_ (by go_size) _)))⟩

def alikeB (R S : RS) : Bool := decide (R.towers = S.towers ∧ R.need = S.need ∧ R.newest = S.newest ∧ R.claim = S.claim ∧ R.has = S.has ∧ R.sl = S.sl ∧ R.fr = S.fr ∧ R.to = S.to)
set_option maxRecDepth 100000 in
set_option maxHeartbeats 2000000 in
theorem al_0 (w : World) (R S : RS) (a1 a2 : Option Addr) (n1 n2 c1 c2 : Nat)  (k0 : ¬ (R.towers = S.towers)) :
    Calls Try.prog 50 #[.agg #[.int .i64 R.towers, .int .i64 R.need, .int .i64 R.newest, .string ⟨R.claim.toArray⟩, .slice a1 n1 c1, .bool R.sl, .int .i64 R.fr, .int .i64 R.to], .agg #[.int .i64 S.towers, .int .i64 S.need, .int .i64 S.newest, .string ⟨S.claim.toArray⟩, .slice a2 n2 c2, .bool S.sl, .int .i64 S.fr, .int .i64 S.to]] w fun e w' => e = .returned (.bool false) ∧ Below w.heap.size w w' := by
  have e0 : ((R.towers : Int) == (S.towers : Int)) = false := by rw [beq_eq_false_iff_ne]; omega
  have f0 : (R.towers == S.towers) = false := by simp [k0]
  clear k0
  go_enter Try.func50, Try.ntmps50
  go_wp2
  go_ret
  exact ⟨rfl, by (repeat' (first | (with_reducible exact Below.refl _ _) | (with_reducible refine bplus ?_ _ _) | (with_reducible refine balloc ?_ _) | (with_reducible refine Below.drew ?_) | (with_reducible refine bdrewN ?_ _) | (with_reducible refine Below.setCell ?_ (by go_size) _)))⟩
set_option maxRecDepth 100000 in
set_option maxHeartbeats 2000000 in
theorem al_1 (w : World) (R S : RS) (a1 a2 : Option Addr) (n1 n2 c1 c2 : Nat) (k0 : R.towers = S.towers) (k1 : ¬ (R.need = S.need)) :
    Calls Try.prog 50 #[.agg #[.int .i64 R.towers, .int .i64 R.need, .int .i64 R.newest, .string ⟨R.claim.toArray⟩, .slice a1 n1 c1, .bool R.sl, .int .i64 R.fr, .int .i64 R.to], .agg #[.int .i64 S.towers, .int .i64 S.need, .int .i64 S.newest, .string ⟨S.claim.toArray⟩, .slice a2 n2 c2, .bool S.sl, .int .i64 S.fr, .int .i64 S.to]] w fun e w' => e = .returned (.bool false) ∧ Below w.heap.size w w' := by
  have e0 : ((R.towers : Int) == (S.towers : Int)) = true := by rw [k0]; simp
  have f0 : (R.towers == S.towers) = true := by simp [k0]
  have e1 : ((R.need : Int) == (S.need : Int)) = false := by rw [beq_eq_false_iff_ne]; omega
  have f1 : (R.need == S.need) = false := by simp [k1]
  clear k0 k1
  go_enter Try.func50, Try.ntmps50
  go_wp2
  go_ret
  exact ⟨rfl, by (repeat' (first | (with_reducible exact Below.refl _ _) | (with_reducible refine bplus ?_ _ _) | (with_reducible refine balloc ?_ _) | (with_reducible refine Below.drew ?_) | (with_reducible refine bdrewN ?_ _) | (with_reducible refine Below.setCell ?_ (by go_size) _)))⟩
set_option maxRecDepth 100000 in
set_option maxHeartbeats 2000000 in
theorem al_2 (w : World) (R S : RS) (a1 a2 : Option Addr) (n1 n2 c1 c2 : Nat) (k0 : R.towers = S.towers) (k1 : R.need = S.need) (k2 : ¬ (R.newest = S.newest)) :
    Calls Try.prog 50 #[.agg #[.int .i64 R.towers, .int .i64 R.need, .int .i64 R.newest, .string ⟨R.claim.toArray⟩, .slice a1 n1 c1, .bool R.sl, .int .i64 R.fr, .int .i64 R.to], .agg #[.int .i64 S.towers, .int .i64 S.need, .int .i64 S.newest, .string ⟨S.claim.toArray⟩, .slice a2 n2 c2, .bool S.sl, .int .i64 S.fr, .int .i64 S.to]] w fun e w' => e = .returned (.bool false) ∧ Below w.heap.size w w' := by
  have e0 : ((R.towers : Int) == (S.towers : Int)) = true := by rw [k0]; simp
  have f0 : (R.towers == S.towers) = true := by simp [k0]
  have e1 : ((R.need : Int) == (S.need : Int)) = true := by rw [k1]; simp
  have f1 : (R.need == S.need) = true := by simp [k1]
  have e2 : (R.newest == S.newest) = false := by simp [k2]
  clear k0 k1 k2
  go_enter Try.func50, Try.ntmps50
  go_wp2
  go_ret
  exact ⟨rfl, by (repeat' (first | (with_reducible exact Below.refl _ _) | (with_reducible refine bplus ?_ _ _) | (with_reducible refine balloc ?_ _) | (with_reducible refine Below.drew ?_) | (with_reducible refine bdrewN ?_ _) | (with_reducible refine Below.setCell ?_ (by go_size) _)))⟩
set_option maxRecDepth 100000 in
set_option maxHeartbeats 2000000 in
theorem al_3 (w : World) (R S : RS) (a1 a2 : Option Addr) (n1 n2 c1 c2 : Nat) (k0 : R.towers = S.towers) (k1 : R.need = S.need) (k2 : R.newest = S.newest) (k3 : ¬ (R.claim = S.claim)) :
    Calls Try.prog 50 #[.agg #[.int .i64 R.towers, .int .i64 R.need, .int .i64 R.newest, .string ⟨R.claim.toArray⟩, .slice a1 n1 c1, .bool R.sl, .int .i64 R.fr, .int .i64 R.to], .agg #[.int .i64 S.towers, .int .i64 S.need, .int .i64 S.newest, .string ⟨S.claim.toArray⟩, .slice a2 n2 c2, .bool S.sl, .int .i64 S.fr, .int .i64 S.to]] w fun e w' => e = .returned (.bool false) ∧ Below w.heap.size w w' := by
  have e0 : ((R.towers : Int) == (S.towers : Int)) = true := by rw [k0]; simp
  have f0 : (R.towers == S.towers) = true := by simp [k0]
  have e1 : ((R.need : Int) == (S.need : Int)) = true := by rw [k1]; simp
  have f1 : (R.need == S.need) = true := by simp [k1]
  have e2 : (R.newest == S.newest) = true := by simp [k2]
  have e3 : ((⟨R.claim.toArray⟩ : ByteArray) == ⟨S.claim.toArray⟩) = false := by rw [str_eq']; simp [k3]
  clear k0 k1 k2
  go_enter Try.func50, Try.ntmps50
  go_wp2
  go_ret
  exact ⟨rfl, by (repeat' (first | (with_reducible exact Below.refl _ _) | (with_reducible refine bplus ?_ _ _) | (with_reducible refine balloc ?_ _) | (with_reducible refine Below.drew ?_) | (with_reducible refine bdrewN ?_ _) | (with_reducible refine Below.setCell ?_ (by go_size) _)))⟩
set_option maxRecDepth 100000 in
set_option maxHeartbeats 2000000 in
theorem al_4 (w : World) (R S : RS) (a1 a2 : Option Addr) (n1 n2 c1 c2 : Nat) (k0 : R.towers = S.towers) (k1 : R.need = S.need) (k2 : R.newest = S.newest) (k3 : R.claim = S.claim) (k4 : ¬ (R.has = S.has)) (E1' : ∀ A B, Calls Try.prog 31 #[.slice a1 n1 c1, .slice a2 n2 c2] ((w.alloc (.cells A 61)).alloc (.cells B 61)) fun e w' => e = .returned (.bool false) ∧ Below ((w.alloc (.cells A 61)).alloc (.cells B 61)).heap.size ((w.alloc (.cells A 61)).alloc (.cells B 61)) w') :
    Calls Try.prog 50 #[.agg #[.int .i64 R.towers, .int .i64 R.need, .int .i64 R.newest, .string ⟨R.claim.toArray⟩, .slice a1 n1 c1, .bool R.sl, .int .i64 R.fr, .int .i64 R.to], .agg #[.int .i64 S.towers, .int .i64 S.need, .int .i64 S.newest, .string ⟨S.claim.toArray⟩, .slice a2 n2 c2, .bool S.sl, .int .i64 S.fr, .int .i64 S.to]] w fun e w' => e = .returned (.bool false) ∧ Below w.heap.size w w' := by
  have e0 : ((R.towers : Int) == (S.towers : Int)) = true := by rw [k0]; simp
  have f0 : (R.towers == S.towers) = true := by simp [k0]
  have e1 : ((R.need : Int) == (S.need : Int)) = true := by rw [k1]; simp
  have f1 : (R.need == S.need) = true := by simp [k1]
  have e2 : (R.newest == S.newest) = true := by simp [k2]
  have e3 : ((⟨R.claim.toArray⟩ : ByteArray) == ⟨S.claim.toArray⟩) = true := by rw [str_eq']; simp [k3]
  have E1 := Lib.hid E1'
  clear E1'
  clear k0 k1 k2 k4
  go_enter Try.func50, Try.ntmps50
  go_wp2_with fail
  refine (E1.out _ _).mono ?_
  rintro e w1 ⟨rfl, hb1⟩
  obtain ⟨g1, d1, rfl⟩ := plus_of_below hb1
  clear hb1
  go_wp2
  go_ret
  exact ⟨rfl, by (repeat' (first | (with_reducible exact Below.refl _ _) | (with_reducible refine bplus ?_ _ _) | (with_reducible refine balloc ?_ _) | (with_reducible refine Below.drew ?_) | (with_reducible refine bdrewN ?_ _) | (with_reducible refine Below.setCell ?_ (by go_size) _)))⟩
set_option maxRecDepth 100000 in
set_option maxHeartbeats 2000000 in
theorem al_5 (w : World) (R S : RS) (a1 a2 : Option Addr) (n1 n2 c1 c2 : Nat) (k0 : R.towers = S.towers) (k1 : R.need = S.need) (k2 : R.newest = S.newest) (k3 : R.claim = S.claim) (k4 : R.has = S.has) (k5 : ¬ (R.sl = S.sl)) (E1' : ∀ A B, Calls Try.prog 31 #[.slice a1 n1 c1, .slice a2 n2 c2] ((w.alloc (.cells A 61)).alloc (.cells B 61)) fun e w' => e = .returned (.bool true) ∧ Below ((w.alloc (.cells A 61)).alloc (.cells B 61)).heap.size ((w.alloc (.cells A 61)).alloc (.cells B 61)) w') :
    Calls Try.prog 50 #[.agg #[.int .i64 R.towers, .int .i64 R.need, .int .i64 R.newest, .string ⟨R.claim.toArray⟩, .slice a1 n1 c1, .bool R.sl, .int .i64 R.fr, .int .i64 R.to], .agg #[.int .i64 S.towers, .int .i64 S.need, .int .i64 S.newest, .string ⟨S.claim.toArray⟩, .slice a2 n2 c2, .bool S.sl, .int .i64 S.fr, .int .i64 S.to]] w fun e w' => e = .returned (.bool false) ∧ Below w.heap.size w w' := by
  have e0 : ((R.towers : Int) == (S.towers : Int)) = true := by rw [k0]; simp
  have f0 : (R.towers == S.towers) = true := by simp [k0]
  have e1 : ((R.need : Int) == (S.need : Int)) = true := by rw [k1]; simp
  have f1 : (R.need == S.need) = true := by simp [k1]
  have e2 : (R.newest == S.newest) = true := by simp [k2]
  have e3 : ((⟨R.claim.toArray⟩ : ByteArray) == ⟨S.claim.toArray⟩) = true := by rw [str_eq']; simp [k3]
  have e5 : (R.sl == S.sl) = false := by simp [k5]
  have E1 := Lib.hid E1'
  clear E1'
  clear k0 k1 k2 k4 k5
  go_enter Try.func50, Try.ntmps50
  go_wp2_with fail
  refine (E1.out _ _).mono ?_
  rintro e w1 ⟨rfl, hb1⟩
  obtain ⟨g1, d1, rfl⟩ := plus_of_below hb1
  clear hb1
  go_wp2
  go_ret
  exact ⟨rfl, by (repeat' (first | (with_reducible exact Below.refl _ _) | (with_reducible refine bplus ?_ _ _) | (with_reducible refine balloc ?_ _) | (with_reducible refine Below.drew ?_) | (with_reducible refine bdrewN ?_ _) | (with_reducible refine Below.setCell ?_ (by go_size) _)))⟩
set_option maxRecDepth 100000 in
set_option maxHeartbeats 2000000 in
theorem al_6 (w : World) (R S : RS) (a1 a2 : Option Addr) (n1 n2 c1 c2 : Nat) (k0 : R.towers = S.towers) (k1 : R.need = S.need) (k2 : R.newest = S.newest) (k3 : R.claim = S.claim) (k4 : R.has = S.has) (k5 : R.sl = S.sl) (k6 : ¬ (R.fr = S.fr)) (E1' : ∀ A B, Calls Try.prog 31 #[.slice a1 n1 c1, .slice a2 n2 c2] ((w.alloc (.cells A 61)).alloc (.cells B 61)) fun e w' => e = .returned (.bool true) ∧ Below ((w.alloc (.cells A 61)).alloc (.cells B 61)).heap.size ((w.alloc (.cells A 61)).alloc (.cells B 61)) w') :
    Calls Try.prog 50 #[.agg #[.int .i64 R.towers, .int .i64 R.need, .int .i64 R.newest, .string ⟨R.claim.toArray⟩, .slice a1 n1 c1, .bool R.sl, .int .i64 R.fr, .int .i64 R.to], .agg #[.int .i64 S.towers, .int .i64 S.need, .int .i64 S.newest, .string ⟨S.claim.toArray⟩, .slice a2 n2 c2, .bool S.sl, .int .i64 S.fr, .int .i64 S.to]] w fun e w' => e = .returned (.bool false) ∧ Below w.heap.size w w' := by
  have e0 : ((R.towers : Int) == (S.towers : Int)) = true := by rw [k0]; simp
  have f0 : (R.towers == S.towers) = true := by simp [k0]
  have e1 : ((R.need : Int) == (S.need : Int)) = true := by rw [k1]; simp
  have f1 : (R.need == S.need) = true := by simp [k1]
  have e2 : (R.newest == S.newest) = true := by simp [k2]
  have e3 : ((⟨R.claim.toArray⟩ : ByteArray) == ⟨S.claim.toArray⟩) = true := by rw [str_eq']; simp [k3]
  have e5 : (R.sl == S.sl) = true := by simp [k5]
  have e6 : (R.fr == S.fr) = false := by simp [k6]
  have E1 := Lib.hid E1'
  clear E1'
  clear k0 k1 k2 k4 k5 k6
  go_enter Try.func50, Try.ntmps50
  go_wp2_with fail
  refine (E1.out _ _).mono ?_
  rintro e w1 ⟨rfl, hb1⟩
  obtain ⟨g1, d1, rfl⟩ := plus_of_below hb1
  clear hb1
  go_wp2
  go_ret
  exact ⟨rfl, by (repeat' (first | (with_reducible exact Below.refl _ _) | (with_reducible refine bplus ?_ _ _) | (with_reducible refine balloc ?_ _) | (with_reducible refine Below.drew ?_) | (with_reducible refine bdrewN ?_ _) | (with_reducible refine Below.setCell ?_ (by go_size) _)))⟩
set_option maxRecDepth 100000 in
set_option maxHeartbeats 2000000 in
theorem al_7 (w : World) (R S : RS) (a1 a2 : Option Addr) (n1 n2 c1 c2 : Nat) (k0 : R.towers = S.towers) (k1 : R.need = S.need) (k2 : R.newest = S.newest) (k3 : R.claim = S.claim) (k4 : R.has = S.has) (k5 : R.sl = S.sl) (k6 : R.fr = S.fr) (k7 : ¬ (R.to = S.to)) (E1' : ∀ A B, Calls Try.prog 31 #[.slice a1 n1 c1, .slice a2 n2 c2] ((w.alloc (.cells A 61)).alloc (.cells B 61)) fun e w' => e = .returned (.bool true) ∧ Below ((w.alloc (.cells A 61)).alloc (.cells B 61)).heap.size ((w.alloc (.cells A 61)).alloc (.cells B 61)) w') :
    Calls Try.prog 50 #[.agg #[.int .i64 R.towers, .int .i64 R.need, .int .i64 R.newest, .string ⟨R.claim.toArray⟩, .slice a1 n1 c1, .bool R.sl, .int .i64 R.fr, .int .i64 R.to], .agg #[.int .i64 S.towers, .int .i64 S.need, .int .i64 S.newest, .string ⟨S.claim.toArray⟩, .slice a2 n2 c2, .bool S.sl, .int .i64 S.fr, .int .i64 S.to]] w fun e w' => e = .returned (.bool false) ∧ Below w.heap.size w w' := by
  have e0 : ((R.towers : Int) == (S.towers : Int)) = true := by rw [k0]; simp
  have f0 : (R.towers == S.towers) = true := by simp [k0]
  have e1 : ((R.need : Int) == (S.need : Int)) = true := by rw [k1]; simp
  have f1 : (R.need == S.need) = true := by simp [k1]
  have e2 : (R.newest == S.newest) = true := by simp [k2]
  have e3 : ((⟨R.claim.toArray⟩ : ByteArray) == ⟨S.claim.toArray⟩) = true := by rw [str_eq']; simp [k3]
  have e5 : (R.sl == S.sl) = true := by simp [k5]
  have e6 : (R.fr == S.fr) = true := by simp [k6]
  have e7 : (R.to == S.to) = false := by simp [k7]
  have E1 := Lib.hid E1'
  clear E1'
  clear k0 k1 k2 k4 k5 k6 k7
  go_enter Try.func50, Try.ntmps50
  go_wp2_with fail
  refine (E1.out _ _).mono ?_
  rintro e w1 ⟨rfl, hb1⟩
  obtain ⟨g1, d1, rfl⟩ := plus_of_below hb1
  clear hb1
  go_wp2
  go_ret
  exact ⟨rfl, by (repeat' (first | (with_reducible exact Below.refl _ _) | (with_reducible refine bplus ?_ _ _) | (with_reducible refine balloc ?_ _) | (with_reducible refine Below.drew ?_) | (with_reducible refine bdrewN ?_ _) | (with_reducible refine Below.setCell ?_ (by go_size) _)))⟩
set_option maxRecDepth 100000 in
set_option maxHeartbeats 2000000 in
theorem al_8 (w : World) (R S : RS) (a1 a2 : Option Addr) (n1 n2 c1 c2 : Nat) (k0 : R.towers = S.towers) (k1 : R.need = S.need) (k2 : R.newest = S.newest) (k3 : R.claim = S.claim) (k4 : R.has = S.has) (k5 : R.sl = S.sl) (k6 : R.fr = S.fr) (k7 : R.to = S.to)  (E1' : ∀ A B, Calls Try.prog 31 #[.slice a1 n1 c1, .slice a2 n2 c2] ((w.alloc (.cells A 61)).alloc (.cells B 61)) fun e w' => e = .returned (.bool true) ∧ Below ((w.alloc (.cells A 61)).alloc (.cells B 61)).heap.size ((w.alloc (.cells A 61)).alloc (.cells B 61)) w') :
    Calls Try.prog 50 #[.agg #[.int .i64 R.towers, .int .i64 R.need, .int .i64 R.newest, .string ⟨R.claim.toArray⟩, .slice a1 n1 c1, .bool R.sl, .int .i64 R.fr, .int .i64 R.to], .agg #[.int .i64 S.towers, .int .i64 S.need, .int .i64 S.newest, .string ⟨S.claim.toArray⟩, .slice a2 n2 c2, .bool S.sl, .int .i64 S.fr, .int .i64 S.to]] w fun e w' => e = .returned (.bool true) ∧ Below w.heap.size w w' := by
  have e0 : ((R.towers : Int) == (S.towers : Int)) = true := by rw [k0]; simp
  have f0 : (R.towers == S.towers) = true := by simp [k0]
  have e1 : ((R.need : Int) == (S.need : Int)) = true := by rw [k1]; simp
  have f1 : (R.need == S.need) = true := by simp [k1]
  have e2 : (R.newest == S.newest) = true := by simp [k2]
  have e3 : ((⟨R.claim.toArray⟩ : ByteArray) == ⟨S.claim.toArray⟩) = true := by rw [str_eq']; simp [k3]
  have e5 : (R.sl == S.sl) = true := by simp [k5]
  have e6 : (R.fr == S.fr) = true := by simp [k6]
  have e7 : (R.to == S.to) = true := by simp [k7]
  have E1 := Lib.hid E1'
  clear E1'
  clear k0 k1 k2 k4 k5 k6 k7
  go_enter Try.func50, Try.ntmps50
  go_wp2_with fail
  refine (E1.out _ _).mono ?_
  rintro e w1 ⟨rfl, hb1⟩
  obtain ⟨g1, d1, rfl⟩ := plus_of_below hb1
  clear hb1
  go_wp2
  go_ret
  exact ⟨rfl, by (repeat' (first | (with_reducible exact Below.refl _ _) | (with_reducible refine bplus ?_ _ _) | (with_reducible refine balloc ?_ _) | (with_reducible refine Below.drew ?_) | (with_reducible refine bdrewN ?_ _) | (with_reducible refine Below.setCell ?_ (by go_size) _)))⟩
theorem alike_to (R S : RS) (h1 h2 : Value) (w : World) (hR : R.has.length = R.towers) (hS : S.has.length = S.towers) (htR : R.towers ≤ 16) (htS : S.towers ≤ 16) (s1 : Sl w [] h1 R.towers (ics R.has)) (s2 : Sl w [] h2 S.towers (ics S.has)) (b : Bool) (hb : alikeB R S = b) :
    Calls Try.prog 50 #[.agg #[.int .i64 R.towers, .int .i64 R.need, .int .i64 R.newest, .string ⟨R.claim.toArray⟩, h1, .bool R.sl, .int .i64 R.fr, .int .i64 R.to], .agg #[.int .i64 S.towers, .int .i64 S.need, .int .i64 S.newest, .string ⟨S.claim.toArray⟩, h2, .bool S.sl, .int .i64 S.fr, .int .i64 S.to]] w fun e w' => e = .returned (.bool b) ∧ Below w.heap.size w w' := by
  obtain ⟨a1, c1, rfl, -⟩ := s1.slice
  obtain ⟨a2, c2, rfl, -⟩ := s2.slice
  unfold alikeB at hb
  have F : ∀ {P : Prop} [Decidable P], decide P = b → ¬ P → Calls Try.prog 50 #[.agg #[.int .i64 R.towers, .int .i64 R.need, .int .i64 R.newest, .string ⟨R.claim.toArray⟩, .slice a1 R.towers c1, .bool R.sl, .int .i64 R.fr, .int .i64 R.to], .agg #[.int .i64 S.towers, .int .i64 S.need, .int .i64 S.newest, .string ⟨S.claim.toArray⟩, .slice a2 S.towers c2, .bool S.sl, .int .i64 S.fr, .int .i64 S.to]] w (fun e w' => e = .returned (.bool false) ∧ Below w.heap.size w w') → Calls Try.prog 50 #[.agg #[.int .i64 R.towers, .int .i64 R.need, .int .i64 R.newest, .string ⟨R.claim.toArray⟩, .slice a1 R.towers c1, .bool R.sl, .int .i64 R.fr, .int .i64 R.to], .agg #[.int .i64 S.towers, .int .i64 S.need, .int .i64 S.newest, .string ⟨S.claim.toArray⟩, .slice a2 S.towers c2, .bool S.sl, .int .i64 S.fr, .int .i64 S.to]] w (fun e w' => e = .returned (.bool b) ∧ Below w.heap.size w w') := by
    intro P _ h1 h2 h3
    rw [← h1, decide_eq_false h2]; exact h3
  have E : ∀ c : Bool, decide (R.has = S.has) = c → ∀ A B, Calls Try.prog 31 #[.slice a1 R.towers c1, .slice a2 S.towers c2] ((w.alloc (.cells A 61)).alloc (.cells B 61)) fun e w' => e = .returned (.bool c) ∧ Below ((w.alloc (.cells A 61)).alloc (.cells B 61)).heap.size ((w.alloc (.cells A 61)).alloc (.cells B 61)) w' := fun c hc A B => by
    have O2 := ((Ow.start w).alloc (.cells A 61)).alloc (.cells B 61)
    have := rsame_to (.slice a1 R.towers c1) (.slice a2 S.towers c2) R.has S.has (by omega) (by omega) _ (by rw [hR]; exact s1.here O2 (by simp)) (by rw [hS]; exact s2.here O2 (by simp)) c hc
    exact this
  by_cases k0 : R.towers = S.towers
  · skip
    by_cases k1 : R.need = S.need
    · skip
      by_cases k2 : R.newest = S.newest
      · skip
        by_cases k3 : R.claim = S.claim
        · skip
          by_cases k4 : R.has = S.has
          · skip
            by_cases k5 : R.sl = S.sl
            · skip
              by_cases k6 : R.fr = S.fr
              · skip
                by_cases k7 : R.to = S.to
                · skip
                  rw [← hb, decide_eq_true (show R.towers = S.towers ∧ R.need = S.need ∧ R.newest = S.newest ∧ R.claim = S.claim ∧ R.has = S.has ∧ R.sl = S.sl ∧ R.fr = S.fr ∧ R.to = S.to from ⟨k0, k1, k2, k3, k4, k5, k6, k7⟩)]
                  exact al_8 w R S a1 a2 R.towers S.towers c1 c2 k0 k1 k2 k3 k4 k5 k6 k7 (E true (decide_eq_true k4))
                · exact F hb (fun h => k7 h.2.2.2.2.2.2.2) (al_7 w R S a1 a2 R.towers S.towers c1 c2 k0 k1 k2 k3 k4 k5 k6 k7 (E true (decide_eq_true k4)))
              · exact F hb (fun h => k6 h.2.2.2.2.2.2.1) (al_6 w R S a1 a2 R.towers S.towers c1 c2 k0 k1 k2 k3 k4 k5 k6 (E true (decide_eq_true k4)))
            · exact F hb (fun h => k5 h.2.2.2.2.2.1) (al_5 w R S a1 a2 R.towers S.towers c1 c2 k0 k1 k2 k3 k4 k5 (E true (decide_eq_true k4)))
          · exact F hb (fun h => k4 h.2.2.2.2.1) (al_4 w R S a1 a2 R.towers S.towers c1 c2 k0 k1 k2 k3 k4 (E false (decide_eq_false k4)))
        · exact F hb (fun h => k3 h.2.2.2.1) (al_3 w R S a1 a2 R.towers S.towers c1 c2 k0 k1 k2 k3)
      · exact F hb (fun h => k2 h.2.2.1) (al_2 w R S a1 a2 R.towers S.towers c1 c2 k0 k1 k2)
    · exact F hb (fun h => k1 h.2.1) (al_1 w R S a1 a2 R.towers S.towers c1 c2 k0 k1)
  · exact F hb (fun h => k0 h.1) (al_0 w R S a1 a2 R.towers S.towers c1 c2 k0)

end Go.Proofs.Ytghaiplhakeahaa
