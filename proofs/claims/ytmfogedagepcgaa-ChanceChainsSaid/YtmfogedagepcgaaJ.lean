/- Contracts of Of and of the reference's Throw and Needed. -/
import Derived.Test.YtmfogedagepcgaaG
import Derived.Test.YtmfogedagepcgaaE
import Derived.Test.YtmfogedagepcgaaEqd
namespace Go.Proofs.Ytmfogedagepcgaa
set_option linter.unusedSimpArgs false
set_option linter.unusedVariables false
open Go.RowKit

set_option maxRecDepth 100000 in
set_option maxHeartbeats 1000000 in
theorem of_any (v : Value) (xs : List (BitVec 64)) (w : World) (hv : DSl w v xs) (hl : xs.length ≤ 1000000) :
    Calls Try.prog 24 #[v] w fun e w' => ∃ u, e = .returned u ∧ Below w.heap.size w w' ∧ DSl w' u xs := by
  obtain ⟨ao, cap, rfl, _, rfl | ⟨b, o, rfl, hb, hc⟩⟩ := hv
  · go_enter Try.func24, Try.ntmps24
    go_wp2
    go_rounds 1
    go_ret
    exact ⟨_, rfl, by (repeat' (first | (with_reducible exact Below.refl _ _) | (with_reducible refine bplus ?_ _ _) | (with_reducible refine balloc ?_ _) | (with_reducible refine Below.drew ?_) | (with_reducible refine bdrewN ?_ _) | (with_reducible refine Below.setCell ?_ (by go_size) _))), none, 0, rfl, ⟨by simp, fun _ => ⟨rfl, rfl⟩⟩, .inl rfl⟩
  · go_enter Try.func24, Try.ntmps24
    have HC := Lib.hid hc
    clear hc
    go_wp2
    go_loopw [3, 8] (fun v i wr => ∃ (k : Nat) (g : Array Obj) (d : Nat), k ≤ xs.length ∧ i = .int .i64 k ∧ wr = plus w g d ∧ GRow w.heap.size g 44 8 v (xs.take k).length (dall (xs.take k))) (fun _ i _ => xs.length - (intOf i).toNat)
    case atStart => exact ⟨0, #[], w.drawn, by omega, rfl, plus_self _, GRow.nil _ _ _ _⟩
    case round =>
      obtain ⟨k, g, d, hk, rfl, rfl, hown⟩ := hrel
      by_cases hlt : k < xs.length
      · have HN : Hid (xs.take (k + 1) = xs.take k ++ [xs.getD k 0]) := by
          show _ = _
          rw [List.take_succ_eq_append_getElem hlt, List.getD_eq_getElem?_getD, List.getElem?_eq_getElem hlt]; rfl
        have c0 := HC.out k hlt 0 (by omega)
        have c1 := HC.out k hlt 1 (by omega)
        have c2 := HC.out k hlt 2 (by omega)
        have c3 := HC.out k hlt 3 (by omega)
        have c4 := HC.out k hlt 4 (by omega)
        have c5 := HC.out k hlt 5 (by omega)
        have c6 := HC.out k hlt 6 (by omega)
        have c7 := HC.out k hlt 7 (by omega)
        rw [Nat.add_zero] at c0
        have hle : (xs.take k).length ≤ k := List.length_take_le _ _
        generalize xs.getD k 0 = x at *
        generalize xs.take k = l at *
        go_wp2_with (at_builtin; rw [alloc_plus]; refine wpList_append_fresh rfl _ _ 32 rfl _ _ _ _ _ elt_dig _ _ _ rfl (hown.more _) (by simp) _ _ _ rfl (by simp; omega) rfl (dcs_one x) ?c3 ?c4 _ rfl _ rfl (fun ao' cap' g' d' hown' _ => ?_))
        case c3 => unfold maxLen; omega
        case c4 => omega
        · go_roundw
          case rel => exact ⟨k + 1, g', d', by omega, by go_num, rfl, by rw [HN.out, dall_app, dall_one, List.length_append]; exact hown'⟩
          case measure => simp [intOf]; omega
      · obtain rfl : k = xs.length := by omega
        rw [List.take_length] at hown
        go_wp2
        go_ret
        exact ⟨_, rfl, by (repeat' (first | (with_reducible exact Below.refl _ _) | (with_reducible refine bplus ?_ _ _) | (with_reducible refine balloc ?_ _) | (with_reducible refine Below.drew ?_) | (with_reducible refine bdrewN ?_ _) | (with_reducible refine Below.setCell ?_ (by go_size) _))), hown.dsl d⟩

set_option maxRecDepth 100000 in
set_option maxHeartbeats 1000000 in
theorem refThrow_no (v : Value) (n : Int) (w : World) (hn : n < 1 ∨ 2147483647 < n) :
    Calls Try.prog 25 #[.int .i64 n, v] w fun e w' => e = .returned (.tuple #[.int .i64 0, .int .i64 2]) ∧ Below w.heap.size w w' := by
  rcases hn with hn | hn
  · go_enter Try.func25, Try.ntmps25
    go_wp2
    go_ret2
    exact ⟨rfl, by (repeat' (first | (with_reducible exact Below.refl _ _) | (with_reducible refine bplus ?_ _ _) | (with_reducible refine balloc ?_ _) | (with_reducible refine Below.drew ?_) | (with_reducible refine bdrewN ?_ _) | (with_reducible refine Below.setCell ?_ (by go_size) _)))⟩
  · have h1 : ¬ n < 1 := by omega
    go_enter Try.func25, Try.ntmps25
    go_wp2
    go_ret2
    exact ⟨rfl, by (repeat' (first | (with_reducible exact Below.refl _ _) | (with_reducible refine bplus ?_ _ _) | (with_reducible refine balloc ?_ _) | (with_reducible refine Below.drew ?_) | (with_reducible refine bdrewN ?_ _) | (with_reducible refine Below.setCell ?_ (by go_size) _)))⟩

set_option maxRecDepth 100000 in
set_option maxHeartbeats 1000000 in
theorem refThrow_yes (v : Value) (xs : List (BitVec 64)) (n : Nat) (w : World) (h1 : 1 ≤ n) (h2 : n ≤ 2147483647) (hv : DSl w v xs) (hl : xs.length ≤ 9223372036854775807) :
    Calls Try.prog 25 #[.int .i64 n, v] w fun e w' => e = .returned (.tuple #[.int .i64 (throwF n (sumD xs)), .int .i64 0]) ∧ Below w.heap.size w w' := by
  have hs := nv_bd (sumD xs)
  have hm : 0 ≤ nv (sumD xs) % (n : Int) ∧ nv (sumD xs) % (n : Int) < n := ⟨Int.emod_nonneg _ (by omega), Int.emod_lt_of_pos _ (by omega)⟩
  have HT := Lib.hid (throw_law n (sumD xs))
  obtain ⟨ao, cap, rfl, _, rfl | ⟨b, o, rfl, hb, hc⟩⟩ := hv
  · rw [show sumD [] = 0#64 from rfl] at *
    have h0 : nv 0#64 = 0 := by rw [nv_eq]; rfl
    rw [h0] at HT hm
    clear hs h0
    go_enter Try.func25, Try.ntmps25
    go_wp2
    go_rounds 1
    go_ret2
    exact ⟨by rw [← HT.out]; simp, by (repeat' (first | (with_reducible exact Below.refl _ _) | (with_reducible refine bplus ?_ _ _) | (with_reducible refine balloc ?_ _) | (with_reducible refine Below.drew ?_) | (with_reducible refine bdrewN ?_ _) | (with_reducible refine Below.setCell ?_ (by go_size) _)))⟩
  · have HC := Lib.hid hc
    clear hc
    go_enter Try.func25, Try.ntmps25
    go_wp2
    go_loopw [6, 7] (fun s i wr => ∃ k : Nat, k ≤ xs.length ∧ s = .int .u64 (nv (sumD (xs.take k))) ∧ i = .int .i64 k ∧ ∃ g d, wr = plus w g d) (fun _ i _ => xs.length - (intOf i).toNat)
    case atStart => exact ⟨0, by omega, nv_zero, rfl, plus_of_below (by (repeat' (first | (with_reducible exact Below.refl _ _) | (with_reducible refine bplus ?_ _ _) | (with_reducible refine balloc ?_ _) | (with_reducible refine Below.drew ?_) | (with_reducible refine bdrewN ?_ _) | (with_reducible refine Below.setCell ?_ (by go_size) _))))⟩
    case round =>
      obtain ⟨k, hk, rfl, rfl, g, d, rfl⟩ := hrel
      by_cases hlt : k < xs.length
      · have HN := Lib.hid (sumD_take xs k hlt)
        have c0 := HC.out k hlt 0 (by omega)
        have c1 := HC.out k hlt 1 (by omega)
        have c2 := HC.out k hlt 2 (by omega)
        have c3 := HC.out k hlt 3 (by omega)
        have c4 := HC.out k hlt 4 (by omega)
        have c5 := HC.out k hlt 5 (by omega)
        have c6 := HC.out k hlt 6 (by omega)
        have c7 := HC.out k hlt 7 (by omega)
        rw [Nat.add_zero] at c0
        generalize xs.getD k 0 = x at *
        generalize sumD (xs.take k) = t at *
        go_wp2_with (go_at_call 31; refine (refNum_any _ _).mono ?_; rintro e w1 ⟨rfl, hb1⟩; obtain ⟨g1, d1, rfl⟩ := plus_of_below hb1; clear hb1)
        go_roundw
        case rel => exact ⟨k + 1, by omega, by rw [HN.out], by go_num, plus_of_below (by (repeat' (first | (with_reducible exact Below.refl _ _) | (with_reducible refine bplus ?_ _ _) | (with_reducible refine balloc ?_ _) | (with_reducible refine Below.drew ?_) | (with_reducible refine bdrewN ?_ _) | (with_reducible refine Below.setCell ?_ (by go_size) _))))⟩
        case measure => simp [intOf]; omega
      · obtain rfl : k = xs.length := by omega
        rw [sumD_all]
        go_wp2
        go_ret2
        exact ⟨by rw [← HT.out]; rfl, by (repeat' (first | (with_reducible exact Below.refl _ _) | (with_reducible refine bplus ?_ _ _) | (with_reducible refine balloc ?_ _) | (with_reducible refine Below.drew ?_) | (with_reducible refine bdrewN ?_ _) | (with_reducible refine Below.setCell ?_ (by go_size) _)))⟩

set_option maxRecDepth 100000 in
set_option maxHeartbeats 1000000 in
theorem refNeeded_no (v : Value) (n k : Int) (w : World) (hn : n < 1 ∨ 2147483647 < n ∨ k < 1 ∨ n < k) :
    Calls Try.prog 27 #[.int .i64 n, .int .i64 k, v] w fun e w' => e = .returned (.tuple #[.int .u64 0, .int .i64 2]) ∧ Below w.heap.size w w' := by
  by_cases hn1 : n < 1
  · go_enter Try.func27, Try.ntmps27
    go_wp2
    go_ret2
    exact ⟨rfl, by (repeat' (first | (with_reducible exact Below.refl _ _) | (with_reducible refine bplus ?_ _ _) | (with_reducible refine balloc ?_ _) | (with_reducible refine Below.drew ?_) | (with_reducible refine bdrewN ?_ _) | (with_reducible refine Below.setCell ?_ (by go_size) _)))⟩
  by_cases hn2 : 2147483647 < n
  · go_enter Try.func27, Try.ntmps27
    go_wp2
    go_ret2
    exact ⟨rfl, by (repeat' (first | (with_reducible exact Below.refl _ _) | (with_reducible refine bplus ?_ _ _) | (with_reducible refine balloc ?_ _) | (with_reducible refine Below.drew ?_) | (with_reducible refine bdrewN ?_ _) | (with_reducible refine Below.setCell ?_ (by go_size) _)))⟩
  by_cases hn3 : k < 1
  · go_enter Try.func27, Try.ntmps27
    go_wp2
    go_ret2
    exact ⟨rfl, by (repeat' (first | (with_reducible exact Below.refl _ _) | (with_reducible refine bplus ?_ _ _) | (with_reducible refine balloc ?_ _) | (with_reducible refine Below.drew ?_) | (with_reducible refine bdrewN ?_ _) | (with_reducible refine Below.setCell ?_ (by go_size) _)))⟩
  have hn4 : n < k := by omega
  go_enter Try.func27, Try.ntmps27
  go_wp2
  go_ret2
  exact ⟨rfl, by (repeat' (first | (with_reducible exact Below.refl _ _) | (with_reducible refine bplus ?_ _ _) | (with_reducible refine balloc ?_ _) | (with_reducible refine Below.drew ?_) | (with_reducible refine bdrewN ?_ _) | (with_reducible refine Below.setCell ?_ (by go_size) _)))⟩

set_option maxRecDepth 100000 in
set_option maxHeartbeats 2000000 in
theorem refNeeded_yes (v : Value) (xs : List (BitVec 64)) (n k : Nat) (w : World) (h1 : 1 ≤ n) (h2 : n ≤ 2147483647) (h3 : 1 ≤ k) (h4 : k ≤ n) (hv : DSl w v xs) (hl : xs.length ≤ 1000000) :
    Calls Try.prog 27 #[.int .i64 n, .int .i64 k, v] w fun e w' => e = .returned (.tuple #[.int .u64 (nv (neededB n k (sumD xs))), .int .i64 0]) ∧ Below w.heap.size w w' := by
  obtain ⟨M, HM⟩ : ∃ M, Hid (M = (neededB n k (sumD xs)).toNat) := ⟨_, rfl⟩
  have hM : M < 18446744073709551616 := by rw [HM.out]; exact (neededB n k (sumD xs)).isLt
  have HT : Hid (throwF n (sumD xs + BitVec.ofNat 64 M) = k) := by
    show _ = _
    rw [HM.out, BitVec.ofNat_toNat, BitVec.setWidth_eq]; exact needed_throws n k (sumD xs) h1 h2 h3 h4
  have HF : Hid (∀ i, i < M → throwF n (sumD xs + BitVec.ofNat 64 i) ≠ k) := fun i hi => needed_least n k (sumD xs) h1 h2 h3 h4 i (by rw [← HM.out]; exact hi)
  have HR : Hid ((M : Int) = nv (neededB n k (sumD xs))) := by show _ = _; rw [HM.out, nv_eq]
  clear HM
  obtain ⟨ao, cap, rfl, hno, hsome⟩ := hv.news
  have HS := Lib.hid hsome
  have HV := Lib.hid hv
  clear hsome hv
  have hdk : decide (n < k) = false := decide_eq_false (by omega)
  go_enter Try.func27, Try.ntmps27
  go_wp2
  go_loopw [8] (fun i wr => ∃ q : Nat, q ≤ M ∧ i = .int .u64 q ∧ ∃ g d, wr = plus w g d) (fun i _ => M + 1 - (intOf i).toNat)
  case atStart => exact ⟨0, by omega, rfl, plus_of_below (by (repeat' (first | (with_reducible exact Below.refl _ _) | (with_reducible refine bplus ?_ _ _) | (with_reducible refine balloc ?_ _) | (with_reducible refine Below.drew ?_) | (with_reducible refine bdrewN ?_ _) | (with_reducible refine Below.setCell ?_ (by go_size) _))))⟩
  case round =>
    obtain ⟨q, hq, rfl, g, d, rfl⟩ := hrel
    have hqn : nv (BitVec.ofNat 64 q) = (q : Int) := by simp only [nv_eq]; rw [BitVec.toNat_ofNat, Nat.mod_eq_of_lt (by omega)]
    have HQ := Lib.hid hqn
    have HF' := Lib.hid (HF.out q)
    have HD : Hid (sumD (xs ++ [BitVec.ofNat 64 q]) = sumD xs + BitVec.ofNat 64 q) := sumD_snoc _ _
    clear hqn HF
    by_cases hqM : q = M
    · rw [← hqM] at HT HR
      clear hqM HF'
      generalize BitVec.ofNat 64 q = x at *
      have hbq : (throwF n (sumD (xs ++ [x])) == (k : Int)) = true := beq_iff_eq.2 (by rw [HD.out]; exact HT.out)
      go_wp2_with (first
        | (at_builtin; refine wpList_append_in rfl (.tmp 28) (.tmp 29) 28 rfl w elt_arr (by (repeat' (first | (with_reducible exact Below.refl _ _) | (with_reducible refine bplus ?_ _ _) | (with_reducible refine balloc ?_ _) | (with_reducible refine Below.drew ?_) | (with_reducible refine bdrewN ?_ _) | (with_reducible refine Below.setCell ?_ (by go_size) _)))) _ _ _ rfl (owns_empty w g d 43 8 _ (by simp)) ao xs.length cap (dall xs) rfl (dall_len xs) hno (HV.out.plus g d |>.alloc _).cellsOf (dall_oneCell xs) ?c3 ?c4 xs.length (by simp) (dall xs) (by simp) (fun ao1 cap1 g1 d1 hown1 _ => ?_))
        | (go_at_call 32; refine (refFromNum_lit x _ HQ.out _).mono ?_; rintro e w2 ⟨rfl, hb2⟩; obtain ⟨g2, d2, rfl⟩ := plus_of_below hb2; clear hb2)
        | (at_builtin; refine wpList_append_fresh rfl (.tmp 30) (.tmp 33) 28 rfl w _ _ _ _ elt_arr _ _ _ rfl (hown1.more _) rfl _ _ _ rfl (by first | (simp; done) | (simp; omega) | omega) rfl (dcs_one x) ?c5 ?c6 (xs.length + 1) rfl (dall (xs ++ [x])) (by simp [dall_app, dall_one, dcs]) (fun ao3 cap3 g3 d3 hown3 _ => ?_))
        | (go_at_call 25; refine (refThrow_yes _ (xs ++ [x]) n _ h1 h2 (hown3.dsl' rfl (xs ++ [x]) (by simp) rfl _) (by first | (simp; done) | (simp; omega) | omega)).mono ?_; rintro e w4 ⟨rfl, hb4⟩; obtain ⟨g4, d4, rfl⟩ := plus_of_below hb4; clear hb4))
      case c3 => unfold maxLen; omega
      case c4 => omega
      case c5 => unfold maxLen; omega
      case c6 => omega
      · go_ret2
        exact ⟨by rw [← HR.out]; rfl, by (repeat' (first | (with_reducible exact Below.refl _ _) | (with_reducible refine bplus ?_ _ _) | (with_reducible refine balloc ?_ _) | (with_reducible refine Below.drew ?_) | (with_reducible refine bdrewN ?_ _) | (with_reducible refine Below.setCell ?_ (by go_size) _)))⟩
    · have hqM' : q < M := by omega
      have HF'' := Lib.hid (HF'.out hqM')
      clear hqM HF' HT
      generalize BitVec.ofNat 64 q = x at *
      have hbq : (throwF n (sumD (xs ++ [x])) == (k : Int)) = false := beq_eq_false_iff_ne.2 (by rw [HD.out]; exact HF''.out)
      go_wp2_with (first
        | (at_builtin; refine wpList_append_in rfl (.tmp 28) (.tmp 29) 28 rfl w elt_arr (by (repeat' (first | (with_reducible exact Below.refl _ _) | (with_reducible refine bplus ?_ _ _) | (with_reducible refine balloc ?_ _) | (with_reducible refine Below.drew ?_) | (with_reducible refine bdrewN ?_ _) | (with_reducible refine Below.setCell ?_ (by go_size) _)))) _ _ _ rfl (owns_empty w g d 43 8 _ (by simp)) ao xs.length cap (dall xs) rfl (dall_len xs) hno (HV.out.plus g d |>.alloc _).cellsOf (dall_oneCell xs) ?c3 ?c4 xs.length (by simp) (dall xs) (by simp) (fun ao1 cap1 g1 d1 hown1 _ => ?_))
        | (go_at_call 32; refine (refFromNum_lit x _ HQ.out _).mono ?_; rintro e w2 ⟨rfl, hb2⟩; obtain ⟨g2, d2, rfl⟩ := plus_of_below hb2; clear hb2)
        | (at_builtin; refine wpList_append_fresh rfl (.tmp 30) (.tmp 33) 28 rfl w _ _ _ _ elt_arr _ _ _ rfl (hown1.more _) rfl _ _ _ rfl (by first | (simp; done) | (simp; omega) | omega) rfl (dcs_one x) ?c5 ?c6 (xs.length + 1) rfl (dall (xs ++ [x])) (by simp [dall_app, dall_one, dcs]) (fun ao3 cap3 g3 d3 hown3 _ => ?_))
        | (go_at_call 25; refine (refThrow_yes _ (xs ++ [x]) n _ h1 h2 (hown3.dsl' rfl (xs ++ [x]) (by simp) rfl _) (by first | (simp; done) | (simp; omega) | omega)).mono ?_; rintro e w4 ⟨rfl, hb4⟩; obtain ⟨g4, d4, rfl⟩ := plus_of_below hb4; clear hb4))
      case c3 => unfold maxLen; omega
      case c4 => omega
      case c5 => unfold maxLen; omega
      case c6 => omega
      · go_roundw
        case rel => exact ⟨q + 1, by omega, by go_num, plus_of_below (by (repeat' (first | (with_reducible exact Below.refl _ _) | (with_reducible refine bplus ?_ _ _) | (with_reducible refine balloc ?_ _) | (with_reducible refine Below.drew ?_) | (with_reducible refine bdrewN ?_ _) | (with_reducible refine Below.setCell ?_ (by go_size) _))))⟩
        case measure => simp [intOf]; omega

end Go.Proofs.Ytmfogedagepcgaa
