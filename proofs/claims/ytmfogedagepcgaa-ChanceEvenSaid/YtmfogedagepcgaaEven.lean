/- The law ChanceEven: its walk. -/
import Derived.Test.YtmfogedagepcgaaSwing
import Derived.Deep.DeepCutAuto
namespace Go.Proofs.Ytmfogedagepcgaa
open Go.RowKit

set_option maxRecDepth 100000 in
set_option maxHeartbeats 1000000 in
theorem chanceEven_long (ao : Option Addr) (n cap : Nat) (s f : Int) (w : World) (hn : 20 < n) (hr : n ≤ 9223372036854775807) :
    Calls Try.prog 6 #[.int .u8 s, .int .u64 f, .slice ao n cap] w fun e w' => e = .returned (.bool true) ∧ Below w.heap.size w w' := by
  go_enter Try.func6, Try.ntmps6
  go_wp2_with (go_at_call 19; refine (known18_any _).mono ?_; rintro e w1 ⟨rfl, hb1⟩; obtain ⟨g1, d1, rfl⟩ := plus_of_below hb1; clear hb1)
  go_ret
  exact ⟨rfl, by (repeat' (first | (with_reducible exact Below.refl _ _) | (with_reducible refine bplus ?_ _ _) | (with_reducible refine balloc ?_ _) | (with_reducible refine Below.drew ?_) | (with_reducible refine bdrewN ?_ _) | (with_reducible refine Below.setCell ?_ (by go_size) _)))⟩

/-- Which side the number S + j throws. -/
def sideF (n : Nat) (S : BitVec 64) (j : Nat) : Nat := 1 + (S.toNat + j) % n
/-- Was a side thrown by one of the first k numbers? -/
def hit (n : Nat) (S : BitVec 64) (k t : Nat) : Bool := (List.range k).any fun j => sideF n S j == t
def hits (n : Nat) (S : BitVec 64) (k : Nat) : Array Value := ((List.range 61).map fun t => Value.bool (hit n S k t)).toArray

theorem hits_get (n : Nat) (S : BitVec 64) (k t : Nat) (ht : t < 61) : (hits n S k)[t]? = some (.bool (hit n S k t)) := by
  simp [hits, ht]

theorem side_throw (n : Nat) (S : BitVec 64) (j : Nat) (hS : S.toNat + j < 18446744073709551616) : throwF n (S + BitVec.ofNat 64 j) = (sideF n S j : Int) := by
  unfold throwF sideF
  rw [BitVec.toNat_add, BitVec.toNat_ofNat, Nat.mod_eq_of_lt (show j < 2 ^ 64 by omega), Nat.mod_eq_of_lt (show S.toNat + j < 2 ^ 64 by omega)]; omega

theorem side_new (n : Nat) (S : BitVec 64) (k : Nat) (hk : k < n) : hit n S k (sideF n S k) = false := by
  unfold hit
  rw [List.any_eq_false]
  intro j hj
  have hj' : j < k := List.mem_range.1 hj
  unfold sideF
  have := mod_window (S.toNat + j) n _ 0 (k - j) rfl (by omega) (by omega)
  rw [Nat.add_zero, show S.toNat + j + (k - j) = S.toNat + k by omega] at this
  simp; omega

theorem hits_set (n : Nat) (S : BitVec 64) (k : Nat) : (hits n S k).setIfInBounds (sideF n S k) (.bool true) = hits n S (k + 1) := by
  apply Array.ext_getElem?
  intro t
  rw [Array.getElem?_setIfInBounds]
  by_cases ht : t < 61
  · rw [hits_get n S k t ht, hits_get n S (k + 1) t ht]
    by_cases e : sideF n S k = t
    · subst e
      have hsz : (hits n S k).size = 61 := by simp [hits]
      rw [if_pos rfl, if_pos (by omega)]
      congr 2
      simp [hit, List.range_succ]
    · rw [if_neg e]
      congr 2
      simp [hit, List.range_succ, e]
  · have h1 : (hits n S k)[t]? = none := by simp [hits]; omega
    have h2 : (hits n S (k + 1))[t]? = none := by simp [hits]; omega
    rw [h1, h2]
    split
    · split
      · rename_i a b; exfalso; have hsz : (hits n S k).size = 61 := by simp [hits]
        omega
      · rfl
    · rfl

theorem hits_none (n : Nat) (S : BitVec 64) : hits n S 0 = (List.replicate 61 (Value.bool false)).toArray := by
  unfold hits hit
  rfl

set_option maxRecDepth 100000 in
set_option maxHeartbeats 1000000 in
theorem chanceEven_yes (ao : Option Addr) (cap : Nat) (xs : List (BitVec 64)) (s : Nat) (f : BitVec 64) (w : World) (hs : s ≤ 255) (hn : xs.length ≤ 20) (hv : DSl w (.slice ao xs.length cap) xs) :
    Calls Try.prog 6 #[.int .u8 s, .int .u64 (nv f), .slice ao xs.length cap] w fun e w' => e = .returned (.bool true) ∧ Below w.heap.size w w' := by
  have HV := Lib.hid hv
  clear hv
  obtain ⟨n, hn⟩ : ∃ n : Nat, 1 + (s : Int) % 60 = n := ⟨1 + s % 60, by omega⟩
  have hn1 : 1 ≤ n := by omega
  have hn2 : n ≤ 60 := by omega
  have hfb := nv_bd f
  go_enter Try.func6, Try.ntmps6
  go_wp2_with (first
    | (go_at_call 19; refine (known18_any _).mono ?_; rintro e w1 ⟨rfl, hb1⟩; obtain ⟨g1, d1, rfl⟩ := plus_of_below hb1; clear hb1)
    | (go_at_call 24; refine (of_any _ xs _ (HV.out.plus _ _) (by omega)).mono ?_; rintro e w2 ⟨v2, rfl, hb2, hu⟩; obtain ⟨g2, d2, rfl⟩ := plus_of_below hb2; clear hb2; try simp only [go_sem] at hu; have hu' := hu; obtain ⟨ao2, cap2, rfl, ⟨hle2, hno2⟩, -⟩ := hu'))
  have hBW : Below w.heap.size w (plus w (g1 ++ g2) d2) := by (repeat' (first | (with_reducible exact Below.refl _ _) | (with_reducible refine bplus ?_ _ _) | (with_reducible refine balloc ?_ _) | (with_reducible refine Below.drew ?_) | (with_reducible refine bdrewN ?_ _) | (with_reducible refine Below.setCell ?_ (by go_size) _)))
  generalize plus w (g1 ++ g2) d2 = W1 at *
  clear hn
  have HU := Lib.hid hu
  clear hu
  go_loopw [9, 33] (fun s i wr => ∃ k : Nat, k ≤ xs.length ∧ s = .int .u64 (nv (f + sumD (xs.take k))) ∧ i = .int .i64 k ∧ ∃ g d, wr = plus W1 g d) (fun _ i _ => xs.length - (intOf i).toNat)
  case atStart => exact ⟨0, by omega, by rw [List.take_zero]; show _ = Value.int .u64 (nv (f + 0#64)); rw [BitVec.add_zero], rfl, #[], W1.drawn, plus_self _⟩
  case round =>
    obtain ⟨k, hk, rfl, rfl, g, d, rfl⟩ := hrel
    by_cases hlt : k < xs.length
    · have HN := Lib.hid (sumD_take xs k hlt)
      obtain ⟨ao', cap', he, -, rfl | ⟨b, o, rfl, hb, hc⟩⟩ := HU.out
      · simp at hlt
      have c0 := hc k hlt 0 (by omega)
      have c1 := hc k hlt 1 (by omega)
      have c2 := hc k hlt 2 (by omega)
      have c3 := hc k hlt 3 (by omega)
      have c4 := hc k hlt 4 (by omega)
      have c5 := hc k hlt 5 (by omega)
      have c6 := hc k hlt 6 (by omega)
      have c7 := hc k hlt 7 (by omega)
      rw [Nat.add_zero] at c0
      clear hc
      simp only [Value.slice.injEq, true_and] at he
      obtain ⟨rfl, rfl⟩ := he
      generalize xs.getD k 0 = x at *
      have HA : Hid (f + sumD (xs.take (k + 1)) = f + sumD (xs.take k) + x) := by show _ = _; rw [HN.out, BitVec.add_assoc]
      generalize f + sumD (xs.take k) = t at *
      go_wp2_with (go_at_call 29; refine (num_any _ _).mono ?_; rintro e w1 ⟨rfl, hb1⟩; obtain ⟨g1, d1, rfl⟩ := plus_of_below hb1; clear hb1)
      go_roundw
      case rel => exact ⟨k + 1, by omega, by rw [HA.out], by go_num, plus_of_below (by (repeat' (first | (with_reducible exact Below.refl _ _) | (with_reducible refine bplus ?_ _ _) | (with_reducible refine balloc ?_ _) | (with_reducible refine Below.drew ?_) | (with_reducible refine bdrewN ?_ _) | (with_reducible refine Below.setCell ?_ (by go_size) _))))⟩
      case measure => simp [intOf]; omega
    · obtain rfl : k = xs.length := by omega
      rw [sumD_all]
      obtain ⟨S, HS⟩ : ∃ S, Hid (f + sumD xs = S) := ⟨_, rfl⟩
      rw [HS.out]
      have hSb := nv_bd S
      replace HU := Lib.hid (HU.out.plus g d)
      replace hBW := hBW.trans (Below.mono (bplus (Below.refl _ W1) g d) hBW.size)
      generalize plus W1 g d = W2 at *
      by_cases hS : 18446744073709551615 - (n : Int) < nv S
      · have hSd : decide (18446744073709551615 - (n : Int) < nv S) = true := decide_eq_true hS
        clear hS
        go_wp2
        go_ret
        exact ⟨rfl, hBW.trans (Below.mono (by (repeat' (first | (with_reducible exact Below.refl _ _) | (with_reducible refine bplus ?_ _ _) | (with_reducible refine balloc ?_ _) | (with_reducible refine Below.drew ?_) | (with_reducible refine bdrewN ?_ _) | (with_reducible refine Below.setCell ?_ (by go_size) _)))) hBW.size)⟩
      · have hSd : decide (18446744073709551615 - (n : Int) < nv S) = false := decide_eq_false hS
        have hSn : S.toNat + n < 18446744073709551616 := by unfold nv at hS; omega
        clear hS
        go_wp2
        go_loopw [48] (fun i wr => ∃ k : Nat, k ≤ n ∧ i = .int .i64 k ∧ ∃ g d, wr = plus (W2.alloc (.cells (hits n S k) 48)) g d) (fun i _ => n - (intOf i).toNat)
        case atStart => exact ⟨0, by omega, rfl, #[], W2.drawn, by rw [hits_none]; exact plus_self _⟩
        case round =>
          obtain ⟨k, hk, rfl, g, d, rfl⟩ := hrel
          by_cases hlt : k < n
          · have HA : Hid (IntKind.u64.wrap (nv f + (k : Int)) = nv (f + BitVec.ofNat 64 k)) := by
              show _ = _
              rw [← wrap_add, show nv (BitVec.ofNat 64 k) = (k : Int) by unfold nv; rw [BitVec.toNat_ofNat, Nat.mod_eq_of_lt (by omega)]]
            have HF : Hid (sumD (xs ++ [f + BitVec.ofNat 64 k]) = S + BitVec.ofNat 64 k) := by
              show _ = _
              rw [sumD_snoc, ← BitVec.add_assoc, BitVec.add_comm (sumD xs) f, HS.out]
            have HG := hits_get n S k (sideF n S k) (by unfold sideF; have := Nat.mod_lt (S.toNat + k) (show 0 < n by omega); omega)
            rw [side_new n S k hlt] at HG
            have HP := Lib.hid (hits_set n S k)
            have HT := Lib.hid (side_throw n S k (by omega))
            have ht1 : 1 ≤ sideF n S k := by unfold sideF; omega
            have ht2 : sideF n S k ≤ n := by unfold sideF; have := Nat.mod_lt (S.toNat + k) (show 0 < n by omega); omega
            generalize sideF n S k = T at *
            generalize hits n S k = H at *
            generalize f + BitVec.ofNat 64 k = x at *
            go_wp2_with (first
              | (at_builtin; refine wpList_append_in rfl (.tmp 53) (.tmp 54) 32 rfl (W2.alloc (.cells H 48)) elt_dig (by (repeat' (first | (with_reducible exact Below.refl _ _) | (with_reducible refine bplus ?_ _ _) | (with_reducible refine balloc ?_ _) | (with_reducible refine Below.drew ?_) | (with_reducible refine bdrewN ?_ _) | (with_reducible refine Below.setCell ?_ (by go_size) _)))) _ _ _ rfl (owns_empty (W2.alloc (.cells H 48)) g d 44 8 _ (by simp)) ao2 xs.length cap2 (dall xs) rfl (dall_len xs) hno2 ((HU.out.alloc _).plus g d |>.alloc _).cellsOf (dall_oneCell xs) ?c3 ?c4 xs.length (by simp) (dall xs) (by simp) (fun ao1 cap1 g1 d1 hown1 _ => ?_))
              | (go_at_call 28; rw [HA.out]; refine (fromNum_any x _).mono ?_; rintro e w2 ⟨rfl, hb2⟩; obtain ⟨g2, d2, rfl⟩ := plus_of_below hb2; clear hb2)
              | (at_builtin; refine wpList_append_fresh rfl (.tmp 55) (.tmp 61) 32 rfl (W2.alloc (.cells H 48)) _ _ _ _ elt_dig _ _ _ rfl (hown1.more _) rfl _ _ _ rfl (by first | (simp; done) | (simp; omega) | omega) rfl (dcs_one x) ?c5 ?c6 (xs.length + 1) rfl (dall (xs ++ [x])) (by simp [dall_app, dall_one, dcs]) (fun ao3 cap3 g3 d3 hown3 _ => ?_))
              | (go_at_call 23; refine (throw_yes _ (xs ++ [x]) n _ (by omega) (by omega) (hown3.dsl' rfl (xs ++ [x]) (by simp) rfl _) (by first | (simp; done) | (simp; omega) | omega)).mono ?_; rw [HF.out, HT.out]; rintro e w4 ⟨rfl, hb4⟩; obtain ⟨g4, d4, rfl⟩ := plus_of_below hb4; clear hb4))
            case c3 => unfold maxLen; omega
            case c4 => omega
            case c5 => unfold maxLen; omega
            case c6 => omega
            rw [HP.out]
            go_roundw
            case rel => exact ⟨k + 1, by omega, by go_num, plus_of_below (by (repeat' (first | (with_reducible exact Below.refl _ _) | (with_reducible refine bplus ?_ _ _) | (with_reducible refine balloc ?_ _) | (with_reducible refine Below.drew ?_) | (with_reducible refine bdrewN ?_ _) | (with_reducible refine Below.setCell ?_ (by go_size) _))))⟩
            case measure => simp [intOf]; omega
          · obtain rfl : k = n := by omega
            go_wp2
            go_ret
            exact ⟨rfl, hBW.trans (Below.mono (by (repeat' (first | (with_reducible exact Below.refl _ _) | (with_reducible refine bplus ?_ _ _) | (with_reducible refine balloc ?_ _) | (with_reducible refine Below.drew ?_) | (with_reducible refine bdrewN ?_ _) | (with_reducible refine Below.setCell ?_ (by go_size) _)))) hBW.size)⟩

end Go.Proofs.Ytmfogedagepcgaa
