/- The law ChanceSwing: its walk. -/
import Derived.Test.YtmfogedagepcgaaK
import Derived.Deep.RegionLaw
namespace Go.Proofs.Ytmfogedagepcgaa
open Go.RowKit

theorem from_none {ao : Option Addr} {n cap : Nat} (hno : ao = none → n = 0 ∧ cap = 0) (k : Nat) (f : Addr → Addr) : (if cap = k then ao else ao.map f) = none → n - k = 0 ∧ cap - k = 0 := by
  intro h
  split at h
  · have := hno h; omega
  · cases ao with
    | none => have := hno rfl; omega
    | some a => cases h

theorem foldl_add (xs : List (BitVec 64)) (a : BitVec 64) : xs.foldl (fun s x => s + x) a = a + sumD xs := by
  unfold sumD
  induction xs generalizing a with
  | nil => simp
  | cons x xs ih => rw [List.foldl_cons, List.foldl_cons, ih (a + x), ih (0#64 + x), BitVec.zero_add, BitVec.add_assoc]
theorem sumD_app (xs ys : List (BitVec 64)) : sumD (xs ++ ys) = sumD xs + sumD ys := by
  rw [sumD, List.foldl_append, foldl_add]; rfl
theorem sumD_split (xs : List (BitVec 64)) (k : Nat) (x : BitVec 64) : sumD (xs.take k ++ [x] ++ xs.drop k) = sumD xs + x := by
  rw [sumD_app, sumD_app, show sumD [x] = x by simp [sumD], BitVec.add_assoc, BitVec.add_comm x, ← BitVec.add_assoc, ← sumD_app, List.take_append_drop]

set_option maxRecDepth 100000 in
set_option maxHeartbeats 1000000 in
theorem chanceSwing_long (ao : Option Addr) (n cap : Nat) (s k a : Int) (w : World) (hn : 20 < n) (hr : n ≤ 9223372036854775807) :
    Calls Try.prog 5 #[.int .u32 s, .int .u32 k, .slice ao n cap, .int .u8 a] w fun e w' => e = .returned (.bool true) ∧ Below w.heap.size w w' := by
  go_enter Try.func5, Try.ntmps5
  go_wp2_with (go_at_call 19; refine (known18_any _).mono ?_; rintro e w1 ⟨rfl, hb1⟩; obtain ⟨g1, d1, rfl⟩ := plus_of_below hb1; clear hb1)
  go_ret
  exact ⟨rfl, by (repeat' (first | (with_reducible exact Below.refl _ _) | (with_reducible refine bplus ?_ _ _) | (with_reducible refine balloc ?_ _) | (with_reducible refine Below.drew ?_) | (with_reducible refine bdrewN ?_ _) | (with_reducible refine Below.setCell ?_ (by go_size) _)))⟩

set_option maxRecDepth 100000 in
set_option maxHeartbeats 1000000 in
theorem chanceSwing_yes (ao : Option Addr) (cap : Nat) (xs : List (BitVec 64)) (s k a : Nat) (w : World) (hs : s ≤ 4294967295) (hk : k ≤ 4294967295) (ha : a ≤ 255) (hn : xs.length ≤ 20) (hv : DSl w (.slice ao xs.length cap) xs) :
    Calls Try.prog 5 #[.int .u32 s, .int .u32 k, .slice ao xs.length cap, .int .u8 a] w fun e w' => e = .returned (.bool true) ∧ Below w.heap.size w w' := by
  have HV := Lib.hid hv
  clear hv
  obtain ⟨n, hn⟩ : ∃ n : Nat, 1 + (s : Int) % 2147483647 = n := ⟨1 + s % 2147483647, by omega⟩
  have hn1 : 1 ≤ n := by omega
  have hn2 : n ≤ 2147483647 := by omega
  obtain ⟨m, hm⟩ : ∃ m : Nat, 1 + (k : Int) % (n : Int) = m := ⟨1 + k % n, by rw [Int.natCast_add, Int.natCast_emod]; rfl⟩
  have hm1 : 1 ≤ m := by have := Int.emod_nonneg (k : Int) (show (n : Int) ≠ 0 by omega); omega
  have hm2 : m ≤ n := by have := Int.emod_lt_of_pos (k : Int) (show (0 : Int) < n by omega); omega
  obtain ⟨q, hq⟩ : ∃ q : Nat, (a : Int) % ((xs.length : Int) + 1) = q := ⟨a % (xs.length + 1), by rw [Int.natCast_emod, Int.natCast_add]; rfl⟩
  have hq2 : q ≤ xs.length := by have := Int.emod_lt_of_pos (a : Int) (show (0 : Int) < (xs.length : Int) + 1 by omega); omega
  have hkm : 0 ≤ (k : Int) % (n : Int) := Int.emod_nonneg _ (by omega)
  have hkm2 : (k : Int) % (n : Int) < n := Int.emod_lt_of_pos _ (by omega)
  have HT := Lib.hid (needed_throws n m (sumD xs) hn1 hn2 hm1 hm2)
  have HX := Lib.hid (sumD_split xs q (neededB n m (sumD xs)))
  obtain ⟨x, HNX⟩ : ∃ x, Hid (neededB n m (sumD xs) = x) := ⟨_, rfl⟩
  rw [HNX.out] at HT HX
  go_enter Try.func5, Try.ntmps5
  go_wp2_with (first
    | (go_at_call 19; refine (known18_any _).mono ?_; rintro e w1 ⟨rfl, hb1⟩; obtain ⟨g1, d1, rfl⟩ := plus_of_below hb1; clear hb1)
    | (go_at_call 24; refine (of_any _ xs _ (HV.out.plus _ _) (by omega)).mono ?_; rintro e w2 ⟨v2, rfl, hb2, hu⟩; obtain ⟨g2, d2, rfl⟩ := plus_of_below hb2; clear hb2; try simp only [go_sem] at hu; have hu' := hu; obtain ⟨ao2, cap2, rfl, ⟨hle2, hno2⟩, -⟩ := hu')
    | (go_at_call 26; refine (needed_yes _ xs n m _ hn1 hn2 hm1 hm2 hu (by omega)).mono ?_; rw [HNX.out]; rintro e w3 ⟨rfl, hb3⟩; obtain ⟨g3, d3, rfl⟩ := plus_of_below hb3; clear hb3))
  simp only [hq]
  replace hu := hu.plus g3 d3
  simp only [plus_plus, Array.append_assoc] at hu
  have hBW : Below w.heap.size w (plus w (g1 ++ (g2 ++ g3)) d3) := by (repeat' (first | (with_reducible exact Below.refl _ _) | (with_reducible refine bplus ?_ _ _) | (with_reducible refine balloc ?_ _) | (with_reducible refine Below.drew ?_) | (with_reducible refine bdrewN ?_ _) | (with_reducible refine Below.setCell ?_ (by go_size) _)))
  generalize plus w (g1 ++ (g2 ++ g3)) d3 = W1 at *
  have hqc : q ≤ cap2 := by omega
  clear hn hm hq hkm hkm2
  have HU := Lib.hid hu
  clear hu
  go_region_law (first
    | (refine step_append_in rfl (.tmp 52) (.tmp 55) 32 rfl W1 elt_dig (by (repeat' (first | (with_reducible exact Below.refl _ _) | (with_reducible refine bplus ?_ _ _) | (with_reducible refine balloc ?_ _) | (with_reducible refine Below.drew ?_) | (with_reducible refine bdrewN ?_ _) | (with_reducible refine Below.setCell ?_ (by go_size) _)))) _ _ _ rfl (owns_first W1 44 8 _ rfl) ao2 q cap2 (dall (xs.take q)) rfl (by rw [dall_len, List.length_take]; omega) (fun h => by have := hno2 h; omega) ((HU.out.drew.alloc _).cellsTo q) (dall_oneCell _) (by unfold maxLen; omega) (by omega) q (by simp) (dall (xs.take q)) (by simp) (fun ao4 cap4 g4 d4 hown4 _ => ?_))
    | (refine step_append_fresh rfl (.tmp 56) (.tmp 59) 32 rfl W1 _ _ _ _ elt_dig _ _ _ rfl (hown4.more _) rfl _ _ _ rfl (by first | (simp; done) | (simp; omega) | omega) rfl (dcs_one x) (by unfold maxLen; omega) (by omega) (q + 1) rfl (dall (xs.take q ++ [x])) (by simp [dall_app, dall_one, dcs]) (fun ao6 cap6 g6 d6 hown6 _ => ?_))
    | (refine step_append_in rfl (.tmp 60) (.tmp 63) 32 rfl W1 elt_dig (by (repeat' (first | (with_reducible exact Below.refl _ _) | (with_reducible refine bplus ?_ _ _) | (with_reducible refine balloc ?_ _) | (with_reducible refine Below.drew ?_) | (with_reducible refine bdrewN ?_ _) | (with_reducible refine Below.setCell ?_ (by go_size) _)))) _ _ _ rfl (hown6.owns _) _ (xs.length - q) (cap2 - q) (dall (xs.drop q)) rfl (by rw [dall_len, List.length_drop]) (from_none hno2 q _) ((HU.out.plus _ _).cellsFrom q) (dall_oneCell _) (by unfold maxLen; omega) (by omega) (xs.length + 1) (by omega) (dall (xs.take q ++ [x] ++ xs.drop q)) (dall_app _ _).symm (fun ao7 cap7 g7 d7 hown7 _ => ?_))
    | (go_simp; go_at_call 28; refine (fromNum_any _ _).mono ?_; rintro e w5 ⟨rfl, hb5⟩; obtain ⟨g5, d5, rfl⟩ := plus_of_below hb5; clear hb5; simp only []))
  have HS : Hid (throwF n (sumD (xs.take q ++ [x] ++ xs.drop q)) = m) := by show _ = _; rw [HX.out]; exact HT.out
  have hlen : (xs.take q ++ [x] ++ xs.drop q).length = xs.length + 1 := by simp; omega
  go_wp2_with (go_at_call 23; refine (throw_yes _ (xs.take q ++ [x] ++ xs.drop q) n _ hn1 hn2 (hown7.dsl' rfl _ hlen.symm rfl _) (by omega)).mono ?_; rw [HS.out]; rintro e w8 ⟨rfl, hb8⟩; obtain ⟨g8, d8, rfl⟩ := plus_of_below hb8; clear hb8)
  all_goals
    go_ret
    exact ⟨rfl, hBW.trans (Below.mono (by (repeat' (first | (with_reducible exact Below.refl _ _) | (with_reducible refine bplus ?_ _ _) | (with_reducible refine balloc ?_ _) | (with_reducible refine Below.drew ?_) | (with_reducible refine bdrewN ?_ _) | (with_reducible refine Below.setCell ?_ (by go_size) _)))) hBW.size)⟩

end Go.Proofs.Ytmfogedagepcgaa
