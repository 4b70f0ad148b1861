/- The law ChanceTurned: its walk. -/
import Derived.Test.YtmfogedagepcgaaSwing
import Derived.Deep.DeepCutAuto
namespace Go.Proofs.Ytmfogedagepcgaa
open Go.RowKit

theorem sumD_turn (xs : List (BitVec 64)) (k : Nat) : sumD (xs.drop k ++ xs.take k) = sumD xs := by
  rw [sumD_app, BitVec.add_comm, ← sumD_app, List.take_append_drop]
theorem sumD_nought (xs : List (BitVec 64)) : sumD (xs ++ [0#64]) = sumD xs := by
  rw [sumD_app]; simp [sumD]

set_option maxRecDepth 100000 in
set_option maxHeartbeats 1000000 in
theorem chanceTurned_long (ao : Option Addr) (n cap : Nat) (s a : Int) (w : World) (hn : 20 < n) (hr : n ≤ 9223372036854775807) :
    Calls Try.prog 7 #[.int .i64 s, .slice ao n cap, .int .u8 a] w fun e w' => e = .returned (.bool true) ∧ Below w.heap.size w w' := by
  go_enter Try.func7, Try.ntmps7
  go_wp2_with (go_at_call 19; refine (known18_any _).mono ?_; rintro e w1 ⟨rfl, hb1⟩; obtain ⟨g1, d1, rfl⟩ := plus_of_below hb1; clear hb1)
  go_ret
  exact ⟨rfl, by (repeat' (first | (with_reducible exact Below.refl _ _) | (with_reducible refine bplus ?_ _ _) | (with_reducible refine balloc ?_ _) | (with_reducible refine Below.drew ?_) | (with_reducible refine bdrewN ?_ _) | (with_reducible refine Below.setCell ?_ (by go_size) _)))⟩

/-- Throw of whatever slice, told in one: what the law compares. -/
def thrown (s : Int) (x : BitVec 64) : Value := if s < 1 ∨ 2147483647 < s then .tuple #[.int .i64 0, .int .i64 2] else .tuple #[.int .i64 (throwF s.toNat x), .int .i64 0]

theorem throw_all (v : Value) (xs : List (BitVec 64)) (s : Int) (w : World) (hv : DSl w v xs) (hl : xs.length ≤ 9223372036854775807) :
    Calls Try.prog 23 #[.int .i64 s, v] w fun e w' => e = .returned (thrown s (sumD xs)) ∧ Below w.heap.size w w' := by
  unfold thrown
  by_cases h : s < 1 ∨ 2147483647 < s
  · rw [if_pos h]; exact throw_no v s w h
  · rw [if_neg h]
    obtain ⟨n, rfl⟩ := Int.eq_ofNat_of_zero_le (show 0 ≤ s by omega)
    exact throw_yes v xs n w (by omega) (by omega) hv hl


set_option maxRecDepth 100000 in
set_option maxHeartbeats 400000 in
theorem chanceTurned_no (ao : Option Addr) (cap : Nat) (xs : List (BitVec 64)) (s : Int) (a : Nat) (w : World) (ha : a ≤ 255) (hn : xs.length ≤ 20) (hv : DSl w (.slice ao xs.length cap) xs) (hs : s < 1 ∨ 2147483647 < s) :
    Calls Try.prog 7 #[.int .i64 s, .slice ao xs.length cap, .int .u8 a] w fun e w' => e = .returned (.bool true) ∧ Below w.heap.size w w' := by
  have HV := Lib.hid hv
  clear hv
  obtain ⟨q, hqn, hq, hqp⟩ : ∃ q : Nat, q ≤ xs.length ∧ (xs.length = 0 → q = 0) ∧ (0 < xs.length → (a : Int) % (xs.length : Int) = q) := by
    by_cases h0 : xs.length = 0
    · exact ⟨0, by omega, fun _ => rfl, fun h => by omega⟩
    · exact ⟨a % xs.length, Nat.le_of_lt (Nat.mod_lt _ (by omega)), fun h => absurd h h0, fun _ => by rw [Int.natCast_emod]⟩
  have HQ := Lib.hid hq
  have HP := Lib.hid hqp
  clear hq hqp
  have HT : Hid (thrown s (sumD xs) = .tuple #[.int .i64 0, .int .i64 2]) := by show _ = _; rw [thrown, if_pos hs]
  rcases hs with hs | hs
  all_goals
    go_enter Try.func7, Try.ntmps7
    go_upto_if 29 with (first
      | (go_at_call 19; refine (known18_any _).mono ?_; rintro e w1 ⟨rfl, hb1⟩; obtain ⟨g1, d1, rfl⟩ := plus_of_below hb1; clear hb1)
      | (go_at_call 24; refine (of_any _ xs _ (HV.out.plus _ _) (by omega)).mono ?_; rintro e w2 ⟨v2, rfl, hb2, hu⟩; obtain ⟨g2, d2, rfl⟩ := plus_of_below hb2; clear hb2; try simp only [go_sem] at hu; have hu' := hu; obtain ⟨ao2, cap2, rfl, ⟨hle2, hno2⟩, -⟩ := hu'))
    go_cut [8] (fun s8 wx => s8 = .int .i64 (q : Int) ∧ wx = plus w (g1 ++ g2) d2)
    case first =>
      by_cases h0 : xs.length = 0
      · have hq0 := HQ.out h0
        have h0' : xs.length ≤ 0 := by omega
        clear h0
        go_wp2
        go_meet
        exact ⟨by rw [hq0]; rfl, rfl⟩
      · have hp : 0 < xs.length := by omega
        have hmod := HP.out hp
        clear h0
        go_wp2
        go_meet
        exact ⟨by rw [← hmod], rfl⟩
    case rest =>
      obtain ⟨rfl, rfl⟩ := hcut
      go_wp2
      have hBW : Below w.heap.size w (plus w (g1 ++ g2) d2) := by (repeat' (first | (with_reducible exact Below.refl _ _) | (with_reducible refine bplus ?_ _ _) | (with_reducible refine balloc ?_ _) | (with_reducible refine Below.drew ?_) | (with_reducible refine bdrewN ?_ _) | (with_reducible refine Below.setCell ?_ (by go_size) _)))
      generalize plus w (g1 ++ g2) d2 = W1 at *
      have hqc : q ≤ cap2 := by omega
      have HU := Lib.hid hu
      clear hu
      go_region_law (first
        | (refine step_append_in rfl (.tmp 35) (.tmp 38) 32 rfl W1 elt_dig (by (repeat' (first | (with_reducible exact Below.refl _ _) | (with_reducible refine bplus ?_ _ _) | (with_reducible refine balloc ?_ _) | (with_reducible refine Below.drew ?_) | (with_reducible refine bdrewN ?_ _) | (with_reducible refine Below.setCell ?_ (by go_size) _)))) _ _ _ rfl (owns_first W1 44 8 _ rfl) _ (xs.length - q) (cap2 - q) (dall (xs.drop q)) rfl (by rw [dall_len, List.length_drop]) (from_none hno2 q _) ((HU.out.drew.alloc _).cellsFrom q) (dall_oneCell _) (by unfold maxLen; omega) (by omega) (xs.length - q) (by omega) (dall (xs.drop q)) (by simp) (fun ao4 cap4 g4 d4 hown4 _ => ?_))
        | (refine step_append_in rfl (.tmp 39) (.tmp 42) 32 rfl W1 elt_dig (by (repeat' (first | (with_reducible exact Below.refl _ _) | (with_reducible refine bplus ?_ _ _) | (with_reducible refine balloc ?_ _) | (with_reducible refine Below.drew ?_) | (with_reducible refine bdrewN ?_ _) | (with_reducible refine Below.setCell ?_ (by go_size) _)))) _ _ _ rfl (hown4.owns _) ao2 q cap2 (dall (xs.take q)) rfl (by rw [dall_len, List.length_take]; omega) (fun h => by have := hno2 h; omega) ((HU.out.plus _ _).cellsTo q) (dall_oneCell _) (by unfold maxLen; omega) (by omega) xs.length (by omega) (dall (xs.drop q ++ xs.take q)) (dall_app _ _).symm (fun ao5 cap5 g5 d5 hown5 _ => ?_)))
      generalize (if cap2 = q then ao2 else Option.map (fun x => x.add (q * 8)) ao2) = aq
      have hlen := Lib.hid (show xs.length = (xs.drop q ++ xs.take q).length by simp; omega)
      have HS1 := Lib.hid (sumD_turn xs q)
      have HS2 := Lib.hid (sumD_nought (xs.drop q ++ xs.take q))
      rw [HS1.out] at HS2
      generalize xs.drop q ++ xs.take q = ys at *
      have hlen2 : Hid (xs.length + 1 = (ys ++ [0#64]).length) := by show _ = _; rw [List.length_append, List.length_singleton, ← hlen.out]
      go_wp2_with (first
        | (go_at_call_of 23 (Value.slice ao2 xs.length cap2); refine (throw_all (.slice ao2 xs.length cap2) xs s _ (HU.out.plus _ _) (by omega)).mono ?_; rw [HT.out]; rintro e w6 ⟨rfl, hb6⟩; obtain ⟨g6, d6, rfl⟩ := plus_of_below hb6; clear hb6)
        | (go_at_call_of 23 (Value.slice ao5 xs.length cap5); refine (throw_all (.slice ao5 xs.length cap5) ys s _ ((hown5.more _).dsl' rfl _ hlen.out rfl _) (by rw [← hlen.out]; omega)).mono ?_; rw [HS1.out, HT.out]; rintro e w7 ⟨rfl, hb7⟩; obtain ⟨g7, d7, rfl⟩ := plus_of_below hb7; clear hb7)
        | (go_at_call 28; refine (fromNum_lit 0#64 0 rfl _).mono ?_; rintro e w8 ⟨rfl, hb8⟩; obtain ⟨g8, d8, rfl⟩ := plus_of_below hb8; clear hb8)
        | (at_builtin; refine wpList_append_fresh rfl (.tmp 58) (.tmp 60) 32 rfl W1 _ _ _ _ elt_dig _ _ _ rfl (hown5.more _) rfl _ _ _ rfl (by first | (simp; done) | (simp; omega) | omega) rfl (dcs_one 0#64) (by unfold maxLen; omega) (by omega) (xs.length + 1) rfl (dall (ys ++ [0#64])) (by simp [dall_app, dall_one, dcs]) (fun ao9 cap9 g9 d9 hown9 _ => ?_))
        | (go_at_call 23; refine (throw_all (.slice ao9 (xs.length + 1) cap9) (ys ++ [0#64]) s _ (hown9.dsl' rfl _ hlen2.out rfl _) (by rw [← hlen2.out]; omega)).mono ?_; rw [HS2.out, HT.out]; rintro e w10 ⟨rfl, hb10⟩; obtain ⟨g10, d10, rfl⟩ := plus_of_below hb10; clear hb10))
      all_goals
        go_ret
        exact ⟨rfl, hBW.trans (Below.mono (by (repeat' (first | (with_reducible exact Below.refl _ _) | (with_reducible refine bplus ?_ _ _) | (with_reducible refine balloc ?_ _) | (with_reducible refine Below.drew ?_) | (with_reducible refine bdrewN ?_ _) | (with_reducible refine Below.setCell ?_ (by go_size) _)))) hBW.size)⟩

set_option maxRecDepth 100000 in
set_option maxHeartbeats 400000 in
theorem chanceTurned_yes (ao : Option Addr) (cap : Nat) (xs : List (BitVec 64)) (s : Int) (a : Nat) (w : World) (ha : a ≤ 255) (hn : xs.length ≤ 20) (hv : DSl w (.slice ao xs.length cap) xs) (hs1 : 1 ≤ s) (hs2 : s ≤ 2147483647) :
    Calls Try.prog 7 #[.int .i64 s, .slice ao xs.length cap, .int .u8 a] w fun e w' => e = .returned (.bool true) ∧ Below w.heap.size w w' := by
  have HV := Lib.hid hv
  clear hv
  obtain ⟨q, hqn, hq, hqp⟩ : ∃ q : Nat, q ≤ xs.length ∧ (xs.length = 0 → q = 0) ∧ (0 < xs.length → (a : Int) % (xs.length : Int) = q) := by
    by_cases h0 : xs.length = 0
    · exact ⟨0, by omega, fun _ => rfl, fun h => by omega⟩
    · exact ⟨a % xs.length, Nat.le_of_lt (Nat.mod_lt _ (by omega)), fun h => absurd h h0, fun _ => by rw [Int.natCast_emod]⟩
  have HQ := Lib.hid hq
  have HP := Lib.hid hqp
  clear hq hqp
  have hb1 : 1 ≤ throwF s.toNat (sumD xs) := by unfold throwF; omega
  have hb2 : throwF s.toNat (sumD xs) ≤ s := by
    unfold throwF
    have := Nat.mod_lt (sumD xs).toNat (show 0 < s.toNat by omega)
    omega
  have HT : Hid (thrown s (sumD xs) = .tuple #[.int .i64 (throwF s.toNat (sumD xs)), .int .i64 0]) := by show _ = _; rw [thrown, if_neg (by omega)]
  generalize throwF s.toNat (sumD xs) = t at *
  go_enter Try.func7, Try.ntmps7
  go_upto_if 29 with (first
    | (go_at_call 19; refine (known18_any _).mono ?_; rintro e w1 ⟨rfl, hb1⟩; obtain ⟨g1, d1, rfl⟩ := plus_of_below hb1; clear hb1)
    | (go_at_call 24; refine (of_any _ xs _ (HV.out.plus _ _) (by omega)).mono ?_; rintro e w2 ⟨v2, rfl, hb2, hu⟩; obtain ⟨g2, d2, rfl⟩ := plus_of_below hb2; clear hb2; try simp only [go_sem] at hu; have hu' := hu; obtain ⟨ao2, cap2, rfl, ⟨hle2, hno2⟩, -⟩ := hu'))
  go_cut [8] (fun s8 wx => s8 = .int .i64 (q : Int) ∧ wx = plus w (g1 ++ g2) d2)
  case first =>
    by_cases h0 : xs.length = 0
    · have hq0 := HQ.out h0
      have h0' : xs.length ≤ 0 := by omega
      clear h0
      go_wp2
      go_meet
      exact ⟨by rw [hq0]; rfl, rfl⟩
    · have hp : 0 < xs.length := by omega
      have hmod := HP.out hp
      clear h0
      go_wp2
      go_meet
      exact ⟨by rw [← hmod], rfl⟩
  case rest =>
    obtain ⟨rfl, rfl⟩ := hcut
    go_wp2
    have hBW : Below w.heap.size w (plus w (g1 ++ g2) d2) := by (repeat' (first | (with_reducible exact Below.refl _ _) | (with_reducible refine bplus ?_ _ _) | (with_reducible refine balloc ?_ _) | (with_reducible refine Below.drew ?_) | (with_reducible refine bdrewN ?_ _) | (with_reducible refine Below.setCell ?_ (by go_size) _)))
    generalize plus w (g1 ++ g2) d2 = W1 at *
    have hqc : q ≤ cap2 := by omega
    have HU := Lib.hid hu
    clear hu
    go_region_law (first
      | (refine step_append_in rfl (.tmp 35) (.tmp 38) 32 rfl W1 elt_dig (by (repeat' (first | (with_reducible exact Below.refl _ _) | (with_reducible refine bplus ?_ _ _) | (with_reducible refine balloc ?_ _) | (with_reducible refine Below.drew ?_) | (with_reducible refine bdrewN ?_ _) | (with_reducible refine Below.setCell ?_ (by go_size) _)))) _ _ _ rfl (owns_first W1 44 8 _ rfl) _ (xs.length - q) (cap2 - q) (dall (xs.drop q)) rfl (by rw [dall_len, List.length_drop]) (from_none hno2 q _) ((HU.out.drew.alloc _).cellsFrom q) (dall_oneCell _) (by unfold maxLen; omega) (by omega) (xs.length - q) (by omega) (dall (xs.drop q)) (by simp) (fun ao4 cap4 g4 d4 hown4 _ => ?_))
      | (refine step_append_in rfl (.tmp 39) (.tmp 42) 32 rfl W1 elt_dig (by (repeat' (first | (with_reducible exact Below.refl _ _) | (with_reducible refine bplus ?_ _ _) | (with_reducible refine balloc ?_ _) | (with_reducible refine Below.drew ?_) | (with_reducible refine bdrewN ?_ _) | (with_reducible refine Below.setCell ?_ (by go_size) _)))) _ _ _ rfl (hown4.owns _) ao2 q cap2 (dall (xs.take q)) rfl (by rw [dall_len, List.length_take]; omega) (fun h => by have := hno2 h; omega) ((HU.out.plus _ _).cellsTo q) (dall_oneCell _) (by unfold maxLen; omega) (by omega) xs.length (by omega) (dall (xs.drop q ++ xs.take q)) (dall_app _ _).symm (fun ao5 cap5 g5 d5 hown5 _ => ?_)))
    generalize (if cap2 = q then ao2 else Option.map (fun x => x.add (q * 8)) ao2) = aq
    have hlen := Lib.hid (show xs.length = (xs.drop q ++ xs.take q).length by simp; omega)
    have HS1 := Lib.hid (sumD_turn xs q)
    have HS2 := Lib.hid (sumD_nought (xs.drop q ++ xs.take q))
    rw [HS1.out] at HS2
    generalize xs.drop q ++ xs.take q = ys at *
    have hlen2 : Hid (xs.length + 1 = (ys ++ [0#64]).length) := by show _ = _; rw [List.length_append, List.length_singleton, ← hlen.out]
    go_wp2_with (first
      | (go_at_call_of 23 (Value.slice ao2 xs.length cap2); refine (throw_all (.slice ao2 xs.length cap2) xs s _ (HU.out.plus _ _) (by omega)).mono ?_; rw [HT.out]; rintro e w6 ⟨rfl, hb6⟩; obtain ⟨g6, d6, rfl⟩ := plus_of_below hb6; clear hb6)
      | (go_at_call_of 23 (Value.slice ao5 xs.length cap5); refine (throw_all (.slice ao5 xs.length cap5) ys s _ ((hown5.more _).dsl' rfl _ hlen.out rfl _) (by rw [← hlen.out]; omega)).mono ?_; rw [HS1.out, HT.out]; rintro e w7 ⟨rfl, hb7⟩; obtain ⟨g7, d7, rfl⟩ := plus_of_below hb7; clear hb7)
      | (go_at_call 28; refine (fromNum_lit 0#64 0 rfl _).mono ?_; rintro e w8 ⟨rfl, hb8⟩; obtain ⟨g8, d8, rfl⟩ := plus_of_below hb8; clear hb8)
      | (at_builtin; refine wpList_append_fresh rfl (.tmp 58) (.tmp 60) 32 rfl W1 _ _ _ _ elt_dig _ _ _ rfl (hown5.more _) rfl _ _ _ rfl (by first | (simp; done) | (simp; omega) | omega) rfl (dcs_one 0#64) (by unfold maxLen; omega) (by omega) (xs.length + 1) rfl (dall (ys ++ [0#64])) (by simp [dall_app, dall_one, dcs]) (fun ao9 cap9 g9 d9 hown9 _ => ?_))
      | (go_at_call 23; refine (throw_all (.slice ao9 (xs.length + 1) cap9) (ys ++ [0#64]) s _ (hown9.dsl' rfl _ hlen2.out rfl _) (by rw [← hlen2.out]; omega)).mono ?_; rw [HS2.out, HT.out]; rintro e w10 ⟨rfl, hb10⟩; obtain ⟨g10, d10, rfl⟩ := plus_of_below hb10; clear hb10))
    all_goals
      go_ret
      exact ⟨rfl, hBW.trans (Below.mono (by (repeat' (first | (with_reducible exact Below.refl _ _) | (with_reducible refine bplus ?_ _ _) | (with_reducible refine balloc ?_ _) | (with_reducible refine Below.drew ?_) | (with_reducible refine bdrewN ?_ _) | (with_reducible refine Below.setCell ?_ (by go_size) _)))) hBW.size)⟩

end Go.Proofs.Ytmfogedagepcgaa
