/- The law ChanceOrder: its walk. -/
import Derived.Test.YtmfogedagepcgaaP
namespace Go.Proofs.Ytmfogedagepcgaa
open Go.RowKit

set_option maxRecDepth 100000 in
set_option maxHeartbeats 2000000 in
theorem chanceOrder_long (ao : Option Addr) (n cap : Nat) (m : Int) (w : World) (hn : 60 < n) (hr : n ≤ 9223372036854775807) :
    Calls Try.prog 3 #[.int .i64 m, .slice ao n cap] w fun e w' => e = .returned (.bool true) ∧ Below w.heap.size w w' := by
  go_enter Try.func3, Try.ntmps3
  go_wp2_with (go_at_call 19; refine (known18_any _).mono ?_; rintro e w1 ⟨rfl, hb1⟩; obtain ⟨g1, d1, rfl⟩ := plus_of_below hb1; clear hb1)
  go_ret
  exact ⟨rfl, by (repeat' (first | exact Below.refl _ _ | (refine bplus ?_ _ _) | (refine balloc ?_ _) | (refine Below.drew ?_) | (refine bdrewN ?_ _) | (refine Below.setCell ?_ (by go_size) _)))⟩

set_option maxRecDepth 100000 in
set_option maxHeartbeats 2000000 in
theorem chanceOrder_out (ao : Option Addr) (n cap : Nat) (m : Int) (w : World) (hn : n ≤ 60) (hm : m < 0 ∨ (n : Int) ≤ m) :
    Calls Try.prog 3 #[.int .i64 m, .slice ao n cap] w fun e w' => e = .returned (.bool true) ∧ Below w.heap.size w w' := by
  have hm' := Lib.hid hm
  rcases hm with hm | hm
  all_goals
    go_enter Try.func3, Try.ntmps3
    go_wp2_with (first
      | (go_at_call 19; refine (known18_any _).mono ?_; rintro e w1 ⟨rfl, hb1⟩; obtain ⟨g1, d1, rfl⟩ := plus_of_below hb1; clear hb1)
      | (go_at_call 20; refine (order_no _ n cap ao rfl m _ hm'.out).mono ?_; rintro e w2 ⟨rfl, hb2⟩; obtain ⟨g2, d2, rfl⟩ := plus_of_below hb2; clear hb2)
      | (go_at_call 22; refine (refOrder_no _ n cap ao rfl m _ hm'.out).mono ?_; rintro e w3 ⟨v3, rfl, hb3, hv3⟩; obtain ⟨g3, d3, rfl⟩ := plus_of_below hb3; clear hb3; try simp only [plus_plus, Array.append_assoc, plus_drew, plus_drewN, drew_plus, drewN_plus, alloc_drewN, World.alloc_drew] at hv3)
      | (go_at_call 21; refine (same_yes _ _ 0 (fun _ => 0) _ (by omega) ⟨none, 0, rfl, fun _ => ⟨rfl, rfl⟩, .inl rfl⟩ hv3).mono ?_; rintro e w4 ⟨rfl, hb4⟩; obtain ⟨g4, d4, rfl⟩ := plus_of_below hb4; clear hb4))
    go_ret
    exact ⟨rfl, by (repeat' (first | exact Below.refl _ _ | (refine bplus ?_ _ _) | (refine balloc ?_ _) | (refine Below.drew ?_) | (refine bdrewN ?_ _) | (refine Below.setCell ?_ (by go_size) _)))⟩

set_option maxRecDepth 100000 in
set_option maxHeartbeats 4000000 in
theorem chanceOrder_in (gv : Value) (gone : List Bool) (m : Nat) (w : World) (hn : gone.length ≤ 60) (hm : m < gone.length) (hg : VSl w gv gone.length (fun i => .bool (gone.getD i true))) :
    Calls Try.prog 3 #[.int .i64 m, gv] w fun e w' => e = .returned (.bool true) ∧ Below w.heap.size w w' := by
  have HG := Lib.hid hg
  obtain ⟨ao, cap, rfl, _, h0 | ⟨b, o, rfl, hb, hc⟩⟩ := hg
  · omega
  have HC := Lib.hid hc
  clear hc
  have HO := Lib.hid (fun w h => order_yes (.slice (some ⟨b, o, none⟩) gone.length cap) gone m w hm (by omega) h)
  have HR := Lib.hid (fun w h => refOrder_yes (.slice (some ⟨b, o, none⟩) gone.length cap) gone m w hm (by omega) h)
  have HK : Hid (∀ i, i < gone.length → gone.getD i true = false → (orderL m gone).count i = 1) := fun i hi h => order_count m gone i hm hi h
  have hL := order_le m gone hm
  have HN := Lib.hid (order_len m gone hm)
  have HT : Hid (gone.getD m true = false → 0 < (orderL m gone).length ∧ (orderL m gone).getD ((orderL m gone).length - 1) 0 = m) := order_last m gone
  generalize orderL m gone = L at *
  go_enter Try.func3, Try.ntmps3
  go_wp2_with (first
    | (go_at_call 19; refine (known18_any _).mono ?_; rintro e w1 ⟨rfl, hb1⟩; obtain ⟨g1, d1, rfl⟩ := plus_of_below hb1; clear hb1)
    | (go_at_call 20; refine (HO.out _ (HG.out.plus _ _)).mono ?_; rintro e w2 ⟨v2, rfl, hb2, hv2⟩; obtain ⟨g2, d2, rfl⟩ := plus_of_below hb2; clear hb2; try simp only [plus_plus, Array.append_assoc, plus_drew, plus_drewN, drew_plus, drewN_plus, alloc_drewN, World.alloc_drew] at hv2)
    | (go_at_call 22; refine (HR.out _ (HG.out.plus _ _)).mono ?_; rintro e w3 ⟨v3, rfl, hb3, hv3⟩; obtain ⟨g3, d3, rfl⟩ := plus_of_below hb3; clear hb3; try simp only [plus_plus, Array.append_assoc, plus_drew, plus_drewN, drew_plus, drewN_plus, alloc_drewN, World.alloc_drew] at hv3; replace hv2 := hv2.plus g3 d3; simp only [plus_plus, Array.append_assoc] at hv2)
    | (go_at_call 21; refine (same_yes _ _ L.length (fun i => (L.getD i 0 : Nat)) _ (by omega) hv2 hv3).mono ?_; rintro e w4 ⟨rfl, hb4⟩; obtain ⟨g4, d4, rfl⟩ := plus_of_below hb4; clear hb4))
  replace hv2 := hv2.plus g4 d4
  simp only [plus_plus, Array.append_assoc] at hv2
  obtain ⟨ao2, cap2, rfl, _, h2⟩ := hv2
  clear hv3
  have H2 := Lib.hid h2
  clear h2
  generalize hW : plus w _ _ = W at *
  have HW := Lib.hid hW
  clear hW
  have HC' : Hid (∀ i, i < gone.length → W.cell? ⟨b, o + i, none⟩ = some (.bool (gone.getD i true))) := by
    intro i hi
    rw [← HW.out, cell?_plus _ _ _ _ _ hb]
    exact HC.out i hi
  go_loop [6, 42] (fun n i => ∃ k : Nat, k ≤ gone.length ∧ n = .int .i64 (stay gone 0 k).length ∧ i = .int .i64 k) (fun _ i => gone.length - (intOf i).toNat)
  case atStart => exact ⟨0, by omega, rfl, rfl⟩
  case round =>
    obtain ⟨k, hk, rfl, rfl⟩ := hrel
    by_cases hlt : k < gone.length
    · have hcell := HC'.out k hlt
      have hle := stay_le gone 0 k
      cases hgk : gone.getD k true
      · rw [hgk] at hcell
        have HS : Hid ((stay gone 0 (k + 1)).length = (stay gone 0 k).length + 1) := by
          show _ = _
          rw [stay_stays gone 0 k (by rw [Nat.zero_add]; exact hgk), List.length_append]; rfl
        have HK' := Lib.hid (HK.out k hlt hgk)
        clear hgk
        generalize (stay gone 0 k).length = n at *
        go_wp2
        go_loop [9, 52] (fun t j => ∃ q : Nat, q ≤ L.length ∧ t = .int .i64 ((L.take q).count k) ∧ j = .int .i64 q) (fun _ j => L.length - (intOf j).toNat)
        case atStart => exact ⟨0, by omega, rfl, rfl⟩
        case round =>
          obtain ⟨q, hq, rfl, rfl⟩ := hrel
          by_cases hlq : q < L.length
          · rcases H2.out with h | ⟨b2, o2, rfl, hb2, hc2⟩
            · omega
            have hx := hc2 q hlq
            clear hc2
            have hT : Hid (L.take (q + 1) = L.take q ++ [L.getD q 0]) := by
              show _ = _
              rw [List.take_succ_eq_append_getElem hlq, List.getD_eq_getElem?_getD, List.getElem?_eq_getElem hlq]; rfl
            have hcl : (L.take q).count k ≤ q := Nat.le_trans List.count_le_length (List.length_take_le _ _)
            generalize L.getD q 0 = s at *
            have HP : Hid ((L.take (q + 1)).count k = (L.take q).count k + if s = k then 1 else 0) := by
              show _ = _
              rw [hT.out, List.count_append, List.count_singleton]; simp
            clear hT
            generalize (L.take q).count k = c at *
            by_cases hsk : s = k
            · subst hsk
              go_wp2
              go_round
              case rel => exact ⟨q + 1, by omega, by rw [HP.out, if_pos rfl]; go_num, by go_num⟩
              case measure => simp [intOf]; omega
            · have hb1 : (s == k) = false := by simpa using hsk
              have hb2 : ((s : Int) == (k : Int)) = false := beq_eq_false_iff_ne.2 (by omega)
              have HP' : Hid ((L.take (q + 1)).count k = c) := by show _ = _; rw [HP.out, if_neg hsk]; rfl
              clear HP
              go_wp2
              go_round
              case rel => exact ⟨q + 1, by omega, by rw [HP'.out], by go_num⟩
              case measure => simp [intOf]; omega
          · obtain rfl : q = L.length := by omega
            rw [List.take_length, HK'.out]
            go_wp2
            refine ⟨⟨_, _, _, _, _, _, _, ⟨k + 1, ?_, ?_, ?_⟩, rfl, rfl, rfl, rfl, rfl, rfl, rfl⟩, ?_⟩
            · omega
            · rw [HS.out]; go_num
            · go_num
            · simp [intOf]; omega
      · rw [hgk] at hcell
        have HS : Hid ((stay gone 0 (k + 1)).length = (stay gone 0 k).length) := by
          show _ = _
          rw [stay_gone gone 0 k (by rw [Nat.zero_add]; exact hgk)]
        clear hgk
        go_wp2
        go_round
        case rel => exact ⟨k + 1, by omega, by rw [HS.out], by go_num⟩
        case measure => simp [intOf]; omega
    · obtain rfl : k = gone.length := by omega
      rw [← HN.out]
      have hcell := HC'.out m hm
      cases hgm : gone.getD m true
      · obtain ⟨hp, hlast⟩ := HT.out hgm
        rcases H2.out with h | ⟨b2, o2, rfl, hb2, hc2⟩
        · omega
        have hx : W.cell? ⟨b2, o2 + (L.length - 1), none⟩ = some (.int .i64 (L.getD (L.length - 1) 0 : Nat)) := hc2 (L.length - 1) (by omega)
        rw [hlast] at hx
        clear hc2 hlast
        rw [hgm] at hcell
        clear hgm hlt
        go_wp2
        go_ret
        exact ⟨rfl, by rw [← HW.out]; (repeat' (first | exact Below.refl _ _ | (refine bplus ?_ _ _) | (refine balloc ?_ _) | (refine Below.drew ?_) | (refine bdrewN ?_ _) | (refine Below.setCell ?_ (by go_size) _)))⟩
      · rw [hgm] at hcell
        clear hgm hlt
        go_wp2
        go_ret
        exact ⟨rfl, by rw [← HW.out]; (repeat' (first | exact Below.refl _ _ | (refine bplus ?_ _ _) | (refine balloc ?_ _) | (refine Below.drew ?_) | (refine bdrewN ?_ _) | (refine Below.setCell ?_ (by go_size) _)))⟩

end Go.Proofs.Ytmfogedagepcgaa
