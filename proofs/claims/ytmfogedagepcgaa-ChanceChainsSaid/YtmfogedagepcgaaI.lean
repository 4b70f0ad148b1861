/- The contract of the reference's Order, and of Same. -/
import Derived.Test.YtmfogedagepcgaaH
import Derived.Deep.QuietTactic
import Derived.BigQuiet
namespace Go.Proofs.Ytmfogedagepcgaa
set_option linter.unusedSimpArgs false
set_option linter.unusedVariables false
open Go.RowKit

theorem refOrder_end {w : World} {g : Array Obj} {d : Nat} {v : Value} {l : List Nat} (h : GRow w.heap.size g 3 1 v l.length (ints l)) :
    VSl (plus w g d) v l.length (fun i => .int .i64 (l.getD i 0 : Nat)) := h.vsl d _ (fun i hi => by simp [ints, hi])

set_option maxRecDepth 100000 in
set_option maxHeartbeats 2000000 in
theorem refOrder_yes (gv : Value) (gone : List Bool) (m : Nat) (w : World) (hm : m < gone.length) (hl : gone.length ≤ 1000) (hg : VSl w gv gone.length (fun i => .bool (gone.getD i true))) :
    Calls Try.prog 22 #[.int .i64 m, gv] w fun e w' => ∃ v, e = .returned v ∧ Below w.heap.size w w' ∧
      VSl w' v (orderL m gone).length (fun i => .int .i64 ((orderL m gone).getD i 0 : Nat)) := by
  obtain ⟨ao, cap, rfl, _, h0 | ⟨b, o, rfl, hb, hc⟩⟩ := hg
  · omega
  have HC := Lib.hid hc
  clear hc
  go_enter Try.func22, Try.ntmps22
  go_wp2
  rw [alloc_self]
  go_loopw [5, 6] (fun v i wr => ∃ (k : Nat) (g : Array Obj) (d : Nat), k ≤ gone.length ∧ i = .int .i64 ((k : Int) + 1) ∧ wr = plus w g d ∧
      GRow w.heap.size g 3 1 v (partL m gone k).length (ints (partL m gone k))) (fun _ i _ => gone.length + 1 - (intOf i).toNat)
  case atStart => exact ⟨0, _, _, by omega, rfl, rfl, by rw [partL_zero]; exact GRow.empty _ _ _⟩
  case round =>
    obtain ⟨k, g, d, hk, rfl, rfl, hown⟩ := hrel
    by_cases hlt : k < gone.length
    · have hcell := HC.out ((m + (k + 1)) % gone.length) (Nat.mod_lt _ (by omega))
      have hmod : ((m : Int) + ((k : Int) + 1)) % (gone.length : Int) = (((m + (k + 1)) % gone.length : Nat) : Int) := by rw [Int.natCast_emod, Int.natCast_add, Int.natCast_add]; rfl
      have hml := Nat.mod_lt (m + (k + 1)) (show 0 < gone.length by omega)
      have hle := partL_le m gone k
      have HG := Lib.hid (partL_gone m gone k hm hlt)
      have HS := Lib.hid (partL_stays m gone k hm hlt)
      generalize (m + (k + 1)) % gone.length = s at *
      cases hgk : gone.getD s true
      · rw [hgk] at hcell
        have HS' := Lib.hid (HS.out hgk)
        clear hgk HS HG
        generalize partL m gone k = l at *
        go_wp2_with (at_builtin; refine wpList_append_fresh rfl _ _ 24 rfl _ _ _ _ _ elt_int _ _ _ rfl hown (by simp) _ _ _ rfl (by simp) rfl (by simp [Value.oneCell']) ?c3 ?c4 _ rfl _ rfl (fun ao' cap' g' d' hown' _ => ?_))
        case c3 => unfold maxLen; omega
        case c4 => omega
        · go_roundw
          case rel => exact ⟨k + 1, g', d', by omega, by go_num, rfl, by rw [HS'.out, ints_app, List.length_append]; exact hown'⟩
          case measure => simp [intOf]; omega
      · rw [hgk] at hcell
        have HG' := Lib.hid (HG.out hgk)
        clear hgk HS HG
        go_wp2
        go_roundw
        case rel => exact ⟨k + 1, g, d, by omega, by go_num, rfl, by rw [HG'.out]; exact hown⟩
        case measure => simp [intOf]; omega
    · obtain rfl : k = gone.length := by omega
      rw [partL_all m gone hm] at hown
      go_wp2
      go_ret
      exact ⟨_, rfl, by (repeat' (first | (with_reducible exact Below.refl _ _) | (with_reducible refine bplus ?_ _ _) | (with_reducible refine balloc ?_ _) | (with_reducible refine Below.drew ?_) | (with_reducible refine bdrewN ?_ _) | (with_reducible refine Below.setCell ?_ (by go_size) _))), refOrder_end hown⟩

set_option maxRecDepth 100000 in
set_option maxHeartbeats 1000000 in
theorem refOrder_no (gv : Value) (n cap : Nat) (ao : Option Addr) (hgv : gv = .slice ao n cap) (m : Int) (w : World) (hm : m < 0 ∨ (n : Int) ≤ m) :
    Calls Try.prog 22 #[.int .i64 m, gv] w fun e w' => ∃ v, e = .returned v ∧ Below w.heap.size w w' ∧ VSl w' v 0 (fun _ => .int .i64 0) := by
  subst hgv
  rcases hm with hm | hm
  · go_enter Try.func22, Try.ntmps22
    go_wp2
    go_ret
    exact ⟨_, rfl, by (repeat' (first | (with_reducible exact Below.refl _ _) | (with_reducible refine bplus ?_ _ _) | (with_reducible refine balloc ?_ _) | (with_reducible refine Below.drew ?_) | (with_reducible refine bdrewN ?_ _) | (with_reducible refine Below.setCell ?_ (by go_size) _))), ⟨_, _, rfl, ⟨by omega, (fun h => by cases h)⟩, .inl rfl⟩⟩
  · have h1 : ¬ m < 0 := by omega
    go_enter Try.func22, Try.ntmps22
    go_wp2
    go_ret
    exact ⟨_, rfl, by (repeat' (first | (with_reducible exact Below.refl _ _) | (with_reducible refine bplus ?_ _ _) | (with_reducible refine balloc ?_ _) | (with_reducible refine Below.drew ?_) | (with_reducible refine bdrewN ?_ _) | (with_reducible refine Below.setCell ?_ (by go_size) _))), ⟨_, _, rfl, ⟨by omega, (fun h => by cases h)⟩, .inl rfl⟩⟩

/-- Two slices of as many numbers, each the same: yes. -/
theorem same_yes (v u : Value) (n : Nat) (f : Nat → Int) (w : World) (hn : n ≤ 9223372036854775807) (hv : VSl w v n (fun i => .int .i64 (f i))) (hu : VSl w u n (fun i => .int .i64 (f i))) :
    Calls Try.prog 21 #[v, u] w fun e w' => e = .returned (.bool true) ∧ Below w.heap.size w w' := by
  obtain ⟨ao, cap, rfl, _, h0⟩ := hv
  obtain ⟨bo, cap', rfl, _, h1⟩ := hu
  have H0 : Hid (n = 0 ∨ _) := h0
  have H1 : Hid (n = 0 ∨ _) := h1
  clear h0 h1
  go_enter Try.func21, Try.ntmps21
  go_wp2
  go_loopw [5] (fun i wr => ∃ k : Nat, k ≤ n ∧ i = .int .i64 k ∧ ∃ d, wr = w.drewN d) (fun i _ => n - (intOf i).toNat)
  case atStart => exact ⟨0, by omega, rfl, 0, rfl⟩
  case round =>
    obtain ⟨k, hk, rfl, d, rfl⟩ := hrel
    by_cases hlt : k < n
    · rcases H0.out with h | ⟨b, o, rfl, hb, hc⟩
      · omega
      rcases H1.out with h | ⟨b', o', rfl, hb', hc'⟩
      · omega
      have c0 := hc k hlt
      have c1 := hc' k hlt
      clear hc hc'
      go_wp2
      go_quiet (fail)
      go_wp2
      go_roundw
      case rel => exact ⟨k + 1, by omega, by go_num, _, rfl⟩
      case measure => simp [intOf]; omega
    · obtain rfl : k = n := by omega
      go_wp2
      go_ret
      exact ⟨rfl, by (repeat' (first | (with_reducible exact Below.refl _ _) | (with_reducible refine bplus ?_ _ _) | (with_reducible refine balloc ?_ _) | (with_reducible refine Below.drew ?_) | (with_reducible refine bdrewN ?_ _) | (with_reducible refine Below.setCell ?_ (by go_size) _)))⟩

end Go.Proofs.Ytmfogedagepcgaa
