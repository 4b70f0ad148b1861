/- The contract of chance.Order. -/
import Derived.Test.YtmfogedagepcgaaRows
import Derived.Test.YtmfogedagepcgaaO
namespace Go.Proofs.Ytmfogedagepcgaa
set_option linter.unusedSimpArgs false
set_option linter.unusedVariables false
open Go.RowKit

theorem elt_int : Elt Try.prog 24 3 1 8 := elt_mk (.int .i64 0) Try.underlying24 (by kernel_rfl) rfl (by decide)

theorem order_end {w : World} {A B : Obj} {g : Array Obj} {d : Nat} {v : Value} {l : List Nat} (h : GRow (w.heap.size + 1 + 1) g 3 1 v l.length (ints l)) :
    VSl (plus ((w.alloc A).alloc B) g d) v l.length (fun i => .int .i64 (l.getD i 0 : Nat)) := by
  have h' : GRow ((w.alloc A).alloc B).heap.size g 3 1 v l.length (ints l) := by simpa using h
  exact h'.vsl d _ (fun i hi => by simp [ints, hi])

set_option maxRecDepth 100000 in
set_option maxHeartbeats 2000000 in
theorem order_yes (gv : Value) (gone : List Bool) (m : Nat) (w : World) (hm : m < gone.length) (hl : gone.length ≤ 1000) (hg : VSl w gv gone.length (fun i => .bool (gone.getD i true))) :
    Calls Try.prog 20 #[.int .i64 m, gv] w fun e w' => ∃ v, e = .returned v ∧ Below w.heap.size w w' ∧
      VSl w' v (orderL m gone).length (fun i => .int .i64 ((orderL m gone).getD i 0 : Nat)) := by
  have hmf : ∀ (fn : Fn) (first cap : Array Value) (w : World), (Instr.makeFunc fn first cap).run Try.prog w = .ok (.func fn first cap) w := fun _ _ _ _ => rfl
  obtain ⟨ao, cap, rfl, _, h0 | ⟨b, o, rfl, hb, hc⟩⟩ := hg
  · omega
  have HC := Lib.hid hc
  clear hc
  go_enter Try.func20, Try.ntmps20
  go_wp2
  go_loopw [7] (fun i wr => ∃ (k q : Nat) (v : Value) (g : Array Obj) (d : Nat), k ≤ gone.length ∧ k ≤ m + 1 + q ∧ m + 1 + q ≤ k ∧ i = .int .i64 k ∧
      wr = plus ((w.alloc (.cells #[.slice (some ⟨b, o, none⟩) gone.length cap] 22)).alloc (.cells #[v] 24)) g d ∧
      GRow (w.heap.size + 1 + 1) g 3 1 v (stay gone (m + 1) q).length (ints (stay gone (m + 1) q))) (fun i _ => gone.length - (intOf i).toNat)
  case atStart => exact ⟨m + 1, 0, _, #[], _, by omega, by omega, by omega, by go_num, plus_self _, GRow.nil _ _ _ _⟩
  case round =>
    obtain ⟨k, q, v, g, d, hk, hq1, hq2, rfl, rfl, hown⟩ := hrel
    have e : m + 1 + q = k := by omega
    by_cases hlt : k < gone.length
    · have hcell := HC.out k hlt
      cases hgk : gone.getD k true
      · rw [hgk] at hcell
        have HS := Lib.hid (stay_stays gone (m + 1) q (by rw [e]; exact hgk))
        rw [e] at HS
        have hle := stay_le gone (m + 1) q
        clear hgk e
        generalize stay gone (m + 1) q = l at *
        go_wp2_with (first
          | (at_builtin; refine wpList_append_fresh rfl _ _ 24 rfl _ _ _ _ _ elt_int _ _ _ rfl hown (by simp) _ _ _ rfl (by simp) rfl (by simp [Value.oneCell']) ?c3 ?c4 _ rfl _ rfl (fun ao' cap' g' d' hown' _ => ?_))
          | go_in)
        case c3 => unfold maxLen; omega
        case c4 => omega
        · go_roundw
          case rel => exact ⟨k + 1, q + 1, _, g', d', by omega, by omega, by omega, by go_num, rfl, by rw [HS.out, ints_app, List.length_append]; exact hown'⟩
          case measure => simp [intOf]; omega
      · rw [hgk] at hcell
        have HS := Lib.hid (stay_gone gone (m + 1) q (by rw [e]; exact hgk))
        clear hgk e
        go_wp2_with go_in
        go_roundw
        case rel => exact ⟨k + 1, q + 1, v, g, d, by omega, by omega, by omega, by go_num, rfl, by rw [HS.out]; exact hown⟩
        case measure => simp [intOf]; omega
    · obtain rfl : k = gone.length := by omega
      obtain rfl : q = gone.length - (m + 1) := by omega
      clear e hq1 hq2 hlt hk
      have HO : Hid (orderL m gone = stay gone (m + 1) (gone.length - (m + 1)) ++ stay gone 0 (m + 1)) := rfl
      have hle := stay_le gone (m + 1) (gone.length - (m + 1))
      generalize stay gone (m + 1) (gone.length - (m + 1)) = l0 at *
      go_wp2
      go_loopw [31] (fun i wr => ∃ (k : Nat) (v : Value) (g : Array Obj) (d : Nat), k ≤ m + 1 ∧ i = .int .i64 k ∧
          wr = plus ((w.alloc (.cells #[.slice (some ⟨b, o, none⟩) gone.length cap] 22)).alloc (.cells #[v] 24)) g d ∧
          GRow (w.heap.size + 1 + 1) g 3 1 v (l0 ++ stay gone 0 k).length (ints (l0 ++ stay gone 0 k))) (fun i _ => m + 1 - (intOf i).toNat)
      case atStart => exact ⟨0, v, g, d, by omega, rfl, rfl, by rw [stay_zero, List.append_nil]; exact hown⟩
      case round =>
        obtain ⟨k, v, g, d, hk, rfl, rfl, hown⟩ := hrel
        by_cases hlt : k < m + 1
        · have hcell := HC.out k (by omega)
          cases hgk : gone.getD k true
          · rw [hgk] at hcell
            have HS := Lib.hid (stay_stays gone 0 k (by rw [Nat.zero_add]; exact hgk))
            rw [Nat.zero_add] at HS
            have hle2 := stay_le gone 0 k
            have hll : (l0 ++ stay gone 0 k).length ≤ 3000 := by rw [List.length_append]; omega
            have HL : Hid ((l0 ++ stay gone 0 k) ++ [k] = l0 ++ stay gone 0 (k + 1)) := by show _ = _; rw [HS.out, List.append_assoc]
            clear hgk HS
            generalize l0 ++ stay gone 0 k = l at *
            go_wp2_with (first
              | (at_builtin; refine wpList_append_fresh rfl _ _ 24 rfl _ _ _ _ _ elt_int _ _ _ rfl hown (by simp) _ _ _ rfl (by simp) rfl (by simp [Value.oneCell']) ?c3 ?c4 _ rfl _ rfl (fun ao' cap' g' d' hown' _ => ?_))
              | go_in)
            case c3 => unfold maxLen; omega
            case c4 => omega
            · go_roundw
              case rel => exact ⟨k + 1, _, g', d', by omega, by go_num, rfl, by rw [← HL.out, ints_app, List.length_append]; exact hown'⟩
              case measure => simp [intOf]; omega
          · rw [hgk] at hcell
            have HS := Lib.hid (stay_gone gone 0 k (by rw [Nat.zero_add]; exact hgk))
            clear hgk
            go_wp2_with go_in
            go_roundw
            case rel => exact ⟨k + 1, v, g, d, by omega, by go_num, rfl, by rw [HS.out]; exact hown⟩
            case measure => simp [intOf]; omega
        · obtain rfl : k = m + 1 := by omega
          rw [← HO.out] at hown
          go_wp2
          go_ret
          exact ⟨_, rfl, by (repeat' (first | (with_reducible exact Below.refl _ _) | (with_reducible refine bplus ?_ _ _) | (with_reducible refine balloc ?_ _) | (with_reducible refine Below.drew ?_) | (with_reducible refine bdrewN ?_ _) | (with_reducible refine Below.setCell ?_ (by go_size) _))), order_end hown⟩

set_option maxRecDepth 100000 in
set_option maxHeartbeats 1000000 in
theorem order_no (gv : Value) (n cap : Nat) (ao : Option Addr) (hgv : gv = .slice ao n cap) (m : Int) (w : World) (hm : m < 0 ∨ (n : Int) ≤ m) :
    Calls Try.prog 20 #[.int .i64 m, gv] w fun e w' => e = .returned (.slice none 0 0) ∧ Below w.heap.size w w' := by
  subst hgv
  rcases hm with hm | hm
  · go_enter Try.func20, Try.ntmps20
    go_wp2
    go_ret
    exact ⟨rfl, by (repeat' (first | (with_reducible exact Below.refl _ _) | (with_reducible refine bplus ?_ _ _) | (with_reducible refine balloc ?_ _) | (with_reducible refine Below.drew ?_) | (with_reducible refine bdrewN ?_ _) | (with_reducible refine Below.setCell ?_ (by go_size) _)))⟩
  · have h1 : ¬ m < 0 := by omega
    go_enter Try.func20, Try.ntmps20
    go_wp2
    go_ret
    exact ⟨rfl, by (repeat' (first | (with_reducible exact Below.refl _ _) | (with_reducible refine bplus ?_ _ _) | (with_reducible refine balloc ?_ _) | (with_reducible refine Below.drew ?_) | (with_reducible refine bdrewN ?_ _) | (with_reducible refine Below.setCell ?_ (by go_size) _)))⟩

end Go.Proofs.Ytmfogedagepcgaa
