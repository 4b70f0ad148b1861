/- Contracts of a state's methods: take, gives. -/
import Derived.Test.YtghaiplhakeahaaB
import Derived.Deep.RegionWith
import Derived.Deep.RegionHeld3
namespace Go.Proofs.Ytghaiplhakeahaa
set_option linter.unusedSimpArgs false
set_option linter.unusedVariables false
open Go.RowKit

theorem putSt_over (w : World) (b o : Nat) (u : Value) (s : St) : putSt (w.setCell ⟨b, o, none⟩ u) b o s = putSt w b o s := by
  unfold putSt; rw [setCell_setCell]

set_option maxRecDepth 100000 in
set_option maxHeartbeats 1000000 in
theorem take_any (s : St) (x : BitVec 64) (b o : Nat) (w : World)
    (h0 : w.cell? ⟨b, o, none⟩ = some (.int .u64 (nv s.a))) (h1 : w.cell? ⟨b, o + 1, none⟩ = some (.int .u64 (nv s.b)))
    (h2 : w.cell? ⟨b, o + 2, none⟩ = some (.int .u64 (nv s.c))) (h3 : w.cell? ⟨b, o + 3, none⟩ = some (.int .u64 (nv s.d)))
    (f0 : w.frozen? ⟨b, o, none⟩ = false) (f1 : w.frozen? ⟨b, o + 1, none⟩ = false) (f2 : w.frozen? ⟨b, o + 2, none⟩ = false) (f3 : w.frozen? ⟨b, o + 3, none⟩ = false) :
    Calls Try.prog 89 #[.pointer (some ⟨b, o, none⟩), .int .u64 (nv x)] w fun e w' => e = .returned (.tuple #[]) ∧
      ∃ n, w' = (putSt w b o (takeF s x)).drewN n := by
  go_enter Try.func89, Try.ntmps89
  go_wp2
  go_region
  go_wp2_with (go_at_call 107; refine (stir_any { s with a := s.a ^^^ x } b o _ (by go_simp) (by go_simp) (by go_simp) (by go_simp) (by go_simp) (by go_simp) (by go_simp) (by go_simp)).mono ?_; rintro e w1 ⟨rfl, n1, rfl⟩)
  go_end0
  exact ⟨rfl, n1 + 1, by rw [show takeF s x = stirF { s with a := s.a ^^^ x } from rfl, ← putSt_over w b o (.int .u64 (nv (s.a ^^^ x)))]; simp [putSt, go_sem, Nat.add_comm]⟩

set_option maxRecDepth 100000 in
set_option maxHeartbeats 1000000 in
theorem gives_any (s : St) (b o : Nat) (w : World) (hlt : b < w.heap.size)
    (h0 : w.cell? ⟨b, o, none⟩ = some (.int .u64 (nv s.a))) 
    (h2 : w.cell? ⟨b, o + 2, none⟩ = some (.int .u64 (nv s.c)))  :
    Calls Try.prog 92 #[.pointer (some ⟨b, o, none⟩)] w fun e w' => e = .returned (.agg #[.int .u8 (by8 (givesF s) 0), .int .u8 (by8 (givesF s) 1), .int .u8 (by8 (givesF s) 2), .int .u8 (by8 (givesF s) 3), .int .u8 (by8 (givesF s) 4), .int .u8 (by8 (givesF s) 5), .int .u8 (by8 (givesF s) 6), .int .u8 (by8 (givesF s) 7)]) ∧ Below w.heap.size w w' := by
  go_enter Try.func92, Try.ntmps92
  go_wp2
  go_region_with (go_at_call 110; refine (fromNum_any _ _).mono ?_; rintro e w1 ⟨rfl, hb1⟩; obtain ⟨g1, d1, rfl⟩ := plus_of_below hb1; clear hb1)
  all_goals
    go_wp2
    refine bodyPost_ret (v := .agg #[.int .u8 (by8 (givesF s) 0), .int .u8 (by8 (givesF s) 1), .int .u8 (by8 (givesF s) 2), .int .u8 (by8 (givesF s) 3), .int .u8 (by8 (givesF s) 4), .int .u8 (by8 (givesF s) 5), .int .u8 (by8 (givesF s) 6), .int .u8 (by8 (givesF s) 7)]) (by simp [results, Try.results92, go_sem, givesF]) rfl ⟨rfl, by (repeat' (first | (with_reducible exact Below.refl _ _) | (with_reducible refine bplus ?_ _ _) | (with_reducible refine balloc ?_ _) | (with_reducible refine Below.drew ?_) | (with_reducible refine bdrewN ?_ _) | (with_reducible refine Below.setCell ?_ (by go_size) _)))⟩

end Go.Proofs.Ytghaiplhakeahaa
