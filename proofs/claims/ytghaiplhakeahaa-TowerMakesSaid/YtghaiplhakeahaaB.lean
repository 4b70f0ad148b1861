/- Contracts of a state's methods. -/
import Derived.Test.YtghaiplhakeahaaA
import Derived.Deep.QuietTactic
import Derived.BigQuiet
namespace Go.Proofs.Ytghaiplhakeahaa
set_option linter.unusedSimpArgs false
set_option linter.unusedVariables false
open Go.RowKit

set_option maxRecDepth 100000 in
set_option maxHeartbeats 1000000 in
theorem stir_any (s : St) (b o : Nat) (w : World)
    (h0 : w.cell? ⟨b, o, none⟩ = some (.int .u64 (nv s.a))) (h1 : w.cell? ⟨b, o + 1, none⟩ = some (.int .u64 (nv s.b)))
    (h2 : w.cell? ⟨b, o + 2, none⟩ = some (.int .u64 (nv s.c))) (h3 : w.cell? ⟨b, o + 3, none⟩ = some (.int .u64 (nv s.d)))
    (f0 : w.frozen? ⟨b, o, none⟩ = false) (f1 : w.frozen? ⟨b, o + 1, none⟩ = false) (f2 : w.frozen? ⟨b, o + 2, none⟩ = false) (f3 : w.frozen? ⟨b, o + 3, none⟩ = false) :
    Calls Try.prog 107 #[.pointer (some ⟨b, o, none⟩)] w fun e w' => e = .returned (.tuple #[]) ∧
      ∃ n, w' = (putSt w b o (stirF s)).drewN n := by
  go_enter Try.func107, Try.ntmps107
  go_wp2
  go_quiet (fail)
  go_wp2
  go_loop [2, 3, 4, 5, 23] (fun a b c d i => ∃ k : Nat, k ≤ 6 ∧ i = .int .u64 k ∧ a = .int .u64 (nv (stirN k s).a) ∧ b = .int .u64 (nv (stirN k s).b) ∧ c = .int .u64 (nv (stirN k s).c) ∧ d = .int .u64 (nv (stirN k s).d))
    (fun _ _ _ _ i => 6 - (intOf i).toNat)
  case atStart => exact ⟨0, by omega, rfl, rfl, rfl, rfl, rfl⟩
  case round =>
    obtain ⟨k, hk, rfl, rfl, rfl, rfl, rfl⟩ := hrel
    have HN : Hid (stirN (k + 1) s = mixR (BitVec.ofNat 64 (k + 1)) (stirN k s)) := rfl
    by_cases hlt : k < 6
    · have hxk := bits_xor_k k hlt
      generalize stirN k s = t at HN
      go_wp2_with (first | (go_at_call 113; with_reducible refine (rot32_any _ _).mono ?_; rintro e w' ⟨rfl, rfl⟩) | (go_at_call 113; with_reducible refine (rot24_any _ _).mono ?_; rintro e w' ⟨rfl, rfl⟩) | (go_at_call 113; with_reducible refine (rot16_any _ _).mono ?_; rintro e w' ⟨rfl, rfl⟩) | (go_at_call 113; with_reducible refine (rot63_any _ _).mono ?_; rintro e w' ⟨rfl, rfl⟩))
      go_round
      case rel => exact ⟨k + 1, by omega, by go_num, by rw [HN.out]; rfl, by rw [HN.out]; rfl, by rw [HN.out]; rfl, by rw [HN.out]; rfl⟩
      case measure => simp [intOf]; omega
    · obtain rfl : k = 6 := by omega
      clear HN hlt hk
      go_wp2
      go_end0
      exact ⟨rfl, nq, rfl⟩

end Go.Proofs.Ytghaiplhakeahaa
