/- Contracts of a state's methods whole, end, bytes; of hash.Of, hash.Word. -/
import Derived.Test.YtghaiplhakeahaaBt
import Derived.Test.YtghaiplhakeahaaEqd
import Derived.Deep.RegionLaw
import Derived.Laws.CopyRow
import Derived.Laws.CopyOwn
namespace Go.Proofs.Ytghaiplhakeahaa
set_option linter.unusedSimpArgs false
set_option linter.unusedVariables false
open Go.RowKit

theorem nat_div8 (n : Nat) : ((n : Int) / 8) = ((n / 8 : Nat) : Int) := by omega

set_option maxRecDepth 100000 in
set_option maxHeartbeats 1000000 in
theorem whole_any (s : St) (b o : Nat) (v : Value) (l : List UInt8) (w : World) (hv : BSl w v l) (hl : l.length ≤ 1000000000) (hs : HasSt w b o s)
    (hne : ∀ bs os n c, v = .slice (some ⟨bs, os, none⟩) n c → 8 ≤ n → bs ≠ b) :
    Calls Try.prog 108 #[.pointer (some ⟨b, o, none⟩), v] w fun e w' => e = .returned (.tuple #[]) ∧ ∃ g d, w' = plus (putSt w b o (wholeF s l (l.length / 8))) g d := by
  obtain ⟨ao, cap, rfl, h1, h2, h3⟩ := hv.open_
  have hS := Lib.hid hs
  have H3 := Lib.hid h3
  have HNE := Lib.hid hne
  have hsame := hs.same
  have HSAME := Lib.hid hsame
  clear hsame hs h3 hne h2
  obtain ⟨q, hq⟩ : ∃ q : Nat, ((l.length : Int) / 8) = q ∧ q = l.length / 8 := ⟨l.length / 8, by omega, rfl⟩
  obtain ⟨hq1, hq2⟩ := hq
  have hq3 : 8 * q ≤ l.length := by omega
  have HQ := Lib.hid hq2
  clear hq2
  go_enter Try.func108, Try.ntmps108
  go_wp2
  go_loopw [8] (fun i wr => ∃ (k : Nat) (g : Array Obj) (d : Nat), k ≤ q ∧ i = .int .i64 k ∧ wr = plus (putSt w b o (wholeF s l k)) g d) (fun i _ => q - (intOf i).toNat)
  case atStart => exact ⟨0, #[], w.drawn, by omega, rfl, by show w = plus (putSt w b o s) #[] w.drawn; rw [HSAME.out]; exact plus_self _⟩
  case round =>
    obtain ⟨k, g, d, hk, rfl, rfl⟩ := hrel
    by_cases hlt : k < q
    · obtain ⟨bs, os, rfl, hbs, hc⟩ : ∃ bs os, ao = some ⟨bs, os, none⟩ ∧ bs < w.heap.size ∧ ∀ i, i < l.length → w.cell? ⟨bs, os + i, none⟩ = some (.int .u8 ((l.getD i 0).toNat : Int)) := by
        rcases H3.out with rfl | h
        · simp at hq3; omega
        · exact h
      have hne := HNE.out bs os l.length cap rfl (by omega)
      obtain ⟨W1, HW1⟩ : ∃ W1, Hid (putSt w b o (wholeF s l k) = W1) := ⟨_, rfl⟩
      obtain ⟨t, HT⟩ : ∃ t, Hid (wholeF s l k = t) := ⟨_, rfl⟩
      obtain ⟨x, HX⟩ : ∃ x, Hid (wordAt l k = x) := ⟨_, rfl⟩
      have HN : Hid (wholeF s l (k + 1) = takeF t x) := by show takeF (wholeF s l k) (wordAt l k) = _; rw [HT.out, HX.out]
      have hst1 : HasSt W1 b o t := by rw [← HW1.out, ← HT.out]; exact hS.out.put _
      have hcell : ∀ j, j < 8 → W1.cell? ⟨bs, os + k * 8 + j, none⟩ = some (.int .u8 (by8 x j)) := fun j hj => by
        rw [← HW1.out, putSt_far _ _ (by exact hne), ← HX.out, by8_wordAt _ _ _ hj, Nat.add_assoc, Nat.mul_comm k 8]
        exact hc _ (by omega)
      have c0 := hcell 0 (by omega)
      have c1 := hcell 1 (by omega)
      have c2 := hcell 2 (by omega)
      have c3 := hcell 3 (by omega)
      have c4 := hcell 4 (by omega)
      have c5 := hcell 5 (by omega)
      have c6 := hcell 6 (by omega)
      have c7 := hcell 7 (by omega)
      rw [Nat.add_zero] at c0
      have hbs1 : bs < W1.heap.size := cell_lt c0
      have HS1 := Lib.hid hst1
      have hb1 := hst1.lt
      have hsl := fun W => Lib.run_slice_window (P := Try.prog) W 26 5 Try.underlying26 size_u8 bs os l.length cap (k * 8) (k * 8 + 8) (by omega) (by omega)
      have e8 : k * 8 + 8 - k * 8 = 8 := by omega
      have h8 : ((8 : Nat) : Int) = 8 := rfl
      simp only [e8, Int.natCast_mul, Int.natCast_add, h8] at hsl
      have hat := fun W => run_arrayAt (P := Try.prog) W 27 5 8 (some ⟨bs, os + k * 8, none⟩) 8 (cap - k * 8) Try.underlying27 (by omega)
      rw [HW1.out]
      clear hcell hst1 hc
      go_wp2_with (first
        | (go_at_call 90; refine (num_any _ _).mono ?_; rintro e w1 ⟨rfl, hb1⟩; obtain ⟨g1, d1, rfl⟩ := plus_of_below hb1; clear hb1)
        | (go_at_call 89; refine (take_any t x _ _ _ (HS1.out.plus _ _).h0 (HS1.out.plus _ _).h1 (HS1.out.plus _ _).h2 (HS1.out.plus _ _).h3 (HS1.out.plus _ _).f0 (HS1.out.plus _ _).f1 (HS1.out.plus _ _).f2 (HS1.out.plus _ _).f3).mono ?_; rintro e w3 ⟨rfl, n3, rfl⟩; rw [putSt_plus _ _ _ hb1]))
      go_roundw
      case rel => exact ⟨k + 1, _, _, by omega, by go_num, by rw [HN.out, ← HW1.out, putSt_putSt]⟩
      case measure => simp [intOf]; omega
    · obtain rfl : k = q := by omega
      go_wp2
      go_end0
      exact ⟨rfl, g, d, by rw [← HQ.out]⟩

end Go.Proofs.Ytghaiplhakeahaa
