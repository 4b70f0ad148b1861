/- chance: facts for the laws. -/
import Derived.Test.YtmfogedagepcgaaCb
import Derived.Test.YtmfogedagepcgaaK
namespace Go.Proofs.Ytmfogedagepcgaa
set_option linter.unusedSimpArgs false
set_option linter.unusedVariables false
open Go.RowKit

/-- A fact on the world where the walk stands. -/
theorem wp_fact {P : Program} {c : Code} {Q : Exit → Act → World → Prop} {a : Act} {W : World} (S : World → Prop) (h : S W) (k : S W → c.wp P Q a W) : c.wp P Q a W := k h
theorem K_fact {K : Act → World → Prop} {a : Act} {W : World} (S : World → Prop) (h : S W) (k : S W → K a W) : K a W := k h
theorem calls_opq {P : Program} {f : FuncId} {args : Array Value} {Q : Ending → World → Prop} {W : World} (S : World → Prop) (h : S W) (k : ∀ W', S W' → Calls P f args W' Q) : Calls P f args W Q := k W h
theorem wp_opq {P : Program} {c : Code} {Q : Exit → Act → World → Prop} {a : Act} {W : World} (S : World → Prop) (h : S W) (k : ∀ W', S W' → c.wp P Q a W') : c.wp P Q a W := k W h
theorem left_b (s : BitVec 64) (b n k : Nat) (w : World) (hb : HasBlk w b 122 #[.int .u8 (by8 s 0), .int .u8 (by8 s 1), .int .u8 (by8 s 2), .int .u8 (by8 s 3), .int .u8 (by8 s 4), .int .u8 (by8 s 5), .int .u8 (by8 s 6), .int .u8 (by8 s 7), .int .i64 n, .int .i64 k]) :
    Calls Try.prog 63 #[.pointer (some ⟨b, 0, none⟩)] w fun e w' => e = .returned (.int .i64 k) ∧ Below w.heap.size w w' :=
  (left_to s b n k w hb).mono fun _ _ h => ⟨h.1, by rw [h.2]; exact Below.refl _ _⟩
theorem show_mem (s : BitVec 64) (b n k : Nat) (hk : k + 1 ≤ 4096) (z : BitVec 64) (hz : chainF s k = z) (w w0 : World) (B L : List Blk) (M : Mem w w0 (B ++ ⟨b, 122, #[.int .u8 (by8 s 0), .int .u8 (by8 s 1), .int .u8 (by8 s 2), .int .u8 (by8 s 3), .int .u8 (by8 s 4), .int .u8 (by8 s 5), .int .u8 (by8 s 6), .int .u8 (by8 s 7), .int .i64 n, .int .i64 (k + 1 : Nat)]⟩ :: L)) :
    Calls Try.prog 56 #[.pointer (some ⟨b, 0, none⟩)] w fun e w' => e = .returned (.tuple #[.agg #[.int .u8 (by8 z 0), .int .u8 (by8 z 1), .int .u8 (by8 z 2), .int .u8 (by8 z 3), .int .u8 (by8 z 4), .int .u8 (by8 z 5), .int .u8 (by8 z 6), .int .u8 (by8 z 7)], .int .i64 0]) ∧ Mem w' w0 (B ++ ⟨b, 122, #[.int .u8 (by8 s 0), .int .u8 (by8 s 1), .int .u8 (by8 s 2), .int .u8 (by8 s 3), .int .u8 (by8 s 4), .int .u8 (by8 s 5), .int .u8 (by8 s 6), .int .u8 (by8 s 7), .int .i64 n, .int .i64 k]⟩ :: L) := by
  refine (show_to s b n k hk z hz w (show HasBlk w b _ _ from M.blk0)).mono ?_
  rintro e w' ⟨rfl, g, d, rfl⟩
  exact ⟨rfl, (M.set0 9 (.int .i64 k)).plus g d⟩
@[go_sem] theorem eqd_zero (w : World) : (Op.equalIn 10000 44 (.agg #[.int .u8 0, .int .u8 0, .int .u8 0, .int .u8 0, .int .u8 0, .int .u8 0, .int .u8 0, .int .u8 0]) (.agg #[.int .u8 0, .int .u8 0, .int .u8 0, .int .u8 0, .int .u8 0, .int .u8 0, .int .u8 0, .int .u8 0])).run Try.prog w = .ok true w := by
  have h := eqd_dig 0#64 0#64 w
  rw [dgc_zero] at h
  simpa using h
theorem ans_yes (s t : BitVec 64) (n j : Nat) (hj : j < n) (h : oneF (chainF s j) = t) : hasF s t n = true ∧ oneF (fndF s t n) = t := by
  induction n with
  | zero => omega
  | succ n ih =>
    by_cases e : oneF (chainF s n) = t
    · have h1 := ans_hit s t n e
      exact ⟨h1.1, by rw [h1.2]; exact e⟩
    · have h1 := ans_miss s t n e
      have hjn : j ≠ n := fun q => e (by rw [← q]; exact h)
      have h2 := ih (by omega)
      exact ⟨h1.1.trans h2.1, by rw [h1.2]; exact h2.2⟩

end Go.Proofs.Ytmfogedagepcgaa
