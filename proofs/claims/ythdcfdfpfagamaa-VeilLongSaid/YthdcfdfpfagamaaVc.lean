/- baizelaw08: what the laws VeilTurned, VeilOwn, VeilLengths, VeilLong need; VeilTurned's walk. -/
import Derived.Test.YthdcfdfpfagamaaVb
namespace Go.Proofs.Ythdcfdfpfagamaa
set_option linter.unusedSimpArgs false
set_option linter.unusedVariables false
open Go.RowKit

/-- An answer's block, beside the call's other blocks. -/
theorem Ans.mem {base : Nat} {l : List UInt8} {u : Value} {W w0 : World} {L : List Blk} (A : Ans base l u W) (M : Mem W w0 L) (hL : ∀ y ∈ L, y.no < base) (h0 : w0.heap.size ≤ base) :
    ∃ ao cap S, u = .slice ao l.length cap ∧ (l.length ≤ cap ∧ (ao = none → cap = 0)) ∧ Bys ao l S ∧ New w0 S ∧ (∀ y ∈ S, base ≤ y.no) ∧ Mem W w0 (S ++ L) := by
  obtain ⟨ao, cap, S, rfl, h1, hB, hS⟩ := A
  refine ⟨ao, cap, S, rfl, h1, hB, fun y hy => Nat.le_trans h0 (hS y hy).1, fun y hy => (hS y hy).1, ?_⟩
  refine ⟨M.os, M.tape, M.output, M.size, fun j hj hy => M.old j hj fun y hm => hy y (List.mem_append_right _ hm), List.pairwise_append.2 ⟨by rcases hB with ⟨-, rfl⟩ | ⟨r, t, cur, -, rfl, -⟩ <;> simp, M.apart, fun y hy z hz => ?_⟩, fun y hy => ?_⟩
  · have := (hS y hy).1
    have := hL z hz
    omega
  · rcases List.mem_append.1 hy with hy | hy
    · exact (hS y hy).2
    · exact M.has y hy
theorem bsl_block {W : World} {r cap : Nat} {t : TypeId} {cur : Array Value} {l : List UInt8} (h : HasBlk W r t cur) (hl : l.length ≤ cap) (hc : ∀ j, j < l.length → cur[j]? = some (.int .u8 ((l.getD j 0).toNat : Int))) : BSl W (.slice (some ⟨r, 0, none⟩) l.length cap) l :=
  ⟨_, cap, rfl, ⟨hl, fun h => by cases h⟩, .inr ⟨r, 0, rfl, h.lt, fun i hi => by rw [Nat.zero_add, h.cell]; exact hc i hi⟩⟩
theorem few_len (l : List UInt8) : (l.take 300).length = min 300 l.length := List.length_take
set_option maxRecDepth 100000 in
theorem few_eq (ao : Option Addr) (cap : Nat) (l x : List UInt8) (hx : l.take 300 = x) (hc : l.length ≤ cap) (w : World) :
    Calls Try.prog 34 #[.slice ao l.length cap] w fun e w' => e = .returned (.slice ao x.length cap) ∧ w' = w := by
  have hxl : x.length = min 300 l.length := by rw [← hx]; exact few_len l
  by_cases h : l.length ≤ 300
  · have e1 : min (l.length : Int) 300 = (l.length : Int) := by omega
    rw [hxl, Nat.min_eq_right h]
    go_enter Try.func34, Try.ntmps34
    go_wp2
    go_ret
    exact ⟨rfl, rfl⟩
  · have e1 : min (l.length : Int) 300 = 300 := by omega
    rw [hxl, Nat.min_eq_left (by omega)]
    go_enter Try.func34, Try.ntmps34
    go_wp2
    go_ret
    exact ⟨rfl, rfl⟩
theorem few_bsl {w : World} {ao : Option Addr} {cap : Nat} {l x : List UInt8} (hx : l.take 300 = x) (hv : BSl w (.slice ao l.length cap) l) : BSl w (.slice ao x.length cap) x := by
  subst hx
  rw [few_len]
  by_cases h : l.length ≤ 300
  · rw [List.take_of_length_le h, Nat.min_eq_right h]; exact hv
  · rw [Nat.min_eq_left (by omega)]; exact bsl_take hv 300 (by omega)

end Go.Proofs.Ythdcfdfpfagamaa
