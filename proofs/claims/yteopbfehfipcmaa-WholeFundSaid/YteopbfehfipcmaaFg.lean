/- fund: the law's keys; the law's book, in plain Lean. -/
import Derived.Test.YteopbfehfipcmaaFf
namespace Go.Proofs.Yteopbfehfipcmaa
set_option linter.unusedSimpArgs false
set_option linter.unusedVariables false
open Go.RowKit Go.WideMaps Go.ChangeMaps Go.Maps

def kX (i : Nat) : BitVec 64 := BitVec.ofNat 64 (9000 + i)
def goalX : BitVec 64 := 1#64
theorem nv_kX (i : Nat) (hi : i ≤ 8) : nv (kX i) = ((9000 + i : Nat) : Int) := by
  rw [nv_eq, kX, BitVec.toNat_ofNat, Nat.mod_eq_of_lt (by omega)]
theorem nv_goal : nv goalX = 1 := by rw [nv_eq]; rfl
theorem kX_inj {i j : Nat} (hi : i ≤ 8) (hj : j ≤ 8) (h : kX i = kX j) : i = j := by
  have h1 := nv_kX i hi
  have h2 := nv_kX j hj
  rw [h] at h1
  omega
theorem kX_goal (i : Nat) (hi : i ≤ 8) : kX i ≠ goalX := by
  intro h
  have h1 := nv_kX i hi
  rw [h, nv_goal] at h1
  omega
set_option maxRecDepth 100000 in
theorem key_to (i : Nat) (hi : i ≤ 8) (w : World) : Calls Try.prog 4 #[.int .i64 i] w fun e w' => e = .returned (.agg #[.int .u8 (by8 (kX i) 0), .int .u8 (by8 (kX i) 1), .int .u8 (by8 (kX i) 2), .int .u8 (by8 (kX i) 3), .int .u8 (by8 (kX i) 4), .int .u8 (by8 (kX i) 5), .int .u8 (by8 (kX i) 6), .int .u8 (by8 (kX i) 7)]) ∧ Below w.heap.size w w' := by
  obtain ⟨x, hx⟩ : ∃ x, kX i = x := ⟨_, rfl⟩
  have hn := nv_kX i hi
  rw [hx] at hn ⊢
  have hnn : ((9000 + i : Nat) : Int) = (9000 : Int) + (i : Int) := by omega
  have T := fun W => fromNum_lit x ((9000 : Int) + (i : Int)) (by rw [hn, hnn]) W
  clear hx hn hnn
  go_enter Try.func4, Try.ntmps4
  go_wp2_with fail
  refine (T _).mono ?_
  rintro e w1 ⟨rfl, hb1⟩; obtain ⟨g1, d1, rfl⟩ := plus_of_below hb1; clear hb1
  go_wp2
  refine bodyPost_ret (v := .agg #[.int .u8 (by8 x 0), .int .u8 (by8 x 1), .int .u8 (by8 x 2), .int .u8 (by8 x 3), .int .u8 (by8 x 4), .int .u8 (by8 x 5), .int .u8 (by8 x 6), .int .u8 (by8 x 7)]) (by simp [results, Try.results4, go_sem]) rfl ⟨rfl, by (repeat' (first | (with_reducible exact Below.refl _ _) | (with_reducible refine bplus ?_ _ _) | (with_reducible refine balloc ?_ _) | (with_reducible refine Below.drew ?_) | (with_reducible refine bdrewN ?_ _) | (with_reducible refine Below.setCell ?_ (by go_size) _)))⟩

/-! ### What the law's book holds -/
def find1 (n : Nat) (x : BitVec 64) : Option Nat := (List.range n).find? fun i => kX i == x
theorem find1_key (n : Nat) (hn : n ≤ 8) (i : Nat) (hi : i < n) : find1 n (kX i) = some i := by
  unfold find1
  rw [List.find?_eq_some_iff_getElem]
  refine ⟨by simp, i, by simpa using hi, by simp, fun j hj => ?_⟩
  simp only [List.getElem_range]
  have : kX j ≠ kX i := fun h => by
    have := kX_inj (by omega) (by omega) h
    omega
  simpa using this
theorem find1_some {n : Nat} {x : BitVec 64} {i : Nat} (h : find1 n x = some i) : i < n ∧ kX i = x := by
  unfold find1 at h
  have h1 := List.mem_of_find?_eq_some h
  have h2 := List.find?_some h
  exact ⟨by simpa using h1, by simpa using h2⟩
/-- The book of a fund: each has 500, less what it laid; the goal has the rest. -/
def bookM (F : FU) : BitVec 64 → Int := fun x => if x = goalX then heldS F F.n else match find1 F.n x with | some i => 500 - givE F i | none => 0
section
variable {F : FU} (h8 : F.n ≤ 8)
include h8
theorem bookM_key (i : Nat) (hi : i < F.n) : bookM F (kX i) = 500 - givE F i := by
  unfold bookM
  rw [if_neg (kX_goal i (by omega)), find1_key F.n h8 i hi]
theorem bookM_goal : bookM F goalX = heldS F F.n := by
  have _ := h8
  unfold bookM
  rw [if_pos rfl]
theorem bookM_none (x : BitVec 64) (hg : x ≠ goalX) (hk : ∀ i, i < F.n → kX i ≠ x) : bookM F x = 0 := by
  have _ := h8
  unfold bookM
  rw [if_neg hg]
  cases h : find1 F.n x with
  | none => rfl
  | some i => exact absurd (find1_some h).2 (hk i (find1_some h).1)
end
theorem givE_lay (F : FU) (k i : Nat) (b : Bool) : givE (F.lay k b) i = if i = k then (if b = true then F.st i else 0) else givE F i := by
  unfold givE FU.lay
  by_cases h : i = k
  · simp [h]
  · simp [h]
theorem heldS_lay (F : FU) (k : Nat) (b : Bool) : ∀ m, heldS (F.lay k b) m = if k < m then heldS F m - givE F k + (if b = true then F.st k else 0) else heldS F m
  | 0 => by simp [heldS]
  | m + 1 => by
    rw [heldS_succ, heldS_succ, heldS_lay F k b m, givE_lay]
    by_cases h1 : k < m
    · rw [if_pos h1, if_neg (show ¬ m = k by omega), if_pos (show k < m + 1 by omega)]; omega
    · rw [if_neg h1]
      by_cases h2 : m = k
      · subst h2; rw [if_pos rfl, if_pos (show m < m + 1 by omega)]; omega
      · rw [if_neg h2, if_neg (show ¬ k < m + 1 by omega)]
theorem lay_n (F : FU) (k : Nat) (b : Bool) : (F.lay k b).n = F.n := rfl
theorem lay_st (F : FU) (k : Nat) (b : Bool) : (F.lay k b).st = F.st := rfl
/-- A seat lays, or takes back. -/
theorem bookM_lay (F : FU) (h8 : F.n ≤ 8) (k : Nat) (hk : k < F.n) (b : Bool) (x : BitVec 64) : bookM (F.lay k b) x = if x = kX k then 500 - (if b = true then F.st k else 0) else if x = goalX then heldS F F.n - givE F k + (if b = true then F.st k else 0) else bookM F x := by
  by_cases hx : x = kX k
  · rw [if_pos hx, hx, bookM_key (F := F.lay k b) h8 k hk, givE_lay, if_pos rfl]
  · rw [if_neg hx]
    by_cases hg : x = goalX
    · rw [if_pos hg, hg, bookM_goal (F := F.lay k b) h8, lay_n, heldS_lay, if_pos hk]
    · rw [if_neg hg]
      unfold bookM
      rw [if_neg hg, if_neg hg, lay_n]
      cases h : find1 F.n x with
      | none => rfl
      | some i =>
        have hi := (find1_some h).2
        have hik : i ≠ k := fun e => hx (by rw [← hi, e])
        simp only
        rw [givE_lay, if_neg hik]
theorem move_lay (F : FU) (h8 : F.n ≤ 8) (k : Nat) (hk : k < F.n) (hl : F.ld k = false) : updM (updM (bookM F) (kX k) (bookM F (kX k) - F.st k)) goalX (bookM F goalX + F.st k) = bookM (F.lay k true) := by
  have hg0 : givE F k = 0 := by unfold givE; rw [if_neg (by rw [hl]; simp)]
  funext x
  rw [bookM_lay F h8 k hk true x, bookM_key h8 k hk, bookM_goal h8, hg0]
  unfold updM
  have hne := kX_goal k (by omega)
  by_cases h1 : x = goalX
  · subst h1
    rw [if_pos rfl, if_neg (fun e => hne e.symm), if_pos rfl, if_pos rfl]; omega
  · rw [if_neg h1]
    by_cases h2 : x = kX k
    · rw [if_pos h2, if_pos h2, if_pos rfl]; omega
    · rw [if_neg h2, if_neg h2, if_neg h1]
theorem move_back (F : FU) (h8 : F.n ≤ 8) (k : Nat) (hk : k < F.n) (hl : F.ld k = true) : updM (updM (bookM F) goalX (bookM F goalX - F.st k)) (kX k) (bookM F (kX k) + F.st k) = bookM (F.lay k false) := by
  have hg0 : givE F k = F.st k := by unfold givE; rw [if_pos hl]
  funext x
  rw [bookM_lay F h8 k hk false x, bookM_key h8 k hk, bookM_goal h8, hg0]
  unfold updM
  by_cases h2 : x = kX k
  · rw [if_pos h2, if_pos h2, if_neg (by simp)]; omega
  · rw [if_neg h2, if_neg h2]
    by_cases h1 : x = goalX
    · rw [if_pos h1, if_pos h1, if_neg (by simp)]; omega
    · rw [if_neg h1, if_neg h1]
/-- What always holds of the law's fund. -/
structure FOk (F : FU) : Prop where
  two : 2 ≤ F.n
  five : F.n ≤ 5
  st : ∀ k, k < F.n → 1 ≤ F.st k ∧ F.st k ≤ 256
  rest : ∀ k, F.n ≤ k → F.ld k = false
theorem FOk.lay {F : FU} (h : FOk F) {k : Nat} (hk : k < F.n) (b : Bool) : FOk (F.lay k b) :=
  ⟨h.two, h.five, h.st, fun i hi => by
    have hi' : F.n ≤ i := hi
    show (if i = k then b else F.ld i) = false
    rw [if_neg (by omega)]; exact h.rest i hi'⟩
theorem FOk.giv {F : FU} (h : FOk F) (k : Nat) (hk : k < F.n) : 0 ≤ givE F k ∧ givE F k ≤ 256 := by
  unfold givE
  have := h.st k hk
  split <;> omega
theorem held_bd {F : FU} (h : FOk F) : ∀ m, m ≤ F.n → 0 ≤ heldS F m ∧ heldS F m ≤ 256 * m
  | 0, _ => by simp [heldS]
  | m + 1, hm => by
    have h1 := held_bd h m (by omega)
    have h2 := h.giv m (by omega)
    rw [heldS_succ]
    omega
theorem FOk.full_iff {F : FU} (h : FOk F) : fullB F = true ↔ ∀ k, k < F.n → F.ld k = true := by
  unfold fullB
  rw [List.all_eq_true]
  constructor
  · intro a k hk
    have := a k (List.mem_range.2 (by have := h.five; omega))
    rw [beq_iff_eq, decide_eq_true hk] at this
    exact this
  · intro a k _
    rw [beq_iff_eq]
    by_cases hk : k < F.n
    · rw [a k hk, decide_eq_true hk]
    · rw [h.rest k (by omega), decide_eq_false hk]
/-- The first m seats took back. -/
def clearF (F : FU) (m : Nat) : FU := { F with ld := fun i => if i < m then false else F.ld i }
theorem clearF_zero (F : FU) : clearF F 0 = F := by
  unfold clearF
  simp
theorem clearF_succ (F : FU) (m : Nat) : (clearF F m).lay m false = clearF F (m + 1) := by
  unfold clearF FU.lay
  congr 1
  funext i
  simp only
  by_cases h1 : i = m
  · rw [if_pos h1, if_pos (by omega)]
  · rw [if_neg h1]
    by_cases h2 : i < m
    · rw [if_pos h2, if_pos (by omega)]
    · rw [if_neg h2, if_neg (by omega)]
theorem clearF_skip (F : FU) (m : Nat) (h : F.ld m = false) : clearF F m = clearF F (m + 1) := by
  unfold clearF
  congr 1
  funext i
  by_cases h2 : i < m
  · rw [if_pos h2, if_pos (by omega)]
  · rw [if_neg h2]
    by_cases h1 : i = m
    · subst h1; rw [if_pos (by omega), h]
    · rw [if_neg (by omega)]
theorem clearF_ok {F : FU} (h : FOk F) (m : Nat) : FOk (clearF F m) :=
  ⟨h.two, h.five, h.st, fun i hi => by
    have hi' : F.n ≤ i := hi
    show (if i < m then false else F.ld i) = false
    rw [h.rest i hi']; split <;> rfl⟩
theorem clearF_full {F : FU} (h : FOk F) (hf : fullB F = false) (m : Nat) : fullB (clearF F m) = false := by
  rw [← Bool.not_eq_true, (clearF_ok h m).full_iff]
  intro a
  have : fullB F = true := by
    rw [h.full_iff]
    intro k hk
    have h1 : (if k < m then false else F.ld k) = true := a k hk
    by_cases h2 : k < m
    · rw [if_pos h2] at h1; cases h1
    · rw [if_neg h2] at h1; exact h1
  rw [this] at hf
  cases hf
theorem clearF_all {F : FU} (h8 : F.n ≤ 8) (k : Nat) (hk : k < F.n) : bookM (clearF F F.n) (kX k) = 500 := by
  have h : bookM (clearF F F.n) (kX k) = 500 - givE (clearF F F.n) k := bookM_key (F := clearF F F.n) h8 k hk
  have hl : (clearF F F.n).ld k = false := by
    show (if k < F.n then false else F.ld k) = false
    rw [if_pos hk]
  rw [h]
  unfold givE
  rw [if_neg (by rw [hl]; simp)]
  rfl

end Go.Proofs.Yteopbfehfipcmaa
