/- talk: what the reference computes, and that it is what a Talker does. Plain. -/
import Derived.Test.YtgjodjkmefdilaaTx
namespace Go.Proofs.Ytgjodjkmefdilaa
set_option linter.unusedSimpArgs false
set_option linter.unusedVariables false
open Go.RowKit

structure RS where
  most : Nat
  again : Nat
  said : List (List UInt8)
  heard : Nat
  out : Nat
  took : List (List UInt8)
  gave : Nat
  last : Nat
  went : Bool
  owes : Bool
def rSayE (R : RS) (m : List UInt8) : Nat := if 4096 < m.length then 5 else if R.most ≤ R.said.length - R.heard then 8 else 0
def rSay (R : RS) (m : List UInt8) : RS := if 4096 < m.length then R else if R.most ≤ R.said.length - R.heard then R else { R with said := R.said ++ [m] }
def rDue (R : RS) (now : Nat) : Bool := decide (R.out < R.said.length) || (decide (R.heard < R.said.length) && R.went && decide (R.last + R.again ≤ now)) || R.owes
def rTick (R : RS) (now : Nat) : RS := { R with out := R.said.length, last := now, went := true, owes := false }
def rRight (R : RS) (fi : Int) (ms : List (List UInt8)) (he : Int) : Bool := decide (0 ≤ fi) && decide (0 ≤ he) && decide (ms.length ≤ 64) && decide (he ≤ R.said.length) && !longL ms
def rHear (R : RS) (fi : Nat) (ms : List (List UInt8)) (he : Nat) : RS :=
  { R with heard := max R.heard he, out := max R.out (max R.heard he), owes := R.owes || decide (0 < ms.length), took := if R.took.length < fi then R.took else R.took ++ ms.drop (R.took.length - fi) }
def rGot (R : RS) : RS := { R with gave := R.took.length }
def rAlike (R S : RS) : Bool := decide (R.most = S.most ∧ R.again = S.again ∧ R.said.length = S.said.length ∧ R.said.drop R.heard = S.said.drop S.heard ∧ R.heard = S.heard ∧ R.out = S.out ∧ R.took.length = S.took.length ∧ R.took.drop R.gave = S.took.drop S.gave ∧ R.last = S.last ∧ R.went = S.went ∧ R.owes = S.owes)

/-- A Talker T is what the document's R is. -/
structure Rel (T : TS) (R : RS) : Prop where
  most : T.most = R.most
  again : T.again = R.again
  waits : T.waits = R.said.drop R.heard
  said : T.said = R.said.length
  le : R.heard ≤ R.said.length
  gone : T.gone + R.heard = R.out
  out : R.out ≤ R.said.length
  got : T.got = R.took.drop R.gave
  gave : R.gave ≤ R.took.length
  heard : T.heard = R.took.length
  last : T.last = R.last
  went : T.went = R.went
  owes : T.owes = R.owes

section
variable {T U : TS} {R S : RS}
theorem Rel.wlen (h : Rel T R) : T.waits.length = R.said.length - R.heard := by rw [h.waits, List.length_drop]
theorem Rel.say (h : Rel T R) (m : List UInt8) : sayE T m = rSayE R m ∧ Rel (sayT T m) (rSay R m) := by
  have hw := h.wlen
  have hle := h.le
  unfold sayE rSayE sayT rSay
  rw [hw, h.most]
  by_cases h1 : 4096 < m.length
  · simp only [if_pos h1]; exact ⟨trivial, h⟩
  · simp only [if_neg h1]
    by_cases h2 : R.most ≤ R.said.length - R.heard
    · simp only [if_pos h2]; exact ⟨trivial, h⟩
    · simp only [if_neg h2]
      refine ⟨trivial, h.most ▸ rfl, h.again, ?_, ?_, ?_, h.gone, ?_, h.got, h.gave, h.heard, h.last, h.went, h.owes⟩
      · show T.waits ++ [m] = (R.said ++ [m]).drop R.heard
        rw [List.drop_append_of_le_length hle, h.waits]
      · show T.said + 1 = (R.said ++ [m]).length
        rw [h.said]; simp
      · show R.heard ≤ (R.said ++ [m]).length
        simp; omega
      · show R.out ≤ (R.said ++ [m]).length
        have := h.out
        simp; omega
theorem Rel.due (h : Rel T R) (now : Nat) : dueT T now = rDue R now := by
  have hw := h.wlen
  have hle := h.le
  have hg := h.gone
  unfold dueT rDue
  rw [hw, h.owes, h.went, h.last, h.again]
  have e1 : decide (T.gone < R.said.length - R.heard) = decide (R.out < R.said.length) := by
    rw [Bool.eq_iff_iff, decide_eq_true_iff, decide_eq_true_iff]; omega
  have e2 : decide (0 < R.said.length - R.heard) = decide (R.heard < R.said.length) := by
    rw [Bool.eq_iff_iff, decide_eq_true_iff, decide_eq_true_iff]; omega
  rw [e1, e2]
  cases R.owes <;> simp
theorem Rel.tick (h : Rel T R) (now : Nat) : Rel (tickT T now) (rTick R now) := by
  have hw := h.wlen
  have hle := h.le
  refine ⟨h.most, h.again, h.waits, h.said, h.le, ?_, Nat.le_refl _, h.got, h.gave, h.heard, rfl, rfl, rfl⟩
  show T.waits.length + R.heard = R.said.length
  omega
theorem Rel.first (h : Rel T R) : T.said - T.waits.length = R.heard := by
  have hw := h.wlen
  have hle := h.le
  rw [hw, h.said]; omega
theorem Rel.right (h : Rel T R) (fi : Int) (ms : List (List UInt8)) (he : Int) : rightT T fi ms he = rRight R fi ms he := by
  unfold rightT rRight
  rw [h.said]
  cases longL ms <;> simp
theorem Rel.gotten (h : Rel T R) : Rel (gotT T) (rGot R) := by
  refine ⟨h.most, h.again, h.waits, h.said, h.le, h.gone, h.out, ?_, Nat.le_refl _, h.heard, h.last, h.went, h.owes⟩
  show [] = R.took.drop R.took.length
  simp
theorem Rel.idle (h : Rel T R) : (T.waits.length == 0) = (R.heard == R.said.length) := by
  have hw := h.wlen
  have hle := h.le
  rw [hw, Bool.eq_iff_iff, beq_iff_eq, beq_iff_eq]; omega
theorem Rel.hear (h : Rel T R) (fi : Nat) (ms : List (List UInt8)) (he : Nat) (hhe : he ≤ R.said.length) : Rel (hearT T fi ms he) (rHear R fi ms he) := by
  have hw := h.wlen
  have hle := h.le
  have hs := h.said
  have hg := h.gone
  have ho := h.out
  have hA : hearA T he = { T with waits := R.said.drop (max R.heard he), gone := max R.out (max R.heard he) - max R.heard he } := by
    unfold hearA
    by_cases hc : T.said < he + T.waits.length
    · rw [if_pos hc]
      have e1 : max R.heard he = he := by omega
      have e2 : he + T.waits.length - T.said = he - R.heard := by omega
      have e3 : T.gone - (he - R.heard) = max R.out he - he := by omega
      rw [e1, e2, e3, h.waits, List.drop_drop, show R.heard + (he - R.heard) = he by omega]
    · rw [if_neg hc]
      have e1 : max R.heard he = R.heard := by omega
      have e3 : max R.out R.heard - R.heard = T.gone := by omega
      rw [e1, e3, ← h.waits]
  have hB : ∀ T0 : TS, hearB T0 ms = { T0 with owes := T0.owes || decide (0 < ms.length) } := by
    intro T0
    unfold hearB
    by_cases hl : 0 < ms.length
    · rw [if_pos hl]; simp [hl]
    · rw [if_neg hl]; simp [hl]
  unfold hearT
  rw [hB, hA]
  unfold rHear
  by_cases hf : T.heard < fi
  · rw [if_pos hf, if_pos (by rw [← h.heard]; exact hf)]
    exact ⟨h.most, h.again, rfl, h.said, by show max R.heard he ≤ R.said.length; omega, by show _ + max R.heard he = _; simp only; omega, by show max R.out (max R.heard he) ≤ R.said.length; omega, h.got, h.gave, h.heard, h.last, h.went, by show (T.owes || _) = _; rw [h.owes]⟩
  · rw [if_neg hf, if_neg (by rw [← h.heard]; exact hf)]
    unfold hearC
    refine ⟨h.most, h.again, rfl, h.said, by show max R.heard he ≤ R.said.length; omega, by show _ + max R.heard he = _; simp only; omega, by show max R.out (max R.heard he) ≤ R.said.length; omega, ?_, ?_, ?_, h.last, h.went, by show (T.owes || _) = _; rw [h.owes]⟩
    · show T.got ++ ms.drop (T.heard - fi) = (R.took ++ ms.drop (R.took.length - fi)).drop R.gave
      rw [List.drop_append_of_le_length h.gave, h.got, h.heard]
    · show R.gave ≤ (R.took ++ ms.drop (R.took.length - fi)).length
      have := h.gave
      simp; omega
    · show max T.heard (fi + ms.length) = (R.took ++ ms.drop (R.took.length - fi)).length
      have := h.heard
      simp; omega
theorem Rel.alike (h : Rel T R) (k : Rel U S) : sameT T U = rAlike R S := by
  have h1 := h.wlen; have h2 := h.le; have h3 := h.gone
  have k1 := k.wlen; have k2 := k.le; have k3 := k.gone
  unfold sameT rAlike
  rw [Bool.eq_iff_iff, decide_eq_true_iff, decide_eq_true_iff, h.most, k.most, h.again, k.again, h.said, k.said, h.heard, k.heard, h.last, k.last, h.went, k.went, h.owes, k.owes, h.got, k.got]
  constructor
  · rintro ⟨a1, a2, a3, a4, a5, a6, a7, a8, a9, a10⟩
    have e : T.waits.length = U.waits.length := by rw [a9]
    have e2 : R.heard = S.heard := by omega
    exact ⟨a1, a2, a4, by rw [← h.waits, ← k.waits]; exact a9, e2, by omega, a5, a10, a6, a7, a8⟩
  · rintro ⟨a1, a2, a3, a4, a5, a6, a7, a8, a9, a10, a11⟩
    exact ⟨a1, a2, by omega, a3, a7, a9, a10, a11, by rw [h.waits, k.waits]; exact a4, a8⟩
end
theorem rel_new (a b : Nat) : Rel (newT a b) ⟨a, b, [], 0, 0, [], 0, 0, false, false⟩ := by
  constructor <;> simp [newT]

end Go.Proofs.Ytgjodjkmefdilaa
