/- talk: what an operation makes of a Talker and of the reference's one; the contract of the law's do. -/
import Derived.Test.YtgjodjkmefdilaaTdt
namespace Go.Proofs.Ytgjodjkmefdilaa
set_option linter.unusedSimpArgs false
set_option linter.unusedVariables false
open Go.RowKit

/-- An operation, as the law reads it. -/
structure OpD where
  kd : Int
  m : List UInt8
  nw : Int
  fi : Int
  ms : List (List UInt8)
  he : Int
def doR (R : RS) (o : OpD) : RS :=
  match cutN o.kd 4 with
  | 0 => rSay R o.m
  | 1 => if rDue R (cutN o.nw 1099511627776) then rTick R (cutN o.nw 1099511627776) else R
  | 2 => rHearD R o.fi (o.ms.take 70) o.he
  | _ => rGot R
def doT (T : TS) (o : OpD) : TS :=
  match cutN o.kd 4 with
  | 0 => sayT T o.m
  | 1 => if dueT T (cutN o.nw 1099511627776) then tickT T (cutN o.nw 1099511627776) else T
  | 2 => hearD T o.fi (o.ms.take 70) o.he
  | _ => gotT T
theorem Rel.hearD_ {T : TS} {R : RS} (h : Rel T R) (fi : Int) (ms : List (List UInt8)) (he : Int) : Rel (hearD T fi ms he) (rHearD R fi ms he) := by
  unfold hearD rHearD
  rw [h.right]
  cases hb : rRight R fi ms he with
  | false => simpa using h
  | true =>
    simp only [Bool.true_eq_false, if_false]
    obtain ⟨f, g, rfl, rfl, h3, -, -⟩ := rRight_out hb
    exact h.hear f ms g h3
theorem Rel.step {T : TS} {R : RS} (h : Rel T R) (o : OpD) : Rel (doT T o) (doR R o) := by
  unfold doT doR
  rw [h.due]
  split
  · exact (h.say o.m).2
  · split
    · exact h.tick _
    · exact h
  · exact h.hearD_ _ _ _
  · exact h.gotten
theorem hearD_ok {b : Nat} {T : TS} (h : TW b T) (fi : Int) (ms : List (List UInt8)) (he : Int) : TW (b + 64) (hearD T fi ms he) := by
  unfold hearD
  cases hb : rightT T fi ms he with
  | false => simpa using h.mono (by omega)
  | true =>
    simp only [Bool.true_eq_false, if_false]
    obtain ⟨f, g, rfl, rfl, h3, h4, h5⟩ := rightT_out hb
    exact h.afterHear f ms g h3 h4 h5
theorem TW.step {b : Nat} {T : TS} (h : TW b T) (o : OpD) : TW (b + 64) (doT T o) := by
  unfold doT
  split
  · exact (h.say o.m).mono (by omega)
  · split
    · exact (h.tick _ (by have : cutN o.nw 1099511627776 < 1099511627776 := Nat.mod_lt _ (by omega); omega)).mono (by omega)
    · exact h.mono (by omega)
  · exact hearD_ok h _ _ _
  · exact h.gotten.mono (by omega)
/-- What a Talker tells of the reference's one. -/
theorem Rel.rw {b : Nat} {T : TS} {R : RS} (h : Rel T R) (hW : TW b T) (hb : b ≤ 1000000) : RW 1000000 R := by
  have h1 := hW.said; have h2 := h.said; have h3 := hW.heard; have h4 := h.heard; have h5 := hW.most; have h6 := h.most; have h7 := hW.again; have h8 := h.again; have h9 := hW.last; have h10 := h.last
  exact ⟨by omega, by omega, by omega, h.le, h.out, by omega, h.gave, by omega⟩

section
variable {w w0 : World} {C X : List Blk} {p : Nat} {T T' : TS} {R R' : RS} {vs vt : Value}
/-- do, of whatever operation. -/
theorem do_to (kd nw fi he : Int) (vm vl : Value) (m : List UInt8) (ms : List (List UInt8)) (h : S1 w w0 C X p T) (hM : RM w0 X R vs vt) (hR : RW 1000000 R) (hW : TW 1000000 T) (hr : Rel T R) (hm : Msg w0 X vm m) (hms : MsgL w0 X vl ms) (hmsn : ms.length ≤ 9223372036854775807) (hfi : fi ≤ 9223372036854775807) (hT' : doT T ⟨kd, m, nw, fi, ms, he⟩ = T') (hR' : doR R ⟨kd, m, nw, fi, ms, he⟩ = R') :
    Calls Try.prog 14 #[ptr p, .agg (rcs R vs vt), .agg #[.int .i64 kd, vm, .int .i64 nw, .int .i64 fi, vl, .int .i64 he]] w fun e w' => ∃ vs' vt' X', e = .returned (.tuple #[.agg (rcs R' vs' vt'), .bool true]) ∧ Sub X X' ∧ S1 w' w0 C X' p T' ∧ RM w0 X' R' vs' vt' := by
  obtain ⟨a1, c1, rfl⟩ := hM.1.slice
  obtain ⟨a2, c2, rfl⟩ := hM.2.slice
  obtain ⟨am, cm, rfl⟩ := hm.slice
  obtain ⟨al, cl, rfl⟩ := hms.slice
  have hk : cutN kd 4 < 4 := Nat.mod_lt _ (by omega)
  unfold doT at hT'
  unfold doR at hR'
  simp only at hT' hR'
  rcases (by omega : cutN kd 4 = 0 ∨ cutN kd 4 = 1 ∨ cutN kd 4 = 2 ∨ cutN kd 4 = 3) with hk | hk | hk | hk
  · rw [hk] at hT' hR'
    exact do_say kd nw fi he hk am al cm cl m ms h hM hR hW hr hm hms hmsn hfi hR' hT'
  · rw [hk] at hT' hR'
    simp only [hr.due] at hT' hR'
    cases hd : rDue R (cutN nw 1099511627776) with
    | true =>
      simp only [hd, if_true] at hT' hR'
      exact do_tickYes kd nw fi he hk am al cm cl m ms h hM hR hW hr hm hms hmsn hfi _ rfl hd hR' hT'
    | false =>
      simp only [hd, Bool.false_eq_true, if_false] at hT' hR'
      subst hT' hR'
      exact do_tickNo kd nw fi he hk am al cm cl m ms h hM hR hW hr hm hms hmsn hfi _ rfl hd
  · rw [hk] at hT' hR'
    exact do_hear kd nw fi he hk am al cm cl m ms h hM hR hW hr hm hms hmsn hfi _ rfl hR' hT'
  · rw [hk] at hT' hR'
    exact do_got kd nw fi he hk am al cm cl m ms h hM hR hW hr hm hms hmsn hfi hR' hT'
end

end Go.Proofs.Ytgjodjkmefdilaa
