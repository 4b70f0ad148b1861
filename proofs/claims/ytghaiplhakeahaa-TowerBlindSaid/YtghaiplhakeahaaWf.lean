/- tower: two towers that differ in what is in their boxes alone. Plain. -/
import Derived.Test.YtghaiplhakeahaaYw
namespace Go.Proofs.Ytghaiplhakeahaa
set_option linter.unusedSimpArgs false
set_option linter.unusedVariables false
open Go.RowKit Go.WideMaps Go.ChangeMaps Go.Maps

/-- What a tower can tell of an appointment. -/
def outA (a : AP) : BitVec 64 × Int × Nat := (a.h, a.n, a.l.length)
structure Sim (T U : TWS) : Prop where
  okT : TOk T
  okU : TOk U
  room : T.room = U.room
  all : T.all.map outA = U.all.map outA
theorem Sim.len {T U : TWS} (s : Sim T U) : T.all.length = U.all.length := by
  have := congrArg List.length s.all
  simpa using this
theorem Sim.hs {T U : TWS} (s : Sim T U) : T.all.map (·.h) = U.all.map (·.h) := by
  have := congrArg (List.map Prod.fst) s.all
  simpa [List.map_map, Function.comp_def, outA] using this
theorem Sim.get {T U : TWS} (s : Sim T U) {i : Nat} (hi : i < T.all.length) : outA (T.all.getD i default) = outA (U.all.getD i default) := by
  have h1 : (T.all.map outA)[i]? = (U.all.map outA)[i]? := by rw [s.all]
  have hu : i < U.all.length := by rw [← s.len]; exact hi
  rw [List.getElem?_map, List.getElem?_map, List.getElem?_eq_getElem hi, List.getElem?_eq_getElem hu] at h1
  rw [List.getD_eq_getElem?_getD, List.getD_eq_getElem?_getD, List.getElem?_eq_getElem hi, List.getElem?_eq_getElem hu]
  simpa using h1
theorem Sim.start (n : Nat) (h : n ≤ 4096) : Sim ⟨n, []⟩ ⟨n, []⟩ := ⟨TOk.new n h, TOk.new n h, rfl, rfl⟩
theorem Sim.hints {T U : TWS} (s : Sim T U) : hintsT T = hintsT U := s.hs
theorem Sim.size {T U : TWS} (s : Sim T U) : sizeT T = sizeT U := by
  have := congrArg (List.map fun x : BitVec 64 × Int × Nat => x.2.2) s.all
  unfold sizeT
  simp only [List.map_map, Function.comp_def, outA] at this
  rw [this]
theorem Sim.had {T U : TWS} (s : Sim T U) (x : BitVec 64) : hadT T x = hadT U x := by
  unfold hadT
  rw [idx_maph s.hs x]
theorem map_eraseIdx {α β : Type} (f : α → β) : ∀ (l : List α) (i : Nat), (l.eraseIdx i).map f = (l.map f).eraseIdx i
  | [], _ => rfl
  | a :: l, 0 => rfl
  | a :: l, i + 1 => by simp [map_eraseIdx f l i]
theorem Sim.drop {T U : TWS} (s : Sim T U) (x : BitVec 64) : Sim (dropT T x) (dropT U x) := by
  refine ⟨s.okT.drop x, s.okU.drop x, by rw [drop_room, drop_room, s.room], ?_⟩
  unfold dropT
  rw [idx_maph s.hs x]
  cases idx U.all x with
  | none => exact s.all
  | some i =>
    simp only
    rw [map_eraseIdx, map_eraseIdx, s.all]
theorem Sim.takeE {T U : TWS} (s : Sim T U) {a b : AP} (h : outA a = outA b) : takeE T a = takeE U b := by
  obtain ⟨ah, an, al⟩ := a
  obtain ⟨bh, bn, bl⟩ := b
  simp only [outA, Prod.mk.injEq] at h
  obtain ⟨rfl, rfl, hl⟩ := h
  unfold Go.Proofs.Ytghaiplhakeahaa.takeE
  simp only [hl, s.room, s.len, idx_maph s.hs]
  cases hi : idx U.all ah with
  | none => rfl
  | some i =>
    have hlt := (idx_some hi).1
    have hg := s.get (i := i) (by rw [s.len]; exact hlt)
    simp only [outA, Prod.mk.injEq] at hg
    simp only [hg.2.1]
theorem Sim.take {T U : TWS} (s : Sim T U) {a b : AP} (h : outA a = outA b) : Sim (takeT T a) (takeT U b) := by
  refine ⟨s.okT.take a, s.okU.take b, by rw [take_room, take_room, s.room], ?_⟩
  have hE := s.takeE h
  have hh : a.h = b.h := by simp only [outA, Prod.mk.injEq] at h; exact h.1
  unfold takeT
  rw [hE]
  by_cases h0 : Go.Proofs.Ytghaiplhakeahaa.takeE U b = 0
  · rw [if_pos h0, if_pos h0, hh, idx_maph s.hs]
    cases idx U.all b.h with
    | none => simp only [List.map_append, s.all, List.map_cons, List.map_nil, h]
    | some i => simp only [List.map_set, s.all, h]
  · rw [if_neg h0, if_neg h0]
    exact s.all
/-- Of two deeds that differ in what a claim holds alone, the appointments are alike from without. -/
theorem made_out (dr rw_ : Bool) (nx : BitVec 64) (m : Int) (s s' : ByteArray) (h : s.size = s'.size) : outA (madeA ⟨dr, rw_, nx, m, s⟩) = outA (madeA ⟨dr, rw_, nx, m, s'⟩) := by
  have hl : (strL s).length = (strL s').length := by rw [strL_len, strL_len, h]
  unfold madeA
  simp only
  split
  · simp [outA, hl]
  · split
    · simp only [outA, Prod.mk.injEq, true_and]
      unfold tboxF
      rw [sealF_len, sealF_len, hl]
    · rfl

end Go.Proofs.Ytghaiplhakeahaa
