/- tower: appointments, their cells, their places. Plain; over any program. -/
import Derived.Test.YtghaiplhakeahaaMp
import Derived.WideKeyArr
import Derived.Test.YtghaiplhakeahaaGk
namespace Go.Proofs.Ytghaiplhakeahaa
set_option linter.unusedSimpArgs false
set_option linter.unusedVariables false
open Go.RowKit Go.WideMaps Go.ChangeMaps Go.Maps

/-- An appointment. -/
structure AP where
  h : BitVec 64
  n : Int
  l : List UInt8
instance : Inhabited AP := ⟨⟨0, 0, []⟩⟩
/-- Its cells. -/
noncomputable def acs (a : AP) (v : Value) : List Value := [.int .u8 (by8 a.h 0), .int .u8 (by8 a.h 1), .int .u8 (by8 a.h 2), .int .u8 (by8 a.h 3), .int .u8 (by8 a.h 4), .int .u8 (by8 a.h 5), .int .u8 (by8 a.h 6), .int .u8 (by8 a.h 7), .int .i64 a.n, v]
theorem acs_len (a : AP) (v : Value) : (acs a v).length = 10 := rfl
theorem acs_one (a : AP) (v : Value) (hv : v.oneCell' = true) : ∀ u ∈ acs a v, u.oneCell' = true := by
  intro u hu
  simp only [acs, List.mem_cons, List.not_mem_nil, or_false] at hu
  rcases hu with rfl | rfl | rfl | rfl | rfl | rfl | rfl | rfl | rfl | rfl <;> first | rfl | exact hv
/-- The cells of a row of them. -/
noncomputable def ecs : List AP → List Value → List Value
  | a :: al, v :: vs => acs a v ++ ecs al vs
  | _, _ => []
theorem ecs_len : ∀ (al : List AP) (vs : List Value), vs.length = al.length → (ecs al vs).length = al.length * 10
  | [], [], _ => rfl
  | a :: al, v :: vs, h => by
    rw [ecs, List.length_append, acs_len, ecs_len al vs (by simpa using h), List.length_cons]; omega
  | [], v :: vs, h => by simp at h
  | a :: al, [], h => by simp at h
theorem ecs_get : ∀ (al : List AP) (vs : List Value) (i j : Nat), vs.length = al.length → i < al.length → j < 10 → (ecs al vs)[i * 10 + j]? = (acs (al.getD i default) (vs.getD i undef))[j]?
  | [], [], i, j, _, hi, _ => by simp at hi
  | a :: al, v :: vs, 0, j, h, hi, hj => by
    rw [ecs, List.getElem?_append_left (by rw [acs_len]; omega)]
    simp
  | a :: al, v :: vs, i + 1, j, h, hi, hj => by
    rw [ecs, List.getElem?_append_right (by rw [acs_len]; omega), acs_len, show (i + 1) * 10 + j - 10 = i * 10 + j by omega, ecs_get al vs i j (by simpa using h) (by simpa using hi) hj]
    simp
  | [], v :: vs, _, _, h, _, _ => by simp at h
  | a :: al, [], _, _, h, _, _ => by simp at h
theorem ecs_app : ∀ (al : List AP) (vs : List Value) (bs : List AP) (us : List Value), vs.length = al.length → ecs (al ++ bs) (vs ++ us) = ecs al vs ++ ecs bs us
  | [], [], bs, us, _ => by simp [ecs]
  | a :: al, v :: vs, bs, us, h => by
    rw [List.cons_append, List.cons_append, ecs, ecs, ecs_app al vs bs us (by simpa using h), List.append_assoc]
  | [], v :: vs, _, _, h => by simp at h
  | a :: al, [], _, _, h => by simp at h
theorem ecs_one1 (a : AP) (v : Value) : ecs [a] [v] = acs a v := by simp [ecs]
theorem ecs_mem : ∀ (al : List AP) (vs : List Value), (∀ v ∈ vs, v.oneCell' = true) → ∀ u ∈ ecs al vs, u.oneCell' = true
  | [], _, _, u, hu => by simp [ecs] at hu
  | a :: al, [], _, u, hu => by simp [ecs] at hu
  | a :: al, v :: vs, h, u, hu => by
    rw [ecs, List.mem_append] at hu
    rcases hu with hu | hu
    · exact acs_one a v (h v (by simp)) u hu
    · exact ecs_mem al vs (fun v hv => h v (by simp [hv])) u hu
theorem ecs_take (al : List AP) (vs : List Value) (h : vs.length = al.length) (i : Nat) (hi : i ≤ al.length) : (ecs al vs).take (i * 10) = ecs (al.take i) (vs.take i) := by
  have e := ecs_app (al.take i) (vs.take i) (al.drop i) (vs.drop i) (by simp; omega)
  rw [List.take_append_drop, List.take_append_drop] at e
  rw [e, List.take_append_of_le_length (by rw [ecs_len _ _ (by simp; omega)]; simp; omega), List.take_of_length_le (by rw [ecs_len _ _ (by simp; omega)]; simp; omega)]
theorem ecs_drop (al : List AP) (vs : List Value) (h : vs.length = al.length) (i : Nat) (hi : i ≤ al.length) : (ecs al vs).drop (i * 10) = ecs (al.drop i) (vs.drop i) := by
  have e := ecs_app (al.take i) (vs.take i) (al.drop i) (vs.drop i) (by simp; omega)
  rw [List.take_append_drop, List.take_append_drop] at e
  have hl : (ecs (al.take i) (vs.take i)).length = i * 10 := by rw [ecs_len _ _ (by simp; omega)]; simp; omega
  rw [e, List.drop_append_of_le_length (by omega), List.drop_of_length_le (by omega), List.nil_append]
theorem ecs_erase (al : List AP) (vs : List Value) (h : vs.length = al.length) (i : Nat) (hi : i < al.length) : (ecs al vs).take (i * 10) ++ (ecs al vs).drop ((i + 1) * 10) = ecs (al.eraseIdx i) (vs.eraseIdx i) := by
  rw [ecs_take al vs h i (by omega), ecs_drop al vs h (i + 1) (by omega), List.eraseIdx_eq_take_drop_succ, List.eraseIdx_eq_take_drop_succ, ecs_app _ _ _ _ (by simp; omega)]
/-- One of them is another one. -/
theorem ecs_set (al : List AP) (vs : List Value) (h : vs.length = al.length) (i : Nat) (hi : i < al.length) (a : AP) (v : Value) (cur : Array Value) (hc : cur.toList.take (al.length * 10) = ecs al vs) : (writeAt cur (i * 10) (acs a v)).toList.take (al.length * 10) = ecs (al.set i a) (vs.set i v) := by
  have hl := ecs_len al vs h
  have hl2 : (ecs (al.set i a) (vs.set i v)).length = al.length * 10 := by rw [ecs_len _ _ (by simpa using h)]; simp
  have hcs : al.length * 10 ≤ cur.size := by
    have := congrArg List.length hc
    rw [List.length_take, hl, Array.length_toList (xs := cur)] at this
    omega
  apply List.ext_getElem?
  intro k
  rw [List.getElem?_take]
  by_cases hk : k < al.length * 10
  · rw [if_pos hk, Array.getElem?_toList, writeAt_get]
    have hkd : k = (k / 10) * 10 + k % 10 := by omega
    have hk1 : k / 10 < al.length := by omega
    have hk2 : k % 10 < 10 := by omega
    have old : cur[k]? = (acs (al.getD (k / 10) default) (vs.getD (k / 10) undef))[k % 10]? := by
      rw [← ecs_get al vs _ _ h hk1 hk2, ← hkd, ← hc, List.getElem?_take, if_pos hk, Array.getElem?_toList]
    have new := ecs_get (al.set i a) (vs.set i v) (k / 10) (k % 10) (by simpa using h) (by simpa using hk1) hk2
    rw [← hkd] at new
    rw [new, acs_len]
    by_cases he : k / 10 = i
    · rw [if_pos (by omega), show k - i * 10 = k % 10 by omega, he]
      congr 1
      simp [List.getD_eq_getElem?_getD, List.getElem?_set, hi, h]
    · rw [if_neg (by omega), old]
      congr 1
      simp only [List.getD_eq_getElem?_getD, List.getElem?_set, if_neg (fun e : i = k / 10 => he e.symm)]
  · rw [if_neg hk, List.getElem?_eq_none (by omega)]

/-! ### Where a hint stands -/
def idx (al : List AP) (x : BitVec 64) : Option Nat := al.findIdx? fun a => a.h == x
def Dis (al : List AP) : Prop := (al.map (·.h)).Nodup
theorem idx_some {al : List AP} {x : BitVec 64} {i : Nat} (h : idx al x = some i) : i < al.length ∧ (al.getD i default).h = x := by
  unfold idx at h
  rw [List.findIdx?_eq_some_iff_getElem] at h
  obtain ⟨h1, h2, -⟩ := h
  refine ⟨h1, ?_⟩
  rw [List.getD_eq_getElem?_getD, List.getElem?_eq_getElem h1]
  simpa using h2
theorem idx_none {al : List AP} {x : BitVec 64} (h : idx al x = none) : ∀ a ∈ al, a.h ≠ x := by
  unfold idx at h
  rw [List.findIdx?_eq_none_iff] at h
  intro a ha
  have := h a ha
  simpa using this
theorem idx_of {al : List AP} (hd : Dis al) {i : Nat} (hi : i < al.length) : idx al (al.getD i default).h = some i := by
  unfold idx
  rw [List.findIdx?_eq_some_iff_getElem]
  refine ⟨hi, ?_, fun j hj => ?_⟩
  · rw [List.getD_eq_getElem?_getD, List.getElem?_eq_getElem hi]
    simp
  · rw [List.getD_eq_getElem?_getD, List.getElem?_eq_getElem hi]
    have h := List.pairwise_iff_getElem.1 hd j i (by simp; omega) (by simpa using hi) hj
    simp only [List.getElem_map] at h
    simpa using h
theorem idx_iff {al : List AP} (hd : Dis al) {x : BitVec 64} {i : Nat} : idx al x = some i ↔ i < al.length ∧ (al.getD i default).h = x := by
  constructor
  · exact idx_some
  · rintro ⟨h1, h2⟩
    rw [← h2]; exact idx_of hd h1
/-- As a map has it. -/
def idxV (al : List AP) : BitVec 64 → Option Value := fun x => (idx al x).map fun i : Nat => Value.int .i64 (i : Int)
theorem Dis.nil : Dis [] := by simp [Dis]
theorem Dis.snoc {al : List AP} (hd : Dis al) {a : AP} (h : idx al a.h = none) : Dis (al ++ [a]) := by
  unfold Dis
  rw [List.map_append, List.nodup_append]
  refine ⟨hd, by simp, ?_⟩
  intro x hx y hy
  simp at hy
  subst hy
  obtain ⟨b, hb, rfl⟩ := List.mem_map.1 hx
  exact idx_none h b hb
theorem map_set_h (al : List AP) (i : Nat) (a : AP) (h : (al.getD i default).h = a.h) : (al.set i a).map (·.h) = al.map (·.h) := by
  rw [List.map_set]
  apply List.ext_getElem?
  intro k
  rw [List.getElem?_set]
  by_cases e : i = k
  · subst e
    rw [if_pos rfl]
    by_cases hl : i < al.length
    · rw [if_pos (by simpa using hl)]
      rw [List.getD_eq_getElem?_getD, List.getElem?_eq_getElem hl] at h
      simp [hl] at h ⊢
      exact h.symm
    · rw [if_neg (by simpa using hl), List.getElem?_eq_none (by simpa using hl)]
  · rw [if_neg e]
theorem Dis.set {al : List AP} (hd : Dis al) {i : Nat} {a : AP} (h : (al.getD i default).h = a.h) : Dis (al.set i a) := by
  unfold Dis
  rw [map_set_h al i a h]
  exact hd
theorem Dis.erase {al : List AP} (hd : Dis al) (i : Nat) : Dis (al.eraseIdx i) := by
  unfold Dis at hd ⊢
  exact hd.sublist ((List.eraseIdx_sublist _ _).map _)
theorem getD_h (al : List AP) (i : Nat) (hi : i < al.length) : (al.map (·.h))[i]? = some (al.getD i default).h := by
  rw [List.getElem?_map, List.getD_eq_getElem?_getD, List.getElem?_eq_getElem hi]
  rfl
theorem idx_maph {al bs : List AP} (h : al.map (·.h) = bs.map (·.h)) (x : BitVec 64) : idx al x = idx bs x := by
  have key : ∀ l : List AP, idx l x = (l.map (·.h)).findIdx? (fun y => y == x) := fun l => by
    unfold idx
    rw [List.findIdx?_map]
    rfl
  rw [key, key, h]
theorem idxV_set {al : List AP} {i : Nat} {a : AP} (h : (al.getD i default).h = a.h) : idxV (al.set i a) = idxV al := by
  funext x
  unfold idxV
  rw [idx_maph (map_set_h al i a h)]
theorem idxV_snoc {al : List AP} {a : AP} (h : idx al a.h = none) : putF (idxV al) a.h (.int .i64 al.length) = idxV (al ++ [a]) := by
  funext x
  unfold putF idxV idx
  rw [List.findIdx?_append]
  by_cases e : x = a.h
  · subst e
    unfold idx at h
    rw [if_pos rfl, h]
    simp
  · rw [if_neg e]
    cases hq : al.findIdx? fun b => b.h == x with
    | some j => simp
    | none =>
      have hne : (a.h == x) = false := by simpa using fun q => e q.symm
      simp [hne]
/-- While the places are laid anew. -/
def midV (al : List AP) (m : Nat) : BitVec 64 → Option Value := fun x => (idx al x).map fun j : Nat => Value.int .i64 (if j < m then (j : Int) else (j : Int) + 1)
theorem midV_end (al : List AP) (m : Nat) (h : al.length ≤ m) : midV al m = idxV al := by
  funext x
  unfold midV idxV
  cases hq : idx al x with
  | none => rfl
  | some j =>
    have := (idx_some hq).1
    simp only [Option.map_some]
    rw [if_pos (by omega)]
theorem midV_step {al : List AP} (hd : Dis al) (m : Nat) (h : m < al.length) : putF (midV al m) (al.getD m default).h (.int .i64 m) = midV al (m + 1) := by
  funext x
  unfold putF midV
  by_cases e : x = (al.getD m default).h
  · rw [if_pos e, e, idx_of hd h]
    simp
  · rw [if_neg e]
    cases hq : idx al x with
    | none => rfl
    | some j =>
      have hj : j ≠ m := fun q => e (by rw [← q]; exact (idx_some hq).2.symm)
      simp only [Option.map_some]
      by_cases h1 : j < m
      · rw [if_pos h1, if_pos (by omega)]
      · rw [if_neg h1, if_neg (by omega)]
theorem getD_erase (al : List AP) (i j : Nat) : (al.eraseIdx i).getD j default = al.getD (if j < i then j else j + 1) default := by
  rw [List.getD_eq_getElem?_getD, List.getD_eq_getElem?_getD, List.getElem?_eraseIdx]
  split <;> rfl
theorem midV_start {al : List AP} (hd : Dis al) {i : Nat} (hi : i < al.length) : delF (idxV al) (al.getD i default).h = midV (al.eraseIdx i) i := by
  have hl : (al.eraseIdx i).length = al.length - 1 := by rw [List.length_eraseIdx]; simp [hi]
  funext x
  unfold delF midV idxV
  by_cases e : x = (al.getD i default).h
  · rw [if_pos e]
    cases hq : idx (al.eraseIdx i) x with
    | none => rfl
    | some j =>
      obtain ⟨h1, h2⟩ := idx_some hq
      rw [getD_erase, e] at h2
      have h3 := idx_of hd (i := if j < i then j else j + 1) (by split <;> omega)
      rw [h2, idx_of hd hi] at h3
      have h4 := Option.some.inj h3
      split at h4 <;> omega
  · rw [if_neg e]
    cases hq : idx al x with
    | none =>
      have : idx (al.eraseIdx i) x = none := by
        cases hr : idx (al.eraseIdx i) x with
        | none => rfl
        | some j =>
          obtain ⟨h1, h2⟩ := idx_some hr
          have hm : al.getD (if j < i then j else j + 1) default ∈ al := by
            rw [List.getD_eq_getElem?_getD, List.getElem?_eq_getElem (by split <;> omega)]
            exact List.getElem_mem _
          rw [getD_erase] at h2
          exact absurd h2 (idx_none hq _ hm)
      rw [this]; rfl
    | some j =>
      obtain ⟨h1, h2⟩ := idx_some hq
      have hji : j ≠ i := fun q => e (by rw [← q]; exact h2.symm)
      have h3 : idx (al.eraseIdx i) x = some (if j < i then j else j - 1) := by
        rw [idx_iff (hd.erase i)]
        refine ⟨by split <;> omega, ?_⟩
        rw [getD_erase, ← h2]
        congr 2
        split <;> (try split) <;> omega
      rw [h3]
      simp only [Option.map_some]
      congr 2
      split <;> (try split) <;> omega

/-! ### What a tower answers -/
structure TWS where
  room : Nat
  all : List AP
def takeE (T : TWS) (a : AP) : Nat :=
  if isNum a.n = false then 2 else if a.l.length < 8 then 3 else if 32776 < a.l.length then 5 else
  match idx T.all a.h with
  | some i => if a.n ≤ (T.all.getD i default).n then 18 else 0
  | none => if T.room ≤ T.all.length then 8 else 0
def takeT (T : TWS) (a : AP) : TWS := if takeE T a = 0 then (match idx T.all a.h with | some i => { T with all := T.all.set i a } | none => { T with all := T.all ++ [a] }) else T
def dropT (T : TWS) (x : BitVec 64) : TWS := match idx T.all x with | some i => { T with all := T.all.eraseIdx i } | none => T
noncomputable def seeT (T : TWS) (x : BitVec 64) (base : Int) : List UInt8 × Bool :=
  match idx T.all (thintF x) with
  | some i => if (T.all.getD i default).n ≤ base then ([], false) else if (openF (tkeyF x) (T.all.getD i default).l).2 = 0 then ((openF (tkeyF x) (T.all.getD i default).l).1, true) else ([], false)
  | none => ([], false)
def sizeT (T : TWS) : Nat := (T.all.map fun a => a.l.length).sum
/-- What always holds. -/
structure TOk (T : TWS) : Prop where
  dis : Dis T.all
  len : T.all.length ≤ T.room
  room : T.room ≤ 4096
  box : ∀ a ∈ T.all, a.l.length ≤ 32776
theorem TOk.new (n : Nat) (h : n ≤ 4096) : TOk ⟨n, []⟩ := ⟨Dis.nil, Nat.zero_le _, h, by simp⟩
theorem TOk.take {T : TWS} (h : TOk T) (a : AP) : TOk (takeT T a) := by
  unfold takeT
  by_cases h0 : takeE T a = 0
  · rw [if_pos h0]
    unfold takeE at h0
    split at h0
    · omega
    split at h0
    · omega
    split at h0
    · omega
    rename_i h1 h2 h3
    cases hq : idx T.all a.h with
    | some i =>
      obtain ⟨h4, h5⟩ := idx_some hq
      refine ⟨h.dis.set h5, by simpa using h.len, h.room, fun b hb => ?_⟩
      rcases List.mem_or_eq_of_mem_set hb with hb | rfl
      · exact h.box b hb
      · omega
    | none =>
      rw [hq] at h0
      simp only at h0
      split at h0
      · omega
      refine ⟨h.dis.snoc hq, by simp; omega, h.room, fun b hb => ?_⟩
      simp at hb
      rcases hb with hb | rfl
      · exact h.box b hb
      · omega
  · rw [if_neg h0]; exact h
theorem TOk.drop {T : TWS} (h : TOk T) (x : BitVec 64) : TOk (dropT T x) := by
  unfold dropT
  cases hq : idx T.all x with
  | none => exact h
  | some i => exact ⟨h.dis.erase i, Nat.le_trans (List.length_eraseIdx_le _ _) h.len, h.room, fun a ha => h.box a (List.mem_of_mem_eraseIdx ha)⟩

end Go.Proofs.Ytghaiplhakeahaa
