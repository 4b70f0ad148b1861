/- account: contracts of Total, Clone. -/
import Derived.Test.YteopbfehfipcmaaFa
import Derived.Maps.RangeWalk
namespace Go.Proofs.Yteopbfehfipcmaa
set_option linter.unusedSimpArgs false
set_option linter.unusedVariables false
open Go.RowKit Go.WideMaps Go.ChangeMaps Go.Maps

def moneyOf : Value → Int
  | .agg cs => (match cs.toList with | Value.int _ a :: _ => a | _ => 0)
  | _ => 0
def sumE (l : List MapEntry) : Int := (l.map fun e => moneyOf e.val).sum
theorem sum_perm {l r : List Int} (h : l.Perm r) : l.sum = r.sum := by
  induction h with
  | nil => rfl
  | cons x _ ih => simp [ih]
  | swap x y l => simp; omega
  | trans _ _ h1 h2 => rw [h1, h2]
theorem sumE_perm {l r : List MapEntry} (h : l.Perm r) : sumE l = sumE r := sum_perm (h.map _)
theorem sumE_cons (e : MapEntry) (l : List MapEntry) : sumE (e :: l) = moneyOf e.val + sumE l := by simp [sumE]
/-- All money of a book. -/
def Worth (M : BitVec 64 → Int) (S : Int) : Prop := (∀ x, 0 ≤ M x) ∧ ∀ es ck, MapD es ck (bkV M) → sumE es.toList = S
theorem MapD.val {es : Array MapEntry} {ck : Nat} {M : BitVec 64 → Int} (D : MapD es ck (bkV M)) {e : MapEntry} (he : e ∈ es.toList) : ∃ x, e.key = .agg #[.int .u8 (by8 x 0), .int .u8 (by8 x 1), .int .u8 (by8 x 2), .int .u8 (by8 x 3), .int .u8 (by8 x 4), .int .u8 (by8 x 5), .int .u8 (by8 x 6), .int .u8 (by8 x 7)] ∧ e.val = .agg #[.int .i64 (M x), .int .i64 0] ∧ M x ≠ 0 := by
  obtain ⟨x, hx⟩ := D.keys e he
  have h := (D.get x e.val).2 ⟨e, he, hx, rfl⟩
  unfold bkV at h
  split at h
  · cases h
  · rename_i hn
    exact ⟨x, hx, (Option.some.inj h).symm, hn⟩
theorem sumE_nonneg {es : Array MapEntry} {ck : Nat} {M : BitVec 64 → Int} (D : MapD es ck (bkV M)) (h0 : ∀ x, 0 ≤ M x) : ∀ l : List MapEntry, (∀ e ∈ l, e ∈ es.toList) → 0 ≤ sumE l
  | [], _ => by simp [sumE]
  | e :: l, h => by
    rw [sumE_cons]
    obtain ⟨x, -, hv, -⟩ := D.val (h e (by simp))
    have := sumE_nonneg D h0 l fun y hy => h y (by simp [hy])
    have := h0 x
    rw [hv]
    simp only [moneyOf]
    simp
    omega
theorem left_mem {es : Array MapEntry} {seen : Array Nat} {e : MapEntry} (h : e ∈ (leftOf es seen).toList) : e ∈ es.toList := by
  unfold leftOf at h
  rw [Array.toList_filter] at h
  exact (List.mem_filter.1 h).1
/-- How many are still to come. -/
def leftN (w : World) (m r : Nat) : Nat := match w.heap[m]?, w.heap[r]? with
  | some (.map es _), some (.mapIter _ _ seen _) => (leftOf es seen).size
  | _, _ => 0
theorem leftN_eq {w w0 : World} {X : List Blk} {K : List (Nat × Obj)} {m r : Nat} {es : Array MapEntry} {ck ck' : Nat} {seen : Array Nat} (h : Omw w w0 X ((r, .mapIter (some m) ck seen ck') :: (m, .map es ck) :: K)) : leftN w m r = (leftOf es seen).size := by
  unfold leftN
  rw [h.has (m, .map es ck) (List.mem_cons_of_mem _ (List.mem_cons_self ..)), h.has (r, .mapIter (some m) ck seen ck') (List.mem_cons_self ..)]
set_option maxRecDepth 100000 in
set_option maxHeartbeats 2000000 in
theorem total_to (p : Nat) (w w0 : World) (C : List Blk) (KK : List (Nat × Obj)) (M : BitVec 64 → Int) (h : Bk w w0 C KK p M) (S : Int) (hS : Worth M S) (hb : S ≤ 1000000) :
    Calls Try.prog 12 #[ptr p] w fun e w' => e = .returned (.int .i64 S) ∧ Bk w' w0 C KK p M := by
  obtain ⟨m, es, ck, O, D⟩ := h
  have hD := Lib.hid D
  have HS := Lib.hid hS
  have HSE : Hid (sumE es.toList = S) := hS.2 es ck D
  have HO := Lib.hid O
  have hp := O.blk (b := p) (t := 60) (cs := #[.map (some m)]) (by simp)
  have kp := hp.cell 0
  have lp := hp.lt
  simp only [List.getElem?_toArray, List.getElem?_cons_succ, List.getElem?_cons_zero] at kp
  clear O D hp hS
  go_enter Try.func12, Try.ntmps12
  go_wp2_with (at_range; refine HO.out.rangeL mapP rfl (.tmp 11) (by rfl) (by rfl) ?_; intro w2 r O2; have HO2 := Lib.hid O2; clear O2 kp lp)
  go_frame
  go_loopw [3] (fun v wr => ∃ (acc : Int) (seen : Array Nat), v = .int .i64 acc ∧ 0 ≤ acc ∧ acc + sumE (leftOf es seen).toList = S ∧ Omw wr w0 (⟨p, 60, #[.map (some m)]⟩ :: C) ((r, .mapIter (some m) ck seen ck) :: (m, .map es ck) :: KK)) (fun _ wr => leftN wr m r)
  case atStart => exact ⟨0, #[], rfl, by omega, by rw [left_all, HSE.out]; omega, HO2.out⟩
  case round =>
    obtain ⟨acc, seen, rfl, hacc, hsum, O5⟩ := hrel
    have HO5 := Lib.hid O5
    have hleft := leftN_eq O5
    have HL := Lib.hid hleft
    have HSUM := Lib.hid hsum
    clear O5 hleft hsum
    go_wp2_with (at_next; refine HO5.out.nextL hD.out rfl (.tmp 12) (by rfl) (by rfl) ?_ ?_)
    · intro hdone
      have := HSUM.out
      rw [hdone] at this
      simp [sumE] at this
      subst this
      go_wp2
      go_ret
      exact ⟨rfl, m, es, ck, HO5.out.dropK, hD.out⟩
    · intro e w6 he0 O6 hen
      have he : e ∈ (leftOf es seen).toList := by simpa using he0
      obtain ⟨x, hk, hv, -⟩ := hD.out.val (left_mem he)
      have hperm := sumE_perm (left_push hD.out.stamps seen he)
      rw [sumE_cons, hv] at hperm
      have hmo : moneyOf (.agg #[.int .i64 (M x), .int .i64 0]) = M x := rfl
      rw [hmo] at hperm
      have h0 := HS.out.1 x
      have h1 := sumE_nonneg hD.out HS.out.1 (leftOf es (seen.push e.born)).toList fun y hy => left_mem hy
      have h2 := HSUM.out
      rw [hk, hv] at hen ⊢
      have hN := leftN_eq O6
      have hlt : (leftOf es (seen.push e.born)).size < (leftOf es seen).size := by
        have := (left_push hD.out.stamps seen he).length_eq
        simp at this
        omega
      have HO6 := Lib.hid O6
      clear O6
      obtain ⟨z, hz⟩ : ∃ z, M x = z := ⟨_, rfl⟩
      rw [hz] at hen hperm h0 ⊢
      clear hz
      go_wp2
      exact ⟨⟨acc + z, seen.push e.born, by simp, by omega, by omega, HO6.out.alloc _⟩, by
        rw [leftN_eq (HO6.out.alloc _), HL.out]; exact hlt⟩

end Go.Proofs.Yteopbfehfipcmaa
