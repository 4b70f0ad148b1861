/- guard: a guard's state and its cells. -/
import Derived.Test.YtghaiplhakeahaaVr
import Derived.Test.YtghaiplhakeahaaBcl
import Derived.Test.YtghaiplhakeahaaInv
namespace Go.Proofs.Ytghaiplhakeahaa
set_option linter.unusedSimpArgs false
set_option linter.unusedVariables false
open Go.RowKit

/-- What a guard is. -/
structure GS where
  nonce : BitVec 64
  towers : Nat
  need : Nat
  noted : Bool
  hint : BitVec 64
  num : Int
  box : List UInt8
  said : Nat → Int
  slf : Int
  slt : Int
/-- Its cells. -/
noncomputable def gcs (G : GS) (bv : Value) : Array Value := #[.int .u8 (by8 G.nonce 0), .int .u8 (by8 G.nonce 1), .int .u8 (by8 G.nonce 2), .int .u8 (by8 G.nonce 3), .int .u8 (by8 G.nonce 4), .int .u8 (by8 G.nonce 5), .int .u8 (by8 G.nonce 6), .int .u8 (by8 G.nonce 7), .int .i64 G.towers, .int .i64 G.need, .bool G.noted, .int .u8 (by8 G.hint 0), .int .u8 (by8 G.hint 1), .int .u8 (by8 G.hint 2), .int .u8 (by8 G.hint 3), .int .u8 (by8 G.hint 4), .int .u8 (by8 G.hint 5), .int .u8 (by8 G.hint 6), .int .u8 (by8 G.hint 7), .int .i64 G.num, bv, .int .i64 (G.said 0), .int .i64 (G.said 1), .int .i64 (G.said 2), .int .i64 (G.said 3), .int .i64 (G.said 4), .int .i64 (G.said 5), .int .i64 (G.said 6), .int .i64 (G.said 7), .int .i64 (G.said 8), .int .i64 (G.said 9), .int .i64 (G.said 10), .int .i64 (G.said 11), .int .i64 (G.said 12), .int .i64 (G.said 13), .int .i64 (G.said 14), .int .i64 (G.said 15), .int .i64 G.slf, .int .i64 G.slt]
theorem gcs_size (G : GS) (bv : Value) : (gcs G bv).size = 39 := rfl
theorem gcs_said (G : GS) (bv : Value) (k : Nat) (hk : k < 16) : (gcs G bv)[21 + k]? = some (.int .i64 (G.said k)) := by
  rcases (by omega : k = 0 ∨ k = 1 ∨ k = 2 ∨ k = 3 ∨ k = 4 ∨ k = 5 ∨ k = 6 ∨ k = 7 ∨ k = 8 ∨ k = 9 ∨ k = 10 ∨ k = 11 ∨ k = 12 ∨ k = 13 ∨ k = 14 ∨ k = 15) with rfl | rfl | rfl | rfl | rfl | rfl | rfl | rfl | rfl | rfl | rfl | rfl | rfl | rfl | rfl | rfl <;> rfl
def GS.say (G : GS) (k : Nat) (n : Int) : GS := { G with said := fun i => if i = k then n else G.said i }
theorem gcs_say (G : GS) (bv : Value) (k : Nat) (hk : k < 16) (n : Int) : (gcs G bv).setIfInBounds (21 + k) (.int .i64 n) = gcs (G.say k n) bv := by
  rcases (by omega : k = 0 ∨ k = 1 ∨ k = 2 ∨ k = 3 ∨ k = 4 ∨ k = 5 ∨ k = 6 ∨ k = 7 ∨ k = 8 ∨ k = 9 ∨ k = 10 ∨ k = 11 ∨ k = 12 ∨ k = 13 ∨ k = 14 ∨ k = 15) with rfl | rfl | rfl | rfl | rfl | rfl | rfl | rfl | rfl | rfl | rfl | rfl | rfl | rfl | rfl | rfl <;> rfl
theorem gcs_sleep (G : GS) (bv : Value) (x y : Int) : ((gcs G bv).setIfInBounds 37 (.int .i64 x)).setIfInBounds 38 (.int .i64 y) = gcs { G with slf := x, slt := y } bv := rfl
theorem gcs_noted (G : GS) (bv : Value) (b : Bool) : (gcs G bv).setIfInBounds 10 (.bool b) = gcs { G with noted := b } bv := rfl
theorem by8_z (i : Nat) : by8 0#64 i = 0 := by
  have h := by8_bd 0#64 i
  simp [by8_eq]
/-- An appointment's cells. -/
noncomputable def apc (h : BitVec 64) (n : Int) (v : Value) : Array Value := #[.int .u8 (by8 h 0), .int .u8 (by8 h 1), .int .u8 (by8 h 2), .int .u8 (by8 h 3), .int .u8 (by8 h 4), .int .u8 (by8 h 5), .int .u8 (by8 h 6), .int .u8 (by8 h 7), .int .i64 n, v]
theorem gcs_newest (G : GS) (bv : Value) (h : BitVec 64) (n : Int) (v : Value) (l : List UInt8) : writeAt (gcs G bv) 11 (apc h n v).toList = gcs { G with hint := h, num := n, box := l } v := by
  simp [gcs, apc, writeAt]
theorem gcs_open (G : GS) (bv : Value) (k : Nat) (hk : k < 10) : (gcs G bv)[11 + k]? = (apc G.hint G.num bv)[k]? := by
  match k, hk with
  | 0, _ | 1, _ | 2, _ | 3, _ | 4, _ | 5, _ | 6, _ | 7, _ | 8, _ | 9, _ => rfl
/-- A guard at p, beside blocks C; its box lies in X. -/
def Gu (w w0 : World) (C X : List Blk) (p : Nat) (G : GS) : Prop := ∃ bv, Ow w w0 (⟨p, 132, gcs G bv⟩ :: (C ++ X)) ∧ Msg w0 X bv G.box
def Sub (X Y : List Blk) : Prop := ∀ x ∈ X, x ∈ Y
theorem Sub.refl (X : List Blk) : Sub X X := fun _ h => h
theorem Sub.trans {X Y Z : List Blk} (h : Sub X Y) (k : Sub Y Z) : Sub X Z := fun x hx => k x (h x hx)
theorem Sub.app (N X : List Blk) : Sub X (N ++ X) := fun x hx => by simp [hx]
section
variable {w w0 : World} {C C' X : List Blk} {p : Nat} {G : GS}
theorem Gu.of_below {w' : World} (h : Gu w w0 C X p G) (hb : Below w.heap.size w w') : Gu w' w0 C X p G := by
  obtain ⟨bv, O, m⟩ := h; exact ⟨bv, O.of_below hb, m⟩
theorem Gu.plus (h : Gu w w0 C X p G) (g : Array Obj) (d : Nat) : Gu (Go.Proofs.Ytghaiplhakeahaa.plus w g d) w0 C X p G := h.of_below (bplus (Below.refl _ _) g d)
theorem Gu.alloc (h : Gu w w0 C X p G) (o : Obj) : Gu (w.alloc o) w0 C X p G := h.of_below (balloc (Below.refl _ _) o)
theorem Gu.drew (h : Gu w w0 C X p G) : Gu w.drew w0 C X p G := h.of_below (Below.refl _ _).drew
theorem Gu.below (h : Gu w w0 C X p G) : Below w0.heap.size w0 w := by
  obtain ⟨bv, O, m⟩ := h; exact O.below
theorem Gu.ow (h : Gu w w0 C X p G) : ∃ Y, Ow w w0 Y ∧ Sub X Y ∧ Sub C Y := by
  obtain ⟨bv, O, m⟩ := h; exact ⟨_, O, fun x hx => by simp [hx], fun x hx => by simp [hx]⟩
theorem Gu.has (h : Gu w w0 C X p G) {b : Nat} {t : TypeId} {cs : Array Value} (hx : (⟨b, t, cs⟩ : Blk) ∈ C) : HasBlk w b t cs := by
  obtain ⟨Y, O, -, hC⟩ := h.ow; exact O.has (hC _ hx)
theorem Gu.permC (h : Gu w w0 C X p G) (hp : C.Perm C') : Gu w w0 C' X p G := by
  obtain ⟨bv, O, m⟩ := h; exact ⟨bv, O.perm ((hp.append_right X).cons _), m⟩
theorem Gu.park (h : Gu w w0 C X p G) {cs : Array Value} {b : Nat} {t : TypeId} (hb : b = w.heap.size) : Gu (w.alloc (.cells cs t)) w0 (⟨b, t, cs⟩ :: C) X p G := by
  obtain ⟨bv, O, m⟩ := h; exact ⟨bv, (O.key cs t b hb).perm (perm_cnt fun x => by simp only [cnt_append, cnt_cons, cnt_nil] <;> omega), m⟩
theorem Gu.set {cs : Array Value} {b : Nat} {t : TypeId} (h : Gu w w0 (⟨b, t, cs⟩ :: C) X p G) (i : Nat) (v : Value) : Gu (w.setCell ⟨b, i, none⟩ v) w0 (⟨b, t, cs.setIfInBounds i v⟩ :: C) X p G := by
  obtain ⟨bv, O, m⟩ := h
  have O1 : Ow w w0 (⟨b, t, cs⟩ :: (⟨p, 132, gcs G bv⟩ :: (C ++ X))) := O.perm (perm_cnt fun x => by simp only [cnt_append, cnt_cons, cnt_nil] <;> omega)
  exact ⟨bv, (O1.set i v).perm (perm_cnt fun x => by simp only [cnt_append, cnt_cons, cnt_nil] <;> omega), m⟩
theorem Gu.dropC {B : List Blk} (h : Gu w w0 (B ++ C) X p G) : Gu w w0 C X p G := by
  obtain ⟨bv, O, m⟩ := h
  exact ⟨bv, (O.perm (L' := B ++ (⟨p, 132, gcs G bv⟩ :: (C ++ X))) (perm_cnt fun x => by simp only [cnt_append, cnt_cons, cnt_nil] <;> omega)).drop, m⟩
end

/-- A pointer to block p. -/
abbrev ptr (p : Nat) : Value := .pointer (some ⟨p, 0, none⟩)
def newG (x : BitVec 64) (n k : Nat) : GS := ⟨x, n, k, false, 0, 0, [], fun _ => -1, 0, 0⟩
def midG (x : BitVec 64) (n k i : Nat) : GS := { newG x n k with said := fun j => if j < i then -1 else 0 }
theorem midG_step (x : BitVec 64) (n k i : Nat) : (midG x n k i).say i (-1) = midG x n k (i + 1) := by
  unfold midG GS.say
  congr 1
  funext j
  simp only
  by_cases h1 : j = i
  · subst h1; rw [if_pos rfl, if_pos (by omega)]
  · rw [if_neg h1]
    by_cases h2 : j < i
    · rw [if_pos h2, if_pos (by omega)]
    · rw [if_neg h2, if_neg (by omega)]
theorem gcs_end (x : BitVec 64) (n k : Nat) (bv : Value) : gcs (midG x n k 16) bv = gcs (newG x n k) bv := rfl
theorem gcs_start (x : BitVec 64) (n k : Nat) : gcs (midG x n k 0) (.slice none 0 0) = #[.int .u8 (by8 x 0), .int .u8 (by8 x 1), .int .u8 (by8 x 2), .int .u8 (by8 x 3), .int .u8 (by8 x 4), .int .u8 (by8 x 5), .int .u8 (by8 x 6), .int .u8 (by8 x 7), .int .i64 n, .int .i64 k, .bool false, .int .u8 0, .int .u8 0, .int .u8 0, .int .u8 0, .int .u8 0, .int .u8 0, .int .u8 0, .int .u8 0, .int .i64 0, .slice none 0 0, .int .i64 0, .int .i64 0, .int .i64 0, .int .i64 0, .int .i64 0, .int .i64 0, .int .i64 0, .int .i64 0, .int .i64 0, .int .i64 0, .int .i64 0, .int .i64 0, .int .i64 0, .int .i64 0, .int .i64 0, .int .i64 0, .int .i64 0, .int .i64 0] := by
  simp [gcs, midG, newG, by8_z]

set_option maxRecDepth 100000 in
set_option maxHeartbeats 2000000 in
theorem gnew_yes (x : BitVec 64) (n k : Nat) (w w0 : World) (F : List Blk) (O : Ow w w0 F) (h1 : 1 ≤ n) (h2 : n ≤ 16) (h3 : 1 ≤ k) (h4 : k ≤ n) :
    Calls Try.prog 38 #[.agg #[.int .u8 (by8 x 0), .int .u8 (by8 x 1), .int .u8 (by8 x 2), .int .u8 (by8 x 3), .int .u8 (by8 x 4), .int .u8 (by8 x 5), .int .u8 (by8 x 6), .int .u8 (by8 x 7)], .int .i64 n, .int .i64 k] w fun e w' => ∃ p, e = .returned (.tuple #[ptr p, .int .i64 0]) ∧ Ow w' w0 (⟨p, 132, gcs (newG x n k) (.slice none 0 0)⟩ :: F) := by
  have O1 := (O.alloc (.cells #[.int .u8 (by8 x 0), .int .u8 (by8 x 1), .int .u8 (by8 x 2), .int .u8 (by8 x 3), .int .u8 (by8 x 4), .int .u8 (by8 x 5), .int .u8 (by8 x 6), .int .u8 (by8 x 7)] 27)).key (gcs (midG x n k 0) (.slice none 0 0)) 132 (w.heap.size + 1) (by simp)
  rw [gcs_start] at O1
  have HO := Lib.hid O1
  clear O O1
  go_enter Try.func38, Try.ntmps38
  go_wp2_with fail
  go_loopw [30] (fun vi wr => ∃ i : Nat, vi = .int .i64 i ∧ i ≤ 16 ∧ Ow wr w0 (⟨w.heap.size + 1, 132, gcs (midG x n k i) (.slice none 0 0)⟩ :: F)) (fun vi _ => 16 - (intOf vi).toNat)
  case atStart =>
    exact ⟨0, rfl, by omega, by rw [gcs_start]; exact HO.out⟩
  case round =>
    obtain ⟨i, rfl, hi, O⟩ := hrel
    have HB := O.has (List.mem_cons_self ..)
    clear HO
    have HO := Lib.hid O
    have lt := HB.lt
    clear O
    by_cases hlt : i < 16
    · have c := HB.cell (21 + i)
      rw [gcs_said _ _ _ hlt] at c
      have f := HB.frozen (21 + i)
      clear HB
      have hd : decide ((i : Int) < 16) = true := decide_eq_true (by omega)
      go_wp2
      have O2 := HO.out.set (21 + i) (.int .i64 (-1))
      rw [gcs_say _ _ _ hlt, midG_step] at O2
      exact ⟨⟨i + 1, by simp, by omega, O2⟩, by simp [intOf]; omega⟩
    · obtain rfl : i = 16 := by omega
      clear HB
      go_wp2
      refine bodyPost_ret (v := .tuple #[ptr (w.heap.size + 1), .int .i64 0]) (by simp [results, Try.results38, go_sem]) rfl ?_
      exact ⟨_, rfl, by rw [← gcs_end]; exact HO.out⟩
set_option maxRecDepth 100000 in
set_option maxHeartbeats 1000000 in
theorem gnew_no (x : BitVec 64) (n k : Int) (h : ¬(1 ≤ n ∧ n ≤ 16 ∧ 1 ≤ k ∧ k ≤ n)) (w : World) :
    Calls Try.prog 38 #[.agg #[.int .u8 (by8 x 0), .int .u8 (by8 x 1), .int .u8 (by8 x 2), .int .u8 (by8 x 3), .int .u8 (by8 x 4), .int .u8 (by8 x 5), .int .u8 (by8 x 6), .int .u8 (by8 x 7)], .int .i64 n, .int .i64 k] w fun e w' => e = .returned (.tuple #[.pointer none, .int .i64 2]) ∧ Below w.heap.size w w' := by
  have h1 : decide (n < 1) = true ∨ decide (n < 1) = false := by cases decide (n < 1) <;> simp
  have h2 : decide (16 < n) = true ∨ decide (16 < n) = false := by cases decide (16 < n) <;> simp
  have h3 : decide (k < 1) = true ∨ decide (k < 1) = false := by cases decide (k < 1) <;> simp
  rcases h1 with h1 | h1
  · go_enter Try.func38, Try.ntmps38
    go_wp2
    refine bodyPost_ret (v := .tuple #[.pointer none, .int .i64 2]) (by simp [results, Try.results38, go_sem]) rfl ⟨rfl, by (repeat' (first | (with_reducible exact Below.refl _ _) | (with_reducible refine bplus ?_ _ _) | (with_reducible refine balloc ?_ _) | (with_reducible refine Below.drew ?_) | (with_reducible refine bdrewN ?_ _) | (with_reducible refine Below.setCell ?_ (by go_size) _)))⟩
  · rcases h2 with h2 | h2
    · go_enter Try.func38, Try.ntmps38
      go_wp2
      refine bodyPost_ret (v := .tuple #[.pointer none, .int .i64 2]) (by simp [results, Try.results38, go_sem]) rfl ⟨rfl, by (repeat' (first | (with_reducible exact Below.refl _ _) | (with_reducible refine bplus ?_ _ _) | (with_reducible refine balloc ?_ _) | (with_reducible refine Below.drew ?_) | (with_reducible refine bdrewN ?_ _) | (with_reducible refine Below.setCell ?_ (by go_size) _)))⟩
    · rcases h3 with h3 | h3
      · go_enter Try.func38, Try.ntmps38
        go_wp2
        refine bodyPost_ret (v := .tuple #[.pointer none, .int .i64 2]) (by simp [results, Try.results38, go_sem]) rfl ⟨rfl, by (repeat' (first | (with_reducible exact Below.refl _ _) | (with_reducible refine bplus ?_ _ _) | (with_reducible refine balloc ?_ _) | (with_reducible refine Below.drew ?_) | (with_reducible refine bdrewN ?_ _) | (with_reducible refine Below.setCell ?_ (by go_size) _)))⟩
      · have h4 : decide (n < k) = true := by
          simp at h1 h2 h3 ⊢; omega
        go_enter Try.func38, Try.ntmps38
        go_wp2
        refine bodyPost_ret (v := .tuple #[.pointer none, .int .i64 2]) (by simp [results, Try.results38, go_sem]) rfl ⟨rfl, by (repeat' (first | (with_reducible exact Below.refl _ _) | (with_reducible refine bplus ?_ _ _) | (with_reducible refine balloc ?_ _) | (with_reducible refine Below.drew ?_) | (with_reducible refine bdrewN ?_ _) | (with_reducible refine Below.setCell ?_ (by go_size) _)))⟩

def ackE (G : GS) (which n : Int) : Nat := if which < 0 ∨ (G.towers : Int) ≤ which then 28 else if G.noted = false ∨ G.num < n then 20 else if n ≤ G.said which.toNat then 18 else 0
def ackG (G : GS) (which n : Int) : GS := if ackE G which n = 0 then G.say which.toNat n else G

set_option maxRecDepth 100000 in
set_option maxHeartbeats 2000000 in
theorem ack_to (p : Nat) (G : GS) (which n : Int) (w w0 : World) (C X : List Blk) (h : Gu w w0 C X p G) (ht : G.towers ≤ 16) (E : Nat) (hE : ackE G which n = E) (G' : GS) (hG : ackG G which n = G') :
    Calls Try.prog 30 #[ptr p, .int .i64 which, .int .i64 n] w fun e w' => e = .returned (.int .i64 E) ∧ Gu w' w0 C X p G' := by
  obtain ⟨bv, O, m⟩ := h
  have HB := O.has (List.mem_cons_self ..)
  have lt := HB.lt
  have HO := Lib.hid O
  have Hm := Lib.hid m
  clear O m
  have c8 : w.cell? ⟨p, 8, none⟩ = some (.int .i64 G.towers) := HB.cell 8
  have c10 : w.cell? ⟨p, 10, none⟩ = some (.bool G.noted) := HB.cell 10
  have c19 : w.cell? ⟨p, 19, none⟩ = some (.int .i64 G.num) := HB.cell 19
  unfold ackG at hG
  rw [hE] at hG
  unfold ackE at hE
  by_cases h0 : which < 0
  · rw [if_pos (.inl h0)] at hE
    subst hE
    rw [if_neg (by omega)] at hG
    subst hG
    have hd : decide (which < 0) = true := decide_eq_true h0
    clear HB
    go_enter Try.func30, Try.ntmps30
    go_wp2
    go_ret
    exact ⟨rfl, bv, HO.out, Hm.out⟩
  obtain ⟨k, rfl⟩ : ∃ k : Nat, which = k := ⟨which.toNat, by omega⟩
  have hd0 : decide ((k : Int) < 0) = false := decide_eq_false h0
  by_cases h1 : G.towers ≤ k
  · rw [if_pos (.inr (by omega))] at hE
    subst hE
    rw [if_neg (by omega)] at hG
    subst hG
    have hd : decide ((G.towers : Int) ≤ (k : Int)) = true := decide_eq_true (by omega)
    clear HB
    go_enter Try.func30, Try.ntmps30
    go_wp2
    go_ret
    exact ⟨rfl, bv, HO.out, Hm.out⟩
  have hd1 : decide ((G.towers : Int) ≤ (k : Int)) = false := decide_eq_false (by omega)
  rw [if_neg (by omega)] at hE
  cases hn : G.noted with
  | false =>
    rw [hn] at c10
    rw [if_pos (.inl hn)] at hE
    subst hE
    rw [if_neg (by omega)] at hG
    subst hG
    clear HB
    go_enter Try.func30, Try.ntmps30
    go_wp2
    go_ret
    exact ⟨rfl, bv, HO.out, Hm.out⟩
  | true =>
    rw [hn] at c10
    by_cases h2 : G.num < n
    · rw [if_pos (.inr h2)] at hE
      subst hE
      rw [if_neg (by omega)] at hG
      subst hG
      have hd : decide (G.num < n) = true := decide_eq_true h2
      clear HB
      go_enter Try.func30, Try.ntmps30
      go_wp2
      go_ret
      exact ⟨rfl, bv, HO.out, Hm.out⟩
    have hd2 : decide (G.num < n) = false := decide_eq_false h2
    rw [if_neg (by simp [hn, h2]), Int.toNat_natCast] at hE
    have hk : k < 16 := by omega
    have cs := HB.cell (21 + k)
    rw [gcs_said _ _ _ hk] at cs
    have fs := HB.frozen (21 + k)
    clear HB
    by_cases h3 : n ≤ G.said k
    · rw [if_pos h3] at hE
      subst hE
      rw [if_neg (by omega)] at hG
      subst hG
      have hd : decide (n ≤ G.said k) = true := decide_eq_true h3
      go_enter Try.func30, Try.ntmps30
      go_wp2
      go_ret
      exact ⟨rfl, bv, HO.out, Hm.out⟩
    · rw [if_neg h3] at hE
      subst hE
      rw [if_pos rfl, Int.toNat_natCast] at hG
      subst hG
      have hd : decide (n ≤ G.said k) = false := decide_eq_false h3
      go_enter Try.func30, Try.ntmps30
      go_wp2
      go_ret
      have O2 := HO.out.set (21 + k) (.int .i64 n)
      rw [gcs_say _ _ _ hk] at O2
      exact ⟨rfl, bv, O2, Hm.out⟩
theorem ack_nil (which n : Int) (w : World) : Calls Try.prog 30 #[.pointer none, .int .i64 which, .int .i64 n] w fun e w' => e = .returned (.int .i64 1) ∧ w' = w := by
  go_enter Try.func30, Try.ntmps30
  go_wp2
  go_ret
  exact ⟨rfl, rfl⟩

def hasE (G : GS) (which : Int) : Int := if which < 0 ∨ (G.towers : Int) ≤ which then -1 else G.said which.toNat
set_option maxRecDepth 100000 in
set_option maxHeartbeats 2000000 in
theorem has_to (p : Nat) (G : GS) (which : Int) (w w0 : World) (C X : List Blk) (h : Gu w w0 C X p G) (ht : G.towers ≤ 16) (E : Int) (hE : hasE G which = E) :
    Calls Try.prog 44 #[ptr p, .int .i64 which] w fun e w' => e = .returned (.int .i64 E) ∧ w' = w := by
  obtain ⟨bv, O, m⟩ := h
  have HB := O.has (List.mem_cons_self ..)
  have lt := HB.lt
  have HO := Lib.hid O
  have Hm := Lib.hid m
  clear O m
  have c8 : w.cell? ⟨p, 8, none⟩ = some (.int .i64 G.towers) := HB.cell 8
  unfold hasE at hE
  by_cases h0 : which < 0
  · rw [if_pos (.inl h0)] at hE
    subst hE
    have hd : decide (which < 0) = true := decide_eq_true h0
    clear HB
    go_enter Try.func44, Try.ntmps44
    go_wp2
    go_ret
    exact ⟨rfl, rfl⟩
  obtain ⟨k, rfl⟩ : ∃ k : Nat, which = k := ⟨which.toNat, by omega⟩
  have hd0 : decide ((k : Int) < 0) = false := decide_eq_false h0
  by_cases h1 : G.towers ≤ k
  · rw [if_pos (.inr (by omega))] at hE
    subst hE
    have hd : decide ((G.towers : Int) ≤ (k : Int)) = true := decide_eq_true (by omega)
    clear HB
    go_enter Try.func44, Try.ntmps44
    go_wp2
    go_ret
    exact ⟨rfl, rfl⟩
  have hd1 : decide ((G.towers : Int) ≤ (k : Int)) = false := decide_eq_false (by omega)
  rw [if_neg (by omega), Int.toNat_natCast] at hE
  subst hE
  have hk : k < 16 := by omega
  have cs := HB.cell (21 + k)
  rw [gcs_said _ _ _ hk] at cs
  clear HB
  go_enter Try.func44, Try.ntmps44
  go_wp2
  go_ret
  exact ⟨rfl, rfl⟩
theorem has_nil (which : Int) (w : World) : Calls Try.prog 44 #[.pointer none, .int .i64 which] w fun e w' => e = .returned (.int .i64 (-1)) ∧ w' = w := by
  go_enter Try.func44, Try.ntmps44
  go_wp2
  go_ret
  exact ⟨rfl, rfl⟩

def asleepE (G : GS) (now : Int) : Bool := decide (G.slf ≤ now) && decide (now < G.slt)
set_option maxRecDepth 100000 in
set_option maxHeartbeats 2000000 in
theorem asleep_to (p : Nat) (G : GS) (now : Int) (w w0 : World) (C X : List Blk) (h : Gu w w0 C X p G) (E : Bool) (hE : asleepE G now = E) :
    Calls Try.prog 45 #[ptr p, .int .i64 now] w fun e w' => e = .returned (.bool E) ∧ w' = w := by
  obtain ⟨bv, O, m⟩ := h
  have HB := O.has (List.mem_cons_self ..)
  have lt := HB.lt
  have HO := Lib.hid O
  have Hm := Lib.hid m
  clear O m
  have c37 : w.cell? ⟨p, 37, none⟩ = some (.int .i64 G.slf) := HB.cell 37
  have c38 : w.cell? ⟨p, 38, none⟩ = some (.int .i64 G.slt) := HB.cell 38
  unfold asleepE at hE
  clear HB
  cases h1 : decide (G.slf ≤ now) with
  | false =>
    rw [h1] at hE
    subst hE
    go_enter Try.func45, Try.ntmps45
    go_wp2
    go_ret
    exact ⟨rfl, rfl⟩
  | true =>
    rw [h1, Bool.true_and] at hE
    go_enter Try.func45, Try.ntmps45
    go_wp2
    go_ret
    exact ⟨rfl, rfl⟩
theorem asleep_nil (now : Int) (w : World) : Calls Try.prog 45 #[.pointer none, .int .i64 now] w fun e w' => e = .returned (.bool false) ∧ w' = w := by
  go_enter Try.func45, Try.ntmps45
  go_wp2
  go_ret
  exact ⟨rfl, rfl⟩

def wakeG (G : GS) : GS := { G with slf := 0, slt := 0 }
set_option maxRecDepth 100000 in
set_option maxHeartbeats 2000000 in
theorem wake_to (p : Nat) (G : GS) (w w0 : World) (C X : List Blk) (h : Gu w w0 C X p G) :
    Calls Try.prog 41 #[ptr p] w fun e w' => e = .returned (.tuple #[]) ∧ Gu w' w0 C X p (wakeG G) := by
  obtain ⟨bv, O, m⟩ := h
  have HB := O.has (List.mem_cons_self ..)
  have lt := HB.lt
  have HO := Lib.hid O
  have Hm := Lib.hid m
  clear O m
  have c37 : w.cell? ⟨p, 37, none⟩ = some (.int .i64 G.slf) := HB.cell 37
  have c38 : w.cell? ⟨p, 38, none⟩ = some (.int .i64 G.slt) := HB.cell 38
  have f37 := HB.frozen 37
  have f38 := HB.frozen 38
  clear HB
  go_enter Try.func41, Try.ntmps41
  go_wp2
  refine bodyPost_end (results_none rfl _ _ _) rfl ?_
  exact ⟨rfl, bv, ((HO.out.set 37 (.int .i64 0)).set 38 (.int .i64 0)).as (by rw [gcs_sleep]; rfl), Hm.out⟩
theorem wake_nil (w : World) : Calls Try.prog 41 #[.pointer none] w fun e w' => e = .returned (.tuple #[]) ∧ w' = w := by
  go_enter Try.func41, Try.ntmps41
  go_wp2
  refine bodyPost_end (results_none rfl _ _ _) rfl ?_
  exact ⟨rfl, rfl⟩

end Go.Proofs.Ytghaiplhakeahaa
