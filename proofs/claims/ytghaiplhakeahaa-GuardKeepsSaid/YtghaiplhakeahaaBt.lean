/- Bytes: slices of bytes as lists; how a state takes bytes in. Plain. -/
import Derived.Test.YtghaiplhakeahaaN
import Derived.Test.YtghaiplhakeahaaO
import Derived.Laws.IdiomStrings
import Derived.Laws.Cover3
import Derived.Lib.SlBytesRow
namespace Go.Proofs.Ytghaiplhakeahaa
set_option linter.unusedSimpArgs false
set_option linter.unusedVariables false
open Go.RowKit

/-! ### A store of what is there; four cells of a state -/
theorem setCell_self {w : World} {b o : Nat} {v : Value} (h : w.cell? ⟨b, o, none⟩ = some v) : w.setCell ⟨b, o, none⟩ v = w := by
  have e : (w.setCell ⟨b, o, none⟩ v).heap = w.heap := by
    unfold World.cell? at h
    unfold World.setCell
    apply Array.ext_getElem?
    intro k
    simp only [Array.getElem?_modify]
    by_cases hk : b = k
    · subst hk
      simp only [if_pos]
      cases hb : w.heap[b]? with
      | none => rfl
      | some ob =>
        simp only [hb] at h
        cases ob with
        | cells c e f =>
          simp at h
          have hs : c.setIfInBounds o v = c := by
            apply Array.ext_getElem?
            intro j
            rw [Array.getElem?_setIfInBounds]
            split
            · rename_i h1; subst h1
              split
              · exact h.symm
              · rename_i h2; rw [Array.getElem?_eq_none (by omega)]
            · rfl
          simp [hs]
        | _ => simp at h
    · simp [hk]
  unfold World.setCell at e ⊢
  simp only at e
  rw [e]

theorem setCell_comm (w : World) (b i j : Nat) (u v : Value) (h : i ≠ j) : (w.setCell ⟨b, i, none⟩ u).setCell ⟨b, j, none⟩ v = (w.setCell ⟨b, j, none⟩ v).setCell ⟨b, i, none⟩ u := by
  unfold World.setCell
  congr 1
  apply Array.ext_getElem?
  intro k
  simp only [Array.getElem?_modify]
  by_cases hk : b = k
  · simp only [if_pos hk, Option.map_map]
    congr 1
    funext o
    cases o <;> simp only [Function.comp]
    simp [Array.setIfInBounds_comm _ _ h]
  · simp [hk]

section
variable {w : World} {b o : Nat}
theorem putSt_self {s : St} (h0 : w.cell? ⟨b, o, none⟩ = some (.int .u64 (nv s.a))) (h1 : w.cell? ⟨b, o + 1, none⟩ = some (.int .u64 (nv s.b)))
    (h2 : w.cell? ⟨b, o + 2, none⟩ = some (.int .u64 (nv s.c))) (h3 : w.cell? ⟨b, o + 3, none⟩ = some (.int .u64 (nv s.d))) : putSt w b o s = w := by
  unfold putSt
  rw [setCell_self h0, setCell_self h1, setCell_self h2, setCell_self h3]
theorem putSt_putSt (s t : St) : putSt (putSt w b o s) b o t = putSt w b o t := by
  unfold putSt
  rw [setCell_comm _ b (o + 3) o _ _ (by omega), setCell_comm _ b (o + 2) o _ _ (by omega), setCell_comm _ b (o + 1) o _ _ (by omega), setCell_setCell,
    setCell_comm _ b (o + 3) (o + 1) _ _ (by omega), setCell_comm _ b (o + 2) (o + 1) _ _ (by omega), setCell_setCell,
    setCell_comm _ b (o + 3) (o + 2) _ _ (by omega), setCell_setCell, setCell_setCell]
theorem putSt_plus (s : St) (g : Array Obj) (d : Nat) (hb : b < w.heap.size) : putSt (plus w g d) b o s = plus (putSt w b o s) g d := by
  unfold putSt
  rw [setCell_plus _ _ _ _ _ _ hb, setCell_plus _ _ _ _ _ _ (by simp [World.setCell, hb]), setCell_plus _ _ _ _ _ _ (by simp [World.setCell, hb]), setCell_plus _ _ _ _ _ _ (by simp [World.setCell, hb])]
theorem putSt_size (s : St) : (putSt w b o s).heap.size = w.heap.size := by simp [putSt, World.setCell]
theorem putSt_far (s : St) (p : Addr) (h : p.block ≠ b) : (putSt w b o s).cell? p = w.cell? p := by
  unfold putSt
  rw [World.cell?_setCell_other, World.cell?_setCell_other, World.cell?_setCell_other, World.cell?_setCell_other] <;> (rintro rfl; exact h rfl)
theorem putSt_frozen (s : St) (p : Addr) : (putSt w b o s).frozen? p = w.frozen? p := by simp [putSt, World.frozen?_setCell]
theorem cell_lt {v : Value} {p : Addr} (h : w.cell? p = some v) : p.block < w.heap.size := World.block_lt_of_cell? w p h
end

/-- In block b, from cell o on, w holds the state s; they may be written. -/
structure HasSt (w : World) (b o : Nat) (s : St) : Prop where
  h0 : w.cell? ⟨b, o, none⟩ = some (.int .u64 (nv s.a))
  h1 : w.cell? ⟨b, o + 1, none⟩ = some (.int .u64 (nv s.b))
  h2 : w.cell? ⟨b, o + 2, none⟩ = some (.int .u64 (nv s.c))
  h3 : w.cell? ⟨b, o + 3, none⟩ = some (.int .u64 (nv s.d))
  f0 : w.frozen? ⟨b, o, none⟩ = false
  f1 : w.frozen? ⟨b, o + 1, none⟩ = false
  f2 : w.frozen? ⟨b, o + 2, none⟩ = false
  f3 : w.frozen? ⟨b, o + 3, none⟩ = false

section
variable {w : World} {b o : Nat} {s : St}
theorem HasSt.lt (h : HasSt w b o s) : b < w.heap.size := cell_lt h.h0
theorem HasSt.same (h : HasSt w b o s) : putSt w b o s = w := putSt_self h.h0 h.h1 h.h2 h.h3
theorem HasSt.put (h : HasSt w b o s) (t : St) : HasSt (putSt w b o t) b o t := by
  obtain ⟨h0, h1, h2, h3, f0, f1, f2, f3⟩ := h
  have n0 : ∀ i j : Nat, i ≠ j → (⟨b, i, none⟩ : Addr) ≠ ⟨b, j, none⟩ := fun i j hij e => hij (by injection e)
  have same : ∀ (W : World) (i : Nat) (u v : Value), W.cell? ⟨b, i, none⟩ = some u → (W.setCell ⟨b, i, none⟩ v).cell? ⟨b, i, none⟩ = some v := fun W i u v hu => by
    unfold World.cell? at hu ⊢
    unfold World.setCell
    simp only [Array.getElem?_modify, if_pos]
    cases hb : W.heap[b]? with
    | none => rw [hb] at hu; cases hu
    | some ob =>
      rw [hb] at hu
      cases ob with
      | cells c e f =>
        simp at hu
        have := (Array.getElem?_eq_some_iff.1 hu).1
        simp [this]
      | _ => simp at hu
  refine ⟨?_, ?_, ?_, ?_, by rw [putSt_frozen]; exact f0, by rw [putSt_frozen]; exact f1, by rw [putSt_frozen]; exact f2, by rw [putSt_frozen]; exact f3⟩ <;> unfold putSt
  · rw [World.cell?_setCell_other _ _ _ _ (n0 _ _ (by omega)), World.cell?_setCell_other _ _ _ _ (n0 _ _ (by omega)), World.cell?_setCell_other _ _ _ _ (n0 _ _ (by omega))]
    exact same _ _ _ _ h0
  · rw [World.cell?_setCell_other _ _ _ _ (n0 _ _ (by omega)), World.cell?_setCell_other _ _ _ _ (n0 _ _ (by omega))]
    exact same _ _ _ _ (by rw [World.cell?_setCell_other _ _ _ _ (n0 _ _ (by omega))]; exact h1)
  · rw [World.cell?_setCell_other _ _ _ _ (n0 _ _ (by omega))]
    exact same _ _ _ _ (by rw [World.cell?_setCell_other _ _ _ _ (n0 _ _ (by omega)), World.cell?_setCell_other _ _ _ _ (n0 _ _ (by omega))]; exact h2)
  · exact same _ _ _ _ (by rw [World.cell?_setCell_other _ _ _ _ (n0 _ _ (by omega)), World.cell?_setCell_other _ _ _ _ (n0 _ _ (by omega)), World.cell?_setCell_other _ _ _ _ (n0 _ _ (by omega))]; exact h3)
theorem HasSt.plus (h : HasSt w b o s) (g : Array Obj) (d : Nat) : HasSt (plus w g d) b o s := by
  have hb := h.lt
  obtain ⟨h0, h1, h2, h3, f0, f1, f2, f3⟩ := h
  exact ⟨by rw [cell?_plus _ _ _ _ _ hb]; exact h0, by rw [cell?_plus _ _ _ _ _ hb]; exact h1, by rw [cell?_plus _ _ _ _ _ hb]; exact h2, by rw [cell?_plus _ _ _ _ _ hb]; exact h3,
    by rw [frozen?_plus _ _ _ _ _ hb]; exact f0, by rw [frozen?_plus _ _ _ _ _ hb]; exact f1, by rw [frozen?_plus _ _ _ _ _ hb]; exact f2, by rw [frozen?_plus _ _ _ _ _ hb]; exact f3⟩
end

/-! ### Eight bytes as a number -/
def word8 (f : Nat → UInt8) : BitVec 64 :=
  BitVec.ofNat 64 ((f 0).toNat + (f 1).toNat * 256 + (f 2).toNat * 65536 + (f 3).toNat * 16777216 + (f 4).toNat * 4294967296 + (f 5).toNat * 1099511627776 + (f 6).toNat * 281474976710656 + (f 7).toNat * 72057594037927936)
theorem by8_word8 (f : Nat → UInt8) (j : Nat) (hj : j < 8) : by8 (word8 f) j = ((f j).toNat : Int) := by
  have l0 := (f 0).toNat_lt
  have l1 := (f 1).toNat_lt
  have l2 := (f 2).toNat_lt
  have l3 := (f 3).toNat_lt
  have l4 := (f 4).toNat_lt
  have l5 := (f 5).toNat_lt
  have l6 := (f 6).toNat_lt
  have l7 := (f 7).toNat_lt
  have hn : nv (word8 f) = ((f 0).toNat : Int) + (f 1).toNat * 256 + (f 2).toNat * 65536 + (f 3).toNat * 16777216 + (f 4).toNat * 4294967296 + (f 5).toNat * 1099511627776 + (f 6).toNat * 281474976710656 + (f 7).toNat * 72057594037927936 := by
    unfold word8; simp only [nv_eq]
    rw [BitVec.toNat_ofNat, Nat.mod_eq_of_lt (by omega)]; omega
  match j, hj with
  | 0, _ => rw [by8_0, hn]; omega
  | 1, _ => rw [by8_1, hn]; omega
  | 2, _ => rw [by8_2, hn]; omega
  | 3, _ => rw [by8_3, hn]; omega
  | 4, _ => rw [by8_4, hn]; omega
  | 5, _ => rw [by8_5, hn]; omega
  | 6, _ => rw [by8_6, hn]; omega
  | 7, _ => rw [by8_7, hn]; omega
theorem word8_congr {f g : Nat → UInt8} (h : ∀ j, j < 8 → f j = g j) : word8 f = word8 g := by
  unfold word8
  rw [h 0 (by omega), h 1 (by omega), h 2 (by omega), h 3 (by omega), h 4 (by omega), h 5 (by omega), h 6 (by omega), h 7 (by omega)]

/-- The k-th eight of bytes (nothing behind them: 0). -/
def wordAt (l : List UInt8) (k : Nat) : BitVec 64 := word8 fun j => l.getD (8 * k + j) 0
theorem by8_wordAt (l : List UInt8) (k j : Nat) (hj : j < 8) : by8 (wordAt l k) j = ((l.getD (8 * k + j) 0).toNat : Int) := by8_word8 _ j hj
theorem wordAt_front (l r : List UInt8) (k : Nat) (h : 8 * k + 8 ≤ l.length) : wordAt (l ++ r) k = wordAt l k :=
  word8_congr fun j hj => by simp only [List.getD_eq_getElem?_getD]; rw [List.getElem?_append_left (by omega)]
theorem wordAt_zeros (l : List UInt8) (z k : Nat) : wordAt (l ++ List.replicate z 0) k = wordAt l k :=
  word8_congr fun j hj => by
    simp only [List.getD_eq_getElem?_getD, List.getElem?_append]
    split
    · rfl
    · rename_i h
      rw [List.getElem?_eq_none (l := l) (by omega), List.getElem?_replicate]
      split <;> rfl

/-- As many eights are taken in. -/
def wholeF (s : St) (l : List UInt8) : Nat → St
  | 0 => s
  | n + 1 => takeF (wholeF s l n) (wordAt l n)
theorem wholeF_congr (s : St) (l r : List UInt8) (n : Nat) (h : ∀ k, k < n → wordAt l k = wordAt r k) : wholeF s l n = wholeF s r n := by
  induction n with
  | zero => rfl
  | succ n ih => unfold wholeF; rw [ih fun k hk => h k (by omega), h n (by omega)]
def tailW (l : List UInt8) : BitVec 64 := wordAt (l ++ [1]) (l.length / 8)
def endF (s : St) (l : List UInt8) : St := takeF (takeF s (tailW l)) (BitVec.ofNat 64 l.length)
def bytesF (s : St) (l : List UInt8) : St := endF (wholeF s l (l.length / 8)) l
def ofF (l : List UInt8) : BitVec 64 := givesF (bytesF (beginF 1#64) l)
def wordF (d : BitVec 64) (t : List UInt8) : BitVec 64 := givesF (bytesF (takeF (beginF 4#64) d) t)
def manySt (xs : List (BitVec 64)) : St := xs.foldl takeF (beginF 5#64)
def manyF (xs : List (BitVec 64)) : BitVec 64 := givesF (takeF (manySt xs) (BitVec.ofNat 64 xs.length))
theorem manySt_take (xs : List (BitVec 64)) (k : Nat) (h : k < xs.length) : manySt (xs.take (k + 1)) = takeF (manySt (xs.take k)) (xs.getD k 0) := by
  unfold manySt
  rw [List.take_succ_eq_append_getElem h, List.foldl_append, List.getD_eq_getElem?_getD, List.getElem?_eq_getElem h]; rfl

/-- The document's way: the bytes, a 1, zeros up to an eight. -/
theorem ref_bytes (s : St) (l : List UInt8) (z : Nat) : takeF (wholeF s (l ++ [1] ++ List.replicate z 0) (l.length / 8 + 1)) (BitVec.ofNat 64 l.length) = bytesF s l := by
  unfold bytesF endF tailW
  rw [wholeF, wordAt_zeros, wholeF_congr s (l ++ [1] ++ List.replicate z 0) l (l.length / 8) fun k hk => by rw [wordAt_zeros, wordAt_front _ _ _ (by omega)]]

/-! ### Slices of bytes -/
/-- The value v is, in the world w, a slice of the bytes l. -/
def BSl (w : World) (v : Value) (l : List UInt8) : Prop := VSl w v l.length (fun i => .int .u8 ((l.getD i 0).toNat : Int))
theorem BSl.plus {w : World} {v : Value} {l : List UInt8} (h : BSl w v l) (g : Array Obj) (d : Nat) : BSl (Go.Proofs.Ytghaiplhakeahaa.plus w g d) v l := VSl.plus h g d
theorem BSl.alloc {w : World} {v : Value} {l : List UInt8} (h : BSl w v l) (o : Obj) : BSl (w.alloc o) v l := VSl.alloc h o
theorem BSl.below {w w' : World} {v : Value} {l : List UInt8} (h : BSl w v l) (hb : Below w.heap.size w w') : BSl w' v l := VSl.below h hb
theorem BSl.nil (w : World) : BSl w (.slice none 0 0) [] := ⟨none, 0, rfl, ⟨by simp, fun _ => ⟨rfl, rfl⟩⟩, .inl rfl⟩
/-- A slice of bytes, opened. -/
theorem BSl.open_ {w : World} {v : Value} {l : List UInt8} (h : BSl w v l) : ∃ ao cap, v = .slice ao l.length cap ∧ l.length ≤ cap ∧ (ao = none → l.length = 0 ∧ cap = 0) ∧
    (l = [] ∨ ∃ b o, ao = some ⟨b, o, none⟩ ∧ b < w.heap.size ∧ ∀ i, i < l.length → w.cell? ⟨b, o + i, none⟩ = some (.int .u8 ((l.getD i 0).toNat : Int))) := by
  obtain ⟨ao, cap, rfl, ⟨h1, h2⟩, h3⟩ := h
  refine ⟨ao, cap, rfl, h1, h2, h3.imp (fun h => List.eq_nil_of_length_eq_zero h) id⟩
/-- Its cells, as values. -/
def bcs (l : List UInt8) : List Value := l.map fun c => Value.int .u8 (c.toNat : Int)
theorem bcs_len (l : List UInt8) : (bcs l).length = l.length := by simp [bcs]
theorem bcs_app (l r : List UInt8) : bcs (l ++ r) = bcs l ++ bcs r := by simp [bcs]
theorem bcs_one (l : List UInt8) : ∀ u ∈ bcs l, u.oneCell' = true := by
  intro u hu
  obtain ⟨c, _, rfl⟩ := List.mem_map.1 hu
  rfl
theorem bcs_get (l : List UInt8) (i : Nat) (h : i < l.length) : (bcs l)[i]? = some (.int .u8 ((l.getD i 0).toNat : Int)) := by
  simp [bcs, List.getElem?_map, List.getElem?_eq_getElem h, List.getD_eq_getElem?_getD]

theorem BSl.cells {w : World} {ao : Option Addr} {n cap : Nat} {l : List UInt8} (h : BSl w (.slice ao n cap) l) : n = l.length ∧ (ao = none → l.length = 0 ∧ cap = 0) ∧ ∀ ad, ao = some ad → ∀ j u, (bcs l)[j]? = some u → w.cell? (ad.add j) = some u := by
  obtain ⟨ao', cap', e, h1, h2, h3⟩ := h.open_
  cases e
  refine ⟨rfl, h2, fun ad had j u hj => ?_⟩
  have hlt : j < l.length := by
    have := (List.getElem?_eq_some_iff.1 hj).1
    rwa [bcs_len] at this
  rw [bcs_get l j hlt] at hj
  rcases h3 with rfl | ⟨b, o, rfl, hb, hc⟩
  · simp at hlt
  · cases had
    have hadd : (⟨b, o, none⟩ : Addr).add j = ⟨b, o + j, none⟩ := by unfold Addr.add; split <;> simp_all
    rw [hadd, hc j hlt]
    exact hj

/-- A slice's end, from k on. -/
theorem BSl.drop {w : World} {ao : Option Addr} {n cap : Nat} {l : List UInt8} (h : BSl w (.slice ao n cap) l) (k : Nat) (hk : k ≤ l.length) : BSl w (.slice (if cap = k then ao else ao.map (·.add (k * 1))) (n - k) (cap - k)) (l.drop k) := by
  obtain ⟨ao', cap', e, h1, h2, h3⟩ := h.open_
  cases e
  refine ⟨_, _, by rw [List.length_drop], ⟨by rw [List.length_drop]; omega, fun hno => ?_⟩, ?_⟩
  · have : ao = none := by
      split at hno
      · exact hno
      · cases ao <;> simp at hno ⊢
    have := h2 this
    rw [List.length_drop]; omega
  · rw [List.length_drop]
    rcases h3 with rfl | ⟨b, o, rfl, hb, hc⟩
    · left; simp
    · by_cases hz : l.length - k = 0
      · exact .inl hz
      · right
        refine ⟨b, o + k, ?_, hb, fun i hi => ?_⟩
        · rw [if_neg (by omega), Option.map_some, Nat.mul_one]
          unfold Addr.add; split
          · rename_i h0; subst h0; rfl
          · rfl
        · have := hc (k + i) (by omega)
          rw [show o + k + i = o + (k + i) by omega, this]
          simp [List.getD_eq_getElem?_getD, List.getElem?_drop]

/-- A row of bytes of the call's own. -/
theorem GRow.bsl {W0 : World} {g : Array Obj} {e : TypeId} {v : Value} {n : Nat} {l : List UInt8} (h : GRow W0.heap.size g e 1 v n (bcs l)) (hn : n = l.length) (d : Nat) : BSl (Go.Proofs.Ytghaiplhakeahaa.plus W0 g d) v l := by
  subst hn
  exact h.vsl d _ fun i hi => bcs_get l i hi

/-- A string's bytes. -/
def strL (s : ByteArray) : List UInt8 := s.data.toList
theorem strL_len (s : ByteArray) : (strL s).length = s.size := by unfold strL; rw [Array.length_toList]; rfl
theorem strL_inj {s t : ByteArray} (h : strL s = strL t) : s = t := by
  apply ByteArray.ext
  apply Array.toList_inj.1
  exact h

/-- 'string(b)'. -/
theorem run_str {P : Program} (w : World) (src dst e : TypeId) (v : Value) (l : List UInt8) (hs : P.underlying src = some (.slice e)) (he : P.underlying e = some (.int .u8)) (hd : P.underlying dst = some .string) (h : BSl w v l) :
    (convert src dst v).run P w = .ok (.string ⟨l.toArray⟩) w := by
  obtain ⟨ao, cap, rfl, h1, h2, h3⟩ := h.open_
  rcases h3 with rfl | ⟨b, o, rfl, hb, hc⟩
  · cases ao with
    | none => exact run_convert_bytes_nil w src e hs he _ _ dst hd
    | some a => exact run_convert_bytes_back w src dst e a cap [] hs he hd (fun j hj => by simp at hj)
  · refine run_convert_bytes_back w src dst e ⟨b, o, none⟩ cap l hs he hd fun j hj => ?_
    have hadd : (⟨b, o, none⟩ : Addr).add j = ⟨b, o + j, none⟩ := by unfold Addr.add; split <;> simp_all
    rw [hadd, hc j hj]
    simp [List.getD_eq_getElem?_getD, List.getElem?_eq_getElem hj]

end Go.Proofs.Ytghaiplhakeahaa
