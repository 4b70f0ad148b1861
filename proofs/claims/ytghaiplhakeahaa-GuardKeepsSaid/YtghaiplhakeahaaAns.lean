/- Bytes that a function answers: they lie in a block of the call's own. Over any program; and hash.Stream's. -/
import Derived.Test.YtghaiplhakeahaaSto
import Derived.Test.YtghaiplhakeahaaTl
import Derived.Deep.Upon
namespace Go.Proofs.Ytghaiplhakeahaa
set_option linter.unusedSimpArgs false
set_option linter.unusedVariables false
open Go.RowKit

/-- The block that bytes lie in. -/
def Bys (ao : Option Addr) (l : List UInt8) (S : List Blk) : Prop := (l = [] ∧ S = []) ∨ ∃ r t cur, ao = some ⟨r, 0, none⟩ ∧ S = [⟨r, t, cur⟩] ∧ ∀ j, j < l.length → cur[j]? = some (.int .u8 ((l.getD j 0).toNat : Int))
/-- The bytes l, in a block behind the first ones. -/
def Ans (base : Nat) (l : List UInt8) : Pred := fun u W => ∃ ao cap S, u = .slice ao l.length cap ∧ (l.length ≤ cap ∧ (ao = none → cap = 0)) ∧ Bys ao l S ∧ ∀ x ∈ S, base ≤ x.no ∧ HasBlk W x.no x.ty x.cs
theorem stays_ans (base : Nat) (l : List UInt8) : Stays (Ans base l) := fun v w w' ⟨x, hx⟩ ⟨ao, cap, S, h1, h2, h3, h4⟩ => by
  refine ⟨ao, cap, S, h1, h2, h3, fun y hy => ?_⟩
  obtain ⟨h5, h6⟩ := h4 y hy
  exact ⟨h5, by rw [hx]; exact h6.plus _ _⟩
theorem Ans.plus {base : Nat} {l : List UInt8} {u : Value} {W : World} (h : Ans base l u W) (g : Array Obj) (d : Nat) : Ans base l u (Go.Proofs.Ytghaiplhakeahaa.plus W g d) := stays_ans base l u W _ ⟨⟨g, d⟩, rfl⟩ h
theorem Ans.ext {base : Nat} {l : List UInt8} {u : Value} {W W' : World} (h : Ans base l u W) (hx : Ext W W') : Ans base l u W' := stays_ans base l u W _ hx h
theorem Ans.base {base base' : Nat} {l : List UInt8} {u : Value} {W : World} (h : Ans base l u W) (hb : base' ≤ base) : Ans base' l u W := by
  obtain ⟨ao, cap, S, h1, h2, h3, h4⟩ := h
  exact ⟨ao, cap, S, h1, h2, h3, fun y hy => ⟨Nat.le_trans hb (h4 y hy).1, (h4 y hy).2⟩⟩
theorem Ans.bsl {base : Nat} {l : List UInt8} {u : Value} {W : World} (h : Ans base l u W) : BSl W u l := by
  obtain ⟨ao, cap, S, rfl, ⟨h1, h2⟩, h3, h4⟩ := h
  rcases h3 with ⟨rfl, -⟩ | ⟨r, t, cur, rfl, rfl, h5⟩
  · exact ⟨ao, cap, rfl, ⟨h1, fun h => ⟨rfl, h2 h⟩⟩, .inl rfl⟩
  · have h6 := (h4 _ (List.mem_singleton.2 rfl)).2
    refine ⟨_, cap, rfl, ⟨h1, fun h => by cases h⟩, .inr ⟨r, 0, rfl, h6.lt, fun i hi => ?_⟩⟩
    rw [Nat.zero_add, h6.cell]
    exact h5 i hi
theorem Ans.nil (base : Nat) (W : World) : Ans base [] (.slice none 0 0) W := ⟨none, 0, [], rfl, ⟨by simp, fun _ => rfl⟩, .inl ⟨rfl, rfl⟩, by simp⟩

/-- A row of bytes, as an answer. -/
theorem Row.ans {e : TypeId} {base n : Nat} {v : Value} {l : List UInt8} {B : List Blk} {W : World} (h : Row e 1 v n (bcs l) B) (hb : ∀ x ∈ B, base ≤ x.no ∧ HasBlk W x.no x.ty x.cs) : Ans base l v W := by
  have hn := h.len
  rw [bcs_len] at hn
  generalize hy : bcs l = ys at h
  cases h with
  | void =>
    have : l = [] := by cases l <;> simp [bcs] at hy ⊢
    subst this
    exact Ans.nil _ _
  | one r n cap cur h1 h2 h3 =>
    have hn' : n = l.length := by omega
    subst hn'
    refine ⟨_, cap, [⟨r, e, cur⟩], rfl, ⟨h1, fun h => by cases h⟩, .inr ⟨r, e, cur, rfl, rfl, fun j hj => ?_⟩, hb⟩
    have h4 := congrArg (fun l => l[j]?) hy
    simp only [Nat.mul_one] at h4
    rw [bcs_get l j hj, List.getElem?_take, if_pos hj, Array.getElem?_toList] at h4
    exact h4.symm

/-- hash.Stream's bytes. -/
theorem stream_ans (x : BitVec 64) (n : Nat) (i : Int) (hi : i = n) (h2 : n ≤ 1048576) (l : List UInt8) (hl : streamB x n = l) (w : World) :
    Calls Try.prog 103 #[.agg #[.int .u8 (by8 x 0), .int .u8 (by8 x 1), .int .u8 (by8 x 2), .int .u8 (by8 x 3), .int .u8 (by8 x 4), .int .u8 (by8 x 5), .int .u8 (by8 x 6), .int .u8 (by8 x 7)], .int .i64 i] w fun e w' => ∃ u, e = .returned u ∧ Below w.heap.size w w' ∧ Ans w.heap.size l u w' := by
  subst hi hl
  by_cases h : 1 ≤ n
  · refine (stream_own x n h h2 w).mono ?_
    rintro e w' ⟨b, cs, rfl, h1, h2, h3, h4⟩
    have hlen := streamB_len x n
    refine ⟨_, rfl, h1, _, n, [⟨b, 5, cs⟩], by rw [hlen], ⟨by rw [hlen]; exact Nat.le_refl _, fun h => by cases h⟩, .inr ⟨b, 5, cs, rfl, rfl, fun j hj => ?_⟩, fun y hy => ?_⟩
    · obtain ⟨ao', cap', e1, -, h5⟩ := h2
      simp only [Value.slice.injEq] at e1
      obtain ⟨rfl, -, -⟩ := e1
      rcases h5 with h5 | ⟨b', o', e2, -, h6⟩
      · omega
      · cases e2
        have := h6 j hj
        rw [Nat.zero_add, h4.cell] at this
        exact this
    · obtain rfl := List.mem_singleton.1 hy
      exact ⟨h3, h4⟩
  · obtain rfl : n = 0 := by omega
    refine (stream_none x 0 (by omega) w).mono ?_
    rintro e w' ⟨rfl, h1⟩
    exact ⟨_, rfl, h1, Ans.nil _ _⟩

theorem bits_xor8 (a b : UInt8) : bits .xor .u8 (a.toNat : Int) (b.toNat : Int) = ((a ^^^ b).toNat : Int) := by
  have ha := a.toNat_lt
  have hb := b.toNat_lt
  have hx : a.toNat ^^^ b.toNat < 2 ^ 8 := Nat.xor_lt_two_pow (by omega) (by omega)
  have h1 : (BitVec.ofInt 8 (a.toNat : Int)).toNat = a.toNat := by
    rw [BitVec.ofInt_natCast, BitVec.toNat_ofNat]; exact Nat.mod_eq_of_lt (by omega)
  have h2 : (BitVec.ofInt 8 (b.toNat : Int)).toNat = b.toNat := by
    rw [BitVec.ofInt_natCast, BitVec.toNat_ofNat]; exact Nat.mod_eq_of_lt (by omega)
  show IntKind.u8.wrap ((BitVec.ofInt 8 (a.toNat : Int) ^^^ BitVec.ofInt 8 (b.toNat : Int)).toNat : Int) = _
  rw [BitVec.toNat_xor, h1, h2, UInt8.toNat_xor]
  simp [IntKind.wrap, IntKind.bits, IntKind.signed]
  omega

/-- append onto a full array of the call's own. -/
theorem wp_append_full {P : Program} {w : World} {o : Oper} {a : Act} {Q : Exit → Act → World → Prop} {K : Act → World → Prop} (s x : Operand) (t : TypeId) (ho : o.op = .call { callee := .builtin .append, args := #[s, x], argTypes := #[t, t] })
    {e : TypeId} (E : Elt P t e 1 1) (r : Nat) (t' : TypeId) (d : List UInt8) (hs : a.eval s = .slice (some ⟨r, 0, none⟩) d.length d.length) (hb : HasBlk w r t' (bcs d).toArray) (base : Nat) (hr : base ≤ r) (hbase : base ≤ w.heap.size)
    (u : Value) (l : List UInt8) (hx : a.eval x = u) (hu : BSl w u l) (hsz : d.length + l.length ≤ 1000000000) (y : List UInt8) (hy : d ++ l = y)
    (h : ∀ v' w', Below w.heap.size w w' → Ans base y v' w' → K (a.put o.dst v') w') : o.wp P a w K Q := by
  subst hy
  obtain ⟨i, z, ht, hi, hz, hs1, hby, hzs, hpos⟩ := E
  obtain ⟨ao, cap, rfl, h1, h2, h3⟩ := hu.open_
  have hc := hu.cells.2.2
  have hold : ∀ W : World, (∀ j, W.cell? ⟨r, j, none⟩ = w.cell? ⟨r, j, none⟩) → (Builtin.firstCells i.size d.length (.slice (some ⟨r, 0, none⟩) d.length d.length)).run P W = .ok (bcs d).toArray W := fun W hW => by
    rw [hs1]
    refine run_firstCells_some W 1 d.length ⟨r, 0, none⟩ d.length d.length (bcs d) (by simp [bcs_len]) fun j u hj => ?_
    rw [show (⟨r, 0, none⟩ : Addr).add j = ⟨r, j, none⟩ by unfold Addr.add; split <;> simp_all, hW, hb.cell]
    simpa using hj
  by_cases h0 : l.length = 0
  · obtain rfl : l = [] := List.eq_nil_of_length_eq_zero h0
    have hsrc : Src P i.size t (.slice ao 0 cap) 0 [] w := by
      cases ao with
      | none => exact Src.ofNil w ht cap
      | some ad => exact Src.ofSlice w ht ad 0 cap [] (by simp) (by simp) (by simp)
    have hrun := run_append_nothing (P := P) w t t o.type e i ht hi (some ⟨r, 0, none⟩) d.length d.length (Nat.le_refl _) (.slice ao 0 cap) hsrc
    unfold Oper.wp
    simp only [List.length_nil] at hx
    simp [execOp, ho, resolve, invoke, builtin, hs, hx, hrun, Result.andThen]
    rw [List.append_nil] at h
    refine h _ _ (Below.refl _ _) ⟨_, _, [⟨r, t', (bcs d).toArray⟩], rfl, ⟨Nat.le_refl _, fun h => by cases h⟩, .inr ⟨r, t', _, rfl, rfl, fun j hj => ?_⟩, fun y hy => ?_⟩
    · rw [List.getElem?_toArray]; exact bcs_get d j hj
    · obtain rfl := List.mem_singleton.1 hy
      exact ⟨hr, hb⟩
  · obtain ⟨ad, rfl⟩ : ∃ ad, ao = some ad := by
      cases ao with
      | none => have := (h2 rfl).1; omega
      | some ad => exact ⟨ad, rfl⟩
    have hsrc : Src P i.size t (.slice (some ad) l.length cap) l.length (bcs l) w := Src.ofSlice w ht ad l.length cap (bcs l) (by rw [hs1, bcs_len]; simp) (hc ad rfl) (bcs_one l)
    have hrun := run_append_grow_src (P := P) w t t o.type e i z ht hi hz (some ⟨r, 0, none⟩) d.length d.length (bcs d) (hold w.drew fun j => rfl) (.slice (some ad) l.length cap) l.length (bcs l) hsrc (by omega) (by omega) (growslice_fits (by omega) (by rw [hby]; omega))
    unfold Oper.wp
    simp [execOp, ho, resolve, invoke, builtin, hs, hx, hrun, Result.andThen]
    have hge := grownCap_ge w (d.length + l.length) d.length e
    have hcell : ∀ j, j < (d ++ l).length → ((bcs d ++ bcs l).toArray ++ Builtin.zeroCells z.cells (grownCap w (d.length + l.length) d.length e - (d.length + l.length)))[j]? = some (.int .u8 (((d ++ l).getD j 0).toNat : Int)) := fun j hj => by
      rw [Array.getElem?_append_left (by simp [bcs_len]; simpa using hj), ← bcs_app, List.getElem?_toArray]
      exact bcs_get (d ++ l) j hj
    generalize ((bcs d ++ bcs l).toArray ++ Builtin.zeroCells z.cells (grownCap w (d.length + l.length) d.length e - (d.length + l.length))) = cur at hcell ⊢
    refine h _ _ (balloc ((Below.refl _ _).drew) _) ⟨_, _, [⟨w.heap.size, e, cur⟩], by rw [List.length_append], ⟨by rw [List.length_append]; omega, fun h => by cases h⟩, .inr ⟨w.heap.size, e, cur, rfl, rfl, hcell⟩, fun y hy => ?_⟩
    obtain rfl := List.mem_singleton.1 hy
    exact ⟨hbase, HasBlk.new _ _ _ _ rfl⟩

theorem bsl_cells8 {w : World} {v : Value} {l : List UInt8} (h : BSl w v l) (c : Nat) (hc : 8 * c + 8 ≤ l.length) : ∃ b o cap, v = .slice (some ⟨b, o, none⟩) l.length cap ∧ l.length ≤ cap ∧ b < w.heap.size ∧ ∀ j, j < 8 → w.cell? ⟨b, o + c * 8 + j, none⟩ = some (.int .u8 (by8 (wordAt l c) j)) := by
  obtain ⟨ao, cap, rfl, h1, h2, h3⟩ := h.open_
  rcases h3 with rfl | ⟨b, o, rfl, hb, h3⟩
  · simp at hc
  · refine ⟨b, o, cap, rfl, h1, hb, fun j hj => ?_⟩
    rw [by8_wordAt _ _ _ hj, Nat.add_assoc, Nat.mul_comm c 8]
    exact h3 _ (by omega)

theorem dgc_at4 (x : BitVec 64) (j : Nat) (hj : j < 8) : (#[.int .u8 (by8 x 0), .int .u8 (by8 x 1), .int .u8 (by8 x 2), .int .u8 (by8 x 3), .int .u8 (by8 x 4), .int .u8 (by8 x 5), .int .u8 (by8 x 6), .int .u8 (by8 x 7)] : Array Value)[j]? = some (.int .u8 (by8 x j)) := by
  match j, hj with
  | 0, _ | 1, _ | 2, _ | 3, _ | 4, _ | 5, _ | 6, _ | 7, _ => rfl
theorem dgc_ext4 (z : BitVec 64) (cs : Array Value) (hs : cs.size = 8) (h : ∀ j, j < 8 → cs[j]? = some (.int .u8 (by8 z j))) : cs = #[.int .u8 (by8 z 0), .int .u8 (by8 z 1), .int .u8 (by8 z 2), .int .u8 (by8 z 3), .int .u8 (by8 z 4), .int .u8 (by8 z 5), .int .u8 (by8 z 6), .int .u8 (by8 z 7)] := by
  apply Array.ext_getElem?
  intro i
  by_cases hi : i < 8
  · rw [h i hi, dgc_at4 z i hi]
  · rw [Array.getElem?_eq_none (by omega), Array.getElem?_eq_none (by simp; omega)]

end Go.Proofs.Ytghaiplhakeahaa
