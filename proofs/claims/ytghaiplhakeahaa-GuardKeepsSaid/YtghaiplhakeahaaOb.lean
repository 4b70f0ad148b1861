/- Bytes that came in. Plain; over any program. -/
import Derived.Test.YtghaiplhakeahaaV
import Derived.Test.YtghaiplhakeahaaBt
import Derived.Test.YtghaiplhakeahaaMem
import Derived.SizedLaws
import Derived.Deep.Matrix
import Derived.Test.YtghaiplhakeahaaY
import Derived.Test.YtghaiplhakeahaaMsg
namespace Go.Proofs.Ytghaiplhakeahaa
set_option linter.unusedSimpArgs false
set_option linter.unusedVariables false
open Go.ChangeShapes Go.WideShapes Go.ChangeAt Go.RowKit

/-- A slice of bytes that came in. -/
theorem open_bsl {H : Type} {enc : TypeId × Value → H} {P : Program} {w : World} {base : Nat} {held : Bool} {t e : TypeId} {v : Value} {d : DataW H} {p : List MemPlace} (ht : P.underlying t = some (.slice e)) (he : P.underlying e = some (.int .u8)) (hc : P.cellsOf e = 1) {r : Reach} {b0 : Nat} (hval : Value.okWide P w r b0 t v)
    (hd : DataW.Trod enc P w base (fun _ => true) held t v d p) : ∃ l : List UInt8, l.length ≤ maxLen ∧ BSl w v l := by
  obtain ⟨n, l, hn, hl, _, _⟩ := open_vsl ht hc hval hd (α := UInt8) (fun c => .int .u8 (c.toNat : Int)) (fun _ => True) (fun fuel v x h => by
    obtain ⟨b, hb, _, hw⟩ := DataW.trod_int he h
    have hw := u8_wf hw
    refine ⟨UInt8.ofNat b.toNat, ?_, trivial⟩
    have : v = .int .u8 b := by simpa using hb
    rw [this]
    congr 1
    simp only [UInt8.toNat_ofNat']
    show b = ((b.toNat % 2 ^ 8 : Nat) : Int)
    omega)
  refine ⟨(List.range n).map l, by simpa using hn, ?_⟩
  unfold BSl
  have e1 : ((List.range n).map l).length = n := by simp
  rw [e1]
  obtain ⟨ao, cap, h1, h2, h3⟩ := hl
  refine ⟨ao, cap, h1, h2, h3.imp id ?_⟩
  rintro ⟨b, o, h4, h5, h6⟩
  refine ⟨b, o, h4, h5, fun i hi => ?_⟩
  rw [h6 i hi]
  simp [List.getD_eq_getElem?_getD, hi]

section
variable {H : Type} {enc : TypeId × Value → H} {P : Program} {w : World} {base : Nat} {held : Bool}

theorem weights_mem_all {e : TypeId} {d : DataW H} : ∀ {ds : List (DataW H)}, d ∈ ds → ∀ n ∈ d.weights P e, n ∈ DataW.weightsAll P e ds
  | [], h, _, _ => by cases h
  | x :: ds, h, n, hn => by
    simp only [DataW.weightsAll, List.mem_append]
    rcases List.mem_cons.1 h with rfl | h
    · exact .inl hn
    · exact .inr (weights_mem_all h n hn)

/-- A slice of slices of bytes that came in. -/
theorem open_bss {t e q : TypeId} {v : Value} {d : DataW H} {p : List MemPlace} (ht : P.underlying t = some (.slice e)) (he : P.underlying e = some (.slice q)) (hq : P.underlying q = some (.int .u8)) (ce : P.cellsOf e = 1) (cq : P.cellsOf q = 1) (cb : P.bytesOf q = 1)
    {r : Reach} {b0 : Nat} (hval : Value.okWide P w r b0 t v) (hd : DataW.Trod enc P w base (fun _ => true) held t v d p) (hsz : ∀ n ∈ d.weights P t, n ≤ reachBytes) :
    ∃ (n : Nat) (F : Nat → Value × List UInt8), n ≤ maxLen ∧ VSl w v n (fun i => (F i).1) ∧ ∀ i, i < n → BSl w (F i).1 (F i).2 ∧ (F i).2.length ≤ reachBytes := by
  obtain ⟨a', len, m, rfl⟩ := okWide_slice ht hval
  obtain ⟨fuel, hf⟩ := hd
  rcases Deep.open_int_rows ht he hq ce cq hf with ⟨h0, _⟩ | ⟨a, len2, cap2, A, L, C, Z, h0, hb, hl, hm, hxx, hx⟩
  · simp [Value.cells] at h0
    obtain ⟨rfl, rfl, rfl⟩ := h0
    exact ⟨0, fun _ => (undef, []), by unfold maxLen; omega, ⟨none, 0, rfl, ⟨by omega, fun _ => ⟨rfl, rfl⟩⟩, .inl rfl⟩, fun i hi => by omega⟩
  · simp [Value.cells] at h0
    obtain ⟨rfl, rfl, rfl⟩ := h0
    simp only [Prod.mk.injEq] at hxx
    obtain ⟨rfl, -⟩ := hxx
    refine ⟨len, fun i => (.slice (A i) (L i) (C i), (List.range (L i)).map fun c => UInt8.ofNat ((Z i).getD c 0).toNat), by omega, ⟨some a, m, rfl, ⟨hl, fun h => by cases h⟩, ?_⟩, fun i hi => ?_⟩
    · by_cases h0 : len = 0
      · exact .inl h0
      · right
        have h00 := (hx 0 (by omega)).1
        have ha : a.add 0 = a := by simp [Addr.add]
        rw [ha] at h00
        obtain ⟨e1, e2⟩ := cell_plain h00
        refine ⟨a.block, a.off, by rw [← e1], e2, fun i hi => ?_⟩
        have := (hx i (by omega)).1
        rw [e1, add_plain] at this
        exact this
    · obtain ⟨-, r1, r2, r3, r4, r5, r6⟩ := hx i (by omega)
      have hlen : ((List.range (L i)).map fun c => UInt8.ofNat ((Z i).getD c 0).toNat).length = L i := by simp
      constructor
      · show VSl w (.slice (A i) (L i) (C i)) ((List.range (L i)).map fun c => UInt8.ofNat ((Z i).getD c 0).toNat).length _
        rw [hlen]
        refine ⟨A i, C i, rfl, ⟨r1, fun hn => ⟨by have := r5 hn; omega, r5 hn⟩⟩, ?_⟩
        by_cases h0 : L i = 0
        · exact .inl h0
        · right
          cases hA : A i with
          | none => have := r5 hA; omega
          | some a' =>
            obtain ⟨_, hc⟩ := r6 a' hA
            have h00 := hc 0 (by omega)
            have ha : a'.add 0 = a' := by simp [Addr.add]
            rw [ha] at h00
            obtain ⟨e1, e2⟩ := cell_plain h00
            refine ⟨a'.block, a'.off, by rw [← e1], e2, fun c hcl => ?_⟩
            have h1 := hc c (by omega)
            rw [e1, add_plain] at h1
            rw [h1]
            have hw : (Lit.int .u8 ((Z i).getD c 0)).wf = true := r4 _ (by rw [List.getD_eq_getElem?_getD, List.getElem?_eq_getElem (by omega)]; exact List.getElem_mem _)
            have hw := u8_wf hw
            congr 2
            simp only [List.getD_eq_getElem?_getD, List.getElem?_map, List.getElem?_range hcl, Option.map_some, Option.getD_some, UInt8.toNat_ofNat'] at hw ⊢
            omega
      · show ((List.range (L i)).map fun c => UInt8.ofNat ((Z i).getD c 0).toNat).length ≤ reachBytes
        rw [hlen]
        cases hA : A i with
        | none => have := r5 hA; omega
        | some a' =>
          refine Nat.le_trans r1 (hsz _ ?_)
          simp only [DataW.weights, ht]
          refine List.mem_cons_of_mem _ (List.mem_append_left _ (weights_mem_all (d := Deep.intRow .u8 (A i) (L i) (Z i)) (List.mem_map.2 ⟨i, List.mem_range.2 hi, rfl⟩) _ ?_))
          simp only [Deep.intRow, hA, DataW.weights, he, cb]
          refine List.mem_cons.2 (.inl ?_)
          simp [lits, r3]
          omega
end

/-- Rows of two slices, turned about. -/
theorem Mem.turn {w w0 : World} {B L : List Blk} {x : Blk} (M : Mem w w0 (B ++ x :: L)) : Mem w w0 (L ++ x :: B) :=
  M.perm (by
    refine List.perm_middle.trans (List.Perm.trans ?_ List.perm_middle.symm)
    exact List.Perm.cons _ List.perm_append_comm)

section
variable {H : Type} {enc : TypeId × Value → H} {P : Program} {w : World} {base : Nat} {held : Bool} {spare : Nat → Bool}
theorem open_int2 {t e : TypeId} (ht : P.underlying t = some (.array 2 e)) (he : P.underlying e = some (.int .i64)) (hc : P.cellsOf e = 1) (hc2 : P.cellsOf t = 2) {r : Reach} {b0 : Nat} {v : Value} {d : DataW H} {p : List MemPlace}
    (hval : Value.okWide P w r b0 t v) (hd : DataW.Trod enc P w base spare held t v d p) : ∃ a b : Int, v = .agg #[.int .i64 a, .int .i64 b] := by
  obtain ⟨fuel, hf⟩ := hd
  simp only [Value.okWide, ht] at hval
  obtain ⟨cs, rfl, _⟩ := hval
  obtain ⟨xs, m, _, _, hlen, hxl, hel⟩ := DataW.trod_array ht hf
  rw [hc2] at hlen
  have one : ∀ i, (hi : i < 2) → ∃ b : Int, cs[i]? = some (.int .i64 b) := by
    intro i hi
    have h1 := hel i hi
    rw [hc, Nat.mul_one, List.getElem?_eq_getElem (by omega)] at h1
    obtain ⟨b, hb, _, _⟩ := DataW.trod_int he h1
    have h2 : (((Value.agg cs).cells.toList.drop i).take 1)[0]? = (Value.agg cs).cells.toList[i]? := by simp
    rw [hb] at h2
    refine ⟨b, ?_⟩
    have h3 : (Value.agg cs).cells.toList[i]? = cs[i]? := by simp [Value.cells]
    rw [← h3, ← h2]; rfl
  obtain ⟨a, ha⟩ := one 0 (by omega)
  obtain ⟨b, hb⟩ := one 1 (by omega)
  refine ⟨a, b, ?_⟩
  congr 1
  have hs : cs.size = 2 := by simpa [Value.cells] using hlen
  apply Array.ext_getElem?
  intro i
  match i with
  | 0 => exact ha
  | 1 => exact hb
  | i + 2 => rw [Array.getElem?_eq_none (by omega), Array.getElem?_eq_none (by simp)]

theorem open_dig2 {t e e' : TypeId} (ht : P.underlying t = some (.array 2 e)) (he : P.underlying e = some (.array 8 e')) (he' : P.underlying e' = some (.int .u8)) (hc : P.cellsOf e' = 1) (hc8 : P.cellsOf e = 8) (hc2 : P.cellsOf t = 16) {r : Reach} {b0 : Nat} {v : Value} {d : DataW H} {p : List MemPlace}
    (hval : Value.okWide P w r b0 t v) (hd : DataW.Trod enc P w base spare held t v d p) : ∃ k o : BitVec 64, v = .agg (dcs k ++ dcs o).toArray := by
  obtain ⟨fuel, hf⟩ := hd
  simp only [Value.okWide, ht] at hval
  obtain ⟨cs, rfl, _⟩ := hval
  obtain ⟨xs, m, _, _, hlen, hxl, hel⟩ := DataW.trod_array ht hf
  rw [hc2] at hlen
  have h0 := hel 0 (by omega)
  have h1 := hel 1 (by omega)
  rw [hc8, List.getElem?_eq_getElem (by omega)] at h0
  rw [hc8, List.getElem?_eq_getElem (by omega)] at h1
  obtain ⟨k, hk⟩ := trod_dig he he' hc hc8 h0
  obtain ⟨o, ho⟩ := trod_dig he he' hc hc8 h1
  refine ⟨k, o, ?_⟩
  congr 1
  apply Array.ext'
  have hcs : (Value.agg cs).cells.toList = cs.toList := by simp [Value.cells]
  rw [hcs] at hk ho hlen
  simp only [Nat.zero_mul, List.drop_zero, Nat.one_mul] at hk ho
  rw [← hk, ← ho]
  have : (cs.toList.drop 8).take 8 = cs.toList.drop 8 := List.take_of_length_le (by simp at hlen ⊢; omega)
  simp [this, List.take_append_drop]
end

/-- Cells of a row that came in, an element of sz cells each. -/
def Rws (w : World) (v : Value) (n sz : Nat) (E : Nat → List Value) : Prop := ∃ ao cap, v = .slice ao n cap ∧ (n ≤ cap ∧ (ao = none → n = 0 ∧ cap = 0)) ∧ (n = 0 ∨ ∃ r o, ao = some ⟨r, o, none⟩ ∧ r < w.heap.size ∧ ∀ i, i < n → ∀ j u, (E i)[j]? = some u → w.cell? ⟨r, o + (i * sz + j), none⟩ = some u)
theorem Rws.slice {w : World} {v : Value} {n sz : Nat} {E : Nat → List Value} (h : Rws w v n sz E) : ∃ ao cap, v = .slice ao n cap ∧ n ≤ cap ∧ (ao = none → n = 0 ∧ cap = 0) := by
  obtain ⟨ao, cap, h1, h2, _⟩ := h; exact ⟨ao, cap, h1, h2.1, h2.2⟩
theorem Rws.at_ {w0 w : World} {X : List Blk} {ao : Option Addr} {n cap sz : Nat} {E : Nat → List Value} (h : Rws w0 (.slice ao n cap) n sz E) (O : Ow w w0 X) (k : Nat) (hk : k < n) : ∃ r o, ao = some ⟨r, o, none⟩ ∧ r < w.heap.size ∧ ∀ j u, (E k)[j]? = some u → w.cell? ⟨r, o + (k * sz + j), none⟩ = some u := by
  obtain ⟨ao', cap', e, _, h3⟩ := h
  cases e
  rcases h3 with h3 | ⟨r, o, h3, h4, h5⟩
  · omega
  · exact ⟨r, o, h3, Nat.lt_of_lt_of_le h4 O.mem.size, fun j u hj => by rw [O.old h4]; exact h5 k hk j u hj⟩
theorem Rws.fst {w : World} {ao : Option Addr} {n cap sz : Nat} {E : Nat → List Value} (h : Rws w (.slice ao n cap) n sz E) (k : Nat) (hk : k ≤ n) : Rws w (.slice ao k cap) k sz E := by
  obtain ⟨ao', cap', e, h2, h3⟩ := h
  cases e
  refine ⟨ao, cap, rfl, ⟨by omega, fun h => ⟨by have := (h2.2 h).1; omega, (h2.2 h).2⟩⟩, ?_⟩
  rcases h3 with h3 | ⟨r, o, h3, h4, h5⟩
  · exact .inl (by omega)
  · exact .inr ⟨r, o, h3, h4, fun i hi => h5 i (by omega)⟩

section
variable {H : Type} {enc : TypeId × Value → H} {P : Program} {w : World} {base : Nat} {held : Bool}

theorem open_rws {t e : TypeId} {sz : Nat} {v : Value} {d : DataW H} {p : List MemPlace} (ht : P.underlying t = some (.slice e)) (hc : P.cellsOf e = sz) (hsz : 0 < sz) {r : Reach} {b0 : Nat} (hval : Value.okWide P w r b0 t v) (hd : DataW.Trod enc P w base (fun _ => true) held t v d p)
    {α : Type} [Inhabited α] (mk : α → List Value) (ok : α → Prop) (he : ∀ fuel (cs : List Value) x, cs.length = sz → DataW.trod enc P w base (fun _ => true) held fuel e cs = some x → ∃ a, cs = mk a ∧ ok a) :
    ∃ (n : Nat) (l : Nat → α), n ≤ maxLen ∧ Rws w v n sz (fun i => mk (l i)) ∧ ∀ i, i < n → ok (l i) := by
  obtain ⟨a', len, m, rfl⟩ := okWide_slice ht hval
  obtain ⟨fuel, hf⟩ := hd
  rcases Deep.open_slice ht hf with ⟨h0, _⟩ | ⟨a, len2, cap2, m2, n, D, Pl, h0, hb, hl, hm, hmm, _, hx⟩
  · refine ⟨0, fun _ => default, by unfold maxLen; omega, ?_, fun i hi => by omega⟩
    simp [Value.cells] at h0
    obtain ⟨rfl, rfl, rfl⟩ := h0
    exact ⟨none, 0, rfl, ⟨by omega, fun _ => ⟨rfl, rfl⟩⟩, .inl rfl⟩
  · simp only [if_true] at hmm
    subst hmm
    simp [Value.cells] at h0
    obtain ⟨rfl, rfl, rfl⟩ := h0
    rw [hc] at hx
    obtain ⟨l, hl2⟩ := Deep.choose_lt (α := α) (n := len) (p := fun i x => ok x ∧ (mk x).length = sz ∧ ∀ j u, (mk x)[j]? = some u → w.cell? (a.add (i * sz + j)) = some u) (fun i hi => by
      obtain ⟨cs', h1, h2⟩ := hx i (by omega)
      obtain ⟨h5, h6, h3⟩ := World.cells?_some h1
      obtain ⟨x, rfl, hok⟩ := he _ _ _ (by omega) h2
      refine ⟨x, hok, by omega, fun j u hj => ?_⟩
      have hjl := (List.getElem?_eq_some_iff.1 hj).1
      have h4 := h3 j (by omega)
      rw [hj] at h4
      rw [← h4, Deep.add_add])
    refine ⟨len, l, by omega, ⟨some a, m, rfl, ⟨hl, fun h => by cases h⟩, ?_⟩, fun i hi => (hl2 i hi).1⟩
    by_cases h0 : len = 0
    · exact .inl h0
    · right
      obtain ⟨-, h2, h3⟩ := hl2 0 (by omega)
      have h00 := h3 0 _ (List.getElem?_eq_getElem (by omega))
      have ha : a.add (0 * sz + 0) = a := by simp [Addr.add]
      rw [ha] at h00
      obtain ⟨e1, e2⟩ := cell_plain h00
      refine ⟨a.block, a.off, by rw [← e1], e2, fun i hi j u hj => ?_⟩
      have := (hl2 i hi).2.2 j u hj
      rw [e1, add_plain] at this
      exact this

/-- A cell that reads as a slice of bytes. -/
theorem trod_bsl {e q : TypeId} (he : P.underlying e = some (.slice q)) (hq : P.underlying q = some (.int .u8)) (cq : P.cellsOf q = 1) {fuel : Nat} {v : Value} {x : DataW H × List MemPlace} (h : DataW.trod enc P w base (fun _ => true) held fuel e [v] = some x) : ∃ l : List UInt8, BSl w v l ∧ l.length ≤ maxLen := by
  rcases Deep.open_slice1 he cq h with ⟨h0, _⟩ | ⟨a, len, cap, m2, n, V, D, Pl, h0, hb, hl, hm, hmm, _, hx⟩
  · simp at h0
    subst h0
    exact ⟨[], BSl.nil w, by unfold maxLen; simp⟩
  · simp only [if_true] at hmm
    subst hmm
    simp at h0
    subst h0
    obtain ⟨Z, hZ⟩ := Deep.choose_lt (α := Int) (n := len) (p := fun i b => V i = .int .u8 b ∧ 0 ≤ b ∧ b ≤ 255) (fun i hi => by
      obtain ⟨b, hb1, _, hw⟩ := DataW.trod_int hq (hx i (by omega)).2
      simp at hb1
      exact ⟨b, hb1, u8_wf hw⟩)
    have hlen : ((List.range len).map fun c => UInt8.ofNat (Z c).toNat).length = len := by simp
    refine ⟨(List.range len).map fun c => UInt8.ofNat (Z c).toNat, ?_, by rw [hlen]; omega⟩
    show VSl w (.slice (some a) len m2) ((List.range len).map fun c => UInt8.ofNat (Z c).toNat).length _
    rw [hlen]
    refine ⟨some a, m2, rfl, ⟨hl, fun h => by cases h⟩, ?_⟩
    by_cases h0 : len = 0
    · exact .inl h0
    · right
      have h00 := (hx 0 (by omega)).1
      have ha : a.add 0 = a := by simp [Addr.add]
      rw [ha] at h00
      obtain ⟨e1, e2⟩ := cell_plain h00
      refine ⟨a.block, a.off, by rw [← e1], e2, fun c hc => ?_⟩
      have h1 := (hx c (by omega)).1
      rw [e1, add_plain] at h1
      rw [h1, (hZ c hc).1]
      have hw := (hZ c hc).2
      congr 2
      simp only [List.getD_eq_getElem?_getD, List.getElem?_map, List.getElem?_range hc, Option.map_some, Option.getD_some, UInt8.toNat_ofNat']
      omega
/-- A cell that reads as a list of messages. -/
theorem trod_bss {t e q : TypeId} (ht : P.underlying t = some (.slice e)) (he : P.underlying e = some (.slice q)) (hq : P.underlying q = some (.int .u8)) (ce : P.cellsOf e = 1) (cq : P.cellsOf q = 1) {fuel : Nat} {v : Value} {x : DataW H × List MemPlace} (h : DataW.trod enc P w base (fun _ => true) held fuel t [v] = some x) : ∃ ms : List (List UInt8), MsgL w [] v ms ∧ ms.length ≤ maxLen := by
  rcases Deep.open_slice1 ht ce h with ⟨h0, _⟩ | ⟨a, len, cap, m2, n, V, D, Pl, h0, hb, hl, hm, hmm, _, hx⟩
  · simp at h0
    subst h0
    exact ⟨[], MsgL.nil w [], by unfold maxLen; simp⟩
  · simp only [if_true] at hmm
    subst hmm
    simp at h0
    subst h0
    obtain ⟨Z, hZ⟩ := Deep.choose_lt (α := List UInt8) (n := len) (p := fun i l => BSl w (V i) l) (fun i hi => by
      obtain ⟨l, h1, _⟩ := trod_bsl he hq cq (hx i (by omega)).2
      exact ⟨l, h1⟩)
    have hlen : ((List.range len).map Z).length = len := by simp
    refine ⟨(List.range len).map Z, ⟨(List.range len).map V, ?_, by simp, fun i v m hv hm => ?_⟩, by rw [hlen]; omega⟩
    · rw [hlen]
      refine Sl.of_vsl (f := V) ⟨some a, m2, rfl, ⟨hl, fun h => by cases h⟩, ?_⟩
      by_cases h0 : len = 0
      · exact .inl h0
      · right
        have h00 := (hx 0 (by omega)).1
        have ha : a.add 0 = a := by simp [Addr.add]
        rw [ha] at h00
        obtain ⟨e1, e2⟩ := cell_plain h00
        refine ⟨a.block, a.off, by rw [← e1], e2, fun c hc => ?_⟩
        have h1 := (hx c (by omega)).1
        rw [e1, add_plain] at h1
        exact h1
    · have hi : i < len := by have := (List.getElem?_eq_some_iff.1 hv).1; simpa using this
      simp [hi] at hv hm
      subst hv hm
      exact Msg.of_bsl (hZ i hi)
end

end Go.Proofs.Ytghaiplhakeahaa
