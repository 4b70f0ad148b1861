/- Slices of slices of bytes that came in. Plain; over any program. -/
import Derived.Test.YtgjodjkmefdilaaOb
import Derived.Test.YtgjodjkmefdilaaMem
import Derived.SizedLaws
import Derived.Deep.Matrix
namespace Go.Proofs.Ytgjodjkmefdilaa
set_option linter.unusedSimpArgs false
set_option linter.unusedVariables false
open Go.ChangeShapes Go.WideShapes Go.ChangeAt Go.RowKit

section
variable {H : Type} {enc : TypeId × Value → H} {P : Program} {w : World} {base : Nat} {held : Bool}

theorem weights_mem_all {e : TypeId} {d : DataW H} : ∀ {ds : List (DataW H)}, d ∈ ds → ∀ n ∈ d.weights P e, n ∈ DataW.weightsAll P e ds
  | [], h, _, _ => by cases h
  | x :: ds, h, n, hn => by
    simp only [DataW.weightsAll, List.mem_append]
    rcases List.mem_cons.1 h with rfl | h
    · exact .inl hn
    · exact .inr (weights_mem_all h n hn)

/-- A slice of slices of bytes that came in. -/
theorem open_bss {t e q : TypeId} {v : Value} {d : DataW H} {p : List MemPlace} (ht : P.underlying t = some (.slice e)) (he : P.underlying e = some (.slice q)) (hq : P.underlying q = some (.int .u8)) (ce : P.cellsOf e = 1) (cq : P.cellsOf q = 1) (cb : P.bytesOf q = 1)
    {r : Reach} {b0 : Nat} (hval : Value.okWide P w r b0 t v) (hd : DataW.Trod enc P w base (fun _ => true) held t v d p) (hsz : ∀ n ∈ d.weights P t, n ≤ reachBytes) :
    ∃ (n : Nat) (F : Nat → Value × List UInt8), n ≤ maxLen ∧ VSl w v n (fun i => (F i).1) ∧ ∀ i, i < n → BSl w (F i).1 (F i).2 ∧ (F i).2.length ≤ reachBytes := by
  obtain ⟨a', len, m, rfl⟩ := okWide_slice ht hval
  obtain ⟨fuel, hf⟩ := hd
  rcases Deep.open_int_rows ht he hq ce cq hf with ⟨h0, _⟩ | ⟨a, len2, cap2, A, L, C, Z, h0, hb, hl, hm, hxx, hx⟩
  · simp [Value.cells] at h0
    obtain ⟨rfl, rfl, rfl⟩ := h0
    exact ⟨0, fun _ => (undef, []), by unfold maxLen; omega, ⟨none, 0, rfl, ⟨by omega, fun _ => ⟨rfl, rfl⟩⟩, .inl rfl⟩, fun i hi => by omega⟩
  · simp [Value.cells] at h0
    obtain ⟨rfl, rfl, rfl⟩ := h0
    simp only [Prod.mk.injEq] at hxx
    obtain ⟨rfl, -⟩ := hxx
    refine ⟨len, fun i => (.slice (A i) (L i) (C i), (List.range (L i)).map fun c => UInt8.ofNat ((Z i).getD c 0).toNat), by omega, ⟨some a, m, rfl, ⟨hl, fun h => by cases h⟩, ?_⟩, fun i hi => ?_⟩
    · by_cases h0 : len = 0
      · exact .inl h0
      · right
        have h00 := (hx 0 (by omega)).1
        have ha : a.add 0 = a := by simp [Addr.add]
        rw [ha] at h00
        obtain ⟨e1, e2⟩ := cell_plain h00
        refine ⟨a.block, a.off, by rw [← e1], e2, fun i hi => ?_⟩
        have := (hx i (by omega)).1
        rw [e1, add_plain] at this
        exact this
    · obtain ⟨-, r1, r2, r3, r4, r5, r6⟩ := hx i (by omega)
      have hlen : ((List.range (L i)).map fun c => UInt8.ofNat ((Z i).getD c 0).toNat).length = L i := by simp
      constructor
      · show VSl w (.slice (A i) (L i) (C i)) ((List.range (L i)).map fun c => UInt8.ofNat ((Z i).getD c 0).toNat).length _
        rw [hlen]
        refine ⟨A i, C i, rfl, ⟨r1, fun hn => ⟨by have := r5 hn; omega, r5 hn⟩⟩, ?_⟩
        by_cases h0 : L i = 0
        · exact .inl h0
        · right
          cases hA : A i with
          | none => have := r5 hA; omega
          | some a' =>
            obtain ⟨_, hc⟩ := r6 a' hA
            have h00 := hc 0 (by omega)
            have ha : a'.add 0 = a' := by simp [Addr.add]
            rw [ha] at h00
            obtain ⟨e1, e2⟩ := cell_plain h00
            refine ⟨a'.block, a'.off, by rw [← e1], e2, fun c hcl => ?_⟩
            have h1 := hc c (by omega)
            rw [e1, add_plain] at h1
            rw [h1]
            have hw : (Lit.int .u8 ((Z i).getD c 0)).wf = true := r4 _ (by rw [List.getD_eq_getElem?_getD, List.getElem?_eq_getElem (by omega)]; exact List.getElem_mem _)
            have hw := u8_wf hw
            congr 2
            simp only [List.getD_eq_getElem?_getD, List.getElem?_map, List.getElem?_range hcl, Option.map_some, Option.getD_some, UInt8.toNat_ofNat'] at hw ⊢
            omega
      · show ((List.range (L i)).map fun c => UInt8.ofNat ((Z i).getD c 0).toNat).length ≤ reachBytes
        rw [hlen]
        cases hA : A i with
        | none => have := r5 hA; omega
        | some a' =>
          refine Nat.le_trans r1 (hsz _ ?_)
          simp only [DataW.weights, ht]
          refine List.mem_cons_of_mem _ (List.mem_append_left _ (weights_mem_all (d := Deep.intRow .u8 (A i) (L i) (Z i)) (List.mem_map.2 ⟨i, List.mem_range.2 hi, rfl⟩) _ ?_))
          simp only [Deep.intRow, hA, DataW.weights, he, cb]
          refine List.mem_cons.2 (.inl ?_)
          simp [lits, r3]
          omega
end

/-- Rows of two slices, turned about. -/
theorem Mem.turn {w w0 : World} {B L : List Blk} {x : Blk} (M : Mem w w0 (B ++ x :: L)) : Mem w w0 (L ++ x :: B) :=
  M.perm (by
    refine List.perm_middle.trans (List.Perm.trans ?_ List.perm_middle.symm)
    exact List.Perm.cons _ List.perm_append_comm)

end Go.Proofs.Ytgjodjkmefdilaa
