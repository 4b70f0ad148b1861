/- baizelaw51: Own, whose box is a block that may be written; rows of deeds. -/
import Derived.Test.YtghaiplhakeahaaWd
import Derived.Test.YtghaiplhakeahaaWa
import Derived.Lib.BufferMore
namespace Go.Proofs.Ytghaiplhakeahaa
set_option linter.unusedSimpArgs false
set_option linter.unusedVariables false
open Go.RowKit Go.WideMaps Go.ChangeMaps Go.Maps

/-! ### A marked row of bytes -/
abbrev mrk (cs : Array Value) : Obj := .cells cs 5 (cs.size, cs.size + 1)
theorem mrk_ne (cs : Array Value) : ∀ c e, mrk cs ≠ .cells c e (0, 0) := by
  intro c e h
  simp only [mrk, Obj.cells.injEq, Prod.mk.injEq] at h
  omega
/-- Its first bytes. -/
def Byt (cs : Array Value) (l : List UInt8) (i : Nat) : Prop := l.length ≤ cs.size ∧ ∀ j, i ≤ j → j < l.length → cs[j]? = some (.int .u8 ((l.getD j 0).toNat : Int))
theorem Byt.set {cs : Array Value} {l : List UInt8} {i : Nat} (h : Byt cs l i) (v : Value) : Byt (cs.setIfInBounds i v) l (i + 1) := by
  refine ⟨by simpa using h.1, fun j hj hl => ?_⟩
  rw [Array.getElem?_setIfInBounds_ne (by omega)]
  exact h.2 j (by omega) hl
theorem cell_mrk {w : World} {r : Nat} {cs : Array Value} (h : w.heap[r]? = some (mrk cs)) (i : Nat) : w.cell? ⟨r, i, none⟩ = cs[i]? := by
  simp [World.cell?, h, mrk]
theorem frozen_mrk {w : World} {r : Nat} {cs : Array Value} (h : w.heap[r]? = some (mrk cs)) (i : Nat) (hi : i < cs.size) : w.frozen? ⟨r, i, none⟩ = false := by
  simp [World.frozen?, h, mrk]
  omega
theorem Omw.setMrk {w w0 : World} {X : List Blk} {K : List (Nat × Obj)} {r : Nat} {cs : Array Value} (h : Omw w w0 X ((r, mrk cs) :: K)) (i : Nat) (v : Value) : Omw (w.setCell ⟨r, i, none⟩ v) w0 X ((r, mrk (cs.setIfInBounds i v)) :: K) := by
  have hb : w.heap[r]? = some (mrk cs) := h.has (r, mrk cs) (List.mem_cons_self ..)
  have hs : (w.setCell ⟨r, i, none⟩ v).heap[r]? = some (mrk (cs.setIfInBounds i v)) := by
    have := Lib.heap_setCell_same (i := i) hb v
    simpa [mrk] using this
  exact h.setObj (mrk_ne _) hs (fun j hj => Below.heap_setCell _ _ _ _ hj) rfl rfl rfl (by simp [World.setCell])
theorem conv_fn3 (tx : ByteArray) : ∃ (bv : World → Value) (bg : World → Array Obj) (bd : World → Nat), (∀ W, (convert 9 26 (.string tx)).run Try.prog W = .ok (bv W) (plus W (bg W) (bd W))) ∧ ∀ W, BSl (plus W (bg W) (bd W)) (bv W) (strL tx) ∧ (∃ cap, bv W = .slice (some ⟨W.heap.size, 0, none⟩) tx.size cap) ∧ ∃ cs, (plus W (bg W) (bd W)).heap[W.heap.size]? = some (mrk cs) ∧ Byt cs (strL tx) 0 := by
  have hex : ∀ W : World, ∃ v g d, (convert 9 26 (.string tx)).run Try.prog W = .ok v (plus W g d) ∧ BSl (plus W g d) v (strL tx) ∧ (∃ cap, v = .slice (some ⟨W.heap.size, 0, none⟩) tx.size cap) ∧ ∃ cs, (plus W g d).heap[W.heap.size]? = some (mrk cs) ∧ Byt cs (strL tx) 0 := fun W => by
    have h := run_bytes_of_string (P := Try.prog) W 9 26 5 tx Try.underlying9 Try.underlying26 Try.underlying5
    have eo : ∀ o : Obj, plus W #[o] (W.drawn + 1) = W.drew.alloc o := fun o => by rw [alloc_self]; rfl
    have hge : tx.size ≤ grownCap W tx.size 0 5 := grownCap_ge _ _ _ _
    have hsz : (bytesRow tx (grownCap W tx.size 0 5)).size = grownCap W tx.size 0 5 := by
      unfold bytesRow
      simp only [Array.size_append, Array.size_map, Array.size_replicate]
      have : tx.data.size = tx.size := rfl
      omega
    generalize grownCap W tx.size 0 5 = cap at h hge hsz
    have hat : ∀ i, i < tx.size → (bytesRow tx cap)[i]? = some (.int .u8 (((strL tx).getD i 0).toNat : Int)) := fun i hi => by
      have hi' : i < tx.data.size := hi
      rw [bytesRow_at tx _ i hi']
      simp [strL, List.getD_eq_getElem?_getD]
      rw [Array.getElem?_eq_getElem hi']; rfl
    have hcl : ∀ j, (W.drew.alloc (.cells (bytesRow tx cap) 5 ((bytesRow tx cap).size, (bytesRow tx cap).size + 1))).cell? ⟨W.heap.size, j, none⟩ = (bytesRow tx cap)[j]? := fun j => by
      have := World.cell?_alloc_mark W.drew (bytesRow tx cap) 5 ((bytesRow tx cap).size, (bytesRow tx cap).size + 1) j
      rwa [show W.drew.heap.size = W.heap.size from rfl] at this
    refine ⟨_, #[_], W.drawn + 1, by rw [h, eo], ?_, ⟨_, rfl⟩, bytesRow tx cap, ?_, by rw [strL_len, hsz]; exact hge, fun j _ hj => hat j (by rwa [strL_len] at hj)⟩
    · rw [eo]
      exact ⟨some ⟨W.heap.size, 0, none⟩, cap, by rw [strL_len], ⟨by rw [strL_len]; exact hge, fun h => by cases h⟩, .inr ⟨W.heap.size, 0, rfl, by simp, fun i hi => by rw [strL_len] at hi; rw [Nat.zero_add, hcl]; exact hat i hi⟩⟩
    · rw [eo]
      have := heap_alloc_new W.drew (.cells (bytesRow tx cap) 5 ((bytesRow tx cap).size, (bytesRow tx cap).size + 1))
      rwa [show W.drew.heap.size = W.heap.size from rfl] at this
  exact ⟨fun W => Classical.choose (hex W), fun W => Classical.choose (Classical.choose_spec (hex W)), fun W => Classical.choose (Classical.choose_spec (Classical.choose_spec (hex W))),
      fun W => (Classical.choose_spec (Classical.choose_spec (Classical.choose_spec (hex W)))).1, fun W => (Classical.choose_spec (Classical.choose_spec (Classical.choose_spec (hex W)))).2⟩
set_option maxRecDepth 100000 in
set_option maxHeartbeats 2000000 in
theorem own2_to (dh : BitVec 64) (n : Int) (s : ByteArray) (w : World) :
    Calls Try.prog 25 #[rAgg dh n s] w fun e w' => ∃ r cu cs, e = .returned (.agg #[.int .u8 (by8 dh 0), .int .u8 (by8 dh 1), .int .u8 (by8 dh 2), .int .u8 (by8 dh 3), .int .u8 (by8 dh 4), .int .u8 (by8 dh 5), .int .u8 (by8 dh 6), .int .u8 (by8 dh 7), .int .i64 n, .slice (some ⟨r, 0, none⟩) s.size cu]) ∧ Below w.heap.size w w' ∧ BSl w' (.slice (some ⟨r, 0, none⟩) s.size cu) (strL s) ∧ w.heap.size ≤ r ∧ w'.heap[r]? = some (mrk cs) ∧ Byt cs (strL s) 0 := by
  obtain ⟨bv, bg, bd, hconv, hB⟩ := conv_fn3 s
  have HO := Lib.hid (((Ow.start w).key #[.int .u8 (by8 dh 0), .int .u8 (by8 dh 1), .int .u8 (by8 dh 2), .int .u8 (by8 dh 3), .int .u8 (by8 dh 4), .int .u8 (by8 dh 5), .int .u8 (by8 dh 6), .int .u8 (by8 dh 7), .int .i64 n, .string s] 34 w.heap.size rfl).key #[.int .u8 0, .int .u8 0, .int .u8 0, .int .u8 0, .int .u8 0, .int .u8 0, .int .u8 0, .int .u8 0, .int .i64 0, .slice none 0 0] 29 (w.heap.size + 1) (by simp))
  obtain ⟨hB1, ⟨cu, hu⟩, cs, hcs, hbt⟩ := hB ((w.alloc (.cells #[.int .u8 (by8 dh 0), .int .u8 (by8 dh 1), .int .u8 (by8 dh 2), .int .u8 (by8 dh 3), .int .u8 (by8 dh 4), .int .u8 (by8 dh 5), .int .u8 (by8 dh 6), .int .u8 (by8 dh 7), .int .i64 n, .string s] 34)).alloc (.cells #[.int .u8 0, .int .u8 0, .int .u8 0, .int .u8 0, .int .u8 0, .int .u8 0, .int .u8 0, .int .u8 0, .int .i64 0, .slice none 0 0] 29))
  have hcv := hconv ((w.alloc (.cells #[.int .u8 (by8 dh 0), .int .u8 (by8 dh 1), .int .u8 (by8 dh 2), .int .u8 (by8 dh 3), .int .u8 (by8 dh 4), .int .u8 (by8 dh 5), .int .u8 (by8 dh 6), .int .u8 (by8 dh 7), .int .i64 n, .string s] 34)).alloc (.cells #[.int .u8 0, .int .u8 0, .int .u8 0, .int .u8 0, .int .u8 0, .int .u8 0, .int .u8 0, .int .u8 0, .int .i64 0, .slice none 0 0] 29))
  rw [hu] at hcv hB1
  have hz : ((w.alloc (.cells #[.int .u8 (by8 dh 0), .int .u8 (by8 dh 1), .int .u8 (by8 dh 2), .int .u8 (by8 dh 3), .int .u8 (by8 dh 4), .int .u8 (by8 dh 5), .int .u8 (by8 dh 6), .int .u8 (by8 dh 7), .int .i64 n, .string s] 34)).alloc (.cells #[.int .u8 0, .int .u8 0, .int .u8 0, .int .u8 0, .int .u8 0, .int .u8 0, .int .u8 0, .int .u8 0, .int .i64 0, .slice none 0 0] 29)).heap.size = w.heap.size + 1 + 1 := by simp
  rw [hz] at hcv hB1 hcs
  have HB1 := Lib.hid hB1
  have HCS := Lib.hid hcs
  have HBT := Lib.hid hbt
  have HO1 := Lib.hid (HO.out.plus (bg ((w.alloc (.cells #[.int .u8 (by8 dh 0), .int .u8 (by8 dh 1), .int .u8 (by8 dh 2), .int .u8 (by8 dh 3), .int .u8 (by8 dh 4), .int .u8 (by8 dh 5), .int .u8 (by8 dh 6), .int .u8 (by8 dh 7), .int .i64 n, .string s] 34)).alloc (.cells #[.int .u8 0, .int .u8 0, .int .u8 0, .int .u8 0, .int .u8 0, .int .u8 0, .int .u8 0, .int .u8 0, .int .i64 0, .slice none 0 0] 29))) (bd ((w.alloc (.cells #[.int .u8 (by8 dh 0), .int .u8 (by8 dh 1), .int .u8 (by8 dh 2), .int .u8 (by8 dh 3), .int .u8 (by8 dh 4), .int .u8 (by8 dh 5), .int .u8 (by8 dh 6), .int .u8 (by8 dh 7), .int .i64 n, .string s] 34)).alloc (.cells #[.int .u8 0, .int .u8 0, .int .u8 0, .int .u8 0, .int .u8 0, .int .u8 0, .int .u8 0, .int .u8 0, .int .i64 0, .slice none 0 0] 29))))
  clear hB hconv hB1 hu HO hz hcs hbt
  go_enter Try.func25, Try.ntmps25
  go_wp2_with (refine HO1.out.storeX rfl 29 (.tmp 2) (.tmp 10) rfl (by rfl) #[.int .u8 (by8 dh 0), .int .u8 (by8 dh 1), .int .u8 (by8 dh 2), .int .u8 (by8 dh 3), .int .u8 (by8 dh 4), .int .u8 (by8 dh 5), .int .u8 (by8 dh 6), .int .u8 (by8 dh 7), .int .i64 n, .slice (some ⟨w.heap.size + 1 + 1, 0, none⟩) s.size cu] (by rfl) (by kernel_rfl) (by rfl) (by simp [Value.oneCell']) ?_; intro w3 O3 hk3 hs3; (have HB3 := Lib.hid (HB1.out.other (b := w.heap.size + 1) (by omega) hk3 hs3)); (have HC3 := Lib.hid ((hk3 (w.heap.size + 1 + 1) (by omega)).trans HCS.out)); clear hk3 hs3)
  have HBq := O3.has (List.mem_cons_self ..)
  have hd := HBq.cell
  refine bodyPost_ret (v := .agg #[.int .u8 (by8 dh 0), .int .u8 (by8 dh 1), .int .u8 (by8 dh 2), .int .u8 (by8 dh 3), .int .u8 (by8 dh 4), .int .u8 (by8 dh 5), .int .u8 (by8 dh 6), .int .u8 (by8 dh 7), .int .i64 n, .slice (some ⟨w.heap.size + 1 + 1, 0, none⟩) s.size cu]) (by simp [results, Try.results25, go_sem, hd]) rfl ?_
  exact ⟨w.heap.size + 1 + 1, cu, cs, rfl, O3.below, HB3.out, by omega, HC3.out, HBT.out⟩

/-! ### Rows of deeds -/
/-- The cells of the first n elements. -/
def rowL (E : Nat → List Value) (n : Nat) : List Value := (List.range n).flatMap E
theorem rowL_succ (E : Nat → List Value) (n : Nat) : rowL E (n + 1) = rowL E n ++ E n := by simp [rowL, List.range_succ]
theorem rowL_len (E : Nat → List Value) (sz : Nat) (h : ∀ i, (E i).length = sz) : ∀ n, (rowL E n).length = n * sz
  | 0 => by simp [rowL]
  | n + 1 => by rw [rowL_succ, List.length_append, rowL_len E sz h n, h, Nat.succ_mul]
theorem rowL_get (E : Nat → List Value) (sz : Nat) (h : ∀ i, (E i).length = sz) : ∀ (n i j : Nat), i < n → j < sz → (rowL E n)[i * sz + j]? = (E i)[j]?
  | 0, i, j, hi, _ => by omega
  | n + 1, i, j, hi, hj => by
    rw [rowL_succ]
    have hl := rowL_len E sz h n
    by_cases e : i = n
    · subst e
      rw [List.getElem?_append_right (by rw [hl]; omega), hl]
      congr 1
      omega
    · have hlt : i < n := by omega
      have hm : i * sz + j < n * sz := by
        have : (i + 1) * sz ≤ n * sz := Nat.mul_le_mul_right _ (by omega)
        rw [Nat.succ_mul] at this
        omega
      rw [List.getElem?_append_left (by rw [hl]; exact hm), rowL_get E sz h n i j hlt hj]
theorem rowL_mem (E : Nat → List Value) (h : ∀ i, ∀ u ∈ E i, u.oneCell' = true) (n : Nat) : ∀ u ∈ rowL E n, u.oneCell' = true := by
  intro u hu
  simp only [rowL, List.mem_flatMap] at hu
  obtain ⟨i, -, hu⟩ := hu
  exact h i u hu
theorem rowL_congr (E F : Nat → List Value) (n : Nat) (h : ∀ i, i < n → E i = F i) : rowL E n = rowL F n := by
  induction n with
  | zero => rfl
  | succ n ih => rw [rowL_succ, rowL_succ, ih (fun i hi => h i (by omega)), h n (by omega)]
/-- The cells of a row that came in, as those of one slice. -/
theorem Rws.cellsL {w : World} {ao : Option Addr} {n cap sz : Nat} {E : Nat → List Value} (h : Rws w (.slice ao n cap) n sz E) (h0 : 0 < sz) (hE : ∀ i, (E i).length = sz) : ∀ ad, ao = some ad → ∀ j u, (rowL E n)[j]? = some u → w.cell? (ad.add j) = some u := by
  intro ad had k u hk
  have hlt := (List.getElem?_eq_some_iff.1 hk).1
  rw [rowL_len E sz hE] at hlt
  have hi : k / sz < n := (Nat.div_lt_iff_lt_mul h0).2 hlt
  obtain ⟨ao', cap', e, h2, h3⟩ := h
  cases e
  rcases h3 with h3 | ⟨r, o, e, hr, hc⟩
  · rw [h3] at hi
    exact absurd hi (Nat.not_lt_zero _)
  rw [had] at e
  cases e
  have hkd : k / sz * sz + k % sz = k := Nat.div_add_mod' k sz
  have hg := rowL_get E sz hE n (k / sz) (k % sz) hi (Nat.mod_lt _ h0)
  rw [hkd, hk] at hg
  have := hc (k / sz) hi (k % sz) u hg.symm
  rw [hkd] at this
  rw [← this]
  congr 1
  unfold Addr.add; split <;> simp_all
/-- A row in memory of the call's own. -/
theorem Row.rws {e : TypeId} {sz n : Nat} {v : Value} {E : Nat → List Value} {B L : List Blk} {w w0 : World} (h : Row e sz v n (rowL E n) B) (hE : ∀ i, (E i).length = sz) (M : Mem w w0 (B ++ L)) : Rws w v n sz E := by
  have hc := h.cells M
  generalize hy : rowL E n = ys at h hc
  cases h with
  | void => exact ⟨none, 0, rfl, ⟨Nat.le_refl _, fun _ => ⟨rfl, rfl⟩⟩, .inl rfl⟩
  | one r n cap cur h1 h2 h3 =>
    refine ⟨_, cap, rfl, ⟨h1, fun h => by cases h⟩, .inr ⟨r, 0, rfl, M.lt (x := ⟨r, e, cur⟩) (by simp), fun i hi j u hj => ?_⟩⟩
    have hjl : j < sz := by
      have := (List.getElem?_eq_some_iff.1 hj).1
      rw [hE] at this
      exact this
    have hg := rowL_get E sz hE n i j hi hjl
    rw [hj, hy] at hg
    have h4 := hc _ _ rfl ⟨r, 0, none⟩ rfl (i * sz + j) u hg
    rw [← h4]
    congr 1
    unfold Addr.add; split <;> simp_all
theorem elt_deed : Elt Try.prog 49 52 12 40 := by
  have h : (Try.prog.info? 52).map (fun i => (i.zero, i.size, i.bytes)) = some (some (.agg #[.bool false, .bool false, .int .u8 0, .int .u8 0, .int .u8 0, .int .u8 0, .int .u8 0, .int .u8 0, .int .u8 0, .int .u8 0, .int .i64 0, .string ByteArray.empty]), 12, 40) := by kernel_rfl
  exact elt_mk _ Try.underlying49 h rfl (by decide)
theorem deed_len (d : DeedV) : d.cells.length = 12 := rfl
theorem deed_one (d : DeedV) : ∀ u ∈ d.cells, u.oneCell' = true := by
  intro u hu
  simp only [DeedV.cells, List.mem_cons, List.not_mem_nil, or_false] at hu
  rcases hu with rfl | rfl | rfl | rfl | rfl | rfl | rfl | rfl | rfl | rfl | rfl | rfl <;> rfl
/-- A slice that came in takes no more room than there is. -/
theorem slice_room {H : Type} {enc : TypeId × Value → H} {P : Program} {w : World} {base : Nat} {held : Bool} {t e : TypeId} {ao : Option Addr} {n cap : Nat} {d : DataW H} {p : List MemPlace} (ht : P.underlying t = some (.slice e)) (hd : DataW.Trod enc P w base (fun _ => true) held t (.slice ao n cap) d p) (hsz : ∀ m ∈ d.weights P t, m ≤ reachBytes) : n * P.bytesOf e ≤ reachBytes := by
  obtain ⟨fuel, hf⟩ := hd
  rcases Deep.open_slice ht hf with ⟨h0, _⟩ | ⟨a, len, cap2, m, k, D, Pl, h0, hb, hl, hm, hmm, hx, _⟩
  · simp [Value.cells] at h0
    rw [h0.2.1]
    simp
  · simp [Value.cells] at h0
    obtain ⟨rfl, rfl, rfl⟩ := h0
    simp only [Prod.mk.injEq] at hx
    obtain ⟨rfl, -⟩ := hx
    refine Nat.le_trans ?_ (hsz _ (by simp only [DataW.weights, ht]; exact List.mem_cons_self ..))
    refine Nat.mul_le_mul_right _ ?_
    simp

end Go.Proofs.Ytghaiplhakeahaa
