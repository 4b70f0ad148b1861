/- The law TowerClone: its walk. -/
import Derived.Test.YtghaiplhakeahaaWe
namespace Go.Proofs.Ytghaiplhakeahaa
set_option linter.unusedSimpArgs false
set_option linter.unusedVariables false
open Go.RowKit Go.WideMaps Go.ChangeMaps Go.Maps

theorem Rws.below {w w' : World} {v : Value} {n sz : Nat} {E : Nat → List Value} (h : Rws w v n sz E) (hb : Below w.heap.size w w') : Rws w' v n sz E := by
  obtain ⟨ao, cap, h1, h2, h3⟩ := h
  refine ⟨ao, cap, h1, h2, h3.imp id ?_⟩
  rintro ⟨r, o, e, hlt, hc⟩
  refine ⟨r, o, e, Nat.lt_of_lt_of_le hlt hb.size, fun i hi j u hj => ?_⟩
  rw [← hc i hi j u hj]
  exact World.cell?_of_block (a := ⟨r, _, none⟩) (hb.block _ hlt)
theorem act_ok {T : TWS} (h : TOk T) (d : DeedV) : TOk (actT T d) := by
  unfold actT
  split
  · exact h.drop _
  · exact h.take _
theorem act_room (T : TWS) (d : DeedV) : (actT T d).room = T.room := by
  unfold actT
  split
  · exact drop_room _ _
  · exact take_room _ _
theorem Bo.below {w w0 : World} {C X : List Blk} {p q : Nat} {T : TWS} (h : Bo w w0 C X p q T) : Below w0.heap.size w0 w := by
  obtain ⟨v, L, h1, h2⟩ := h; exact h2.below
theorem drop_all_iff (T : TWS) (x : BitVec 64) : T.all = (dropT T x).all ↔ hadT T x = false := by
  unfold dropT hadT
  cases hi : idx T.all x with
  | none => simp
  | some i =>
    obtain ⟨h1, -⟩ := idx_some hi
    simp only [Option.isSome_some]
    constructor
    · intro h
      have := congrArg List.length h
      rw [List.length_eraseIdx, if_pos h1] at this
      omega
    · intro h; cases h
theorem take_all_iff (T : TWS) (a : AP) : T.all = (takeT T a).all ↔ takeE T a ≠ 0 := by
  unfold takeT
  by_cases h0 : takeE T a = 0
  · rw [if_pos h0]
    cases hi : idx T.all a.h with
    | none =>
      simp only
      constructor
      · intro h
        have := congrArg List.length h
        rw [List.length_append] at this
        simp at this
      · intro h; exact absurd h0 h
    | some i =>
      simp only
      obtain ⟨h1, -⟩ := idx_some hi
      constructor
      · intro h
        exfalso
        have h2 : T.all.getD i default = a := by rw [h]; simp [List.getD_eq_getElem?_getD, h1]
        unfold takeE at h0
        split at h0
        · omega
        split at h0
        · omega
        split at h0
        · omega
        simp only [hi, h2] at h0
        rw [if_pos (Int.le_refl _)] at h0
        omega
      · intro h; exact absurd h0 h
  · rw [if_neg h0]
    simp [h0]
theorem made_len (rw_ : Bool) (nx : BitVec 64) (m : Int) (s : ByteArray) (hs : s.size ≤ 300) : (madeA ⟨false, rw_, nx, m, s⟩).l.length ≤ 9223372036854775807 - 1 := by
  have hl := strL_len s
  unfold madeA
  simp only
  split
  · simp only; omega
  · split
    · simp only
      unfold tboxF
      rw [sealF_len]
      omega
    · simp
/-- The deeds, and one more. -/
def dAt (n : Nat) (D : Nat → DeedV) (d : DeedV) : Nat → DeedV := fun i => if i < n then D i else d
theorem dAt_row (n : Nat) (D : Nat → DeedV) (d : DeedV) : rowL (fun i => (D i).cells) n ++ d.cells = rowL (fun i => (dAt n D d i).cells) (n + 1) := by
  rw [rowL_succ, rowL_congr (fun i => (dAt n D d i).cells) (fun i => (D i).cells) n (fun i hi => by simp only [dAt]; rw [if_pos hi])]
  simp only [dAt]
  rw [if_neg (by omega)]
/-- One more object is known. -/
theorem Omw.addK {W w w0 : World} {X : List Blk} {K : List (Nat × Obj)} {r : Nat} {o : Obj} (h : Omw W w0 X K) (hb : Below W.heap.size W w) (hr : W.heap.size ≤ r) (ho : w.heap[r]? = some o) (hnc : ∀ c e, o ≠ .cells c e (0, 0)) : Omw w w0 X ((r, o) :: K) := by
  have h' := h.of_below hb
  refine ⟨h'.ow, fun y hy => ?_, fun y hy => ?_, fun y hy => ?_, List.pairwise_cons.2 ⟨fun y hy => ?_, h.apart⟩⟩
  · rcases List.mem_cons.1 hy with rfl | hy
    · exact ho
    · exact h'.has y hy
  · rcases List.mem_cons.1 hy with rfl | hy
    · exact Nat.le_trans h.below.size hr
    · exact h.new y hy
  · rcases List.mem_cons.1 hy with rfl | hy
    · exact hnc
    · exact h.nc y hy
  · have := h.lt hy
    show r ≠ y.1
    omega
/-- A tower at p, another one at o, beside a marked row of bytes. -/
def Tw2z (w w0 : World) (C X : List Blk) (r : Nat) (cs : Array Value) (p : Nat) (T : TWS) (o : Nat) (U : TWS) : Prop := ∃ B k, TwP w0 X p T B k ∧ Tw w w0 (B ++ C) X [k, (r, mrk cs)] o U
section
variable {w w0 : World} {C X : List Blk} {r : Nat} {cs : Array Value} {p o : Nat} {T U : TWS}
theorem Tw2.z {W : World} (h : Tw2 W w0 C X p T o U) (hb : Below W.heap.size W w) (hr : W.heap.size ≤ r) (ho : w.heap[r]? = some (mrk cs)) : Tw2z w w0 C X r cs p T o U := by
  obtain ⟨B, k, B', k', O, h1, h2⟩ := h
  have O2 : Omw w w0 (B' ++ ((B ++ C) ++ X)) ((r, mrk cs) :: [k, k']) := (O.perm (perm_cnt fun x => by simp only [cnt_append, cnt_cons, cnt_nil] <;> omega)).addK hb hr ho (mrk_ne cs)
  refine ⟨B, k, h1, B', k', O2.permK ?_, h2⟩
  exact (List.Perm.swap _ _ _).trans ((List.Perm.cons _ (List.Perm.swap _ _ _)).trans (List.Perm.swap _ _ _))
theorem Tw2z.tw2 (h : Tw2z w w0 C X r cs p T o U) : Tw2 w w0 C X p T o U := by
  obtain ⟨B, k, h1, B', k', O, h2⟩ := h
  refine ⟨B, k, B', k', (Omw.dropK (y := (r, mrk cs)) (O.permK ?_)).perm (perm_cnt fun x => by simp only [cnt_append, cnt_cons, cnt_nil] <;> omega), h1, h2⟩
  exact (List.Perm.swap _ _ _).trans ((List.Perm.cons _ (List.Perm.swap _ _ _)).trans (List.Perm.swap _ _ _))
theorem Tw2z.of_below {w' : World} (h : Tw2z w w0 C X r cs p T o U) (hb : Below w.heap.size w w') : Tw2z w' w0 C X r cs p T o U := by
  obtain ⟨B, k, h1, h2⟩ := h; exact ⟨B, k, h1, h2.of_below hb⟩
theorem Tw2z.has (h : Tw2z w w0 C X r cs p T o U) {b : Nat} {t : TypeId} {ds : Array Value} (hx : (⟨b, t, ds⟩ : Blk) ∈ C) : HasBlk w b t ds := by
  obtain ⟨B, k, h1, h2⟩ := h; exact h2.has (by simp [hx])
theorem Tw2z.park (h : Tw2z w w0 C X r cs p T o U) {ds : Array Value} {b : Nat} {t : TypeId} (hb : b = w.heap.size) : Tw2z (w.alloc (.cells ds t)) w0 (⟨b, t, ds⟩ :: C) X r cs p T o U := by
  obtain ⟨B, k, h1, h2⟩ := h; exact ⟨B, k, h1, (h2.park hb).permC (perm_cnt fun x => by simp only [cnt_append, cnt_cons, cnt_nil] <;> omega)⟩
theorem Tw2z.row (h : Tw2z w w0 C X r cs p T o U) : w.heap[r]? = some (mrk cs) := by
  obtain ⟨B, k, h1, B', k', O, h2⟩ := h
  exact O.has (r, mrk cs) (by simp)
theorem Tw2z.set (h : Tw2z w w0 C X r cs p T o U) (i : Nat) (v : Value) : Tw2z (w.setCell ⟨r, i, none⟩ v) w0 C X r (cs.setIfInBounds i v) p T o U := by
  obtain ⟨B, k, h1, B', k', O, h2⟩ := h
  refine ⟨B, k, h1, B', k', ?_, h2⟩
  have hp : ∀ z : Nat × Obj, (k' :: [k, z]).Perm (z :: [k', k]) := fun z => (List.Perm.cons _ (List.Perm.swap _ _ _)).trans (List.Perm.swap _ _ _)
  exact ((O.permK (hp _)).setMrk i v).permK (hp _).symm
theorem Tw2z.take {h : BitVec 64} {n : Int} {v : Value} {l : List UInt8} (H : Tw2z w w0 C X r cs p T o U) (hU : TOk U) (hv : BSl w v l) (E : Nat) (hE : takeE U ⟨h, n, l⟩ = E) (U' : TWS) (hU' : takeT U ⟨h, n, l⟩ = U') :
    Calls Try.prog 21 #[tptr o, .agg #[.int .u8 (by8 h 0), .int .u8 (by8 h 1), .int .u8 (by8 h 2), .int .u8 (by8 h 3), .int .u8 (by8 h 4), .int .u8 (by8 h 5), .int .u8 (by8 h 6), .int .u8 (by8 h 7), .int .i64 n, v]] w fun e w' => e = .returned (.int .i64 E) ∧ ∃ N, Tw2z w' w0 C (N ++ X) r cs p T o U' := by
  obtain ⟨B, k, h1, h2⟩ := H
  refine (take_to o U hU h n v l w w0 _ X _ h2 hv E hE U' hU').mono ?_
  rintro e w' ⟨rfl, N, h'⟩
  exact ⟨rfl, N, B, k, h1.mono fun x hx => by simp [hx], h'⟩
end
theorem same2_to {w w0 : World} {C X : List Blk} {p o : Nat} {T U : TWS} (H : Tw2 w w0 C X p T o U) (hT : TOk T) (v : Value) (x : BitVec 64) (base : Int) (hv : RSl w v T.all) (k : Int) (hk : (T.room : Int) = k) :
    Calls Try.prog 35 #[tptr p, .agg #[.int .i64 k, v], .agg #[.int .u8 (by8 x 0), .int .u8 (by8 x 1), .int .u8 (by8 x 2), .int .u8 (by8 x 3), .int .u8 (by8 x 4), .int .u8 (by8 x 5), .int .u8 (by8 x 6), .int .u8 (by8 x 7)], .int .i64 base] w fun e w' => e = .returned (.bool true) ∧ Below w.heap.size w w' := by
  subst hk
  obtain ⟨B', k', h2, h1⟩ := H.fst
  exact same51_to p T hT v x base w w0 _ _ _ h1 hv
theorem Tw2.rsl {w w0 : World} {C C' X L : List Blk} {p o : Nat} {T U : TWS} {v : Value} {al : List AP} (h : Tw2 w w0 C X p T o U) (hr : RowIn v al L) (hC : C.Perm (L ++ C')) : RSl w v al := by
  obtain ⟨B, k, B', k', O, -, -⟩ := h
  exact hr.rsl O.ow (E := B ++ (B' ++ (C' ++ X))) (((hC.append_right X).append_left B').append_left B |>.trans (perm_cnt fun x => by simp only [cnt_append, cnt_cons, cnt_nil] <;> omega))
theorem Tw2.permC {w w0 : World} {C C' X : List Blk} {p o : Nat} {T U : TWS} (h : Tw2 w w0 C X p T o U) (hC : C.Perm C') : Tw2 w w0 C' X p T o U := by
  obtain ⟨B, k, B', k', O, h1, h2⟩ := h
  exact ⟨B, k, B', k', O.perm (((hC.append_right X).append_left B').append_left B), h1, h2⟩
theorem Tw2.foundC {W w w0 : World} {C X N : List Blk} {p o : Nat} {T U : TWS} (h : Tw2 W w0 C X p T o U) (hx : Ext W w) (hp : N.Pairwise (fun x y => x.no ≠ y.no)) (hb : ∀ x ∈ N, W.heap.size ≤ x.no ∧ HasBlk w x.no x.ty x.cs) : Tw2 w w0 (N ++ C) X p T o U := by
  obtain ⟨B, k, B', k', O, h1, h2⟩ := h
  exact ⟨B, k, B', k', (O.found hx hp hb).perm (perm_cnt fun x => by simp only [cnt_append, cnt_cons, cnt_nil] <;> omega), h1, h2⟩
theorem Tw2.storeB {P : Program} {op : Oper} {a : Act} {Q : Exit → Act → World → Prop} {K' : Act → World → Prop} {w w0 : World} {C X : List Blk} {p q : Nat} {T U : TWS} {b : Nat} {t : TypeId} {cs : Array Value} (h : Tw2 w w0 (⟨b, t, cs⟩ :: C) X p T q U) (ty : TypeId) (x y : Operand) (ho : op.op = .store ty x y)
    (hx : a.eval x = .pointer (some ⟨b, 0, none⟩)) (vs : Array Value) (hy : a.eval y = .agg vs) (hi : (P.info? ty).map (·.size) = some vs.size) (hs : vs.size = cs.size) (h1 : ∀ v ∈ vs.toList, v.oneCell' = true)
    (k : ∀ w', Tw2 w' w0 (⟨b, t, vs⟩ :: C) X p T q U → K' (a.put op.dst undef) w') : op.wp P a w K' Q := by
  obtain ⟨B, kk, B', kk', O, D, D'⟩ := h
  have O1 : Omw w w0 (⟨b, t, cs⟩ :: (B ++ (B' ++ (C ++ X)))) [kk, kk'] := O.perm (perm_cnt fun x => by simp only [cnt_append, cnt_cons, cnt_nil] <;> omega)
  refine O1.storeAt ty x y ho 0 hx vs hy hi (by omega) h1 fun w' O' => k w' ⟨B, kk, B', kk', ?_, D, D'⟩
  rw [writeAt_all _ _ (by simpa using hs)] at O'
  have O2 : Omw w' w0 (⟨b, t, vs⟩ :: (B ++ (B' ++ (C ++ X)))) [kk, kk'] := by simpa using O'
  exact O2.perm (perm_cnt fun x => by simp only [cnt_append, cnt_cons, cnt_nil] <;> omega)
set_option maxRecDepth 100000 in
set_option maxHeartbeats 8000000 in
theorem towerClone_any (v : Value) (n : Nat) (D : Nat → DeedV) (hrm : n * 40 ≤ reachBytes) (dr rw_ : Bool) (nx : BitVec 64) (m : Int) (s : ByteArray) (w : World) (hv : Rws w v n 12 (fun i => (D i).cells)) :
    Calls Try.prog 12 #[v, (⟨dr, rw_, nx, m, s⟩ : DeedV).agg] w fun e w' => e = .returned (.bool true) ∧ Below w.heap.size w w' := by
  have hml : n ≤ 4000000000000 := by unfold reachBytes at hrm; omega
  obtain ⟨ao, cap, rfl, hcap, hnil⟩ := hv.slice
  have HV := Lib.hid hv
  have HNIL := Lib.hid hnil
  have HRM : Hid (n * 40 ≤ 140737488351232) := by unfold reachBytes at hrm; exact hrm
  obtain ⟨b, hb⟩ : ∃ b : Bool, b = true ↔ fairP (n + 1) (dAt n D ⟨dr, rw_, nx, m, s⟩) := by
    by_cases h : fairP (n + 1) (dAt n D ⟨dr, rw_, nx, m, s⟩)
    · exact ⟨true, by simp [h]⟩
    · exact ⟨false, by simp [h]⟩
  have HB := Lib.hid hb
  have HO := Lib.hid ((Ow.start w).key #[.bool dr, .bool rw_, .int .u8 (by8 nx 0), .int .u8 (by8 nx 1), .int .u8 (by8 nx 2), .int .u8 (by8 nx 3), .int .u8 (by8 nx 4), .int .u8 (by8 nx 5), .int .u8 (by8 nx 6), .int .u8 (by8 nx 7), .int .i64 m, .string s] 52 w.heap.size rfl)
  clear hv hnil hrm hb
  go_enter Try.func12, Try.ntmps12
  obtain ⟨b3, hb3⟩ : ∃ b, b = w.heap.size := ⟨_, rfl⟩
  go_wp2_with fail
  simp only [← hb3] at HO ⊢
  clear hb3
  refine wp_region_o2 [15, 16, 17, 18, 19, 20, 21, 22] (fun L (x : Nat × (Option Addr × Nat) × Nat × (Option Addr × Nat)) => [(L 0, 15, bif L 0 then .slice (some ⟨x.1, 0, none⟩) 0 0 else undef), (L 1, 16, .slice ao n cap), (L 2, 17, bif L 2 then .slice x.2.1.1 n x.2.1.2 else undef), (L 3, 18, .agg #[.bool dr, .bool rw_, .int .u8 (by8 nx 0), .int .u8 (by8 nx 1), .int .u8 (by8 nx 2), .int .u8 (by8 nx 3), .int .u8 (by8 nx 4), .int .u8 (by8 nx 5), .int .u8 (by8 nx 6), .int .u8 (by8 nx 7), .int .i64 m, .string s]), (L 4, 19, bif L 4 then .slice (some ⟨x.2.2.1, 0, none⟩) 1 1 else undef), (L 5, 20, bif L 5 then .slice x.2.2.2.1 (n + 1) x.2.2.2.2 else undef), (L 6, 21, .bool b), (L 7, 22, .bool (!b))])
    (fun L x W => ∃ B, Row 52 12 (bif L 5 then .slice x.2.2.2.1 (n + 1) x.2.2.2.2 else bif L 2 then .slice x.2.1.1 n x.2.1.2 else bif L 0 then .slice (some ⟨x.1, 0, none⟩) 0 0 else .slice none 0 0) (bif L 5 then n + 1 else bif L 2 then n else 0) (bif L 5 then rowL (fun i => (dAt n D ⟨dr, rw_, nx, m, s⟩ i).cells) (n + 1) else bif L 2 then rowL (fun i => (D i).cells) n else []) B ∧ Ow W w ((bif L 4 then [⟨x.2.2.1, 52, #[.bool dr, .bool rw_, .int .u8 (by8 nx 0), .int .u8 (by8 nx 1), .int .u8 (by8 nx 2), .int .u8 (by8 nx 3), .int .u8 (by8 nx 4), .int .u8 (by8 nx 5), .int .u8 (by8 nx 6), .int .u8 (by8 nx 7), .int .i64 m, .string s]⟩] else []) ++ (B ++ [⟨b3, 52, #[.bool dr, .bool rw_, .int .u8 (by8 nx 0), .int .u8 (by8 nx 1), .int .u8 (by8 nx 2), .int .u8 (by8 nx 3), .int .u8 (by8 nx 4), .int .u8 (by8 nx 5), .int .u8 (by8 nx 6), .int .u8 (by8 nx 7), .int .i64 m, .string s]⟩]))) (0, (none, 0), 0, (none, 0)) (by kernel_rfl) (by kernel_rfl) 121 (by rfl) (fun _ _ => rfl) (by kernel_rfl) (by kernel_rfl) (by kernel_rfl) (by rfl) ⟨[], .void, HO.out.drew⟩ ?_ ⟨?_, ?_, ?_, ?_, ?_, ?_, ?_, ?_, trivial⟩
  rotate_left
  · intro L x W hW hC hL hd B K hB hK; (try simp [depsB, Region.binds] at hd); (try simp only [Nat.reduceAdd] at hK hL)
    have h2 : L 2 = false := by cases hl : L 2 with | false => rfl | true => have hx := hC 2 _ rfl hl; simp [depsB, Region.binds, hL] at hx
    have h5 : L 5 = false := by cases hl : L 5 with | false => rfl | true => have hx := hC 5 _ rfl hl; simp [depsB, Region.binds, h2] at hx
    obtain ⟨B0, hRw, hOw⟩ := hW
    simp only [hL, h2, h5, cond_false] at hRw
    have hBn : B0 = [] := by cases hRw; rfl
    subst hBn
    refine wp_ran (run_buildSlice_zero elt_deed rfl W) ?_
    have hO2 := hOw.key #[] 52 W.heap.size rfl
    refine hK.out (.slice (some ⟨W.heap.size, 0, none⟩) 0 0) (W.heap.size, x.2) _ (by simp (decide := true) [putO, setF, upd, h2, h5]) ⟨[⟨W.heap.size, 52, #[]⟩], ?_, ?_⟩
    · simpa [upd, h2, h5] using Row.empty 52 12 W.heap.size
    · simp only [updN L (show (4 : Nat) ≠ 0 by decide)]
      exact hO2.perm (perm_cnt fun x => by simp only [cnt_append, cnt_cons, cnt_nil] <;> omega)
  · (intro L x W hW hC hL hd B K hB hK; (try simp [depsB, Region.binds] at hd); (try simp only [Nat.reduceAdd] at hK hL); (have e0 := hB.out 0); (simp (decide := true) only [look, if_true, if_false, hd, cond_true, cond_false, Array.getD_eq_getD_getElem?, List.getElem?_toArray, List.getElem?_cons_succ, List.getElem?_cons_zero, Option.getD_some] at e0); go_simp; exact hK.out (.slice ao n cap) x W (by simp (decide := true) [putO, setF, upd]) hW)
  · intro L x W hW hC hL hd B K hB hK; (try simp [depsB, Region.binds] at hd); (try simp only [Nat.reduceAdd] at hK hL)
    (have e15 := hB.out 15); (simp (decide := true) only [look, if_true, if_false, hd, cond_true, cond_false, Array.getD_eq_getD_getElem?, List.getElem?_toArray, List.getElem?_cons_succ, List.getElem?_cons_zero, Option.getD_some] at e15); (have e16 := hB.out 16); (simp (decide := true) only [look, if_true, if_false, hd, cond_true, cond_false, Array.getD_eq_getD_getElem?, List.getElem?_toArray, List.getElem?_cons_succ, List.getElem?_cons_zero, Option.getD_some] at e16)
    have h5 : L 5 = false := by cases hl : L 5 with | false => rfl | true => have hx := hC 5 _ rfl hl; simp [depsB, Region.binds, hL] at hx
    obtain ⟨B0, hRw, hOw⟩ := hW
    simp only [hL, h5, hd, cond_false, cond_true] at hRw
    refine (hOw.perm (L' := B0 ++ ((bif L 4 then [⟨x.2.2.1, 52, #[.bool dr, .bool rw_, .int .u8 (by8 nx 0), .int .u8 (by8 nx 1), .int .u8 (by8 nx 2), .int .u8 (by8 nx 3), .int .u8 (by8 nx 4), .int .u8 (by8 nx 5), .int .u8 (by8 nx 6), .int .u8 (by8 nx 7), .int .i64 m, .string s]⟩] else []) ++ [⟨b3, 52, #[.bool dr, .bool rw_, .int .u8 (by8 nx 0), .int .u8 (by8 nx 1), .int .u8 (by8 nx 2), .int .u8 (by8 nx 3), .int .u8 (by8 nx 4), .int .u8 (by8 nx 5), .int .u8 (by8 nx 6), .int .u8 (by8 nx 7), .int .i64 m, .string s]⟩])) (perm_cnt fun x => by simp only [cnt_append, cnt_cons, cnt_nil] <;> omega)).om.appendK (.tmp 15) (.tmp 16) 49 rfl elt_deed (by simp [Act.eval, e15]) hRw ao n cap (rowL (fun i => (D i).cells) n) (by simp [Act.eval, e16]) (rowL_len _ 12 (fun i => deed_len _) n) HNIL.out (fun ad had j u hj => (HV.out.below hOw.below).cellsL (by omega) (fun i => deed_len _) ad had j u hj) (rowL_mem _ (fun i => deed_one _) n) (by unfold maxLen; omega) (by have := HRM.out; omega) n (by omega) (rowL (fun i => (D i).cells) n) (by simp) (fun ao' cap' B' W4 R4 O4 => ?_)
    refine hK.out (.slice ao' n cap') (x.1, (ao', cap'), x.2.2) W4 (by simp (decide := true) [putO, setF, upd, h5]) ⟨B', by simpa [upd, h5] using R4, ?_⟩
    simp only [updN L (show (4 : Nat) ≠ 2 by decide)]
    exact O4.ow.perm (perm_cnt fun x => by simp only [cnt_append, cnt_cons, cnt_nil] <;> omega)
  · (intro L x W hW hC hL hd B K hB hK; (try simp [depsB, Region.binds] at hd); (try simp only [Nat.reduceAdd] at hK hL); (have e3 := hB.out 3); (simp (decide := true) only [look, if_true, if_false, hd, cond_true, cond_false, Array.getD_eq_getD_getElem?, List.getElem?_toArray, List.getElem?_cons_succ, List.getElem?_cons_zero, Option.getD_some] at e3); (have hW0 := hW); (obtain ⟨B0, hS, hN⟩ := hW0); (have hq := hN.has (b := b3) (t := 52) (cs := #[.bool dr, .bool rw_, .int .u8 (by8 nx 0), .int .u8 (by8 nx 1), .int .u8 (by8 nx 2), .int .u8 (by8 nx 3), .int .u8 (by8 nx 4), .int .u8 (by8 nx 5), .int .u8 (by8 nx 6), .int .u8 (by8 nx 7), .int .i64 m, .string s]) (by simp)); (have q0 := hq.cell 0); (have q1 := hq.cell 1); (have q2 := hq.cell 2); (have q3 := hq.cell 3); (have q4 := hq.cell 4); (have q5 := hq.cell 5); (have q6 := hq.cell 6); (have q7 := hq.cell 7); (have q8 := hq.cell 8); (have q9 := hq.cell 9); (have q10 := hq.cell 10); (have q11 := hq.cell 11); (have lq := hq.lt); (simp only [List.getElem?_toArray, List.getElem?_cons_succ, List.getElem?_cons_zero] at q0 q1 q2 q3 q4 q5 q6 q7 q8 q9 q10 q11); clear hq; clear hS hN; go_simp; exact hK.out (.agg #[.bool dr, .bool rw_, .int .u8 (by8 nx 0), .int .u8 (by8 nx 1), .int .u8 (by8 nx 2), .int .u8 (by8 nx 3), .int .u8 (by8 nx 4), .int .u8 (by8 nx 5), .int .u8 (by8 nx 6), .int .u8 (by8 nx 7), .int .i64 m, .string s]) x W (by simp (decide := true) [putO, setF, upd]) hW)
  · intro L x W hW hC hL hd B K hB hK; (try simp [depsB, Region.binds] at hd); (try simp only [Nat.reduceAdd] at hK hL)
    (have e18 := hB.out 18); (simp (decide := true) only [look, if_true, if_false, hd, cond_true, cond_false, Array.getD_eq_getD_getElem?, List.getElem?_toArray, List.getElem?_cons_succ, List.getElem?_cons_zero, Option.getD_some] at e18)
    have h5 : L 5 = false := by cases hl : L 5 with | false => rfl | true => have hx := hC 5 _ rfl hl; simp [depsB, Region.binds, hL] at hx
    obtain ⟨B0, hRw, hOw⟩ := hW
    simp only [hL, cond_false, List.nil_append] at hOw
    refine wp_ran (run_buildSlice_one elt_deed rfl (.agg #[.bool dr, .bool rw_, .int .u8 (by8 nx 0), .int .u8 (by8 nx 1), .int .u8 (by8 nx 2), .int .u8 (by8 nx 3), .int .u8 (by8 nx 4), .int .u8 (by8 nx 5), .int .u8 (by8 nx 6), .int .u8 (by8 nx 7), .int .i64 m, .string s]) (by simp [Act.eval, e18]) rfl (by omega) W) ?_
    have hO2 := hOw.key #[.bool dr, .bool rw_, .int .u8 (by8 nx 0), .int .u8 (by8 nx 1), .int .u8 (by8 nx 2), .int .u8 (by8 nx 3), .int .u8 (by8 nx 4), .int .u8 (by8 nx 5), .int .u8 (by8 nx 6), .int .u8 (by8 nx 7), .int .i64 m, .string s] 52 W.heap.size rfl
    refine hK.out (.slice (some ⟨W.heap.size, 0, none⟩) 1 1) (x.1, x.2.1, W.heap.size, x.2.2.2) _ (by simp (decide := true) [putO, setF, upd, h5]) ⟨B0, by simpa [upd, h5] using hRw, ?_⟩
    simp only [updS, cond_true]
    exact hO2
  · intro L x W hW hC hL hd B K hB hK; (try simp [depsB, Region.binds] at hd); (try simp only [Nat.reduceAdd] at hK hL)
    (have e17 := hB.out 17); (simp (decide := true) only [look, if_true, if_false, hd, cond_true, cond_false, Array.getD_eq_getD_getElem?, List.getElem?_toArray, List.getElem?_cons_succ, List.getElem?_cons_zero, Option.getD_some] at e17); (have e19 := hB.out 19); (simp (decide := true) only [look, if_true, if_false, hd, cond_true, cond_false, Array.getD_eq_getD_getElem?, List.getElem?_toArray, List.getElem?_cons_succ, List.getElem?_cons_zero, Option.getD_some] at e19)
    obtain ⟨B0, hRw, hOw⟩ := hW
    simp only [hL, hd, cond_false, cond_true] at hRw hOw
    have h6 : L 6 = false := by cases hl : L 6 with | false => rfl | true => have hx := hC 6 _ rfl hl; simp [depsB, Region.binds, hL] at hx
    have hblk := hOw.has (b := x.2.2.1) (t := 52) (cs := #[.bool dr, .bool rw_, .int .u8 (by8 nx 0), .int .u8 (by8 nx 1), .int .u8 (by8 nx 2), .int .u8 (by8 nx 3), .int .u8 (by8 nx 4), .int .u8 (by8 nx 5), .int .u8 (by8 nx 6), .int .u8 (by8 nx 7), .int .i64 m, .string s]) (by simp)
    refine (hOw.perm (L' := B0 ++ ([⟨x.2.2.1, 52, #[.bool dr, .bool rw_, .int .u8 (by8 nx 0), .int .u8 (by8 nx 1), .int .u8 (by8 nx 2), .int .u8 (by8 nx 3), .int .u8 (by8 nx 4), .int .u8 (by8 nx 5), .int .u8 (by8 nx 6), .int .u8 (by8 nx 7), .int .i64 m, .string s]⟩] ++ [⟨b3, 52, #[.bool dr, .bool rw_, .int .u8 (by8 nx 0), .int .u8 (by8 nx 1), .int .u8 (by8 nx 2), .int .u8 (by8 nx 3), .int .u8 (by8 nx 4), .int .u8 (by8 nx 5), .int .u8 (by8 nx 6), .int .u8 (by8 nx 7), .int .i64 m, .string s]⟩])) (perm_cnt fun x => by simp only [cnt_append, cnt_cons, cnt_nil] <;> omega)).om.appendK (.tmp 17) (.tmp 19) 49 rfl elt_deed (by simp [Act.eval, e17]) hRw _ 1 1 ((⟨dr, rw_, nx, m, s⟩ : DeedV).cells) (by simp [Act.eval, e19]) rfl (by simp) (blk_news hblk) (deed_one _) (by unfold maxLen; omega) (by have := HRM.out; omega) (n + 1) rfl (rowL (fun i => (dAt n D ⟨dr, rw_, nx, m, s⟩ i).cells) (n + 1)) (dAt_row n D _) (fun ao' cap' B' W4 R4 O4 => ?_)
    refine hK.out (.slice ao' (n + 1) cap') (x.1, x.2.1, x.2.2.1, (ao', cap')) W4 (by simp (decide := true) [putO, setF, upd]) ⟨B', by simpa [upd] using R4, ?_⟩
    simp only [updN L (show (4 : Nat) ≠ 5 by decide), hd, cond_true]
    exact O4.ow.perm (perm_cnt fun x => by simp only [cnt_append, cnt_cons, cnt_nil] <;> omega)
  · intro L x W hW hC hL hd B K hB hK; (try simp [depsB, Region.binds] at hd); (try simp only [Nat.reduceAdd] at hK hL)
    (have e20 := hB.out 20); (simp (decide := true) only [look, if_true, if_false, hd, cond_true, cond_false, Array.getD_eq_getD_getElem?, List.getElem?_toArray, List.getElem?_cons_succ, List.getElem?_cons_zero, Option.getD_some] at e20)
    obtain ⟨B0, hRw, hOw⟩ := hW
    have h5 : L 5 = true := by simp only [hd]
    simp only [h5, cond_true] at hRw
    refine wp_call_in 23 (by rfl) (by kernel_rfl) #[.slice x.2.2.2.1 (n + 1) x.2.2.2.2] (by simp [Act.eval, e20]) ((fair_to _ (n + 1) (dAt n D ⟨dr, rw_, nx, m, s⟩) (by unfold maxLen; have := HRM.out; omega) W (hRw.rws (fun i => deed_len _) (hOw.perm (L' := B0 ++ ((bif L 4 then [⟨x.2.2.1, 52, #[.bool dr, .bool rw_, .int .u8 (by8 nx 0), .int .u8 (by8 nx 1), .int .u8 (by8 nx 2), .int .u8 (by8 nx 3), .int .u8 (by8 nx 4), .int .u8 (by8 nx 5), .int .u8 (by8 nx 6), .int .u8 (by8 nx 7), .int .i64 m, .string s]⟩] else []) ++ [⟨b3, 52, #[.bool dr, .bool rw_, .int .u8 (by8 nx 0), .int .u8 (by8 nx 1), .int .u8 (by8 nx 2), .int .u8 (by8 nx 3), .int .u8 (by8 nx 4), .int .u8 (by8 nx 5), .int .u8 (by8 nx 6), .int .u8 (by8 nx 7), .int .i64 m, .string s]⟩])) (perm_cnt fun x => by simp only [cnt_append, cnt_cons, cnt_nil] <;> omega)).mem) b HB.out).mono ?_)
    rintro e W4 ⟨rfl, rfl⟩
    refine ⟨_, rfl, ?_⟩
    exact hK.out (.bool b) x W4 (by simp (decide := true) [putO, setF, upd]) ⟨B0, by simpa [upd, h5] using hRw, by simpa [upd] using hOw⟩
  · (intro L x W hW hC hL hd B K hB hK; (try simp [depsB, Region.binds] at hd); (try simp only [Nat.reduceAdd] at hK hL); (have e21 := hB.out 21); (simp (decide := true) only [look, if_true, if_false, hd, cond_true, cond_false, Array.getD_eq_getD_getElem?, List.getElem?_toArray, List.getElem?_cons_succ, List.getElem?_cons_zero, Option.getD_some] at e21); go_simp; exact hK.out (.bool (!b)) x W (by simp (decide := true) [putO, setF, upd]) hW)
  intro x9 W9 hW9
  simp only [ovl, cond_true, Array.getD_eq_getD_getElem?, List.getElem?_toArray, List.getElem?_cons_succ, List.getElem?_cons_zero, Option.getD_some, List.setIfInBounds_toArray, List.set_cons_zero, List.set_cons_succ]
  (try simp only [cond_true] at hW9)
  obtain ⟨B9, -, hO9⟩ := hW9
  have HO9 : Hid (Ow W9 w [⟨b3, 52, #[.bool dr, .bool rw_, .int .u8 (by8 nx 0), .int .u8 (by8 nx 1), .int .u8 (by8 nx 2), .int .u8 (by8 nx 3), .int .u8 (by8 nx 4), .int .u8 (by8 nx 5), .int .u8 (by8 nx 6), .int .u8 (by8 nx 7), .int .i64 m, .string s]⟩]) := Ow.drop (B := [⟨x9.2.2.1, 52, #[.bool dr, .bool rw_, .int .u8 (by8 nx 0), .int .u8 (by8 nx 1), .int .u8 (by8 nx 2), .int .u8 (by8 nx 3), .int .u8 (by8 nx 4), .int .u8 (by8 nx 5), .int .u8 (by8 nx 6), .int .u8 (by8 nx 7), .int .i64 m, .string s]⟩] ++ B9) (hO9.perm (perm_cnt fun x => by simp only [cnt_append, cnt_cons, cnt_nil] <;> omega))
  clear hO9 HO
  cases b with
  | false =>
    go_wp2_with fail
    refine (told51_to _).mono ?_
    rintro e w3 ⟨rfl, hb3⟩
    have HB3 := Lib.hid (HO9.out.of_below hb3).below
    clear hb3
    go_wp2
    go_ret
    exact ⟨rfl, HB3.out⟩
  | true =>
  have hfair := HB.out.1 rfl
  have h40 : n + 1 ≤ 40 := hfair.1
  have HF : Hid (∀ i, i < n → (D i).claim.size ≤ 300) := fun i hi => by
    have := hfair.2 i (by omega)
    simpa [dAt, hi] using this
  have HSZ : Hid (s.size ≤ 300) := by
    have := hfair.2 n (by omega)
    simp [dAt] at this
    exact this
  clear hfair
  go_wp2_with fail
  refine (tnew_to 3 (by omega) (by omega) _ w _ [] HO9.out.om).mono ?_
  rintro e w2 ⟨p, B, kk, rfl, O2, hP⟩
  have H2 : Hid (Tw w2 w [⟨b3, 52, #[.bool dr, .bool rw_, .int .u8 (by8 nx 0), .int .u8 (by8 nx 1), .int .u8 (by8 nx 2), .int .u8 (by8 nx 3), .int .u8 (by8 nx 4), .int .u8 (by8 nx 5), .int .u8 (by8 nx 6), .int .u8 (by8 nx 7), .int .i64 m, .string s]⟩] [] [] p ⟨3, []⟩) := ⟨B, kk, O2.perm (perm_cnt fun x => by simp only [cnt_append, cnt_cons, cnt_nil] <;> omega), hP []⟩
  have H3 := Lib.hid (H2.out.park (cs := #[.int .i64 3, .slice none 0 0]) (t := 72) (b := w2.heap.size) rfl)
  clear O2 hP HO9 H2
  go_wp2_with fail
  obtain ⟨q, hq⟩ : ∃ b, b = w2.heap.size := ⟨_, rfl⟩
  simp only [← hq] at H3 ⊢
  clear hq
  have HBo : Hid (Bo (w2.alloc (.cells #[.int .i64 3, .slice none 0 0] 72)) w [⟨b3, 52, #[.bool dr, .bool rw_, .int .u8 (by8 nx 0), .int .u8 (by8 nx 1), .int .u8 (by8 nx 2), .int .u8 (by8 nx 3), .int .u8 (by8 nx 4), .int .u8 (by8 nx 5), .int .u8 (by8 nx 6), .int .u8 (by8 nx 7), .int .i64 m, .string s]⟩] [] p q ⟨3, []⟩) := ⟨.slice none 0 0, [], RowIn.nil, H3.out⟩
  clear H3
  go_loopw [8] (fun vi wr => ∃ (i : Nat) (T : TWS) (X : List Blk), vi = .int .i64 i ∧ i ≤ n ∧ TOk T ∧ T.room = 3 ∧ Bo wr w [⟨b3, 52, #[.bool dr, .bool rw_, .int .u8 (by8 nx 0), .int .u8 (by8 nx 1), .int .u8 (by8 nx 2), .int .u8 (by8 nx 3), .int .u8 (by8 nx 4), .int .u8 (by8 nx 5), .int .u8 (by8 nx 6), .int .u8 (by8 nx 7), .int .i64 m, .string s]⟩] X p q T) (fun vi _ => n - (intOf vi).toNat)
  case atStart => exact ⟨0, ⟨3, []⟩, [], rfl, by omega, TOk.new 3 (by omega), rfl, HBo.out⟩
  case round =>
    clear HBo
    obtain ⟨i, T, X, rfl, hi, hT, hTk, hH⟩ := hrel
    have HT := Lib.hid hT
    have HTK := Lib.hid hTk
    have HH := Lib.hid hH
    clear hT hTk
    by_cases hlt : i < n
    · obtain ⟨r, o, rfl, hr, hcell⟩ := HV.out.elem hlt
      have hsz := HF.out i hlt
      obtain ⟨d, hd⟩ : ∃ d, D i = d := ⟨_, rfl⟩
      rw [hd] at hcell hsz
      obtain ⟨dr1, rw1, nx1, m1, s1⟩ := d
      have HSZ1 : Hid (s1.size ≤ 300) := hsz
      have hold : ∀ j u, (⟨dr1, rw1, nx1, m1, s1⟩ : DeedV).cells[j]? = some u → wr.cell? ⟨r, o + i * 12 + j, none⟩ = some u := fun j u hj => by
        rw [← hcell j u hj]; exact World.cell?_of_block (a := ⟨r, _, none⟩) (hH.below.block _ hr)
      have hri : r < wr.heap.size := Nat.lt_of_lt_of_le hr hH.below.size
      have c0 := hold 0 _ rfl
      have c1 := hold 1 _ rfl
      have c2 := hold 2 _ rfl
      have c3 := hold 3 _ rfl
      have c4 := hold 4 _ rfl
      have c5 := hold 5 _ rfl
      have c6 := hold 6 _ rfl
      have c7 := hold 7 _ rfl
      have c8 := hold 8 _ rfl
      have c9 := hold 9 _ rfl
      have c10 := hold 10 _ rfl
      have c11 := hold 11 _ rfl
      simp only [Nat.add_zero] at c0
      clear hold hcell hd hsz hr hH
      go_wp2_with fail
      refine (do51_to p q T HT.out ⟨dr1, rw1, nx1, m1, s1⟩ HSZ1.out _ w _ X HH.out).mono ?_
      rintro e w4 ⟨rfl, N, h4⟩
      have H4 := Lib.hid h4
      clear h4 HH c0 c1 c2 c3 c4 c5 c6 c7 c8 c9 c10 c11 hri
      go_wp2
      exact ⟨⟨i + 1, _, _, by simp, by omega, act_ok HT.out _, (act_room T _).trans HTK.out, H4.out⟩, by simp [intOf]; omega⟩
    · obtain rfl : i = n := by omega
      clear hH HV HF
      obtain ⟨v0, R, hri, hH1⟩ := HH.out
      obtain ⟨a0, c0, rfl⟩ := hri.slice
      have HRI := Lib.hid hri
      rw [HTK.out] at hH1
      have HH1 : Hid (Tw wr w (⟨q, 72, #[.int .i64 3, .slice a0 T.all.length c0]⟩ :: (R ++ [⟨b3, 52, #[.bool dr, .bool rw_, .int .u8 (by8 nx 0), .int .u8 (by8 nx 1), .int .u8 (by8 nx 2), .int .u8 (by8 nx 3), .int .u8 (by8 nx 4), .int .u8 (by8 nx 5), .int .u8 (by8 nx 6), .int .u8 (by8 nx 7), .int .i64 m, .string s]⟩])) X [] p T) := hH1
      have hmax : T.all.length ≤ 4096 := by have := HT.out.len; have := HT.out.room; omega
      have HT3 : Hid ((T.room : Int) = 3) := by show _ = _; rw [HTK.out]; rfl
      clear hri hH1 HH
      go_wp2_with fail
      refine (tclone_to p T HT.out _ w _ X HH1.out).mono ?_
      rintro e w4 ⟨o, N, rfl, h4⟩
      have H4 := Lib.hid h4
      clear h4 HH1
      go_wp2_with fail
      refine (tsame_to o p T T HT.out HT.out rfl _ w _ _ H4.out.swap true (by simp)).mono ?_
      rintro e w5 ⟨rfl, hb5⟩
      have H5 := Lib.hid (H4.out.of_below hb5)
      clear hb5 H4
      go_wp2_with fail
      refine (tsame_to p o T T HT.out HT.out rfl _ w _ _ H5.out true (by simp)).mono ?_
      rintro e w6 ⟨rfl, hb6⟩
      have H6 := Lib.hid (H5.out.of_below hb6)
      clear hb6 H5
      obtain ⟨X6, hX6⟩ : ∃ X6, N ++ X = X6 := ⟨_, rfl⟩
      rw [hX6] at H6
      clear hX6
      cases dr with
      | true =>
        obtain ⟨h, HX⟩ : ∃ h, Hid (thintF nx = h) := ⟨_, rfl⟩
        obtain ⟨bb, HBB⟩ : ∃ bb, Hid (hadT T h = bb) := ⟨_, rfl⟩
        obtain ⟨nb, hnb⟩ : ∃ nb, (!bb) = nb := ⟨_, rfl⟩
        have hnn : (nb == nb) = true := eqB_tt nb
        have HNB : Hid (nb = true ↔ T.all = (dropT T h).all) := by show _ ↔ _; rw [drop_all_iff, HBB.out, ← hnb]; cases bb <;> simp
        (have hq := H6.out.has (b := b3) (t := 52) (cs := #[.bool true, .bool rw_, .int .u8 (by8 nx 0), .int .u8 (by8 nx 1), .int .u8 (by8 nx 2), .int .u8 (by8 nx 3), .int .u8 (by8 nx 4), .int .u8 (by8 nx 5), .int .u8 (by8 nx 6), .int .u8 (by8 nx 7), .int .i64 m, .string s]) (by simp)); (have d0 := hq.cell 0); (have d1 := hq.cell 1); (have d2 := hq.cell 2); (have d3 := hq.cell 3); (have d4 := hq.cell 4); (have d5 := hq.cell 5); (have d6 := hq.cell 6); (have d7 := hq.cell 7); (have d8 := hq.cell 8); (have d9 := hq.cell 9); (have d10 := hq.cell 10); (have d11 := hq.cell 11); (have ld := hq.lt); (simp only [List.getElem?_toArray, List.getElem?_cons_succ, List.getElem?_cons_zero] at d0 d1 d2 d3 d4 d5 d6 d7 d8 d9 d10 d11); clear hq
        go_wp2_with fail
        refine (hint_to nx h HX.out _).mono ?_
        rintro e w7 ⟨rfl, hb7⟩
        have H7 := Lib.hid (H6.out.of_below hb7)
        clear hb7 H6
        clear d0 d1 d2 d3 d4 d5 d6 d7 d8 d9 d10 d11 ld
        go_wp2_with fail
        refine (drop2_to HT.out h H7.out.swap bb HBB.out _ rfl).mono ?_
        rintro e w8 ⟨rfl, h8⟩
        have H8 := Lib.hid h8.swap
        clear h8 H7
        go_wp2_with fail
        refine (tsame_to p o T (dropT T h) HT.out (HT.out.drop h) (drop_room T h).symm _ w _ _ H8.out nb HNB.out).mono ?_
        rintro e w9 ⟨rfl, hb9⟩
        have H9 := Lib.hid (H8.out.of_below hb9)
        clear hb9 H8
        (have hq := H9.out.has (b := q) (t := 72) (cs := #[.int .i64 3, .slice a0 T.all.length c0]) (by simp)); (have t0 := hq.cell 0); (have t1 := hq.cell 1); (have lt := hq.lt); (simp only [List.getElem?_toArray, List.getElem?_cons_succ, List.getElem?_cons_zero] at t0 t1); clear hq
        (have hq := H9.out.has (b := b3) (t := 52) (cs := #[.bool true, .bool rw_, .int .u8 (by8 nx 0), .int .u8 (by8 nx 1), .int .u8 (by8 nx 2), .int .u8 (by8 nx 3), .int .u8 (by8 nx 4), .int .u8 (by8 nx 5), .int .u8 (by8 nx 6), .int .u8 (by8 nx 7), .int .i64 m, .string s]) (by simp)); (have d0 := hq.cell 0); (have d1 := hq.cell 1); (have d2 := hq.cell 2); (have d3 := hq.cell 3); (have d4 := hq.cell 4); (have d5 := hq.cell 5); (have d6 := hq.cell 6); (have d7 := hq.cell 7); (have d8 := hq.cell 8); (have d9 := hq.cell 9); (have d10 := hq.cell 10); (have d11 := hq.cell 11); (have ld := hq.lt); (simp only [List.getElem?_toArray, List.getElem?_cons_succ, List.getElem?_cons_zero] at d0 d1 d2 d3 d4 d5 d6 d7 d8 d9 d10 d11); clear hq
        go_wp2_with fail
        refine (same2_to H9.out HT.out (.slice a0 T.all.length c0) nx (-1) (H9.out.rsl HRI.out (C' := ⟨q, 72, #[.int .i64 3, .slice a0 T.all.length c0]⟩ :: [⟨b3, 52, #[.bool true, .bool rw_, .int .u8 (by8 nx 0), .int .u8 (by8 nx 1), .int .u8 (by8 nx 2), .int .u8 (by8 nx 3), .int .u8 (by8 nx 4), .int .u8 (by8 nx 5), .int .u8 (by8 nx 6), .int .u8 (by8 nx 7), .int .i64 m, .string s]⟩]) (perm_cnt fun x => by simp only [cnt_append, cnt_cons, cnt_nil] <;> omega)) 3 HT3.out).mono ?_
        rintro e w10 ⟨rfl, hb10⟩
        have H10 := Lib.hid (H9.out.of_below hb10)
        clear hb10 H9
        clear t0 t1 lt
        clear d0 d1 d2 d3 d4 d5 d6 d7 d8 d9 d10 d11 ld
        go_wp2_with fail
        refine (told51_to _).mono ?_
        rintro e w11 ⟨rfl, hb11⟩
        have HB11 := Lib.hid (H10.out.of_below hb11).below
        clear hb11 H10
        go_wp2
        go_ret
        exact ⟨rfl, HB11.out⟩
      | false =>
        obtain ⟨a, HA⟩ : ∃ a, Hid (madeA ⟨false, rw_, nx, m, s⟩ = a) := ⟨_, rfl⟩
        obtain ⟨E, HE⟩ : ∃ E, Hid (takeE T a = E) := ⟨_, rfl⟩
        obtain ⟨T', HT'⟩ : ∃ T', Hid (takeT T a = T') := ⟨_, rfl⟩
        obtain ⟨eb, heb⟩ : ∃ eb, ((E : Int) == 0) = eb := ⟨_, rfl⟩
        obtain ⟨nb, hnb⟩ : ∃ nb, (!eb) = nb := ⟨_, rfl⟩
        have hnn : (nb == nb) = true := eqB_tt nb
        have HNB : Hid (nb = true ↔ T.all = T'.all) := by
          show _ ↔ _
          rw [← HT'.out, take_all_iff, HE.out, ← hnb, ← heb]
          cases hz : ((E : Int) == 0) with
          | true => simp only [beq_iff_eq] at hz; simp; omega
          | false => rw [beq_eq_false_iff_ne] at hz; simp; omega
        have HTo : Hid (TOk T') := by show TOk T'; rw [← HT'.out]; exact HT.out.take a
        have HTr : Hid (T'.room = T.room) := by show _ = _; rw [← HT'.out, take_room]
        have HTr3 : Hid ((T'.room : Int) = 3) := by show _ = _; rw [HTr.out, HT3.out]
        have hal : a.l.length ≤ 9223372036854775807 - 1 := by rw [← HA.out]; exact made_len rw_ nx m s HSZ.out
        (have hq := H6.out.has (b := b3) (t := 52) (cs := #[.bool false, .bool rw_, .int .u8 (by8 nx 0), .int .u8 (by8 nx 1), .int .u8 (by8 nx 2), .int .u8 (by8 nx 3), .int .u8 (by8 nx 4), .int .u8 (by8 nx 5), .int .u8 (by8 nx 6), .int .u8 (by8 nx 7), .int .i64 m, .string s]) (by simp)); (have d0 := hq.cell 0); (have d1 := hq.cell 1); (have d2 := hq.cell 2); (have d3 := hq.cell 3); (have d4 := hq.cell 4); (have d5 := hq.cell 5); (have d6 := hq.cell 6); (have d7 := hq.cell 7); (have d8 := hq.cell 8); (have d9 := hq.cell 9); (have d10 := hq.cell 10); (have d11 := hq.cell 11); (have ld := hq.lt); (simp only [List.getElem?_toArray, List.getElem?_cons_succ, List.getElem?_cons_zero] at d0 d1 d2 d3 d4 d5 d6 d7 d8 d9 d10 d11); clear hq
        go_wp2_with fail
        refine (made_to ⟨false, rw_, nx, m, s⟩ HSZ.out a HA.out _).mono ?_
        rintro e w7 ⟨rfl, hb7⟩
        have H7 := Lib.hid (H6.out.of_below hb7)
        clear hb7 H6
        clear d0 d1 d2 d3 d4 d5 d6 d7 d8 d9 d10 d11 ld
        go_wp2_with fail
        refine (own2_to a.h a.n ⟨a.l.toArray⟩ _).mono ?_
        rintro e w8 ⟨r, cu, cs, rfl, hb8, hbs8, hr8, hrow8, hbyt8⟩
        have hsz8 : ({ data := a.l.toArray } : ByteArray).size = a.l.length := by simp [ByteArray.size]
        rw [hsz8] at hbs8 ⊢
        have HBY : Hid (Byt cs a.l 0) := hbyt8
        have HZ9 := Lib.hid ((H7.out.z hb8 hr8 hrow8).park (ds := #[.int .u8 (by8 a.h 0), .int .u8 (by8 a.h 1), .int .u8 (by8 a.h 2), .int .u8 (by8 a.h 3), .int .u8 (by8 a.h 4), .int .u8 (by8 a.h 5), .int .u8 (by8 a.h 6), .int .u8 (by8 a.h 7), .int .i64 a.n, .slice (some ⟨r, 0, none⟩) a.l.length cu]) (t := 29) (b := w8.heap.size) rfl)
        have HBS : Hid (BSl (w8.alloc (.cells #[.int .u8 (by8 a.h 0), .int .u8 (by8 a.h 1), .int .u8 (by8 a.h 2), .int .u8 (by8 a.h 3), .int .u8 (by8 a.h 4), .int .u8 (by8 a.h 5), .int .u8 (by8 a.h 6), .int .u8 (by8 a.h 7), .int .i64 a.n, .slice (some ⟨r, 0, none⟩) a.l.length cu] 29)) (.slice (some ⟨r, 0, none⟩) a.l.length cu) a.l) := hbs8.alloc _
        clear hb8 hbs8 hr8 hrow8 hbyt8 H7 hsz8
        go_wp2_with fail
        obtain ⟨b11, hb11⟩ : ∃ b, b = w8.heap.size := ⟨_, rfl⟩
        simp only [← hb11] at HZ9 ⊢
        clear hb11
        refine (HZ9.out.take HT.out HBS.out E HE.out T' HT'.out).mono ?_
        rintro e w10 ⟨rfl, N10, h10⟩
        have H10 := Lib.hid h10
        obtain ⟨X8, hX8⟩ : ∃ X8, N10 ++ X6 = X8 := ⟨_, rfl⟩
        rw [hX8] at H10
        clear h10 HZ9 HBS hX8
        go_wp2_with fail
        go_loopw [12] (fun vi wx => ∃ (i : Nat) (cx : Array Value), vi = .int .i64 i ∧ i ≤ a.l.length ∧ Byt cx a.l i ∧ Tw2z wx w (⟨b11, 29, #[.int .u8 (by8 a.h 0), .int .u8 (by8 a.h 1), .int .u8 (by8 a.h 2), .int .u8 (by8 a.h 3), .int .u8 (by8 a.h 4), .int .u8 (by8 a.h 5), .int .u8 (by8 a.h 6), .int .u8 (by8 a.h 7), .int .i64 a.n, .slice (some ⟨r, 0, none⟩) a.l.length cu]⟩ :: (⟨q, 72, #[.int .i64 3, .slice a0 T.all.length c0]⟩ :: (R ++ [⟨b3, 52, #[.bool false, .bool rw_, .int .u8 (by8 nx 0), .int .u8 (by8 nx 1), .int .u8 (by8 nx 2), .int .u8 (by8 nx 3), .int .u8 (by8 nx 4), .int .u8 (by8 nx 5), .int .u8 (by8 nx 6), .int .u8 (by8 nx 7), .int .i64 m, .string s]⟩]))) X8 r cx p T o T') (fun vi _ => a.l.length - (intOf vi).toNat)
        case atStart => exact ⟨0, cs, rfl, by omega, HBY.out, H10.out⟩
        case round =>
          clear H10 HBY
          obtain ⟨i, cx, rfl, hi, hby, hz⟩ := hrel
          have HY := Lib.hid hby
          have HZ := Lib.hid hz
          (have hq := hz.has (b := b11) (t := 29) (ds := #[.int .u8 (by8 a.h 0), .int .u8 (by8 a.h 1), .int .u8 (by8 a.h 2), .int .u8 (by8 a.h 3), .int .u8 (by8 a.h 4), .int .u8 (by8 a.h 5), .int .u8 (by8 a.h 6), .int .u8 (by8 a.h 7), .int .i64 a.n, .slice (some ⟨r, 0, none⟩) a.l.length cu]) (by simp)); (have y9 : wr.cell? ⟨b11, 9, none⟩ = some (.slice (some ⟨r, 0, none⟩) a.l.length cu) := hq.cell 9); (have ly := hq.lt); clear hq
          by_cases hlt : i < a.l.length
          · have cc : wr.cell? ⟨r, i, none⟩ = some (.int .u8 ((a.l.getD i 0).toNat : Int)) := (cell_mrk hz.row i).trans (hby.2 i (Nat.le_refl _) hlt)
            have ff : wr.frozen? ⟨r, i, none⟩ = false := frozen_mrk hz.row i (by have := hby.1; omega)
            have lr : r < wr.heap.size := (Array.getElem?_eq_some_iff.1 hz.row).1
            obtain ⟨x8, hx8⟩ : ∃ x8 : Int, ((a.l.getD i 0).toNat : Int) = x8 := ⟨_, rfl⟩
            rw [hx8] at cc
            clear hby hz hx8
            go_wp2
            exact ⟨⟨i + 1, _, by simp, by omega, HY.out.set _, HZ.out.set i _⟩, by simp [intOf]; omega⟩
          · obtain rfl : i = a.l.length := by omega
            obtain ⟨al', hal'⟩ : ∃ al', T'.all = al' := ⟨_, rfl⟩
            obtain ⟨M, HM⟩ : ∃ M, Hid (al'.length = M) := ⟨_, rfl⟩
            have HAL := Lib.hid hal'
            have RT : Hid (∀ W, RSl W (.slice a0 T.all.length c0) T.all → Calls Try.prog 53 #[.agg #[.int .i64 3, .slice a0 T.all.length c0], rAgg a.h a.n ⟨a.l.toArray⟩] W fun e w' => ∃ v', e = .returned (.tuple #[.agg #[.int .i64 3, v'], .int .i64 E]) ∧ Below W.heap.size W w' ∧ NewR W.heap.size (.slice a0 T.all.length c0) T.all v' al' w') := fun W hv => by
              have h := rtake_to T.room (.slice a0 T.all.length c0) T.all (by omega) HT.out.len a W hv E HE.out al' (by show (takeT T a).all = al'; rw [HT'.out, hal'])
              rw [HT3.out] at h
              exact h
            have H8 : Hid (Tw2 wr w (⟨b3, 52, #[.bool false, .bool rw_, .int .u8 (by8 nx 0), .int .u8 (by8 nx 1), .int .u8 (by8 nx 2), .int .u8 (by8 nx 3), .int .u8 (by8 nx 4), .int .u8 (by8 nx 5), .int .u8 (by8 nx 6), .int .u8 (by8 nx 7), .int .i64 m, .string s]⟩ :: (⟨q, 72, #[.int .i64 3, .slice a0 T.all.length c0]⟩ :: R)) X8 p T o T') := (Tw2.dropC (D := [_]) HZ.out.tw2).permC (perm_cnt fun x => by simp only [cnt_append, cnt_cons, cnt_nil] <;> omega)
            clear hby hz HY HZ hal'
            go_wp2_with fail
            clear y9 ly
            refine wp_region_o2 [93, 94, 95, 96, 92, 97, 98, 13, 14] (fun L (x : (Option Addr × Nat) × Nat) => [(L 0, 93, .agg #[.int .i64 3, .slice a0 T.all.length c0]), (L 1, 94, .agg #[.bool false, .bool rw_, .int .u8 (by8 nx 0), .int .u8 (by8 nx 1), .int .u8 (by8 nx 2), .int .u8 (by8 nx 3), .int .u8 (by8 nx 4), .int .u8 (by8 nx 5), .int .u8 (by8 nx 6), .int .u8 (by8 nx 7), .int .i64 m, .string s]), (L 2, 95, rAgg a.h a.n ⟨a.l.toArray⟩), (L 3, 96, bif L 3 then .tuple #[.agg #[.int .i64 3, .slice x.1.1 M x.1.2], .int .i64 E] else undef), (L 4, 92, bif L 4 then .tuple #[.agg #[.int .i64 3, .slice x.1.1 M x.1.2], .int .i64 E] else undef), (L 5, 97, bif L 5 then .agg #[.int .i64 3, .slice x.1.1 M x.1.2] else undef), (L 6, 98, .int .i64 E), (L 7, 13, bif L 7 then tptr x.2 else undef), (L 9, 14, .int .i64 E)])
              (fun L x W => ∃ S : List Blk, (L 3 = true → RowIn (.slice x.1.1 M x.1.2) al' (S ++ R)) ∧ Tw2 W w ((bif L 7 then [⟨x.2, 72, bif L 8 then #[.int .i64 3, .slice x.1.1 M x.1.2] else #[.int .i64 0, .slice none 0 0]⟩] else []) ++ (S ++ (⟨b3, 52, #[.bool false, .bool rw_, .int .u8 (by8 nx 0), .int .u8 (by8 nx 1), .int .u8 (by8 nx 2), .int .u8 (by8 nx 3), .int .u8 (by8 nx 4), .int .u8 (by8 nx 5), .int .u8 (by8 nx 6), .int .u8 (by8 nx 7), .int .i64 m, .string s]⟩ :: (⟨q, 72, #[.int .i64 3, .slice a0 T.all.length c0]⟩ :: R)))) X8 p T o T') ((none, 0), 0) (by kernel_rfl) (by kernel_rfl) 121 (by rfl) (fun _ _ => rfl) (by kernel_rfl) (by kernel_rfl) (by kernel_rfl) (by rfl) ⟨[], fun hx => (by simp at hx), H8.out.of_below (Below.refl _ _).drew⟩ ?_ ⟨?_, ?_, ?_, ?_, ?_, ?_, ?_, ?_, ?_, ?_, trivial⟩
            rotate_left
            · (intro L x W hW hC hL hd B K hB hK; (try simp [depsB, Region.binds] at hd); (try simp only [Nat.reduceAdd] at hK hL); (have e7 := hB.out 7); (simp (decide := true) only [look, if_true, if_false, hd, cond_true, cond_false, Array.getD_eq_getD_getElem?, List.getElem?_toArray, List.getElem?_cons_succ, List.getElem?_cons_zero, Option.getD_some] at e7); (have hW0 := hW); (obtain ⟨S, hS, hN⟩ := hW0); (have hq : HasBlk W q 72 #[.int .i64 3, .slice a0 T.all.length c0] := by (obtain ⟨_, _, _, _, hOq, _, _⟩ := hN; exact hOq.blk (by simp))); (have q0 := hq.cell 0); (have q1 := hq.cell 1); (have lq := hq.lt); (simp only [List.getElem?_toArray, List.getElem?_cons_succ, List.getElem?_cons_zero] at q0 q1); clear hq; clear hS hN; go_simp; exact hK.out (.agg #[.int .i64 3, .slice a0 T.all.length c0]) x W (by simp (decide := true) [putO, setF, upd]) hW)
            · (intro L x W hW hC hL hd B K hB hK; (try simp [depsB, Region.binds] at hd); (try simp only [Nat.reduceAdd] at hK hL); (have e3 := hB.out 3); (simp (decide := true) only [look, if_true, if_false, hd, cond_true, cond_false, Array.getD_eq_getD_getElem?, List.getElem?_toArray, List.getElem?_cons_succ, List.getElem?_cons_zero, Option.getD_some] at e3); (have hW0 := hW); (obtain ⟨S, hS, hN⟩ := hW0); (have hq : HasBlk W b3 52 #[.bool false, .bool rw_, .int .u8 (by8 nx 0), .int .u8 (by8 nx 1), .int .u8 (by8 nx 2), .int .u8 (by8 nx 3), .int .u8 (by8 nx 4), .int .u8 (by8 nx 5), .int .u8 (by8 nx 6), .int .u8 (by8 nx 7), .int .i64 m, .string s] := by (obtain ⟨_, _, _, _, hOq, _, _⟩ := hN; exact hOq.blk (by simp))); (have q0 := hq.cell 0); (have q1 := hq.cell 1); (have q2 := hq.cell 2); (have q3 := hq.cell 3); (have q4 := hq.cell 4); (have q5 := hq.cell 5); (have q6 := hq.cell 6); (have q7 := hq.cell 7); (have q8 := hq.cell 8); (have q9 := hq.cell 9); (have q10 := hq.cell 10); (have q11 := hq.cell 11); (have lq := hq.lt); (simp only [List.getElem?_toArray, List.getElem?_cons_succ, List.getElem?_cons_zero] at q0 q1 q2 q3 q4 q5 q6 q7 q8 q9 q10 q11); clear hq; clear hS hN; go_simp; exact hK.out (.agg #[.bool false, .bool rw_, .int .u8 (by8 nx 0), .int .u8 (by8 nx 1), .int .u8 (by8 nx 2), .int .u8 (by8 nx 3), .int .u8 (by8 nx 4), .int .u8 (by8 nx 5), .int .u8 (by8 nx 6), .int .u8 (by8 nx 7), .int .i64 m, .string s]) x W (by simp (decide := true) [putO, setF, upd]) hW)
            · intro L x W hW hC hL hd B K hB hK; (try simp [depsB, Region.binds] at hd); (try simp only [Nat.reduceAdd] at hK hL)
              (have e94 := hB.out 94); (simp (decide := true) only [look, if_true, if_false, hd, cond_true, cond_false, Array.getD_eq_getD_getElem?, List.getElem?_toArray, List.getElem?_cons_succ, List.getElem?_cons_zero, Option.getD_some] at e94)
              obtain ⟨S, hS, hN⟩ := hW
              refine wp_call_in 26 (by rfl) (by kernel_rfl) #[.agg #[.bool false, .bool rw_, .int .u8 (by8 nx 0), .int .u8 (by8 nx 1), .int .u8 (by8 nx 2), .int .u8 (by8 nx 3), .int .u8 (by8 nx 4), .int .u8 (by8 nx 5), .int .u8 (by8 nx 6), .int .u8 (by8 nx 7), .int .i64 m, .string s]] (by simp [Act.eval, e94]) ((made_to ⟨false, rw_, nx, m, s⟩ HSZ.out a HA.out W).mono ?_)
              rintro e W4 ⟨rfl, hb4⟩
              refine ⟨_, rfl, ?_⟩
              exact hK.out (rAgg a.h a.n ⟨a.l.toArray⟩) x W4 (by simp (decide := true) [putO, setF, upd]) ⟨S, fun hx => hS (by simpa [upd] using hx), by simpa [upd] using hN.of_below hb4⟩
            · intro L x W hW hC hL hd B K hB hK; (try simp [depsB, Region.binds] at hd); (try simp only [Nat.reduceAdd] at hK hL)
              (have e93 := hB.out 93); (simp (decide := true) only [look, if_true, if_false, hd, cond_true, cond_false, Array.getD_eq_getD_getElem?, List.getElem?_toArray, List.getElem?_cons_succ, List.getElem?_cons_zero, Option.getD_some] at e93); (have e95 := hB.out 95); (simp (decide := true) only [look, if_true, if_false, hd, cond_true, cond_false, Array.getD_eq_getD_getElem?, List.getElem?_toArray, List.getElem?_cons_succ, List.getElem?_cons_zero, Option.getD_some] at e95)
              have h4 : L 4 = false := by cases hl : L 4 with | false => rfl | true => have hx := hC 4 _ rfl hl; simp [depsB, Region.binds, hL] at hx
              have h5 : L 5 = false := by cases hl : L 5 with | false => rfl | true => have hx := hC 5 _ rfl hl; simp [depsB, Region.binds, h4] at hx
              have h8 : L 8 = false := by cases hl : L 8 with | false => rfl | true => have hx := hC 8 _ rfl hl; simp [depsB, Region.binds, hL] at hx
              obtain ⟨S, hS, hN⟩ := hW
              simp only [h8, cond_false] at hN
              refine wp_call_in 53 (by rfl) (by kernel_rfl) #[.agg #[.int .i64 3, .slice a0 T.all.length c0], rAgg a.h a.n ⟨a.l.toArray⟩] (by simp [Act.eval, e93, e95]) ((RT.out W (hN.rsl HRI.out (C' := (bif L 7 then [⟨x.2, 72, #[.int .i64 0, .slice none 0 0]⟩] else []) ++ (S ++ (⟨b3, 52, #[.bool false, .bool rw_, .int .u8 (by8 nx 0), .int .u8 (by8 nx 1), .int .u8 (by8 nx 2), .int .u8 (by8 nx 3), .int .u8 (by8 nx 4), .int .u8 (by8 nx 5), .int .u8 (by8 nx 6), .int .u8 (by8 nx 7), .int .i64 m, .string s]⟩ :: (⟨q, 72, #[.int .i64 3, .slice a0 T.all.length c0]⟩ :: [])))) ?_)).mono ?_)
              · exact (perm_cnt fun x => by simp only [cnt_append, cnt_cons, cnt_nil] <;> omega)
              rintro e W4 ⟨v', rfl, hb4, hnr⟩
              refine ⟨_, rfl, ?_⟩
              obtain ⟨N4, hp4, hx4, hr4⟩ := hnr.found HRI.out
              obtain ⟨a4, c4, rfl⟩ := hr4.slice
              rw [HM.out] at hr4 ⊢
              have hN4 := hN.foundC (Ext.of_below hb4) hp4 hx4
              refine hK.out (.tuple #[.agg #[.int .i64 3, .slice a4 M c4], .int .i64 E]) ((a4, c4), x.2) W4 (by simp (decide := true) [putO, setF, upd, h4, h5]) ⟨N4 ++ S, fun _ => ?_, ?_⟩
              · exact hr4.more2 S
              simp only [updN L (show (7 : Nat) ≠ 3 by decide), updN L (show (8 : Nat) ≠ 3 by decide), h8, cond_false]
              exact hN4.permC (perm_cnt fun x => by simp only [cnt_append, cnt_cons, cnt_nil] <;> omega)
            · (intro L x W hW hC hL hd B K hB hK; (try simp [depsB, Region.binds] at hd); (try simp only [Nat.reduceAdd] at hK hL); (have e96 := hB.out 96); (simp (decide := true) only [look, if_true, if_false, hd, cond_true, cond_false, Array.getD_eq_getD_getElem?, List.getElem?_toArray, List.getElem?_cons_succ, List.getElem?_cons_zero, Option.getD_some] at e96); go_simp; exact hK.out (.tuple #[.agg #[.int .i64 3, .slice x.1.1 M x.1.2], .int .i64 E]) x W (by simp (decide := true) [putO, setF, upd]) hW)
            · (intro L x W hW hC hL hd B K hB hK; (try simp [depsB, Region.binds] at hd); (try simp only [Nat.reduceAdd] at hK hL); (have e92 := hB.out 92); (simp (decide := true) only [look, if_true, if_false, hd, cond_true, cond_false, Array.getD_eq_getD_getElem?, List.getElem?_toArray, List.getElem?_cons_succ, List.getElem?_cons_zero, Option.getD_some] at e92); go_simp; exact hK.out (.agg #[.int .i64 3, .slice x.1.1 M x.1.2]) x W (by simp (decide := true) [putO, setF, upd]) hW)
            · (intro L x W hW hC hL hd B K hB hK; (try simp [depsB, Region.binds] at hd); (try simp only [Nat.reduceAdd] at hK hL); (have e92 := hB.out 92); (simp (decide := true) only [look, if_true, if_false, hd, cond_true, cond_false, Array.getD_eq_getD_getElem?, List.getElem?_toArray, List.getElem?_cons_succ, List.getElem?_cons_zero, Option.getD_some] at e92); go_simp; exact hK.out (.int .i64 E) x W (by simp (decide := true) [putO, setF, upd]) hW)
            · intro L x W hW hC hL hd B K hB hK; (try simp [depsB, Region.binds] at hd); (try simp only [Nat.reduceAdd] at hK hL)
              have h8 : L 8 = false := by cases hl : L 8 with | false => rfl | true => have hx := hC 8 _ rfl hl; simp [depsB, Region.binds, hL] at hx
              obtain ⟨S, hS, hN⟩ := hW
              refine wp_ran (run_alloc_op rfl (z := .agg #[.int .i64 0, .slice none 0 0]) (by kernel_rfl) W) ?_
              simp only [hL, cond_false, List.nil_append] at hN
              have hN2 := hN.park (cs := #[.int .i64 0, .slice none 0 0]) (t := 72) (b := W.heap.size) rfl
              refine hK.out (tptr W.heap.size) (x.1, W.heap.size) _ (by simp (decide := true) [putO, setF, upd, h8]) ⟨S, fun hx => hS (by simpa [upd] using hx), ?_⟩
              simp only [updS, updN L (show (8 : Nat) ≠ 7 by decide), h8, cond_true, cond_false, List.cons_append, List.nil_append]
              exact hN2
            · intro L x W hW hC hL hd B K hB hK; (try simp [depsB, Region.binds] at hd); (try simp only [Nat.reduceAdd] at hK hL)
              (have e13 := hB.out 13); (simp (decide := true) only [look, if_true, if_false, hd, cond_true, cond_false, Array.getD_eq_getD_getElem?, List.getElem?_toArray, List.getElem?_cons_succ, List.getElem?_cons_zero, Option.getD_some] at e13); (have e97 := hB.out 97); (simp (decide := true) only [look, if_true, if_false, hd, cond_true, cond_false, Array.getD_eq_getD_getElem?, List.getElem?_toArray, List.getElem?_cons_succ, List.getElem?_cons_zero, Option.getD_some] at e97)
              have h5' := hC 5 _ rfl (by simp only [hd])
              simp [depsB, Region.binds] at h5'
              have h4' := hC 4 _ rfl (by simp only [h5'])
              simp [depsB, Region.binds] at h4'
              obtain ⟨S, hS, hN⟩ := hW
              simp only [hL, hd, cond_true, cond_false, List.cons_append, List.nil_append] at hN
              refine hN.storeB 72 (.tmp 13) (.tmp 97) (by rfl) (by simp [Act.eval, e13]) (#[.int .i64 3, .slice x.1.1 M x.1.2]) (by simp [Act.eval, e97]) (by kernel_rfl) (by rfl) (by simp [Value.oneCell']) (fun W4 h4 => ?_)
              exact hK.out undef x W4 (by simp (decide := true) [putO, setF, upd]) ⟨S, fun hx => hS (by simpa [upd] using hx), by simpa [upd, hd] using h4⟩
            · (intro L x W hW hC hL hd B K hB hK; (try simp [depsB, Region.binds] at hd); (try simp only [Nat.reduceAdd] at hK hL); (have e98 := hB.out 98); (simp (decide := true) only [look, if_true, if_false, hd, cond_true, cond_false, Array.getD_eq_getD_getElem?, List.getElem?_toArray, List.getElem?_cons_succ, List.getElem?_cons_zero, Option.getD_some] at e98); go_simp; exact hK.out (.int .i64 E) x W (by simp (decide := true) [putO, setF, upd]) hW)
            intro x9 W9 hW9
            simp only [ovl, cond_true, Array.getD_eq_getD_getElem?, List.getElem?_toArray, List.getElem?_cons_succ, List.getElem?_cons_zero, Option.getD_some, List.setIfInBounds_toArray, List.set_cons_zero, List.set_cons_succ]
            (try simp only [cond_true] at hW9)
            obtain ⟨S, hS, h9⟩ := hW9
            have HR9 := Lib.hid (hS (by simp))
            have H9 : Hid (Tw2 W9 w (⟨x9.2, 72, #[.int .i64 3, .slice x9.1.1 M x9.1.2]⟩ :: (S ++ (⟨b3, 52, #[.bool false, .bool rw_, .int .u8 (by8 nx 0), .int .u8 (by8 nx 1), .int .u8 (by8 nx 2), .int .u8 (by8 nx 3), .int .u8 (by8 nx 4), .int .u8 (by8 nx 5), .int .u8 (by8 nx 6), .int .u8 (by8 nx 7), .int .i64 m, .string s]⟩ :: (⟨q, 72, #[.int .i64 3, .slice a0 T.all.length c0]⟩ :: R)))) X8 p T o T') := h9
            clear hS h9 H8
            (have hq := H9.out.has (b := x9.2) (t := 72) (cs := #[.int .i64 3, .slice x9.1.1 M x9.1.2]) (by simp)); (have y0 := hq.cell 0); (have y1 := hq.cell 1); (have ly := hq.lt); (simp only [List.getElem?_toArray, List.getElem?_cons_succ, List.getElem?_cons_zero] at y0 y1); clear hq
            (have hq := H9.out.has (b := b3) (t := 52) (cs := #[.bool false, .bool rw_, .int .u8 (by8 nx 0), .int .u8 (by8 nx 1), .int .u8 (by8 nx 2), .int .u8 (by8 nx 3), .int .u8 (by8 nx 4), .int .u8 (by8 nx 5), .int .u8 (by8 nx 6), .int .u8 (by8 nx 7), .int .i64 m, .string s]) (by simp)); (have d0 := hq.cell 0); (have d1 := hq.cell 1); (have d2 := hq.cell 2); (have d3 := hq.cell 3); (have d4 := hq.cell 4); (have d5 := hq.cell 5); (have d6 := hq.cell 6); (have d7 := hq.cell 7); (have d8 := hq.cell 8); (have d9 := hq.cell 9); (have d10 := hq.cell 10); (have d11 := hq.cell 11); (have ld := hq.lt); (simp only [List.getElem?_toArray, List.getElem?_cons_succ, List.getElem?_cons_zero] at d0 d1 d2 d3 d4 d5 d6 d7 d8 d9 d10 d11); clear hq
            go_wp2_with fail
            have hr9 : RowIn (.slice x9.1.1 M x9.1.2) T'.all (S ++ R) := by rw [HAL.out]; exact HR9.out
            refine (same2_to H9.out.swap HTo.out (.slice x9.1.1 M x9.1.2) nx (-1) (H9.out.rsl hr9 (C' := [⟨x9.2, 72, #[.int .i64 3, .slice x9.1.1 M x9.1.2]⟩, ⟨b3, 52, #[.bool false, .bool rw_, .int .u8 (by8 nx 0), .int .u8 (by8 nx 1), .int .u8 (by8 nx 2), .int .u8 (by8 nx 3), .int .u8 (by8 nx 4), .int .u8 (by8 nx 5), .int .u8 (by8 nx 6), .int .u8 (by8 nx 7), .int .i64 m, .string s]⟩, ⟨q, 72, #[.int .i64 3, .slice a0 T.all.length c0]⟩]) (perm_cnt fun x => by simp only [cnt_append, cnt_cons, cnt_nil] <;> omega)) 3 HTr3.out).mono ?_
            rintro e w10 ⟨rfl, hb10⟩
            have H10 := Lib.hid (H9.out.of_below hb10)
            clear hb10 H9 hr9
            clear y0 y1 ly
            clear d0 d1 d2 d3 d4 d5 d6 d7 d8 d9 d10 d11 ld
            go_wp2_with fail
            refine (tsame_to p o T T' HT.out HTo.out HTr.out.symm _ w _ _ H10.out nb HNB.out).mono ?_
            rintro e w11 ⟨rfl, hb11⟩
            have H11 := Lib.hid (H10.out.of_below hb11)
            clear hb11 H10
            (have hq := H11.out.has (b := q) (t := 72) (cs := #[.int .i64 3, .slice a0 T.all.length c0]) (by simp)); (have t0 := hq.cell 0); (have t1 := hq.cell 1); (have lt := hq.lt); (simp only [List.getElem?_toArray, List.getElem?_cons_succ, List.getElem?_cons_zero] at t0 t1); clear hq
            (have hq := H11.out.has (b := b3) (t := 52) (cs := #[.bool false, .bool rw_, .int .u8 (by8 nx 0), .int .u8 (by8 nx 1), .int .u8 (by8 nx 2), .int .u8 (by8 nx 3), .int .u8 (by8 nx 4), .int .u8 (by8 nx 5), .int .u8 (by8 nx 6), .int .u8 (by8 nx 7), .int .i64 m, .string s]) (by simp)); (have d0 := hq.cell 0); (have d1 := hq.cell 1); (have d2 := hq.cell 2); (have d3 := hq.cell 3); (have d4 := hq.cell 4); (have d5 := hq.cell 5); (have d6 := hq.cell 6); (have d7 := hq.cell 7); (have d8 := hq.cell 8); (have d9 := hq.cell 9); (have d10 := hq.cell 10); (have d11 := hq.cell 11); (have ld := hq.lt); (simp only [List.getElem?_toArray, List.getElem?_cons_succ, List.getElem?_cons_zero] at d0 d1 d2 d3 d4 d5 d6 d7 d8 d9 d10 d11); clear hq
            go_wp2_with fail
            refine (same2_to H11.out HT.out (.slice a0 T.all.length c0) nx (-1) (H11.out.rsl HRI.out (C' := ⟨x9.2, 72, #[.int .i64 3, .slice x9.1.1 M x9.1.2]⟩ :: (S ++ [⟨b3, 52, #[.bool false, .bool rw_, .int .u8 (by8 nx 0), .int .u8 (by8 nx 1), .int .u8 (by8 nx 2), .int .u8 (by8 nx 3), .int .u8 (by8 nx 4), .int .u8 (by8 nx 5), .int .u8 (by8 nx 6), .int .u8 (by8 nx 7), .int .i64 m, .string s]⟩, ⟨q, 72, #[.int .i64 3, .slice a0 T.all.length c0]⟩])) (perm_cnt fun x => by simp only [cnt_append, cnt_cons, cnt_nil] <;> omega)) 3 HT3.out).mono ?_
            rintro e w12 ⟨rfl, hb12⟩
            have H12 := Lib.hid (H11.out.of_below hb12)
            clear hb12 H11
            clear t0 t1 lt
            clear d0 d1 d2 d3 d4 d5 d6 d7 d8 d9 d10 d11 ld
            go_wp2_with fail
            refine (told51_to _).mono ?_
            rintro e w13 ⟨rfl, hb13⟩
            have HB13 := Lib.hid (H12.out.of_below hb13).below
            clear hb13 H12
            go_wp2
            go_ret
            exact ⟨rfl, HB13.out⟩

end Go.Proofs.Ytghaiplhakeahaa
