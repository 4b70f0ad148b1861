/- account: a book's map; contracts of put, Of, Move. -/
import Derived.Test.YteopbfehfipcmaaMg
import Derived.Test.YteopbfehfipcmaaInv
import Derived.Test.YteopbfehfipcmaaRs
import Derived.Test.YteopbfehfipcmaaTl
import Derived.DeepKeys4
namespace Go.Proofs.Yteopbfehfipcmaa
set_option linter.unusedSimpArgs false
set_option linter.unusedVariables false
open Go.RowKit Go.WideMaps Go.ChangeMaps Go.Maps

theorem mapP : MapT Try.prog 58 27 64 where
  keyed := Keyed.of_law (deep_law_laid (P := Try.prog) (by kernel_rfl) (m := 2) (by omega) (of_decide_eq_true (by kernel_rfl)) (by kernel_rfl) (by kernel_rfl))
  key := dig_keyOf (e := 5) ⟨Try.underlying27, by kernel_rfl, by kernel_rfl, by kernel_rfl⟩ Try.underlying5 ⟨_, rfl⟩
  und := Try.underlying58
theorem mapB : MapT Try.prog 61 27 4 where
  keyed := mapP.keyed
  key := mapP.key
  und := Try.underlying61
theorem vz_purse (w : World) : (zeroValue 64).run Try.prog w = .ok (.agg #[.int .i64 0, .int .i64 0]) w := by
  have h : (Try.prog.info? 64).bind (·.zero) = some (.agg #[.int .i64 0, .int .i64 0]) := by kernel_rfl
  obtain ⟨i, hi, hz⟩ := Option.bind_eq_some_iff.1 h
  simp [zeroValue, typeInfo, hi, hz]
theorem vz_bool (w : World) : (zeroValue 4).run Try.prog w = .ok (.bool false) w := by
  have h : (Try.prog.info? 4).bind (·.zero) = some (.bool false) := by kernel_rfl
  obtain ⟨i, hi, hz⟩ := Option.bind_eq_some_iff.1 h
  simp [zeroValue, typeInfo, hi, hz]
/-- What a book's map holds: money alone. -/
def bkV (M : BitVec 64 → Int) : BitVec 64 → Option Value := fun x => if M x = 0 then none else some (.agg #[.int .i64 (M x), .int .i64 0])
theorem bkV_get (M : BitVec 64 → Int) (x : BitVec 64) : (bkV M x).getD (.agg #[.int .i64 0, .int .i64 0]) = .agg #[.int .i64 (M x), .int .i64 0] := by
  unfold bkV
  split
  · rename_i h; rw [h]; rfl
  · rfl
def updM (M : BitVec 64 → Int) (x : BitVec 64) (a : Int) : BitVec 64 → Int := fun y => if y = x then a else M y
theorem bkV_del (M : BitVec 64 → Int) (x : BitVec 64) : delF (bkV M) x = bkV (updM M x 0) := by
  funext y
  unfold delF bkV updM
  by_cases h : y = x
  · simp [h]
  · simp [h]
theorem bkV_put (M : BitVec 64 → Int) (x : BitVec 64) (a : Int) (ha : a ≠ 0) : putF (bkV M) x (.agg #[.int .i64 a, .int .i64 0]) = bkV (updM M x a) := by
  funext y
  unfold putF bkV updM
  by_cases h : y = x
  · simp [h, ha]
  · simp [h]
/-- A book at p. -/
def Bk (w w0 : World) (C : List Blk) (K : List (Nat × Obj)) (p : Nat) (M : BitVec 64 → Int) : Prop := ∃ m es ck, Omw w w0 (⟨p, 60, #[.map (some m)]⟩ :: C) ((m, .map es ck) :: K) ∧ MapD es ck (bkV M)
section
variable {w w0 w' : World} {C C' : List Blk} {K : List (Nat × Obj)} {p : Nat} {M : BitVec 64 → Int}
theorem Bk.of_below (h : Bk w w0 C K p M) (hb : Below w.heap.size w w') : Bk w' w0 C K p M := by
  obtain ⟨m, es, ck, O, D⟩ := h; exact ⟨m, es, ck, O.of_below hb, D⟩
theorem Bk.plus (h : Bk w w0 C K p M) (g : Array Obj) (d : Nat) : Bk (Go.Proofs.Yteopbfehfipcmaa.plus w g d) w0 C K p M := h.of_below (bplus (Below.refl _ _) g d)
theorem Bk.alloc (h : Bk w w0 C K p M) (o : Obj) : Bk (w.alloc o) w0 C K p M := h.of_below (balloc (Below.refl _ _) o)
theorem Bk.drew (h : Bk w w0 C K p M) : Bk w.drew w0 C K p M := h.of_below (Below.refl _ _).drew
theorem Bk.below (h : Bk w w0 C K p M) : Below w0.heap.size w0 w := by
  obtain ⟨m, es, ck, O, D⟩ := h; exact O.below
theorem Bk.park (h : Bk w w0 C K p M) {cs : Array Value} {b : Nat} {t : TypeId} (hb : b = w.heap.size) : Bk (w.alloc (.cells cs t)) w0 (⟨b, t, cs⟩ :: C) K p M := by
  obtain ⟨m, es, ck, O, D⟩ := h; exact ⟨m, es, ck, (O.key cs t b hb).perm (perm_cnt fun x => by simp only [cnt_append, cnt_cons, cnt_nil] <;> omega), D⟩
theorem Bk.perm (h : Bk w w0 C K p M) (hp : C.Perm C') : Bk w w0 C' K p M := by
  obtain ⟨m, es, ck, O, D⟩ := h; exact ⟨m, es, ck, O.perm (hp.cons _), D⟩
theorem Bk.dropC {B : List Blk} (h : Bk w w0 (B ++ C) K p M) : Bk w w0 C K p M := by
  obtain ⟨m, es, ck, O, D⟩ := h
  exact ⟨m, es, ck, (O.perm (X' := B ++ (⟨p, 60, #[.map (some m)]⟩ :: C)) (perm_cnt fun x => by simp only [cnt_append, cnt_cons, cnt_nil] <;> omega)).drop, D⟩
theorem Bk.has (h : Bk w w0 C K p M) {b : Nat} {t : TypeId} {cs : Array Value} (hx : (⟨b, t, cs⟩ : Blk) ∈ C) : HasBlk w b t cs := by
  obtain ⟨m, es, ck, O, D⟩ := h; exact O.blk (List.mem_cons_of_mem _ hx)
theorem Bk.set {cs : Array Value} {b : Nat} {t : TypeId} (h : Bk w w0 (⟨b, t, cs⟩ :: C) K p M) (i : Nat) (v : Value) : Bk (w.setCell ⟨b, i, none⟩ v) w0 (⟨b, t, cs.setIfInBounds i v⟩ :: C) K p M := by
  obtain ⟨m, es, ck, O, D⟩ := h
  have O1 : Omw w w0 (⟨b, t, cs⟩ :: (⟨p, 60, #[.map (some m)]⟩ :: C)) ((m, .map es ck) :: K) := O.perm (perm_cnt fun x => by simp only [cnt_append, cnt_cons, cnt_nil] <;> omega)
  exact ⟨m, es, ck, (O1.set i v).perm (perm_cnt fun x => by simp only [cnt_append, cnt_cons, cnt_nil] <;> omega), D⟩
end


abbrev ptr (p : Nat) : Value := .pointer (some ⟨p, 0, none⟩)
set_option maxRecDepth 100000 in
set_option maxHeartbeats 2000000 in
theorem put_to (p : Nat) (dx : BitVec 64) (z : Int) (w w0 : World) (C : List Blk) (KK : List (Nat × Obj)) (M : BitVec 64 → Int) (h : Bk w w0 C KK p M) :
    Calls Try.prog 20 #[ptr p, .agg #[.int .u8 (by8 dx 0), .int .u8 (by8 dx 1), .int .u8 (by8 dx 2), .int .u8 (by8 dx 3), .int .u8 (by8 dx 4), .int .u8 (by8 dx 5), .int .u8 (by8 dx 6), .int .u8 (by8 dx 7)], .agg #[.int .i64 z, .int .i64 0]] w fun e w' => e = .returned (.tuple #[]) ∧ Bk w' w0 C KK p (updM M dx z) := by
  obtain ⟨m, es, ck, O, D⟩ := h
  have hD := Lib.hid D
  have HO := Lib.hid ((O.key #[.int .u8 (by8 dx 0), .int .u8 (by8 dx 1), .int .u8 (by8 dx 2), .int .u8 (by8 dx 3), .int .u8 (by8 dx 4), .int .u8 (by8 dx 5), .int .u8 (by8 dx 6), .int .u8 (by8 dx 7)] 27 w.heap.size rfl).key #[.int .i64 z, .int .i64 0] 64 (w.heap.size + 1) (by simp))
  clear O D
  go_enter Try.func20, Try.ntmps20
  by_cases hz : z = 0
  · subst hz
    go_wp2_with fail
    refine wp_opq (fun W => Omw W w0 (⟨w.heap.size + 1, 64, #[.int .i64 0, .int .i64 0]⟩ :: (⟨w.heap.size, 27, #[.int .u8 (by8 dx 0), .int .u8 (by8 dx 1), .int .u8 (by8 dx 2), .int .u8 (by8 dx 3), .int .u8 (by8 dx 4), .int .u8 (by8 dx 5), .int .u8 (by8 dx 6), .int .u8 (by8 dx 7)]⟩ :: (⟨p, 60, #[.map (some m)]⟩ :: C))) ((m, .map es ck) :: KK)) HO.out ?_
    intro W1 h1
    have H1 := Lib.hid h1
    clear h1 HO
    refine wp_region_ov (fun L (_ : Unit) => [(L 0, 9, ptr p), (L 1, 10, ptr p), (L 2, 11, ptr p), (L 3, 12, .map (some m)), (L 4, 13, .agg #[.int .u8 (by8 dx 0), .int .u8 (by8 dx 1), .int .u8 (by8 dx 2), .int .u8 (by8 dx 3), .int .u8 (by8 dx 4), .int .u8 (by8 dx 5), .int .u8 (by8 dx 6), .int .u8 (by8 dx 7)])])
      (fun L _ W => ∃ es' ck', Omw W w0 (⟨w.heap.size + 1, 64, #[.int .i64 0, .int .i64 0]⟩ :: (⟨w.heap.size, 27, #[.int .u8 (by8 dx 0), .int .u8 (by8 dx 1), .int .u8 (by8 dx 2), .int .u8 (by8 dx 3), .int .u8 (by8 dx 4), .int .u8 (by8 dx 5), .int .u8 (by8 dx 6), .int .u8 (by8 dx 7)]⟩ :: (⟨p, 60, #[.map (some m)]⟩ :: C))) ((m, .map es' ck') :: KK) ∧ MapD es' ck' (bkV (bif L 5 then updM M dx 0 else M))) () (by kernel_rfl) (by kernel_rfl) (by rfl) ⟨es, ck, H1.out.drew, hD.out⟩ ?_ ⟨?_, ?_, ?_, ?_, ?_, ?_, trivial⟩
    rotate_left
    iterate 5 (· (intro L x W hW hC hL hd K hK; (try simp [depsB, Region.binds] at hd); (try simp only [Nat.reduceAdd] at hK hL); simp only [ovl, Array.getD_eq_getD_getElem?, List.getElem?_toArray, List.getElem?_cons_succ, List.getElem?_cons_zero, Option.getD_some, List.setIfInBounds_toArray, List.set_cons_zero, List.set_cons_succ]; (try simp only [hd, cond_true, cond_false]); (have hW0 := hW); (obtain ⟨es', ck', O', -⟩ := hW); (have hx := O'.blk (b := w.heap.size) (t := 27) (cs := #[.int .u8 (by8 dx 0), .int .u8 (by8 dx 1), .int .u8 (by8 dx 2), .int .u8 (by8 dx 3), .int .u8 (by8 dx 4), .int .u8 (by8 dx 5), .int .u8 (by8 dx 6), .int .u8 (by8 dx 7)]) (by simp)); (have x0 := hx.cell 0); (have x1 := hx.cell 1); (have x2 := hx.cell 2); (have x3 := hx.cell 3); (have x4 := hx.cell 4); (have x5 := hx.cell 5); (have x6 := hx.cell 6); (have x7 := hx.cell 7); (have lx := hx.lt); clear hx; (have hy := O'.blk (b := w.heap.size + 1) (t := 64) (cs := #[.int .i64 0, .int .i64 0]) (by simp)); (have y0 := hy.cell 0); (have y1 := hy.cell 1); (have ly := hy.lt); clear hy; (have hq := O'.blk (b := p) (t := 60) (cs := #[.map (some m)]) (by simp)); (have q0 := hq.cell 0); (have lq := hq.lt); clear hq; clear O'; go_simp; (have h := hK () W hW0); simp only [ovl, Array.getD_eq_getD_getElem?, List.getElem?_toArray, List.getElem?_cons_succ, List.getElem?_cons_zero, Option.getD_some, List.setIfInBounds_toArray, List.set_cons_zero, List.set_cons_succ] at h; (try simp (decide := true) only [upd, hd, cond_true, cond_false, Bool.true_or, Bool.false_or, decide_true, decide_false] at h); exact h))
    · intro L x W hW hC hL hd K hK; (try simp [depsB, Region.binds] at hd); (try simp only [Nat.reduceAdd] at hK hL)
      simp only [ovl, Array.getD_eq_getD_getElem?, List.getElem?_toArray, List.getElem?_cons_succ, List.getElem?_cons_zero, Option.getD_some, List.setIfInBounds_toArray, List.set_cons_zero, List.set_cons_succ]; (try simp only [hd, cond_true, cond_false])
      obtain ⟨es1, ck1, O1, D1⟩ := hW
      simp only [hL, cond_false] at D1
      refine O1.delK D1 mapP (.tmp 12) (.tmp 13) 27 (by rfl) (by rfl) dx (by rfl) (fun es3 w3 O3 D3 => ?_)
      rw [bkV_del] at D3
      (have h := hK () w3 ⟨es3, ck1, O3, by simpa [upd] using D3⟩); simp only [ovl, Array.getD_eq_getD_getElem?, List.getElem?_toArray, List.getElem?_cons_succ, List.getElem?_cons_zero, Option.getD_some, List.setIfInBounds_toArray, List.set_cons_zero, List.set_cons_succ] at h; (try simp (decide := true) only [upd, hd, cond_true, cond_false, Bool.true_or, Bool.false_or, decide_true, decide_false] at h); exact h
    intro _ W2 hW2
    simp only [ovl, cond_true, Array.getD_eq_getD_getElem?, List.getElem?_toArray, List.getElem?_cons_succ, List.getElem?_cons_zero, Option.getD_some, List.setIfInBounds_toArray, List.set_cons_zero, List.set_cons_succ]
    simp only [cond_true] at hW2
    obtain ⟨es2, ck2, O2, D2⟩ := hW2
    have HB := Lib.hid (show Bk W2 w0 C KK p (updM M dx 0) from ⟨m, es2, ck2, Omw.drop (B := [_, _]) O2, D2⟩)
    clear O2 D2 H1
    go_wp2
    first | refine bodyPost_end (results_none rfl _ _ _) rfl ?_ | refine bodyPost_ret (results_none rfl _ _ _) rfl ?_
    exact ⟨rfl, HB.out⟩
  · skip
    go_wp2_with fail
    refine wp_opq (fun W => Omw W w0 (⟨w.heap.size + 1, 64, #[.int .i64 z, .int .i64 0]⟩ :: (⟨w.heap.size, 27, #[.int .u8 (by8 dx 0), .int .u8 (by8 dx 1), .int .u8 (by8 dx 2), .int .u8 (by8 dx 3), .int .u8 (by8 dx 4), .int .u8 (by8 dx 5), .int .u8 (by8 dx 6), .int .u8 (by8 dx 7)]⟩ :: (⟨p, 60, #[.map (some m)]⟩ :: C))) ((m, .map es ck) :: KK)) HO.out ?_
    intro W1 h1
    have H1 := Lib.hid h1
    clear h1 HO
    refine wp_region_ov (fun L (_ : Unit) => [(L 0, 14, ptr p), (L 1, 15, ptr p), (L 2, 16, ptr p), (L 3, 17, .map (some m)), (L 4, 18, .agg #[.int .u8 (by8 dx 0), .int .u8 (by8 dx 1), .int .u8 (by8 dx 2), .int .u8 (by8 dx 3), .int .u8 (by8 dx 4), .int .u8 (by8 dx 5), .int .u8 (by8 dx 6), .int .u8 (by8 dx 7)]), (L 5, 19, .agg #[.int .i64 z, .int .i64 0])])
      (fun L _ W => ∃ es' ck', Omw W w0 (⟨w.heap.size + 1, 64, #[.int .i64 z, .int .i64 0]⟩ :: (⟨w.heap.size, 27, #[.int .u8 (by8 dx 0), .int .u8 (by8 dx 1), .int .u8 (by8 dx 2), .int .u8 (by8 dx 3), .int .u8 (by8 dx 4), .int .u8 (by8 dx 5), .int .u8 (by8 dx 6), .int .u8 (by8 dx 7)]⟩ :: (⟨p, 60, #[.map (some m)]⟩ :: C))) ((m, .map es' ck') :: KK) ∧ MapD es' ck' (bkV (bif L 6 then updM M dx z else M))) () (by kernel_rfl) (by kernel_rfl) (by rfl) ⟨es, ck, H1.out.drew, hD.out⟩ ?_ ⟨?_, ?_, ?_, ?_, ?_, ?_, ?_, trivial⟩
    rotate_left
    iterate 6 (· (intro L x W hW hC hL hd K hK; (try simp [depsB, Region.binds] at hd); (try simp only [Nat.reduceAdd] at hK hL); simp only [ovl, Array.getD_eq_getD_getElem?, List.getElem?_toArray, List.getElem?_cons_succ, List.getElem?_cons_zero, Option.getD_some, List.setIfInBounds_toArray, List.set_cons_zero, List.set_cons_succ]; (try simp only [hd, cond_true, cond_false]); (have hW0 := hW); (obtain ⟨es', ck', O', -⟩ := hW); (have hx := O'.blk (b := w.heap.size) (t := 27) (cs := #[.int .u8 (by8 dx 0), .int .u8 (by8 dx 1), .int .u8 (by8 dx 2), .int .u8 (by8 dx 3), .int .u8 (by8 dx 4), .int .u8 (by8 dx 5), .int .u8 (by8 dx 6), .int .u8 (by8 dx 7)]) (by simp)); (have x0 := hx.cell 0); (have x1 := hx.cell 1); (have x2 := hx.cell 2); (have x3 := hx.cell 3); (have x4 := hx.cell 4); (have x5 := hx.cell 5); (have x6 := hx.cell 6); (have x7 := hx.cell 7); (have lx := hx.lt); clear hx; (have hy := O'.blk (b := w.heap.size + 1) (t := 64) (cs := #[.int .i64 z, .int .i64 0]) (by simp)); (have y0 := hy.cell 0); (have y1 := hy.cell 1); (have ly := hy.lt); clear hy; (have hq := O'.blk (b := p) (t := 60) (cs := #[.map (some m)]) (by simp)); (have q0 := hq.cell 0); (have lq := hq.lt); clear hq; clear O'; go_simp; (have h := hK () W hW0); simp only [ovl, Array.getD_eq_getD_getElem?, List.getElem?_toArray, List.getElem?_cons_succ, List.getElem?_cons_zero, Option.getD_some, List.setIfInBounds_toArray, List.set_cons_zero, List.set_cons_succ] at h; (try simp (decide := true) only [upd, hd, cond_true, cond_false, Bool.true_or, Bool.false_or, decide_true, decide_false] at h); exact h))
    · intro L x W hW hC hL hd K hK; (try simp [depsB, Region.binds] at hd); (try simp only [Nat.reduceAdd] at hK hL)
      simp only [ovl, Array.getD_eq_getD_getElem?, List.getElem?_toArray, List.getElem?_cons_succ, List.getElem?_cons_zero, Option.getD_some, List.setIfInBounds_toArray, List.set_cons_zero, List.set_cons_succ]; (try simp only [hd, cond_true, cond_false])
      obtain ⟨es1, ck1, O1, D1⟩ := hW
      simp only [hL, cond_false] at D1
      refine O1.putK D1 mapP (.tmp 17) (.tmp 18) (.tmp 19) (by rfl) (by rfl) dx (by rfl) (.agg #[.int .i64 z, .int .i64 0]) (by rfl) (fun es3 ck3 w3 O3 D3 => ?_)
      rw [bkV_put _ _ _ hz] at D3
      (have h := hK () w3 ⟨es3, ck3, O3, by simpa [upd] using D3⟩); simp only [ovl, Array.getD_eq_getD_getElem?, List.getElem?_toArray, List.getElem?_cons_succ, List.getElem?_cons_zero, Option.getD_some, List.setIfInBounds_toArray, List.set_cons_zero, List.set_cons_succ] at h; (try simp (decide := true) only [upd, hd, cond_true, cond_false, Bool.true_or, Bool.false_or, decide_true, decide_false] at h); exact h
    intro _ W2 hW2
    simp only [ovl, cond_true, Array.getD_eq_getD_getElem?, List.getElem?_toArray, List.getElem?_cons_succ, List.getElem?_cons_zero, Option.getD_some, List.setIfInBounds_toArray, List.set_cons_zero, List.set_cons_succ]
    simp only [cond_true] at hW2
    obtain ⟨es2, ck2, O2, D2⟩ := hW2
    have HB := Lib.hid (show Bk W2 w0 C KK p (updM M dx z) from ⟨m, es2, ck2, Omw.drop (B := [_, _]) O2, D2⟩)
    clear O2 D2 H1
    go_wp2
    first | refine bodyPost_end (results_none rfl _ _ _) rfl ?_ | refine bodyPost_ret (results_none rfl _ _ _) rfl ?_
    exact ⟨rfl, HB.out⟩
theorem mem_bif {x y : Blk} {B : List Blk} {c : Bool} (h : x ∈ B) : x ∈ (bif c then (y :: B) else B) := by
  cases c
  · exact h
  · exact List.mem_cons_of_mem _ h
theorem wp_alloc_op {P : Program} {o : Oper} {a : Act} {w : World} {K : Act → World → Prop} {Q : Exit → Act → World → Prop} (t : TypeId) (z : Value) (ho : o.op = .alloc t) (hz : ((P.info? t).bind (·.zero)) = some z)
    (h : K (a.put o.dst (.pointer (some ⟨w.heap.size, 0, none⟩))) (w.alloc (.cells z.cells t))) : o.wp P a w K Q := by
  unfold Oper.wp
  rw [run_alloc_op ho hz]
  exact h
set_option maxRecDepth 100000 in
set_option maxHeartbeats 2000000 in
theorem of_to (p : Nat) (dx : BitVec 64) (w w0 : World) (C : List Blk) (KK : List (Nat × Obj)) (M : BitVec 64 → Int) (h : Bk w w0 C KK p M) (z : Int) (hz : M dx = z) :
    Calls Try.prog 13 #[ptr p, .agg #[.int .u8 (by8 dx 0), .int .u8 (by8 dx 1), .int .u8 (by8 dx 2), .int .u8 (by8 dx 3), .int .u8 (by8 dx 4), .int .u8 (by8 dx 5), .int .u8 (by8 dx 6), .int .u8 (by8 dx 7)]] w fun e w' => e = .returned (.agg #[.int .u8 (by8 dx 0), .int .u8 (by8 dx 1), .int .u8 (by8 dx 2), .int .u8 (by8 dx 3), .int .u8 (by8 dx 4), .int .u8 (by8 dx 5), .int .u8 (by8 dx 6), .int .u8 (by8 dx 7), .int .i64 z, .int .i64 0]) ∧ Bk w' w0 C KK p M := by
  subst hz
  obtain ⟨m, es, ck, O, D⟩ := h
  have hD := Lib.hid D
  have HO := Lib.hid ((O.key #[.int .u8 (by8 dx 0), .int .u8 (by8 dx 1), .int .u8 (by8 dx 2), .int .u8 (by8 dx 3), .int .u8 (by8 dx 4), .int .u8 (by8 dx 5), .int .u8 (by8 dx 6), .int .u8 (by8 dx 7)] 27 w.heap.size rfl).key #[.int .u8 0, .int .u8 0, .int .u8 0, .int .u8 0, .int .u8 0, .int .u8 0, .int .u8 0, .int .u8 0, .int .i64 0, .int .i64 0] 30 (w.heap.size + 1) (by simp))
  clear O D
  go_enter Try.func13, Try.ntmps13
  go_wp2_with fail
  refine wp_opq (fun W => Omw W w0 (⟨w.heap.size + 1, 30, #[.int .u8 0, .int .u8 0, .int .u8 0, .int .u8 0, .int .u8 0, .int .u8 0, .int .u8 0, .int .u8 0, .int .i64 0, .int .i64 0]⟩ :: (⟨w.heap.size, 27, #[.int .u8 (by8 dx 0), .int .u8 (by8 dx 1), .int .u8 (by8 dx 2), .int .u8 (by8 dx 3), .int .u8 (by8 dx 4), .int .u8 (by8 dx 5), .int .u8 (by8 dx 6), .int .u8 (by8 dx 7)]⟩ :: (⟨p, 60, #[.map (some m)]⟩ :: C))) ((m, .map es ck) :: KK)) HO.out ?_
  intro W1 h1
  have H1 := Lib.hid h1
  clear h1 HO
  refine wp_region_ov (fun L (x : Nat) => [(L 0, 10, ptr p), (L 1, 11, ptr p), (L 2, 12, ptr p), (L 3, 13, .map (some m)), (L 4, 14, .agg #[.int .u8 (by8 dx 0), .int .u8 (by8 dx 1), .int .u8 (by8 dx 2), .int .u8 (by8 dx 3), .int .u8 (by8 dx 4), .int .u8 (by8 dx 5), .int .u8 (by8 dx 6), .int .u8 (by8 dx 7)]), (L 5, 15, .agg #[.int .i64 (M dx), .int .i64 0]), (L 6, 5, ptr x)])
    (fun L x W => Omw W w0 (bif L 6 then (⟨x, 64, bif L 7 then #[.int .i64 (M dx), .int .i64 0] else #[.int .i64 0, .int .i64 0]⟩ :: (⟨w.heap.size + 1, 30, #[.int .u8 0, .int .u8 0, .int .u8 0, .int .u8 0, .int .u8 0, .int .u8 0, .int .u8 0, .int .u8 0, .int .i64 0, .int .i64 0]⟩ :: (⟨w.heap.size, 27, #[.int .u8 (by8 dx 0), .int .u8 (by8 dx 1), .int .u8 (by8 dx 2), .int .u8 (by8 dx 3), .int .u8 (by8 dx 4), .int .u8 (by8 dx 5), .int .u8 (by8 dx 6), .int .u8 (by8 dx 7)]⟩ :: (⟨p, 60, #[.map (some m)]⟩ :: C)))) else (⟨w.heap.size + 1, 30, #[.int .u8 0, .int .u8 0, .int .u8 0, .int .u8 0, .int .u8 0, .int .u8 0, .int .u8 0, .int .u8 0, .int .i64 0, .int .i64 0]⟩ :: (⟨w.heap.size, 27, #[.int .u8 (by8 dx 0), .int .u8 (by8 dx 1), .int .u8 (by8 dx 2), .int .u8 (by8 dx 3), .int .u8 (by8 dx 4), .int .u8 (by8 dx 5), .int .u8 (by8 dx 6), .int .u8 (by8 dx 7)]⟩ :: (⟨p, 60, #[.map (some m)]⟩ :: C)))) ((m, .map es ck) :: KK)) 0 (by kernel_rfl) (by kernel_rfl) (by rfl) H1.out.drew ?_ ⟨?_, ?_, ?_, ?_, ?_, ?_, ?_, ?_, trivial⟩
  rotate_left
  iterate 5 (· (intro L x W hW hC hL hd K hK; (try simp [depsB, Region.binds] at hd); (try simp only [Nat.reduceAdd] at hK hL); simp only [ovl, Array.getD_eq_getD_getElem?, List.getElem?_toArray, List.getElem?_cons_succ, List.getElem?_cons_zero, Option.getD_some, List.setIfInBounds_toArray, List.set_cons_zero, List.set_cons_succ]; (try simp only [hd, cond_true, cond_false]); (have hW0 := hW); (have hx := hW.blk (b := w.heap.size) (t := 27) (cs := #[.int .u8 (by8 dx 0), .int .u8 (by8 dx 1), .int .u8 (by8 dx 2), .int .u8 (by8 dx 3), .int .u8 (by8 dx 4), .int .u8 (by8 dx 5), .int .u8 (by8 dx 6), .int .u8 (by8 dx 7)]) (mem_bif (by simp))); (have x0 := hx.cell 0); (have x1 := hx.cell 1); (have x2 := hx.cell 2); (have x3 := hx.cell 3); (have x4 := hx.cell 4); (have x5 := hx.cell 5); (have x6 := hx.cell 6); (have x7 := hx.cell 7); (have lx := hx.lt); (have hq := hW.blk (b := p) (t := 60) (cs := #[.map (some m)]) (mem_bif (by simp))); (have q0 := hq.cell 0); (have lq := hq.lt); clear hx hq hW; go_simp; (have h := hK x W hW0); simp only [ovl, Array.getD_eq_getD_getElem?, List.getElem?_toArray, List.getElem?_cons_succ, List.getElem?_cons_zero, Option.getD_some, List.setIfInBounds_toArray, List.set_cons_zero, List.set_cons_succ] at h; (try simp (decide := true) only [upd, hd, cond_true, cond_false, Bool.true_or, Bool.false_or, decide_true, decide_false] at h); exact h))
  · intro L x W hW hC hL hd K hK; (try simp [depsB, Region.binds] at hd); (try simp only [Nat.reduceAdd] at hK hL)
    simp only [ovl, Array.getD_eq_getD_getElem?, List.getElem?_toArray, List.getElem?_cons_succ, List.getElem?_cons_zero, Option.getD_some, List.setIfInBounds_toArray, List.set_cons_zero, List.set_cons_succ]; (try simp only [hd, cond_true, cond_false])
    refine hW.lookK hD.out mapP (.tmp 13) (.tmp 14) (by rfl) (by rfl) dx (by rfl) (vz_purse _) ?_
    rw [bkV_get]
    (have h := hK x W hW); simp only [ovl, Array.getD_eq_getD_getElem?, List.getElem?_toArray, List.getElem?_cons_succ, List.getElem?_cons_zero, Option.getD_some, List.setIfInBounds_toArray, List.set_cons_zero, List.set_cons_succ] at h; (try simp (decide := true) only [upd, hd, cond_true, cond_false, Bool.true_or, Bool.false_or, decide_true, decide_false] at h); exact h
  · intro L x W hW hC hL hd K hK; (try simp [depsB, Region.binds] at hd); (try simp only [Nat.reduceAdd] at hK hL)
    (have h7 : L 7 = false := by cases hl : L 7 with | false => rfl | true => have hx := hC 7 _ rfl hl; simp [depsB, Region.binds, hL, hd] at hx); (replace hd := And.intro hd h7)
    simp only [ovl, Array.getD_eq_getD_getElem?, List.getElem?_toArray, List.getElem?_cons_succ, List.getElem?_cons_zero, Option.getD_some, List.setIfInBounds_toArray, List.set_cons_zero, List.set_cons_succ]; (try simp only [hd, cond_true, cond_false])
    simp only [hL, hd, cond_false] at hW
    refine wp_alloc_op 64 (.agg #[.int .i64 0, .int .i64 0]) (by rfl) (by kernel_rfl) ?_
    (have h := hK W.heap.size _ (by simpa [upd, hd, Value.cells] using hW.key #[.int .i64 0, .int .i64 0] 64 W.heap.size rfl)); simp only [ovl, Array.getD_eq_getD_getElem?, List.getElem?_toArray, List.getElem?_cons_succ, List.getElem?_cons_zero, Option.getD_some, List.setIfInBounds_toArray, List.set_cons_zero, List.set_cons_succ] at h; (try simp (decide := true) only [upd, hd, cond_true, cond_false, Bool.true_or, Bool.false_or, decide_true, decide_false] at h); exact h
  · intro L x W hW hC hL hd K hK; (try simp [depsB, Region.binds] at hd); (try simp only [Nat.reduceAdd] at hK hL)
    simp only [ovl, Array.getD_eq_getD_getElem?, List.getElem?_toArray, List.getElem?_cons_succ, List.getElem?_cons_zero, Option.getD_some, List.setIfInBounds_toArray, List.set_cons_zero, List.set_cons_succ]; (try simp only [hd, cond_true, cond_false])
    simp only [hL, hd, cond_false, cond_true] at hW
    refine hW.storeAt 64 (.tmp 5) (.tmp 15) (by rfl) 0 (by rfl) #[.int .i64 (M dx), .int .i64 0] (by rfl) (by kernel_rfl) (by simp) (by simp [Value.oneCell']) (fun w3 O3 => ?_)
    rw [writeAt_all _ _ (by simp)] at O3
    (have h := hK x w3 (by simpa [upd, hd] using O3)); simp only [ovl, Array.getD_eq_getD_getElem?, List.getElem?_toArray, List.getElem?_cons_succ, List.getElem?_cons_zero, Option.getD_some, List.setIfInBounds_toArray, List.set_cons_zero, List.set_cons_succ] at h; (try simp (decide := true) only [upd, hd, cond_true, cond_false, Bool.true_or, Bool.false_or, decide_true, decide_false] at h); exact h
  intro b5 W5 hW5
  simp only [ovl, cond_true, Array.getD_eq_getD_getElem?, List.getElem?_toArray, List.getElem?_cons_succ, List.getElem?_cons_zero, Option.getD_some, List.setIfInBounds_toArray, List.set_cons_zero, List.set_cons_succ]
  simp only [cond_true] at hW5
  have H5 := Lib.hid hW5
  clear hW5 H1
  have hb := H5.out.blk (b := b5) (t := 64) (cs := #[.int .i64 (M dx), .int .i64 0]) (by simp)
  have y0 := hb.cell 0
  have y1 := hb.cell 1
  have ly := hb.lt
  have hk := H5.out.blk (b := w.heap.size) (t := 27) (cs := #[.int .u8 (by8 dx 0), .int .u8 (by8 dx 1), .int .u8 (by8 dx 2), .int .u8 (by8 dx 3), .int .u8 (by8 dx 4), .int .u8 (by8 dx 5), .int .u8 (by8 dx 6), .int .u8 (by8 dx 7)]) (by simp)
  (have k0 := hk.cell 0); (have k1 := hk.cell 1); (have k2 := hk.cell 2); (have k3 := hk.cell 3); (have k4 := hk.cell 4); (have k5 := hk.cell 5); (have k6 := hk.cell 6); (have k7 := hk.cell 7)
  have lk := hk.lt
  simp only [List.getElem?_toArray, List.getElem?_cons_succ, List.getElem?_cons_zero] at y0 y1 k0 k1 k2 k3 k4 k5 k6 k7
  clear hb hk
  go_wp2_with (refine (H5.out.perm (X' := ⟨w.heap.size + 1, 30, #[.int .u8 0, .int .u8 0, .int .u8 0, .int .u8 0, .int .u8 0, .int .u8 0, .int .u8 0, .int .u8 0, .int .i64 0, .int .i64 0]⟩ :: (⟨b5, 64, #[.int .i64 (M dx), .int .i64 0]⟩ :: (⟨w.heap.size, 27, #[.int .u8 (by8 dx 0), .int .u8 (by8 dx 1), .int .u8 (by8 dx 2), .int .u8 (by8 dx 3), .int .u8 (by8 dx 4), .int .u8 (by8 dx 5), .int .u8 (by8 dx 6), .int .u8 (by8 dx 7)]⟩ :: (⟨p, 60, #[.map (some m)]⟩ :: C)))) (perm_cnt fun x => by simp only [cnt_append, cnt_cons, cnt_nil] <;> omega)).storeL rfl 30 (.tmp 4) (.tmp 21) rfl (by rfl) #[.int .u8 (by8 dx 0), .int .u8 (by8 dx 1), .int .u8 (by8 dx 2), .int .u8 (by8 dx 3), .int .u8 (by8 dx 4), .int .u8 (by8 dx 5), .int .u8 (by8 dx 6), .int .u8 (by8 dx 7), .int .i64 (M dx), .int .i64 0] (by rfl) (by kernel_rfl) (by simp) (by simp [Value.oneCell']) ?_; intro w6 O6)
  have hr := O6.blk (b := w.heap.size + 1) (t := 30) (cs := #[.int .u8 (by8 dx 0), .int .u8 (by8 dx 1), .int .u8 (by8 dx 2), .int .u8 (by8 dx 3), .int .u8 (by8 dx 4), .int .u8 (by8 dx 5), .int .u8 (by8 dx 6), .int .u8 (by8 dx 7), .int .i64 (M dx), .int .i64 0]) (by simp)
  have hc := hr.cell
  refine bodyPost_ret (v := .agg #[.int .u8 (by8 dx 0), .int .u8 (by8 dx 1), .int .u8 (by8 dx 2), .int .u8 (by8 dx 3), .int .u8 (by8 dx 4), .int .u8 (by8 dx 5), .int .u8 (by8 dx 6), .int .u8 (by8 dx 7), .int .i64 (M dx), .int .i64 0]) (by simp [results, Try.results13, go_sem, hc]) rfl ?_
  exact ⟨rfl, m, es, ck, Omw.drop (B := [_, _, _]) O6, hD.out⟩
set_option maxRecDepth 100000 in
set_option maxHeartbeats 4000000 in
theorem move_ok (p : Nat) (df dt : BitVec 64) (n : Nat) (hne : df ≠ dt) (w w0 : World) (C : List Blk) (KK : List (Nat × Obj)) (M : BitVec 64 → Int) (h : Bk w w0 C KK p M) (hn : n ≤ 1000000) (h1 : (n : Int) ≤ M df) (h2 : M df ≤ 1000000) (h3 : 0 ≤ M dt) (h4 : M dt ≤ 1000000) (M' : BitVec 64 → Int) (hM' : updM (updM M df (M df - n)) dt (M dt + n) = M') :
    Calls Try.prog 10 #[ptr p, .agg #[.int .u8 (by8 df 0), .int .u8 (by8 df 1), .int .u8 (by8 df 2), .int .u8 (by8 df 3), .int .u8 (by8 df 4), .int .u8 (by8 df 5), .int .u8 (by8 df 6), .int .u8 (by8 df 7)], .agg #[.int .u8 (by8 dt 0), .int .u8 (by8 dt 1), .int .u8 (by8 dt 2), .int .u8 (by8 dt 3), .int .u8 (by8 dt 4), .int .u8 (by8 dt 5), .int .u8 (by8 dt 6), .int .u8 (by8 dt 7)], .int .i64 n] w fun e w' => e = .returned (.int .i64 0) ∧ Bk w' w0 C KK p M' := by
  obtain ⟨m, es, ck, O, D⟩ := h
  have hD := Lib.hid D
  have HO := Lib.hid ((O.key #[.int .u8 (by8 df 0), .int .u8 (by8 df 1), .int .u8 (by8 df 2), .int .u8 (by8 df 3), .int .u8 (by8 df 4), .int .u8 (by8 df 5), .int .u8 (by8 df 6), .int .u8 (by8 df 7)] 27 w.heap.size rfl).key #[.int .u8 (by8 dt 0), .int .u8 (by8 dt 1), .int .u8 (by8 dt 2), .int .u8 (by8 dt 3), .int .u8 (by8 dt 4), .int .u8 (by8 dt 5), .int .u8 (by8 dt 6), .int .u8 (by8 dt 7)] 27 (w.heap.size + 1) (by simp))
  have hneb : (df == dt) = false := by simpa using hne
  obtain ⟨zf, hzf⟩ : ∃ z, M df = z := ⟨_, rfl⟩
  have HZF := Lib.hid hzf
  obtain ⟨zt, hzt⟩ : ∃ z, M dt = z := ⟨_, rfl⟩
  have HZT := Lib.hid hzt
  have hd1 : decide (zf < (n : Int)) = false := decide_eq_false (by omega)
  have hd0 : decide ((n : Int) < 0) = false := decide_eq_false (by omega)
  rw [hzf] at h1 h2 hM'
  rw [hzt] at h3 h4 hM'
  have HM := Lib.hid hM'
  clear O D hM' hzf hzt
  go_enter Try.func10, Try.ntmps10
  go_wp2_with fail
  refine wp_opq (fun W => Omw W w0 (⟨w.heap.size + 1, 27, #[.int .u8 (by8 dt 0), .int .u8 (by8 dt 1), .int .u8 (by8 dt 2), .int .u8 (by8 dt 3), .int .u8 (by8 dt 4), .int .u8 (by8 dt 5), .int .u8 (by8 dt 6), .int .u8 (by8 dt 7)]⟩ :: (⟨w.heap.size, 27, #[.int .u8 (by8 df 0), .int .u8 (by8 df 1), .int .u8 (by8 df 2), .int .u8 (by8 df 3), .int .u8 (by8 df 4), .int .u8 (by8 df 5), .int .u8 (by8 df 6), .int .u8 (by8 df 7)]⟩ :: (⟨p, 60, #[.map (some m)]⟩ :: C))) ((m, .map es ck) :: KK)) HO.out ?_
  intro W1 h1'
  have H1 := Lib.hid h1'
  clear h1' HO
  refine wp_region_ov (fun L (x : Nat) => [(L 0, 19, ptr p), (L 1, 20, ptr p), (L 2, 21, ptr p), (L 3, 22, .map (some m)), (L 4, 23, .agg #[.int .u8 (by8 df 0), .int .u8 (by8 df 1), .int .u8 (by8 df 2), .int .u8 (by8 df 3), .int .u8 (by8 df 4), .int .u8 (by8 df 5), .int .u8 (by8 df 6), .int .u8 (by8 df 7)]), (L 5, 24, .agg #[.int .i64 zf, .int .i64 0]), (L 6, 9, ptr x)])
    (fun L x W => Omw W w0 (bif L 6 then (⟨x, 64, bif L 7 then #[.int .i64 zf, .int .i64 0] else #[.int .i64 0, .int .i64 0]⟩ :: (⟨w.heap.size + 1, 27, #[.int .u8 (by8 dt 0), .int .u8 (by8 dt 1), .int .u8 (by8 dt 2), .int .u8 (by8 dt 3), .int .u8 (by8 dt 4), .int .u8 (by8 dt 5), .int .u8 (by8 dt 6), .int .u8 (by8 dt 7)]⟩ :: (⟨w.heap.size, 27, #[.int .u8 (by8 df 0), .int .u8 (by8 df 1), .int .u8 (by8 df 2), .int .u8 (by8 df 3), .int .u8 (by8 df 4), .int .u8 (by8 df 5), .int .u8 (by8 df 6), .int .u8 (by8 df 7)]⟩ :: (⟨p, 60, #[.map (some m)]⟩ :: C)))) else (⟨w.heap.size + 1, 27, #[.int .u8 (by8 dt 0), .int .u8 (by8 dt 1), .int .u8 (by8 dt 2), .int .u8 (by8 dt 3), .int .u8 (by8 dt 4), .int .u8 (by8 dt 5), .int .u8 (by8 dt 6), .int .u8 (by8 dt 7)]⟩ :: (⟨w.heap.size, 27, #[.int .u8 (by8 df 0), .int .u8 (by8 df 1), .int .u8 (by8 df 2), .int .u8 (by8 df 3), .int .u8 (by8 df 4), .int .u8 (by8 df 5), .int .u8 (by8 df 6), .int .u8 (by8 df 7)]⟩ :: (⟨p, 60, #[.map (some m)]⟩ :: C)))) ((m, .map es ck) :: KK)) 0 (by kernel_rfl) (by kernel_rfl) (by rfl) H1.out.drew ?_ ⟨?_, ?_, ?_, ?_, ?_, ?_, ?_, ?_, trivial⟩
  rotate_left
  iterate 5 (· (intro L x W hW hC hL hd K hK; (try simp [depsB, Region.binds] at hd); (try simp only [Nat.reduceAdd] at hK hL); simp only [ovl, Array.getD_eq_getD_getElem?, List.getElem?_toArray, List.getElem?_cons_succ, List.getElem?_cons_zero, Option.getD_some, List.setIfInBounds_toArray, List.set_cons_zero, List.set_cons_succ]; (try simp only [hd, cond_true, cond_false]); (have hW0 := hW); (have hx := hW.blk (b := w.heap.size) (t := 27) (cs := #[.int .u8 (by8 df 0), .int .u8 (by8 df 1), .int .u8 (by8 df 2), .int .u8 (by8 df 3), .int .u8 (by8 df 4), .int .u8 (by8 df 5), .int .u8 (by8 df 6), .int .u8 (by8 df 7)]) (mem_bif (by simp))); (have x0 := hx.cell 0); (have x1 := hx.cell 1); (have x2 := hx.cell 2); (have x3 := hx.cell 3); (have x4 := hx.cell 4); (have x5 := hx.cell 5); (have x6 := hx.cell 6); (have x7 := hx.cell 7); (have lx := hx.lt); (have hq := hW.blk (b := p) (t := 60) (cs := #[.map (some m)]) (mem_bif (by simp))); (have q0 := hq.cell 0); (have lq := hq.lt); clear hx hq hW; go_simp; (have h := hK x W hW0); simp only [ovl, Array.getD_eq_getD_getElem?, List.getElem?_toArray, List.getElem?_cons_succ, List.getElem?_cons_zero, Option.getD_some, List.setIfInBounds_toArray, List.set_cons_zero, List.set_cons_succ] at h; (try simp (decide := true) only [upd, hd, cond_true, cond_false, Bool.true_or, Bool.false_or, decide_true, decide_false] at h); exact h))
  · intro L x W hW hC hL hd K hK; (try simp [depsB, Region.binds] at hd); (try simp only [Nat.reduceAdd] at hK hL)
    simp only [ovl, Array.getD_eq_getD_getElem?, List.getElem?_toArray, List.getElem?_cons_succ, List.getElem?_cons_zero, Option.getD_some, List.setIfInBounds_toArray, List.set_cons_zero, List.set_cons_succ]; (try simp only [hd, cond_true, cond_false])
    refine hW.lookK hD.out mapP (.tmp 22) (.tmp 23) (by rfl) (by rfl) df (by rfl) (vz_purse _) ?_
    rw [bkV_get, HZF.out]
    (have h := hK x W hW); simp only [ovl, Array.getD_eq_getD_getElem?, List.getElem?_toArray, List.getElem?_cons_succ, List.getElem?_cons_zero, Option.getD_some, List.setIfInBounds_toArray, List.set_cons_zero, List.set_cons_succ] at h; (try simp (decide := true) only [upd, hd, cond_true, cond_false, Bool.true_or, Bool.false_or, decide_true, decide_false] at h); exact h
  · intro L x W hW hC hL hd K hK; (try simp [depsB, Region.binds] at hd); (try simp only [Nat.reduceAdd] at hK hL)
    (have h7 : L 7 = false := by cases hl : L 7 with | false => rfl | true => have hx := hC 7 _ rfl hl; simp [depsB, Region.binds, hL, hd] at hx); (replace hd := And.intro hd h7)
    simp only [ovl, Array.getD_eq_getD_getElem?, List.getElem?_toArray, List.getElem?_cons_succ, List.getElem?_cons_zero, Option.getD_some, List.setIfInBounds_toArray, List.set_cons_zero, List.set_cons_succ]; (try simp only [hd, cond_true, cond_false])
    simp only [hL, hd, cond_false] at hW
    refine wp_alloc_op 64 (.agg #[.int .i64 0, .int .i64 0]) (by rfl) (by kernel_rfl) ?_
    (have h := hK W.heap.size _ (by simpa [upd, hd, Value.cells] using hW.key #[.int .i64 0, .int .i64 0] 64 W.heap.size rfl)); simp only [ovl, Array.getD_eq_getD_getElem?, List.getElem?_toArray, List.getElem?_cons_succ, List.getElem?_cons_zero, Option.getD_some, List.setIfInBounds_toArray, List.set_cons_zero, List.set_cons_succ] at h; (try simp (decide := true) only [upd, hd, cond_true, cond_false, Bool.true_or, Bool.false_or, decide_true, decide_false] at h); exact h
  · intro L x W hW hC hL hd K hK; (try simp [depsB, Region.binds] at hd); (try simp only [Nat.reduceAdd] at hK hL)
    simp only [ovl, Array.getD_eq_getD_getElem?, List.getElem?_toArray, List.getElem?_cons_succ, List.getElem?_cons_zero, Option.getD_some, List.setIfInBounds_toArray, List.set_cons_zero, List.set_cons_succ]; (try simp only [hd, cond_true, cond_false])
    simp only [hL, hd, cond_false, cond_true] at hW
    refine hW.storeAt 64 (.tmp 9) (.tmp 24) (by rfl) 0 (by rfl) #[.int .i64 zf, .int .i64 0] (by rfl) (by kernel_rfl) (by simp) (by simp [Value.oneCell']) (fun w3 O3 => ?_)
    rw [writeAt_all _ _ (by simp)] at O3
    (have h := hK x w3 (by simpa [upd, hd] using O3)); simp only [ovl, Array.getD_eq_getD_getElem?, List.getElem?_toArray, List.getElem?_cons_succ, List.getElem?_cons_zero, Option.getD_some, List.setIfInBounds_toArray, List.set_cons_zero, List.set_cons_succ] at h; (try simp (decide := true) only [upd, hd, cond_true, cond_false, Bool.true_or, Bool.false_or, decide_true, decide_false] at h); exact h
  intro b5 W5 hW5
  simp only [ovl, cond_true, Array.getD_eq_getD_getElem?, List.getElem?_toArray, List.getElem?_cons_succ, List.getElem?_cons_zero, Option.getD_some, List.setIfInBounds_toArray, List.set_cons_zero, List.set_cons_succ]
  simp only [cond_true] at hW5
  have H5 := Lib.hid hW5
  clear hW5 H1
  have hb := H5.out.blk (b := b5) (t := 64) (cs := #[.int .i64 zf, .int .i64 0]) (by simp)
  have y0 := hb.cell 0
  have ly := hb.lt
  have hk := H5.out.blk (b := w.heap.size) (t := 27) (cs := #[.int .u8 (by8 df 0), .int .u8 (by8 df 1), .int .u8 (by8 df 2), .int .u8 (by8 df 3), .int .u8 (by8 df 4), .int .u8 (by8 df 5), .int .u8 (by8 df 6), .int .u8 (by8 df 7)]) (by simp)
  (have k0 := hk.cell 0); (have k1 := hk.cell 1); (have k2 := hk.cell 2); (have k3 := hk.cell 3); (have k4 := hk.cell 4); (have k5 := hk.cell 5); (have k6 := hk.cell 6); (have k7 := hk.cell 7)
  have lk := hk.lt
  have hj := H5.out.blk (b := w.heap.size + 1) (t := 27) (cs := #[.int .u8 (by8 dt 0), .int .u8 (by8 dt 1), .int .u8 (by8 dt 2), .int .u8 (by8 dt 3), .int .u8 (by8 dt 4), .int .u8 (by8 dt 5), .int .u8 (by8 dt 6), .int .u8 (by8 dt 7)]) (by simp)
  (have j0 := hj.cell 0); (have j1 := hj.cell 1); (have j2 := hj.cell 2); (have j3 := hj.cell 3); (have j4 := hj.cell 4); (have j5 := hj.cell 5); (have j6 := hj.cell 6); (have j7 := hj.cell 7)
  have lj := hj.lt
  simp only [List.getElem?_toArray, List.getElem?_cons_succ, List.getElem?_cons_zero] at y0 k0 k1 k2 k3 k4 k5 k6 k7 j0 j1 j2 j3 j4 j5 j6 j7
  clear hb hk hj
  go_wp2_with fail
  refine wp_opq (fun W => Omw W w0 (⟨b5, 64, #[.int .i64 zf, .int .i64 0]⟩ :: (⟨w.heap.size + 1, 27, #[.int .u8 (by8 dt 0), .int .u8 (by8 dt 1), .int .u8 (by8 dt 2), .int .u8 (by8 dt 3), .int .u8 (by8 dt 4), .int .u8 (by8 dt 5), .int .u8 (by8 dt 6), .int .u8 (by8 dt 7)]⟩ :: (⟨w.heap.size, 27, #[.int .u8 (by8 df 0), .int .u8 (by8 df 1), .int .u8 (by8 df 2), .int .u8 (by8 df 3), .int .u8 (by8 df 4), .int .u8 (by8 df 5), .int .u8 (by8 df 6), .int .u8 (by8 df 7)]⟩ :: (⟨p, 60, #[.map (some m)]⟩ :: C)))) ((m, .map es ck) :: KK)) H5.out ?_
  intro W6 h6
  have H6 := Lib.hid h6
  clear h6 H5 y0 ly k0 k1 k2 k3 k4 k5 k6 k7 lk j0 j1 j2 j3 j4 j5 j6 j7 lj
  refine wp_region_ov (fun L (x : Nat) => [(L 0, 32, ptr p), (L 1, 33, ptr p), (L 2, 34, ptr p), (L 3, 35, .map (some m)), (L 4, 36, .agg #[.int .u8 (by8 dt 0), .int .u8 (by8 dt 1), .int .u8 (by8 dt 2), .int .u8 (by8 dt 3), .int .u8 (by8 dt 4), .int .u8 (by8 dt 5), .int .u8 (by8 dt 6), .int .u8 (by8 dt 7)]), (L 5, 37, .agg #[.int .i64 zt, .int .i64 0]), (L 6, 10, ptr x)])
    (fun L x W => Omw W w0 (bif L 6 then (⟨x, 64, bif L 7 then #[.int .i64 zt, .int .i64 0] else #[.int .i64 0, .int .i64 0]⟩ :: (⟨b5, 64, #[.int .i64 zf, .int .i64 0]⟩ :: (⟨w.heap.size + 1, 27, #[.int .u8 (by8 dt 0), .int .u8 (by8 dt 1), .int .u8 (by8 dt 2), .int .u8 (by8 dt 3), .int .u8 (by8 dt 4), .int .u8 (by8 dt 5), .int .u8 (by8 dt 6), .int .u8 (by8 dt 7)]⟩ :: (⟨w.heap.size, 27, #[.int .u8 (by8 df 0), .int .u8 (by8 df 1), .int .u8 (by8 df 2), .int .u8 (by8 df 3), .int .u8 (by8 df 4), .int .u8 (by8 df 5), .int .u8 (by8 df 6), .int .u8 (by8 df 7)]⟩ :: (⟨p, 60, #[.map (some m)]⟩ :: C))))) else (⟨b5, 64, #[.int .i64 zf, .int .i64 0]⟩ :: (⟨w.heap.size + 1, 27, #[.int .u8 (by8 dt 0), .int .u8 (by8 dt 1), .int .u8 (by8 dt 2), .int .u8 (by8 dt 3), .int .u8 (by8 dt 4), .int .u8 (by8 dt 5), .int .u8 (by8 dt 6), .int .u8 (by8 dt 7)]⟩ :: (⟨w.heap.size, 27, #[.int .u8 (by8 df 0), .int .u8 (by8 df 1), .int .u8 (by8 df 2), .int .u8 (by8 df 3), .int .u8 (by8 df 4), .int .u8 (by8 df 5), .int .u8 (by8 df 6), .int .u8 (by8 df 7)]⟩ :: (⟨p, 60, #[.map (some m)]⟩ :: C))))) ((m, .map es ck) :: KK)) 0 (by kernel_rfl) (by kernel_rfl) (by rfl) H6.out.drew ?_ ⟨?_, ?_, ?_, ?_, ?_, ?_, ?_, ?_, trivial⟩
  rotate_left
  iterate 5 (· (intro L x W hW hC hL hd K hK; (try simp [depsB, Region.binds] at hd); (try simp only [Nat.reduceAdd] at hK hL); simp only [ovl, Array.getD_eq_getD_getElem?, List.getElem?_toArray, List.getElem?_cons_succ, List.getElem?_cons_zero, Option.getD_some, List.setIfInBounds_toArray, List.set_cons_zero, List.set_cons_succ]; (try simp only [hd, cond_true, cond_false]); (have hW0 := hW); (have hx := hW.blk (b := w.heap.size + 1) (t := 27) (cs := #[.int .u8 (by8 dt 0), .int .u8 (by8 dt 1), .int .u8 (by8 dt 2), .int .u8 (by8 dt 3), .int .u8 (by8 dt 4), .int .u8 (by8 dt 5), .int .u8 (by8 dt 6), .int .u8 (by8 dt 7)]) (mem_bif (by simp))); (have x0 := hx.cell 0); (have x1 := hx.cell 1); (have x2 := hx.cell 2); (have x3 := hx.cell 3); (have x4 := hx.cell 4); (have x5 := hx.cell 5); (have x6 := hx.cell 6); (have x7 := hx.cell 7); (have lx := hx.lt); (have hq := hW.blk (b := p) (t := 60) (cs := #[.map (some m)]) (mem_bif (by simp))); (have q0 := hq.cell 0); (have lq := hq.lt); clear hx hq hW; go_simp; (have h := hK x W hW0); simp only [ovl, Array.getD_eq_getD_getElem?, List.getElem?_toArray, List.getElem?_cons_succ, List.getElem?_cons_zero, Option.getD_some, List.setIfInBounds_toArray, List.set_cons_zero, List.set_cons_succ] at h; (try simp (decide := true) only [upd, hd, cond_true, cond_false, Bool.true_or, Bool.false_or, decide_true, decide_false] at h); exact h))
  · intro L x W hW hC hL hd K hK; (try simp [depsB, Region.binds] at hd); (try simp only [Nat.reduceAdd] at hK hL)
    simp only [ovl, Array.getD_eq_getD_getElem?, List.getElem?_toArray, List.getElem?_cons_succ, List.getElem?_cons_zero, Option.getD_some, List.setIfInBounds_toArray, List.set_cons_zero, List.set_cons_succ]; (try simp only [hd, cond_true, cond_false])
    refine hW.lookK hD.out mapP (.tmp 35) (.tmp 36) (by rfl) (by rfl) dt (by rfl) (vz_purse _) ?_
    rw [bkV_get, HZT.out]
    (have h := hK x W hW); simp only [ovl, Array.getD_eq_getD_getElem?, List.getElem?_toArray, List.getElem?_cons_succ, List.getElem?_cons_zero, Option.getD_some, List.setIfInBounds_toArray, List.set_cons_zero, List.set_cons_succ] at h; (try simp (decide := true) only [upd, hd, cond_true, cond_false, Bool.true_or, Bool.false_or, decide_true, decide_false] at h); exact h
  · intro L x W hW hC hL hd K hK; (try simp [depsB, Region.binds] at hd); (try simp only [Nat.reduceAdd] at hK hL)
    (have h7 : L 7 = false := by cases hl : L 7 with | false => rfl | true => have hx := hC 7 _ rfl hl; simp [depsB, Region.binds, hL, hd] at hx); (replace hd := And.intro hd h7)
    simp only [ovl, Array.getD_eq_getD_getElem?, List.getElem?_toArray, List.getElem?_cons_succ, List.getElem?_cons_zero, Option.getD_some, List.setIfInBounds_toArray, List.set_cons_zero, List.set_cons_succ]; (try simp only [hd, cond_true, cond_false])
    simp only [hL, hd, cond_false] at hW
    refine wp_alloc_op 64 (.agg #[.int .i64 0, .int .i64 0]) (by rfl) (by kernel_rfl) ?_
    (have h := hK W.heap.size _ (by simpa [upd, hd, Value.cells] using hW.key #[.int .i64 0, .int .i64 0] 64 W.heap.size rfl)); simp only [ovl, Array.getD_eq_getD_getElem?, List.getElem?_toArray, List.getElem?_cons_succ, List.getElem?_cons_zero, Option.getD_some, List.setIfInBounds_toArray, List.set_cons_zero, List.set_cons_succ] at h; (try simp (decide := true) only [upd, hd, cond_true, cond_false, Bool.true_or, Bool.false_or, decide_true, decide_false] at h); exact h
  · intro L x W hW hC hL hd K hK; (try simp [depsB, Region.binds] at hd); (try simp only [Nat.reduceAdd] at hK hL)
    simp only [ovl, Array.getD_eq_getD_getElem?, List.getElem?_toArray, List.getElem?_cons_succ, List.getElem?_cons_zero, Option.getD_some, List.setIfInBounds_toArray, List.set_cons_zero, List.set_cons_succ]; (try simp only [hd, cond_true, cond_false])
    simp only [hL, hd, cond_false, cond_true] at hW
    refine hW.storeAt 64 (.tmp 10) (.tmp 37) (by rfl) 0 (by rfl) #[.int .i64 zt, .int .i64 0] (by rfl) (by kernel_rfl) (by simp) (by simp [Value.oneCell']) (fun w3 O3 => ?_)
    rw [writeAt_all _ _ (by simp)] at O3
    (have h := hK x w3 (by simpa [upd, hd] using O3)); simp only [ovl, Array.getD_eq_getD_getElem?, List.getElem?_toArray, List.getElem?_cons_succ, List.getElem?_cons_zero, Option.getD_some, List.setIfInBounds_toArray, List.set_cons_zero, List.set_cons_succ] at h; (try simp (decide := true) only [upd, hd, cond_true, cond_false, Bool.true_or, Bool.false_or, decide_true, decide_false] at h); exact h
  intro b7 W7 hW7
  simp only [ovl, cond_true, Array.getD_eq_getD_getElem?, List.getElem?_toArray, List.getElem?_cons_succ, List.getElem?_cons_zero, Option.getD_some, List.setIfInBounds_toArray, List.set_cons_zero, List.set_cons_succ]
  simp only [cond_true] at hW7
  have H7 := Lib.hid hW7
  clear hW7 H6
  have hb := H7.out.blk (b := b5) (t := 64) (cs := #[.int .i64 zf, .int .i64 0]) (by simp)
  have y0 := hb.cell 0
  have y1 := hb.cell 1
  have ly := hb.lt
  have fy0 := hb.frozen 0
  have hb' := H7.out.blk (b := b7) (t := 64) (cs := #[.int .i64 zt, .int .i64 0]) (by simp)
  have z0 := hb'.cell 0
  have z1 := hb'.cell 1
  have lz := hb'.lt
  have fz0 := hb'.frozen 0
  have hk := H7.out.blk (b := w.heap.size) (t := 27) (cs := #[.int .u8 (by8 df 0), .int .u8 (by8 df 1), .int .u8 (by8 df 2), .int .u8 (by8 df 3), .int .u8 (by8 df 4), .int .u8 (by8 df 5), .int .u8 (by8 df 6), .int .u8 (by8 df 7)]) (by simp)
  (have k0 := hk.cell 0); (have k1 := hk.cell 1); (have k2 := hk.cell 2); (have k3 := hk.cell 3); (have k4 := hk.cell 4); (have k5 := hk.cell 5); (have k6 := hk.cell 6); (have k7 := hk.cell 7)
  have lk := hk.lt
  have hj := H7.out.blk (b := w.heap.size + 1) (t := 27) (cs := #[.int .u8 (by8 dt 0), .int .u8 (by8 dt 1), .int .u8 (by8 dt 2), .int .u8 (by8 dt 3), .int .u8 (by8 dt 4), .int .u8 (by8 dt 5), .int .u8 (by8 dt 6), .int .u8 (by8 dt 7)]) (by simp)
  (have j0 := hj.cell 0); (have j1 := hj.cell 1); (have j2 := hj.cell 2); (have j3 := hj.cell 3); (have j4 := hj.cell 4); (have j5 := hj.cell 5); (have j6 := hj.cell 6); (have j7 := hj.cell 7)
  have lj := hj.lt
  simp only [List.getElem?_toArray, List.getElem?_cons_succ, List.getElem?_cons_zero] at y0 y1 z0 z1 k0 k1 k2 k3 k4 k5 k6 k7 j0 j1 j2 j3 j4 j5 j6 j7
  have n1 : b7 ≠ b5 := (List.pairwise_cons.1 H7.out.ow.mem.apart).1 _ (List.mem_cons_self ..)
  have n2 := n1.symm
  have ha7 := List.pairwise_cons.1 H7.out.ow.mem.apart
  have ha5 := List.pairwise_cons.1 ha7.2
  have n3 : w.heap.size ≠ b7 := (ha7.1 ⟨w.heap.size, 27, #[.int .u8 (by8 df 0), .int .u8 (by8 df 1), .int .u8 (by8 df 2), .int .u8 (by8 df 3), .int .u8 (by8 df 4), .int .u8 (by8 df 5), .int .u8 (by8 df 6), .int .u8 (by8 df 7)]⟩ (by simp)).symm
  have n4 : w.heap.size + 1 ≠ b7 := (ha7.1 ⟨w.heap.size + 1, 27, #[.int .u8 (by8 dt 0), .int .u8 (by8 dt 1), .int .u8 (by8 dt 2), .int .u8 (by8 dt 3), .int .u8 (by8 dt 4), .int .u8 (by8 dt 5), .int .u8 (by8 dt 6), .int .u8 (by8 dt 7)]⟩ (by simp)).symm
  have n5 : w.heap.size ≠ b5 := (ha5.1 ⟨w.heap.size, 27, #[.int .u8 (by8 df 0), .int .u8 (by8 df 1), .int .u8 (by8 df 2), .int .u8 (by8 df 3), .int .u8 (by8 df 4), .int .u8 (by8 df 5), .int .u8 (by8 df 6), .int .u8 (by8 df 7)]⟩ (by simp)).symm
  have n6 : w.heap.size + 1 ≠ b5 := (ha5.1 ⟨w.heap.size + 1, 27, #[.int .u8 (by8 dt 0), .int .u8 (by8 dt 1), .int .u8 (by8 dt 2), .int .u8 (by8 dt 3), .int .u8 (by8 dt 4), .int .u8 (by8 dt 5), .int .u8 (by8 dt 6), .int .u8 (by8 dt 7)]⟩ (by simp)).symm
  clear ha7 ha5
  clear hb hk hj hb'
  go_wp2_with fail
  have O8 : Omw _ w0 (⟨b5, 64, #[.int .i64 (zf - n), .int .i64 0]⟩ :: (⟨b7, 64, #[.int .i64 zt, .int .i64 0]⟩ :: (⟨w.heap.size + 1, 27, #[.int .u8 (by8 dt 0), .int .u8 (by8 dt 1), .int .u8 (by8 dt 2), .int .u8 (by8 dt 3), .int .u8 (by8 dt 4), .int .u8 (by8 dt 5), .int .u8 (by8 dt 6), .int .u8 (by8 dt 7)]⟩ :: (⟨w.heap.size, 27, #[.int .u8 (by8 df 0), .int .u8 (by8 df 1), .int .u8 (by8 df 2), .int .u8 (by8 df 3), .int .u8 (by8 df 4), .int .u8 (by8 df 5), .int .u8 (by8 df 6), .int .u8 (by8 df 7)]⟩ :: (⟨p, 60, #[.map (some m)]⟩ :: C))))) ((m, .map es ck) :: KK) := (H7.out.perm (X' := ⟨b5, 64, #[.int .i64 zf, .int .i64 0]⟩ :: (⟨b7, 64, #[.int .i64 zt, .int .i64 0]⟩ :: (⟨w.heap.size + 1, 27, #[.int .u8 (by8 dt 0), .int .u8 (by8 dt 1), .int .u8 (by8 dt 2), .int .u8 (by8 dt 3), .int .u8 (by8 dt 4), .int .u8 (by8 dt 5), .int .u8 (by8 dt 6), .int .u8 (by8 dt 7)]⟩ :: (⟨w.heap.size, 27, #[.int .u8 (by8 df 0), .int .u8 (by8 df 1), .int .u8 (by8 df 2), .int .u8 (by8 df 3), .int .u8 (by8 df 4), .int .u8 (by8 df 5), .int .u8 (by8 df 6), .int .u8 (by8 df 7)]⟩ :: (⟨p, 60, #[.map (some m)]⟩ :: C))))) (perm_cnt fun x => by simp only [cnt_append, cnt_cons, cnt_nil] <;> omega)).set 0 (.int .i64 (zf - n))
  have O9 : Omw _ w0 (⟨b7, 64, #[.int .i64 (zt + n), .int .i64 0]⟩ :: (⟨b5, 64, #[.int .i64 (zf - n), .int .i64 0]⟩ :: (⟨w.heap.size + 1, 27, #[.int .u8 (by8 dt 0), .int .u8 (by8 dt 1), .int .u8 (by8 dt 2), .int .u8 (by8 dt 3), .int .u8 (by8 dt 4), .int .u8 (by8 dt 5), .int .u8 (by8 dt 6), .int .u8 (by8 dt 7)]⟩ :: (⟨w.heap.size, 27, #[.int .u8 (by8 df 0), .int .u8 (by8 df 1), .int .u8 (by8 df 2), .int .u8 (by8 df 3), .int .u8 (by8 df 4), .int .u8 (by8 df 5), .int .u8 (by8 df 6), .int .u8 (by8 df 7)]⟩ :: (⟨p, 60, #[.map (some m)]⟩ :: C))))) ((m, .map es ck) :: KK) := (O8.perm (X' := ⟨b7, 64, #[.int .i64 zt, .int .i64 0]⟩ :: (⟨b5, 64, #[.int .i64 (zf - n), .int .i64 0]⟩ :: (⟨w.heap.size + 1, 27, #[.int .u8 (by8 dt 0), .int .u8 (by8 dt 1), .int .u8 (by8 dt 2), .int .u8 (by8 dt 3), .int .u8 (by8 dt 4), .int .u8 (by8 dt 5), .int .u8 (by8 dt 6), .int .u8 (by8 dt 7)]⟩ :: (⟨w.heap.size, 27, #[.int .u8 (by8 df 0), .int .u8 (by8 df 1), .int .u8 (by8 df 2), .int .u8 (by8 df 3), .int .u8 (by8 df 4), .int .u8 (by8 df 5), .int .u8 (by8 df 6), .int .u8 (by8 df 7)]⟩ :: (⟨p, 60, #[.map (some m)]⟩ :: C))))) (perm_cnt fun x => by simp only [cnt_append, cnt_cons, cnt_nil] <;> omega)).set 0 (.int .i64 (zt + n))
  have B9 : Bk _ w0 ([⟨b7, 64, #[.int .i64 (zt + n), .int .i64 0]⟩, ⟨b5, 64, #[.int .i64 (zf - n), .int .i64 0]⟩, ⟨w.heap.size + 1, 27, #[.int .u8 (by8 dt 0), .int .u8 (by8 dt 1), .int .u8 (by8 dt 2), .int .u8 (by8 dt 3), .int .u8 (by8 dt 4), .int .u8 (by8 dt 5), .int .u8 (by8 dt 6), .int .u8 (by8 dt 7)]⟩, ⟨w.heap.size, 27, #[.int .u8 (by8 df 0), .int .u8 (by8 df 1), .int .u8 (by8 df 2), .int .u8 (by8 df 3), .int .u8 (by8 df 4), .int .u8 (by8 df 5), .int .u8 (by8 df 6), .int .u8 (by8 df 7)]⟩] ++ C) KK p M := ⟨m, es, ck, O9.perm (perm_cnt fun x => by simp only [cnt_append, cnt_cons, cnt_nil] <;> omega), hD.out⟩
  refine (put_to p df (zf - n) _ w0 _ KK M B9).mono ?_
  rintro e w10 ⟨rfl, B10⟩
  have hb' := B10.has (b := b7) (t := 64) (cs := #[.int .i64 (zt + n), .int .i64 0]) (by simp)
  have v0 := hb'.cell 0
  have v1 := hb'.cell 1
  have lz := hb'.lt
  have hj := B10.has (b := w.heap.size + 1) (t := 27) (cs := #[.int .u8 (by8 dt 0), .int .u8 (by8 dt 1), .int .u8 (by8 dt 2), .int .u8 (by8 dt 3), .int .u8 (by8 dt 4), .int .u8 (by8 dt 5), .int .u8 (by8 dt 6), .int .u8 (by8 dt 7)]) (by simp)
  (have j0 := hj.cell 0); (have j1 := hj.cell 1); (have j2 := hj.cell 2); (have j3 := hj.cell 3); (have j4 := hj.cell 4); (have j5 := hj.cell 5); (have j6 := hj.cell 6); (have j7 := hj.cell 7)
  have lj := hj.lt
  simp only [List.getElem?_toArray, List.getElem?_cons_succ, List.getElem?_cons_zero] at v0 v1 j0 j1 j2 j3 j4 j5 j6 j7
  have HB10 := Lib.hid B10
  clear hj hb' B10 B9 O8 O9 H7
  go_wp2_with fail
  refine (put_to p dt (zt + n) _ w0 _ KK _ HB10.out).mono ?_
  rintro e w11 ⟨rfl, B11⟩
  rw [HM.out] at B11
  have HB11 := Lib.hid (B11.dropC)
  clear B11 HB10
  go_wp2
  go_ret
  exact ⟨rfl, HB11.out⟩

end Go.Proofs.Yteopbfehfipcmaa
