/- talk: the contract of the law's few. -/
import Derived.Test.YtgjodjkmefdilaaTrh
import Derived.Test.YtgjodjkmefdilaaInv
namespace Go.Proofs.Ytgjodjkmefdilaa
set_option linter.unusedSimpArgs false
set_option linter.unusedVariables false
open Go.RowKit

/-- A store of a whole block that was made on the way. -/
theorem wp_store_owB {P : Program} {w w0 : World} {o : Oper} {a : Act} {K : Act → World → Prop} {Q : Exit → Act → World → Prop} (ty : TypeId) (x y : Operand) (ho : o.op = .store ty x y) {B L : List Blk} {b : Nat} {t : TypeId} {cs : Array Value} (O : Ow w w0 (B ++ ⟨b, t, cs⟩ :: L))
    (hx : a.eval x = .pointer (some ⟨b, 0, none⟩)) (vs : Array Value) (hy : a.eval y = .agg vs) (hi : (P.info? ty).map (·.size) = some cs.size) (hs : vs.size = cs.size) (h1 : ∀ v ∈ vs.toList, v.oneCell' = true)
    (h : ∀ w', Ow w' w0 (B ++ ⟨b, t, vs⟩ :: L) → K (a.put o.dst undef) w') : o.wp P a w K Q :=
  wp_store_blk ty x y ho O.mem hx vs hy hi hs h1 fun w' M' => h w' ⟨M', fun z hz => by
    rcases List.mem_append.1 hz with hz | hz
    · exact O.new z (by simp [hz])
    · rcases List.mem_cons.1 hz with rfl | hz
      · exact O.new ⟨b, t, cs⟩ (by simp)
      · exact O.new z (by simp [hz])⟩

set_option maxRecDepth 100000 in
set_option maxHeartbeats 4000000 in
theorem few_to (fi he : Int) (ao : Option Addr) (n cap m : Nat) (hm : min n 70 = m) (hc : n ≤ cap) (w w0 : World) (Y : List Blk) (O : Ow w w0 Y) :
    Calls Try.prog 31 #[.agg #[.int .i64 fi, .slice ao n cap, .int .i64 he]] w fun e w' => e = .returned (.tuple #[.agg #[.int .i64 fi, .slice ao m cap, .int .i64 he], .agg #[.int .i64 fi, .slice ao m cap, .int .i64 he]]) ∧ Ow w' w0 Y := by
  have hmi : min (n : Int) 70 = (m : Int) := by omega
  have hmc : m ≤ cap := by omega
  have HO := Lib.hid (((O.key #[.int .i64 fi, .slice ao n cap, .int .i64 he] 36 w.heap.size rfl).key #[.int .i64 0, .slice none 0 0, .int .i64 0] 36 (w.heap.size + 1) (by simp)).key #[.int .i64 0, .slice none 0 0, .int .i64 0] 68 (w.heap.size + 2) (by simp))
  have HO1 := Lib.hid O
  clear O hm
  go_enter Try.func31, Try.ntmps31
  go_wp2
  refine wp_opq (fun W => Ow W w0 (⟨w.heap.size + 2, 68, #[.int .i64 0, .slice none 0 0, .int .i64 0]⟩ :: (⟨w.heap.size + 1, 36, #[.int .i64 0, .slice none 0 0, .int .i64 0]⟩ :: (⟨w.heap.size, 36, #[.int .i64 fi, .slice ao m cap, .int .i64 he]⟩ :: Y)))) (((HO1.out.key #[.int .i64 fi, .slice ao m cap, .int .i64 he] 36 w.heap.size rfl).key #[.int .i64 0, .slice none 0 0, .int .i64 0] 36 (w.heap.size + 1) (by simp)).key #[.int .i64 0, .slice none 0 0, .int .i64 0] 68 (w.heap.size + 2) (by simp)) ?_
  intro W3 O3
  refine wp_region_ov (fun L (_ : Unit) => [(L 0, 12, .agg #[.int .i64 fi, .slice ao m cap, .int .i64 he]), (L 1, 13, .pointer (some ⟨w.heap.size, 0, none⟩)), (L 2, 14, .int .i64 fi), (L 3, 15, .pointer (some ⟨w.heap.size, 1, none⟩)), (L 4, 16, .slice ao m cap), (L 5, 17, .pointer (some ⟨w.heap.size, 2, none⟩)), (L 6, 18, .int .i64 he), (L 7, 19, .agg #[.int .i64 fi, .slice ao m cap, .int .i64 he])])
    (fun L _ W => Ow W w0 (⟨w.heap.size + 2, 68, bif L 9 then #[.int .i64 fi, .slice ao m cap, .int .i64 he] else #[.int .i64 0, .slice none 0 0, .int .i64 0]⟩ :: (⟨w.heap.size + 1, 36, bif L 8 then #[.int .i64 fi, .slice ao m cap, .int .i64 he] else #[.int .i64 0, .slice none 0 0, .int .i64 0]⟩ :: (⟨w.heap.size, 36, #[.int .i64 fi, .slice ao m cap, .int .i64 he]⟩ :: Y)))) () (by kernel_rfl) (by kernel_rfl) (by rfl) O3.drew ?_ ⟨?_, ?_, ?_, ?_, ?_, ?_, ?_, ?_, ?_, ?_, trivial⟩
  rotate_left
  iterate 8 (· (intro L x W hW hC hL hd K hK; (try simp [depsB, Region.binds] at hd); (try simp only [Nat.reduceAdd] at hK hL); (have hb := hW.has (b := w.heap.size) (t := 36) (cs := #[.int .i64 fi, .slice ao m cap, .int .i64 he]) (by simp)); (have c0 := hb.cell 0); (have c1 := hb.cell 1); (have c2 := hb.cell 2); (have lt := hb.lt); clear hb; simp only [ovl, Array.getD_eq_getD_getElem?, List.getElem?_toArray, List.getElem?_cons_succ, List.getElem?_cons_zero, Option.getD_some, List.setIfInBounds_toArray, List.set_cons_zero, List.set_cons_succ]; (try simp only [hd, cond_true, cond_false]); go_simp; (have h := hK () W hW); simp only [ovl, Array.getD_eq_getD_getElem?, List.getElem?_toArray, List.getElem?_cons_succ, List.getElem?_cons_zero, Option.getD_some, List.setIfInBounds_toArray, List.set_cons_zero, List.set_cons_succ] at h; (try simp (decide := true) only [upd, hd, cond_true, cond_false, Bool.true_or, Bool.false_or, decide_true, decide_false] at h); exact h))
  · intro L x W hW hC hL hd K hK; (try simp [depsB, Region.binds] at hd); (try simp only [Nat.reduceAdd] at hK hL)
    simp only [hL, cond_false] at hW
    simp only [ovl, Array.getD_eq_getD_getElem?, List.getElem?_toArray, List.getElem?_cons_succ, List.getElem?_cons_zero, Option.getD_some, List.setIfInBounds_toArray, List.set_cons_zero, List.set_cons_succ]; (try simp only [hd, cond_true, cond_false])
    refine wp_store_owB 36 (.tmp 2) (.tmp 12) (by rfl) (B := [_]) hW (by rfl) #[.int .i64 fi, .slice ao m cap, .int .i64 he] (by rfl) (by kernel_rfl) (by rfl) (by simp [Value.oneCell']) (fun W' O' => ?_)
    (have h := hK () W' O'); simp only [ovl, Array.getD_eq_getD_getElem?, List.getElem?_toArray, List.getElem?_cons_succ, List.getElem?_cons_zero, Option.getD_some, List.setIfInBounds_toArray, List.set_cons_zero, List.set_cons_succ] at h; (try simp (decide := true) only [upd, hd, cond_true, cond_false, Bool.true_or, Bool.false_or, decide_true, decide_false] at h); exact h
  · intro L x W hW hC hL hd K hK; (try simp [depsB, Region.binds] at hd); (try simp only [Nat.reduceAdd] at hK hL)
    simp only [hL, cond_false] at hW
    simp only [ovl, Array.getD_eq_getD_getElem?, List.getElem?_toArray, List.getElem?_cons_succ, List.getElem?_cons_zero, Option.getD_some, List.setIfInBounds_toArray, List.set_cons_zero, List.set_cons_succ]; (try simp only [hd, cond_true, cond_false])
    refine wp_store_owB 68 (.tmp 3) (.tmp 19) (by rfl) (B := []) hW (by rfl) #[.int .i64 fi, .slice ao m cap, .int .i64 he] (by rfl) (by kernel_rfl) (by rfl) (by simp [Value.oneCell']) (fun W' O' => ?_)
    (have h := hK () W' O'); simp only [ovl, Array.getD_eq_getD_getElem?, List.getElem?_toArray, List.getElem?_cons_succ, List.getElem?_cons_zero, Option.getD_some, List.setIfInBounds_toArray, List.set_cons_zero, List.set_cons_succ] at h; (try simp (decide := true) only [upd, hd, cond_true, cond_false, Bool.true_or, Bool.false_or, decide_true, decide_false] at h); exact h
  intro x W hW
  simp only [ovl, cond_true, Array.getD_eq_getD_getElem?, List.getElem?_toArray, List.getElem?_cons_succ, List.getElem?_cons_zero, Option.getD_some, List.setIfInBounds_toArray, List.set_cons_zero, List.set_cons_succ]
  simp only [cond_true] at hW
  have hb := hW.has (b := w.heap.size + 1) (t := 36) (cs := #[.int .i64 fi, .slice ao m cap, .int .i64 he]) (by simp)
  have hb2 := hW.has (b := w.heap.size + 2) (t := 68) (cs := #[.int .i64 fi, .slice ao m cap, .int .i64 he]) (by simp)
  have c0 := hb.cell 0
  have c1 := hb.cell 1
  have c2 := hb.cell 2
  have d0 := hb2.cell 0
  have d1 := hb2.cell 1
  have d2 := hb2.cell 2
  have HW := Lib.hid hW
  clear hb hb2 hW
  go_wp2
  refine bodyPost_ret (v := .tuple #[.agg #[.int .i64 fi, .slice ao m cap, .int .i64 he], .agg #[.int .i64 fi, .slice ao m cap, .int .i64 he]]) (by simp [results, Try.results31, go_sem, c0, c1, c2, d0, d1, d2]) rfl ⟨rfl, HW.out.drop1.drop1.drop1⟩

section
variable {w w0 : World} {C X : List Blk} {p : Nat} {T : TS} {R : RS} {vs vt : Value}
theorem S1.refSay (h : S1 w w0 C X p T) (hM : RM w0 X R vs vt) (hR : RW 1000000 R) (v : Value) (m : List UInt8) (hv : BSl w v m) (R' : RS) (hR' : rSay R m = R') (E : Nat) (hE : rSayE R m = E) :
    Calls Try.prog 28 #[.agg (rcs R vs vt), v] w fun e w' => ∃ vs' X', e = .returned (.tuple #[.agg (rcs R' vs' vt), .int .i64 E]) ∧ Sub X X' ∧ S1 w' w0 C X' p T ∧ RM w0 X' R' vs' vt := by
  obtain ⟨A, O, t⟩ := h
  refine (rSay_to R vs vt v m w w0 X (A ++ (C ++ X)) O (fun x hx => by simp [hx]) hM hR hv R' hR' E hE).mono ?_
  rintro e w' ⟨vs', N, rfl, O', M'⟩
  exact ⟨vs', N ++ X, rfl, Sub.app N X, ⟨A, O'.perm (perm_cnt fun x => by simp only [cnt_append, cnt_cons, cnt_nil] <;> omega), t.mono (Sub.app N X)⟩, M'⟩
theorem S1.refTickNo (h : S1 w w0 C X p T) (hM : RM w0 X R vs vt) (hR : RW 1000000 R) (now : Nat) (hn : now ≤ 4611686018427387904) (hd : rDue R now = false) :
    Calls Try.prog 29 #[.agg (rcs R vs vt), .int .i64 now] w fun e w' => e = .returned (.tuple #[.agg (rcs R vs vt), .agg #[.int .i64 0, .slice none 0 0, .int .i64 0], .bool false]) ∧ S1 w' w0 C X p T := by
  obtain ⟨A, O, t⟩ := h
  refine (rTick_no R vs vt now w w0 X (A ++ (C ++ X)) O hM hR hn hd).mono ?_
  rintro e w' ⟨rfl, O'⟩
  exact ⟨rfl, A, O', t⟩
theorem S1.refTickYes (h : S1 w w0 C X p T) (hM : RM w0 X R vs vt) (hR : RW 1000000 R) (now : Nat) (hn : now ≤ 4611686018427387904) (hd : rDue R now = true) (R' : RS) (hR' : rTick R now = R') (ms : List (List UInt8)) (hms : R.said.drop R.heard = ms) :
    Calls Try.prog 29 #[.agg (rcs R vs vt), .int .i64 now] w fun e w' => ∃ u X', e = .returned (.tuple #[.agg (rcs R' vs vt), .agg #[.int .i64 R.heard, u, .int .i64 R.took.length], .bool true]) ∧ Sub X X' ∧ S1 w' w0 C X' p T ∧ RM w0 X' R' vs vt ∧ MsgL w0 X' u ms := by
  subst hR' hms
  obtain ⟨A, O, t⟩ := h
  refine (rTick_yes R vs vt now w w0 X (A ++ (C ++ X)) O (fun x hx => by simp [hx]) hM hR hn hd).mono ?_
  rintro e w' ⟨u, N, rfl, O', M'⟩
  exact ⟨u, N ++ X, rfl, Sub.app N X, ⟨A, O'.perm (perm_cnt fun x => by simp only [cnt_append, cnt_cons, cnt_nil] <;> omega), t.mono (Sub.app N X)⟩, hM.mono (Sub.app N X), M'⟩
theorem S1.refGot (h : S1 w w0 C X p T) (hM : RM w0 X R vs vt) (hR : RW 1000000 R) (R' : RS) (hR' : rGot R = R') (ms : List (List UInt8)) (hms : R.took.drop R.gave = ms) :
    Calls Try.prog 33 #[.agg (rcs R vs vt)] w fun e w' => ∃ u, e = .returned (.tuple #[.agg (rcs R' vs vt), u]) ∧ S1 w' w0 C X p T ∧ MsgL w0 X u ms := by
  subst hR' hms
  obtain ⟨A, O, t⟩ := h
  refine (rGot_to R vs vt w w0 X (A ++ (C ++ X)) O (fun x hx => by simp [hx]) hM hR).mono ?_
  rintro e w' ⟨u, rfl, O', M'⟩
  exact ⟨u, rfl, ⟨A, O', t⟩, M'⟩
/-- What Hear answers. -/
def rHearE (R : RS) (fi : Int) (ms : List (List UInt8)) (he : Int) : Nat := if rRight R fi ms he = false then 2 else if R.took.length < fi.toNat then 20 else 0
def rHearD (R : RS) (fi : Int) (ms : List (List UInt8)) (he : Int) : RS := if rRight R fi ms he = false then R else rHear R fi.toNat ms he.toNat
def hearD (T : TS) (fi : Int) (ms : List (List UInt8)) (he : Int) : TS := if rightT T fi ms he = false then T else hearT T fi.toNat ms he.toNat
theorem rRight_out {fi : Int} {ms : List (List UInt8)} {he : Int} (h : rRight R fi ms he = true) : ∃ f g : Nat, fi = f ∧ he = g ∧ g ≤ R.said.length ∧ ms.length ≤ 64 ∧ ∀ m ∈ ms, m.length ≤ 4096 := by
  unfold rRight longL at h
  simp only [Bool.and_eq_true, decide_eq_true_eq, Bool.not_eq_true', List.any_eq_false] at h
  obtain ⟨⟨⟨⟨h1, h2⟩, h3⟩, h4⟩, h5⟩ := h
  refine ⟨fi.toNat, he.toNat, by omega, by omega, by omega, h3, fun m hm => ?_⟩
  have := h5 m hm
  omega
theorem S1.refHear (h : S1 w w0 C X p T) (hM : RM w0 X R vs vt) (hR : RW 1000000 R) (fi he : Int) (v : Value) (ms : List (List UInt8)) (hv : MsgL w0 X v ms) (hn : ms.length ≤ 1000000000) (hfi : fi ≤ 9223372036854775807) (R' : RS) (hR' : rHearD R fi ms he = R') (E : Nat) (hE : rHearE R fi ms he = E) :
    Calls Try.prog 32 #[.agg (rcs R vs vt), .agg #[.int .i64 fi, v, .int .i64 he]] w fun e w' => ∃ vt' X', e = .returned (.tuple #[.agg (rcs R' vs vt'), .int .i64 E]) ∧ Sub X X' ∧ S1 w' w0 C X' p T ∧ RM w0 X' R' vs vt' := by
  subst hR' hE
  cases hb : rRight R fi ms he with
  | false =>
    have hh := h.here hv
    obtain ⟨A, O, t⟩ := h
    refine (rHear_no R vs vt v fi he ms w w0 X (A ++ (C ++ X)) O (fun x hx => by simp [hx]) hM hR hn hh hb).mono ?_
    rintro e w' ⟨rfl, O'⟩
    unfold rHearD rHearE
    rw [if_pos hb, if_pos hb]
    exact ⟨vt, X, rfl, Sub.refl X, ⟨A, O', t⟩, hM⟩
  | true =>
    obtain ⟨f, g, rfl, rfl, h3, h4, h5⟩ := rRight_out hb
    obtain ⟨A, O, t⟩ := h
    refine (rHear_yes R vs vt v f g ms w w0 X (A ++ (C ++ X)) O (fun x hx => by simp [hx]) hM hR h4 hv (getD_len h5) (by omega) h3 _ rfl _ rfl).mono ?_
    rintro e w' ⟨vt', N, rfl, O', M'⟩
    have e1 : rHearE R f ms g = if R.took.length < f then 20 else 0 := by unfold rHearE; simp [hb]
    have e2 : rHearD R f ms g = rHear R f ms g := by unfold rHearD; simp [hb]
    rw [e1, e2]
    refine ⟨vt', N ++ X, ?_, Sub.app N X, ⟨A, O'.perm (perm_cnt fun x => by simp only [cnt_append, cnt_cons, cnt_nil] <;> omega), t.mono (Sub.app N X)⟩, ?_, M'⟩
    · by_cases hc : R.took.length < f
      · rw [if_pos hc, if_pos hc]; rfl
      · rw [if_neg hc, if_neg hc]; rfl
    · have e1 : (rHear R f ms g).said = R.said := rfl
      rw [e1]
      exact hM.1.mono (Sub.app N X)
theorem S1.hear (h : S1 w w0 C X p T) (fi he : Int) (v : Value) (ms : List (List UInt8)) (hv : MsgL w0 X v ms) (hn : ms.length ≤ 1000000000) (hfi : fi ≤ 9223372036854775807) (hW : TW 1000000 T) (T' : TS) (hT' : hearD T fi ms he = T') (E : Nat) (hE : (if rightT T fi ms he = false then 2 else if T.heard < fi.toNat then 20 else 0) = E) :
    Calls Try.prog 20 #[ptr p, .agg #[.int .i64 fi, v, .int .i64 he]] w fun e w' => e = .returned (.int .i64 E) ∧ ∃ X', Sub X X' ∧ S1 w' w0 C X' p T' := by
  subst hT' hE
  cases hb : rightT T fi ms he with
  | false =>
    refine (h.hearNo fi he v ms hn (h.here hv) hb).mono ?_
    rintro e w' ⟨rfl, s⟩
    unfold hearD
    rw [if_pos hb]
    exact ⟨rfl, X, Sub.refl X, s⟩
  | true =>
    obtain ⟨f, g, rfl, rfl, h3, h4, h5⟩ := rightT_out hb
    refine (h.hearYes f g v ms hv (by omega) hW hb _ rfl _ rfl).mono ?_
    rintro e w' ⟨rfl, X', hs, s⟩
    have e2 : hearD T f ms g = hearT T f ms g := by unfold hearD; simp [hb]
    rw [e2]
    refine ⟨?_, X', hs, s⟩
    by_cases hc : T.heard < f
    · rw [if_pos hc]; simp [hc]
    · rw [if_neg hc]; simp [hc]
/-- A store into a block of others. -/
theorem S1.store {cs : Array Value} {b : Nat} {t : TypeId} (h : S1 w w0 (⟨b, t, cs⟩ :: C) X p T) {P : Program} {o : Oper} {a : Act} {K : Act → World → Prop} {Q : Exit → Act → World → Prop} (ty : TypeId) (x y : Operand) (ho : o.op = .store ty x y)
    (hx : a.eval x = .pointer (some ⟨b, 0, none⟩)) (us : Array Value) (hy : a.eval y = .agg us) (hi : (P.info? ty).map (·.size) = some cs.size) (hs : us.size = cs.size) (h1 : ∀ v ∈ us.toList, v.oneCell' = true)
    (k : ∀ w', S1 w' w0 (⟨b, t, us⟩ :: C) X p T → K (a.put o.dst undef) w') : o.wp P a w K Q := by
  obtain ⟨A, O, t1⟩ := h
  exact wp_store_owB ty x y ho (B := A) (L := C ++ X) O hx us hy hi hs h1 fun w' O' => k w' ⟨A, O', t1⟩
theorem S1.drop {x : Blk} (h : S1 w w0 (x :: C) X p T) : S1 w w0 C X p T := by
  obtain ⟨A, O, t1⟩ := h
  exact ⟨A, (O.perm (L' := x :: (A ++ (C ++ X))) (perm_cnt fun x => by simp only [cnt_append, cnt_cons, cnt_nil] <;> omega)).drop1, t1⟩
theorem S1.park {cs : Array Value} {b : Nat} {t : TypeId} (h : S1 w w0 C X p T) (hb : b = w.heap.size) : S1 (w.alloc (.cells cs t)) w0 (⟨b, t, cs⟩ :: C) X p T := by
  obtain ⟨A, O, t1⟩ := h
  exact ⟨A, (O.key cs t b hb).perm (perm_cnt fun x => by simp only [cnt_append, cnt_cons, cnt_nil] <;> omega), t1⟩
theorem S1.hasC {cs : Array Value} {b : Nat} {t : TypeId} (h : S1 w w0 C X p T) (hx : (⟨b, t, cs⟩ : Blk) ∈ C) : HasBlk w b t cs := by
  obtain ⟨A, O, t1⟩ := h
  exact O.has (by simp [hx])
theorem S1.drew (h : S1 w w0 C X p T) : S1 w.drew w0 C X p T := by
  obtain ⟨A, O, t1⟩ := h
  exact ⟨A, O.drew, t1⟩
end

/-- The law's same, of two that are one. -/
theorem lsame_to (fi he : Int) (v1 v2 : Value) (ms : List (List UInt8)) (w : World) (hn : ms.length ≤ 1000000000) (h1 : MsgL w [] v1 ms) (h2 : MsgL w [] v2 ms) :
    Calls Try.prog 30 #[.agg #[.int .i64 fi, v1, .int .i64 he], .agg #[.int .i64 fi, v2, .int .i64 he]] w fun e w' => e = .returned (.bool true) ∧ Below w.heap.size w w' := by
  obtain ⟨a1, c1, rfl⟩ := h1.slice
  obtain ⟨a2, c2, rfl⟩ := h2.slice
  have HO := Lib.hid (((Ow.start w).alloc (.cells #[.int .i64 fi, .slice a1 ms.length c1, .int .i64 he] 36)).alloc (.cells #[.int .i64 fi, .slice a2 ms.length c2, .int .i64 he] 68))
  have H1 := Lib.hid (h1.here HO.out sub_nil)
  have H2 := Lib.hid (h2.here HO.out sub_nil)
  clear h1 h2
  go_enter Try.func30, Try.ntmps30
  go_wp2_with fail
  refine (same_to _ _ ms ms _ hn hn H1.out H2.out true (by simp)).mono ?_
  rintro e w' ⟨rfl, O'⟩
  have HB := Lib.hid (HO.out.of_below O'.below).below
  clear O'
  go_wp2
  go_ret
  exact ⟨rfl, HB.out⟩

end Go.Proofs.Ytgjodjkmefdilaa
