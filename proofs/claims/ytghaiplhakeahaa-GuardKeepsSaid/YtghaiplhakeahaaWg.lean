/- guard, beside maps: contracts of Ack and Note; many towers. -/
import Derived.Test.YtghaiplhakeahaaGb
import Derived.Test.YtghaiplhakeahaaYe
namespace Go.Proofs.Ytghaiplhakeahaa
set_option linter.unusedSimpArgs false
set_option linter.unusedVariables false
open Go.RowKit Go.WideMaps Go.ChangeMaps Go.Maps

/-- A guard at p, beside blocks C and maps K; its box lies in X. -/
def Gum (w w0 : World) (C X : List Blk) (K : List (Nat × Obj)) (p : Nat) (G : GS) : Prop := ∃ bv, Omw w w0 (⟨p, 132, gcs G bv⟩ :: (C ++ X)) K ∧ Msg w0 X bv G.box
theorem Gum.gu {w w0 : World} {C X : List Blk} {K : List (Nat × Obj)} {p : Nat} {G : GS} (h : Gum w w0 C X K p G) : Gu w w0 C X p G := by
  obtain ⟨bv, O, m⟩ := h; exact ⟨bv, O.ow, m⟩
set_option maxRecDepth 100000 in
set_option maxHeartbeats 4000000 in
theorem noteM_yes (p : Nat) (G : GS) (n : Int) (v : Value) (l : List UInt8) (hn : isNum n = true) (w w0 : World) (C X : List Blk) (KK : List (Nat × Obj)) (h : Gum w w0 C X KK p G) (h2 : ¬(G.noted = true ∧ n ≤ G.num)) (hl : l.length ≤ 32768) (hv : BSl w v l) :
    Calls Try.prog 29 #[ptr p, .int .i64 n, v] w fun e w' => e = .returned (.int .i64 0) ∧ ∃ N, Gum w' w0 C (N ++ X) KK p (notedG G n l) := by
  obtain ⟨bv, O, m1⟩ := h
  have HB := O.blk (List.mem_cons_self ..)
  have lt := HB.lt
  have c10 : w.cell? ⟨p, 10, none⟩ = some (.bool G.noted) := HB.cell 10
  have c19 : w.cell? ⟨p, 19, none⟩ = some (.int .i64 G.num) := HB.cell 19
  obtain ⟨h, hh⟩ : ∃ h, thintF G.nonce = h := ⟨_, rfl⟩
  obtain ⟨y, hy⟩ : ∃ y, tboxF G.nonce l = y := ⟨_, rfl⟩
  have HH := Lib.hid hh
  have HY := Lib.hid hy
  have HN := Lib.hid hn
  have HV := Lib.hid hv
  have HO := Lib.hid O
  obtain ⟨ao, cap, rfl, -⟩ := hv.open_
  have hk0 : w.cell? ⟨p, 0, none⟩ = some (.int .u8 (by8 G.nonce 0)) := HB.cell 0
  have hk1 : w.cell? ⟨p, 1, none⟩ = some (.int .u8 (by8 G.nonce 1)) := HB.cell 1
  have hk2 : w.cell? ⟨p, 2, none⟩ = some (.int .u8 (by8 G.nonce 2)) := HB.cell 2
  have hk3 : w.cell? ⟨p, 3, none⟩ = some (.int .u8 (by8 G.nonce 3)) := HB.cell 3
  have hk4 : w.cell? ⟨p, 4, none⟩ = some (.int .u8 (by8 G.nonce 4)) := HB.cell 4
  have hk5 : w.cell? ⟨p, 5, none⟩ = some (.int .u8 (by8 G.nonce 5)) := HB.cell 5
  have hk6 : w.cell? ⟨p, 6, none⟩ = some (.int .u8 (by8 G.nonce 6)) := HB.cell 6
  have hk7 : w.cell? ⟨p, 7, none⟩ = some (.int .u8 (by8 G.nonce 7)) := HB.cell 7
  clear O m1 HB hn hh hy hv
  cases hno : G.noted with
  | true =>
    rw [hno] at c10
    have hd : decide (n ≤ G.num) = false := decide_eq_false (fun h => h2 ⟨hno, h⟩)
    go_enter Try.func29, Try.ntmps29
    go_wp2_with fail
    refine (isNumber_to n true HN.out _).mono ?_
    rintro e w' ⟨rfl, rfl⟩
    go_wp2_with fail
    refine (make_to G.nonce n _ l HN.out hl h HH.out y HY.out _ HV.out).mono ?_
    rintro e w1 ⟨u, rfl, hb1, hu⟩
    obtain ⟨NB, O1, M1⟩ := hu.foundM HO.out (Ext.of_below hb1)
    obtain ⟨au, cu, rfl⟩ := (M1 w0).slice
    have O2 := (O1.key #[.int .u8 (by8 h 0), .int .u8 (by8 h 1), .int .u8 (by8 h 2), .int .u8 (by8 h 3), .int .u8 (by8 h 4), .int .u8 (by8 h 5), .int .u8 (by8 h 6), .int .u8 (by8 h 7), .int .i64 n, .slice au y.length cu] 29 w1.heap.size rfl).perm (X' := ⟨p, 132, gcs G bv⟩ :: (⟨w1.heap.size, 29, #[.int .u8 (by8 h 0), .int .u8 (by8 h 1), .int .u8 (by8 h 2), .int .u8 (by8 h 3), .int .u8 (by8 h 4), .int .u8 (by8 h 5), .int .u8 (by8 h 6), .int .u8 (by8 h 7), .int .i64 n, .slice au y.length cu]⟩ :: (NB ++ (C ++ X)))) (perm_cnt fun x => by simp only [cnt_append, cnt_cons, cnt_nil] <;> omega)
    have HO2 := Lib.hid O2
    have HM := Lib.hid (M1 w0)
    clear hu hb1 O1 M1 O2 HO
    go_wp2_with fail
    refine wp_opq (fun W => Omw W w0 (⟨p, 132, gcs G bv⟩ :: (⟨w1.heap.size, 29, #[.int .u8 (by8 h 0), .int .u8 (by8 h 1), .int .u8 (by8 h 2), .int .u8 (by8 h 3), .int .u8 (by8 h 4), .int .u8 (by8 h 5), .int .u8 (by8 h 6), .int .u8 (by8 h 7), .int .i64 n, .slice au y.length cu]⟩ :: (NB ++ (C ++ X)))) KK) HO2.out ?_
    intro W2 O3
    clear HO2
    have HO3 := Lib.hid O3
    clear O3
    refine wp_region_ov (fun L (_ : Unit) => [(L 0, 40, ptr p), (L 1, 41, ptr p), (L 2, 42, .agg #[.int .u8 (by8 h 0), .int .u8 (by8 h 1), .int .u8 (by8 h 2), .int .u8 (by8 h 3), .int .u8 (by8 h 4), .int .u8 (by8 h 5), .int .u8 (by8 h 6), .int .u8 (by8 h 7), .int .i64 n, .slice au y.length cu]), (L 3, 43, ptr p), (L 4, 44, .pointer (some ⟨p, 10, none⟩)), (L 6, 45, ptr p), (L 7, 46, .pointer (some ⟨p, 11, none⟩))])
      (fun L _ W => Omw W w0 (⟨p, 132, bif L 8 then gcs { G with noted := true, hint := h, num := n, box := y } (.slice au y.length cu) else bif L 5 then gcs { G with noted := true } bv else gcs G bv⟩ :: (⟨w1.heap.size, 29, #[.int .u8 (by8 h 0), .int .u8 (by8 h 1), .int .u8 (by8 h 2), .int .u8 (by8 h 3), .int .u8 (by8 h 4), .int .u8 (by8 h 5), .int .u8 (by8 h 6), .int .u8 (by8 h 7), .int .i64 n, .slice au y.length cu]⟩ :: (NB ++ (C ++ X)))) KK) () (by kernel_rfl) (by kernel_rfl) (by rfl) HO3.out.drew ?_ ⟨?_, ?_, ?_, ?_, ?_, ?_, ?_, ?_, ?_, trivial⟩
    rotate_left
    · (intro L x W hW hC hL hd K hK; (try simp [depsB, Region.binds] at hd); (try simp only [Nat.reduceAdd] at hK hL); simp only [ovl, Array.getD_eq_getD_getElem?, List.getElem?_toArray, List.getElem?_cons_succ, List.getElem?_cons_zero, Option.getD_some, List.setIfInBounds_toArray, List.set_cons_zero, List.set_cons_succ]; (try simp only [hd, cond_true, cond_false]); go_simp; (have h := hK () W hW); simp only [ovl, Array.getD_eq_getD_getElem?, List.getElem?_toArray, List.getElem?_cons_succ, List.getElem?_cons_zero, Option.getD_some, List.setIfInBounds_toArray, List.set_cons_zero, List.set_cons_succ] at h; (try simp (decide := true) only [upd, hd, cond_true, cond_false, Bool.true_or, Bool.false_or, decide_true, decide_false] at h); exact h)
    · (intro L x W hW hC hL hd K hK; (try simp [depsB, Region.binds] at hd); (try simp only [Nat.reduceAdd] at hK hL); simp only [ovl, Array.getD_eq_getD_getElem?, List.getElem?_toArray, List.getElem?_cons_succ, List.getElem?_cons_zero, Option.getD_some, List.setIfInBounds_toArray, List.set_cons_zero, List.set_cons_succ]; (try simp only [hd, cond_true, cond_false]); go_simp; (have h := hK () W hW); simp only [ovl, Array.getD_eq_getD_getElem?, List.getElem?_toArray, List.getElem?_cons_succ, List.getElem?_cons_zero, Option.getD_some, List.setIfInBounds_toArray, List.set_cons_zero, List.set_cons_succ] at h; (try simp (decide := true) only [upd, hd, cond_true, cond_false, Bool.true_or, Bool.false_or, decide_true, decide_false] at h); exact h)
    · intro L x W hW hC hL hd K hK; (try simp [depsB, Region.binds] at hd); (try simp only [Nat.reduceAdd] at hK hL)
      simp only [ovl, Array.getD_eq_getD_getElem?, List.getElem?_toArray, List.getElem?_cons_succ, List.getElem?_cons_zero, Option.getD_some, List.setIfInBounds_toArray, List.set_cons_zero, List.set_cons_succ]; (try simp only [hd, cond_true, cond_false])
      have hb := hW.blk (b := w1.heap.size) (t := 29) (cs := #[.int .u8 (by8 h 0), .int .u8 (by8 h 1), .int .u8 (by8 h 2), .int .u8 (by8 h 3), .int .u8 (by8 h 4), .int .u8 (by8 h 5), .int .u8 (by8 h 6), .int .u8 (by8 h 7), .int .i64 n, .slice au y.length cu]) (by simp)
      have hc := hb.cell
      have lt1 := hb.lt
      clear hb
      have hc0 := hc 0; have hc1 := hc 1; have hc2 := hc 2; have hc3 := hc 3; have hc4 := hc 4; have hc5 := hc 5; have hc6 := hc 6; have hc7 := hc 7; have hc8 := hc 8; have hc9 := hc 9
      go_simp
      (have h := hK () W hW); simp only [ovl, Array.getD_eq_getD_getElem?, List.getElem?_toArray, List.getElem?_cons_succ, List.getElem?_cons_zero, Option.getD_some, List.setIfInBounds_toArray, List.set_cons_zero, List.set_cons_succ] at h; (try simp (decide := true) only [upd, hd, cond_true, cond_false, Bool.true_or, Bool.false_or, decide_true, decide_false] at h); exact h
    · (intro L x W hW hC hL hd K hK; (try simp [depsB, Region.binds] at hd); (try simp only [Nat.reduceAdd] at hK hL); simp only [ovl, Array.getD_eq_getD_getElem?, List.getElem?_toArray, List.getElem?_cons_succ, List.getElem?_cons_zero, Option.getD_some, List.setIfInBounds_toArray, List.set_cons_zero, List.set_cons_succ]; (try simp only [hd, cond_true, cond_false]); (have lt1 := (hW.blk (List.mem_cons_self ..)).lt); go_simp; (have h := hK () W hW); simp only [ovl, Array.getD_eq_getD_getElem?, List.getElem?_toArray, List.getElem?_cons_succ, List.getElem?_cons_zero, Option.getD_some, List.setIfInBounds_toArray, List.set_cons_zero, List.set_cons_succ] at h; (try simp (decide := true) only [upd, hd, cond_true, cond_false, Bool.true_or, Bool.false_or, decide_true, decide_false] at h); exact h)
    · (intro L x W hW hC hL hd K hK; (try simp [depsB, Region.binds] at hd); (try simp only [Nat.reduceAdd] at hK hL); simp only [ovl, Array.getD_eq_getD_getElem?, List.getElem?_toArray, List.getElem?_cons_succ, List.getElem?_cons_zero, Option.getD_some, List.setIfInBounds_toArray, List.set_cons_zero, List.set_cons_succ]; (try simp only [hd, cond_true, cond_false]); (have lt1 := (hW.blk (List.mem_cons_self ..)).lt); go_simp; (have h := hK () W hW); simp only [ovl, Array.getD_eq_getD_getElem?, List.getElem?_toArray, List.getElem?_cons_succ, List.getElem?_cons_zero, Option.getD_some, List.setIfInBounds_toArray, List.set_cons_zero, List.set_cons_succ] at h; (try simp (decide := true) only [upd, hd, cond_true, cond_false, Bool.true_or, Bool.false_or, decide_true, decide_false] at h); exact h)
    · intro L x W hW hC hL hd K hK; (try simp [depsB, Region.binds] at hd); (try simp only [Nat.reduceAdd] at hK hL)
      (have h8 : L 8 = false := by cases hl : L 8 with | false => rfl | true => have hx := hC 8 _ rfl hl; simp [depsB, Region.binds, hL, hd] at hx); (replace hd := And.intro hd h8)
      simp only [hL, h8, cond_false] at hW
      simp only [ovl, Array.getD_eq_getD_getElem?, List.getElem?_toArray, List.getElem?_cons_succ, List.getElem?_cons_zero, Option.getD_some, List.setIfInBounds_toArray, List.set_cons_zero, List.set_cons_succ]; (try simp only [hd, cond_true, cond_false])
      have hb := hW.blk (List.mem_cons_self ..)
      have d10 := hb.cell 10
      have e10 := hb.frozen 10
      have lt1 := hb.lt
      clear hb
      have d10' : W.cell? ⟨p, 10, none⟩ = some (.bool G.noted) := d10
      clear d10
      go_simp
      have O5 := hW.set 10 (.bool true)
      rw [gcs_noted] at O5
      (have h := hK () _ (by simpa [upd, h8] using O5)); simp only [ovl, Array.getD_eq_getD_getElem?, List.getElem?_toArray, List.getElem?_cons_succ, List.getElem?_cons_zero, Option.getD_some, List.setIfInBounds_toArray, List.set_cons_zero, List.set_cons_succ] at h; (try simp (decide := true) only [upd, hd, cond_true, cond_false, Bool.true_or, Bool.false_or, decide_true, decide_false] at h); exact h
    · (intro L x W hW hC hL hd K hK; (try simp [depsB, Region.binds] at hd); (try simp only [Nat.reduceAdd] at hK hL); simp only [ovl, Array.getD_eq_getD_getElem?, List.getElem?_toArray, List.getElem?_cons_succ, List.getElem?_cons_zero, Option.getD_some, List.setIfInBounds_toArray, List.set_cons_zero, List.set_cons_succ]; (try simp only [hd, cond_true, cond_false]); (have lt1 := (hW.blk (List.mem_cons_self ..)).lt); go_simp; (have h := hK () W hW); simp only [ovl, Array.getD_eq_getD_getElem?, List.getElem?_toArray, List.getElem?_cons_succ, List.getElem?_cons_zero, Option.getD_some, List.setIfInBounds_toArray, List.set_cons_zero, List.set_cons_succ] at h; (try simp (decide := true) only [upd, hd, cond_true, cond_false, Bool.true_or, Bool.false_or, decide_true, decide_false] at h); exact h)
    · (intro L x W hW hC hL hd K hK; (try simp [depsB, Region.binds] at hd); (try simp only [Nat.reduceAdd] at hK hL); simp only [ovl, Array.getD_eq_getD_getElem?, List.getElem?_toArray, List.getElem?_cons_succ, List.getElem?_cons_zero, Option.getD_some, List.setIfInBounds_toArray, List.set_cons_zero, List.set_cons_succ]; (try simp only [hd, cond_true, cond_false]); (have lt1 := (hW.blk (List.mem_cons_self ..)).lt); go_simp; (have h := hK () W hW); simp only [ovl, Array.getD_eq_getD_getElem?, List.getElem?_toArray, List.getElem?_cons_succ, List.getElem?_cons_zero, Option.getD_some, List.setIfInBounds_toArray, List.set_cons_zero, List.set_cons_succ] at h; (try simp (decide := true) only [upd, hd, cond_true, cond_false, Bool.true_or, Bool.false_or, decide_true, decide_false] at h); exact h)
    · intro L x W hW hC hL hd K hK; (try simp [depsB, Region.binds] at hd); (try simp only [Nat.reduceAdd] at hK hL)
      have h5 : L 5 = true := by simp only [hd]
      simp only [hL, h5, cond_false, cond_true] at hW
      simp only [ovl, Array.getD_eq_getD_getElem?, List.getElem?_toArray, List.getElem?_cons_succ, List.getElem?_cons_zero, Option.getD_some, List.setIfInBounds_toArray, List.set_cons_zero, List.set_cons_succ]; (try simp only [hd, cond_true, cond_false])
      refine hW.storeAt 29 (.tmp 46) (.tmp 42) (by rfl) 11 (by rfl) #[.int .u8 (by8 h 0), .int .u8 (by8 h 1), .int .u8 (by8 h 2), .int .u8 (by8 h 3), .int .u8 (by8 h 4), .int .u8 (by8 h 5), .int .u8 (by8 h 6), .int .u8 (by8 h 7), .int .i64 n, .slice au y.length cu] (by rfl) (by kernel_rfl) (by rw [gcs_size]; simp) (by simp [Value.oneCell']) (fun W5 O5 => ?_)
      have O6 : Omw W5 w0 (⟨p, 132, gcs { G with noted := true, hint := h, num := n, box := y } (.slice au y.length cu)⟩ :: (⟨w1.heap.size, 29, #[.int .u8 (by8 h 0), .int .u8 (by8 h 1), .int .u8 (by8 h 2), .int .u8 (by8 h 3), .int .u8 (by8 h 4), .int .u8 (by8 h 5), .int .u8 (by8 h 6), .int .u8 (by8 h 7), .int .i64 n, .slice au y.length cu]⟩ :: (NB ++ (C ++ X)))) KK := by
        have e := gcs_newest { G with noted := true } bv h n (.slice au y.length cu) y
        unfold apc at e
        rw [e] at O5
        exact O5
      (have h := hK () W5 (by simpa [upd] using O6)); simp only [ovl, Array.getD_eq_getD_getElem?, List.getElem?_toArray, List.getElem?_cons_succ, List.getElem?_cons_zero, Option.getD_some, List.setIfInBounds_toArray, List.set_cons_zero, List.set_cons_succ] at h; (try simp (decide := true) only [upd, hd, cond_true, cond_false, Bool.true_or, Bool.false_or, decide_true, decide_false] at h); exact h
    intro x W9 hW9
    simp only [ovl, cond_true, Array.getD_eq_getD_getElem?, List.getElem?_toArray, List.getElem?_cons_succ, List.getElem?_cons_zero, Option.getD_some, List.setIfInBounds_toArray, List.set_cons_zero, List.set_cons_succ]
    simp only [cond_true] at hW9
    have HW9 := Lib.hid hW9
    clear hW9
    go_wp2
    go_ret
    have e : notedG G n l = { G with noted := true, hint := h, num := n, box := y } := by unfold notedG; rw [HH.out, HY.out]
    refine ⟨rfl, NB ++ [⟨w1.heap.size, 29, #[.int .u8 (by8 h 0), .int .u8 (by8 h 1), .int .u8 (by8 h 2), .int .u8 (by8 h 3), .int .u8 (by8 h 4), .int .u8 (by8 h 5), .int .u8 (by8 h 6), .int .u8 (by8 h 7), .int .i64 n, .slice au y.length cu]⟩], .slice au y.length cu, ?_, by rw [show (notedG G n l).box = y from HY.out]; exact HM.out.mono (fun z hz => by simp [hz])⟩
    rw [e]
    exact HW9.out.perm (perm_cnt fun x => by simp only [cnt_append, cnt_cons, cnt_nil] <;> omega)
  | false =>
    rw [hno] at c10
    go_enter Try.func29, Try.ntmps29
    go_wp2_with fail
    refine (isNumber_to n true HN.out _).mono ?_
    rintro e w' ⟨rfl, rfl⟩
    go_wp2_with fail
    refine (make_to G.nonce n _ l HN.out hl h HH.out y HY.out _ HV.out).mono ?_
    rintro e w1 ⟨u, rfl, hb1, hu⟩
    obtain ⟨NB, O1, M1⟩ := hu.foundM HO.out (Ext.of_below hb1)
    obtain ⟨au, cu, rfl⟩ := (M1 w0).slice
    have O2 := (O1.key #[.int .u8 (by8 h 0), .int .u8 (by8 h 1), .int .u8 (by8 h 2), .int .u8 (by8 h 3), .int .u8 (by8 h 4), .int .u8 (by8 h 5), .int .u8 (by8 h 6), .int .u8 (by8 h 7), .int .i64 n, .slice au y.length cu] 29 w1.heap.size rfl).perm (X' := ⟨p, 132, gcs G bv⟩ :: (⟨w1.heap.size, 29, #[.int .u8 (by8 h 0), .int .u8 (by8 h 1), .int .u8 (by8 h 2), .int .u8 (by8 h 3), .int .u8 (by8 h 4), .int .u8 (by8 h 5), .int .u8 (by8 h 6), .int .u8 (by8 h 7), .int .i64 n, .slice au y.length cu]⟩ :: (NB ++ (C ++ X)))) (perm_cnt fun x => by simp only [cnt_append, cnt_cons, cnt_nil] <;> omega)
    have HO2 := Lib.hid O2
    have HM := Lib.hid (M1 w0)
    clear hu hb1 O1 M1 O2 HO
    go_wp2_with fail
    refine wp_opq (fun W => Omw W w0 (⟨p, 132, gcs G bv⟩ :: (⟨w1.heap.size, 29, #[.int .u8 (by8 h 0), .int .u8 (by8 h 1), .int .u8 (by8 h 2), .int .u8 (by8 h 3), .int .u8 (by8 h 4), .int .u8 (by8 h 5), .int .u8 (by8 h 6), .int .u8 (by8 h 7), .int .i64 n, .slice au y.length cu]⟩ :: (NB ++ (C ++ X)))) KK) HO2.out ?_
    intro W2 O3
    clear HO2
    have HO3 := Lib.hid O3
    clear O3
    refine wp_region_ov (fun L (_ : Unit) => [(L 0, 40, ptr p), (L 1, 41, ptr p), (L 2, 42, .agg #[.int .u8 (by8 h 0), .int .u8 (by8 h 1), .int .u8 (by8 h 2), .int .u8 (by8 h 3), .int .u8 (by8 h 4), .int .u8 (by8 h 5), .int .u8 (by8 h 6), .int .u8 (by8 h 7), .int .i64 n, .slice au y.length cu]), (L 3, 43, ptr p), (L 4, 44, .pointer (some ⟨p, 10, none⟩)), (L 6, 45, ptr p), (L 7, 46, .pointer (some ⟨p, 11, none⟩))])
      (fun L _ W => Omw W w0 (⟨p, 132, bif L 8 then gcs { G with noted := true, hint := h, num := n, box := y } (.slice au y.length cu) else bif L 5 then gcs { G with noted := true } bv else gcs G bv⟩ :: (⟨w1.heap.size, 29, #[.int .u8 (by8 h 0), .int .u8 (by8 h 1), .int .u8 (by8 h 2), .int .u8 (by8 h 3), .int .u8 (by8 h 4), .int .u8 (by8 h 5), .int .u8 (by8 h 6), .int .u8 (by8 h 7), .int .i64 n, .slice au y.length cu]⟩ :: (NB ++ (C ++ X)))) KK) () (by kernel_rfl) (by kernel_rfl) (by rfl) HO3.out.drew ?_ ⟨?_, ?_, ?_, ?_, ?_, ?_, ?_, ?_, ?_, trivial⟩
    rotate_left
    · (intro L x W hW hC hL hd K hK; (try simp [depsB, Region.binds] at hd); (try simp only [Nat.reduceAdd] at hK hL); simp only [ovl, Array.getD_eq_getD_getElem?, List.getElem?_toArray, List.getElem?_cons_succ, List.getElem?_cons_zero, Option.getD_some, List.setIfInBounds_toArray, List.set_cons_zero, List.set_cons_succ]; (try simp only [hd, cond_true, cond_false]); go_simp; (have h := hK () W hW); simp only [ovl, Array.getD_eq_getD_getElem?, List.getElem?_toArray, List.getElem?_cons_succ, List.getElem?_cons_zero, Option.getD_some, List.setIfInBounds_toArray, List.set_cons_zero, List.set_cons_succ] at h; (try simp (decide := true) only [upd, hd, cond_true, cond_false, Bool.true_or, Bool.false_or, decide_true, decide_false] at h); exact h)
    · (intro L x W hW hC hL hd K hK; (try simp [depsB, Region.binds] at hd); (try simp only [Nat.reduceAdd] at hK hL); simp only [ovl, Array.getD_eq_getD_getElem?, List.getElem?_toArray, List.getElem?_cons_succ, List.getElem?_cons_zero, Option.getD_some, List.setIfInBounds_toArray, List.set_cons_zero, List.set_cons_succ]; (try simp only [hd, cond_true, cond_false]); go_simp; (have h := hK () W hW); simp only [ovl, Array.getD_eq_getD_getElem?, List.getElem?_toArray, List.getElem?_cons_succ, List.getElem?_cons_zero, Option.getD_some, List.setIfInBounds_toArray, List.set_cons_zero, List.set_cons_succ] at h; (try simp (decide := true) only [upd, hd, cond_true, cond_false, Bool.true_or, Bool.false_or, decide_true, decide_false] at h); exact h)
    · intro L x W hW hC hL hd K hK; (try simp [depsB, Region.binds] at hd); (try simp only [Nat.reduceAdd] at hK hL)
      simp only [ovl, Array.getD_eq_getD_getElem?, List.getElem?_toArray, List.getElem?_cons_succ, List.getElem?_cons_zero, Option.getD_some, List.setIfInBounds_toArray, List.set_cons_zero, List.set_cons_succ]; (try simp only [hd, cond_true, cond_false])
      have hb := hW.blk (b := w1.heap.size) (t := 29) (cs := #[.int .u8 (by8 h 0), .int .u8 (by8 h 1), .int .u8 (by8 h 2), .int .u8 (by8 h 3), .int .u8 (by8 h 4), .int .u8 (by8 h 5), .int .u8 (by8 h 6), .int .u8 (by8 h 7), .int .i64 n, .slice au y.length cu]) (by simp)
      have hc := hb.cell
      have lt1 := hb.lt
      clear hb
      have hc0 := hc 0; have hc1 := hc 1; have hc2 := hc 2; have hc3 := hc 3; have hc4 := hc 4; have hc5 := hc 5; have hc6 := hc 6; have hc7 := hc 7; have hc8 := hc 8; have hc9 := hc 9
      go_simp
      (have h := hK () W hW); simp only [ovl, Array.getD_eq_getD_getElem?, List.getElem?_toArray, List.getElem?_cons_succ, List.getElem?_cons_zero, Option.getD_some, List.setIfInBounds_toArray, List.set_cons_zero, List.set_cons_succ] at h; (try simp (decide := true) only [upd, hd, cond_true, cond_false, Bool.true_or, Bool.false_or, decide_true, decide_false] at h); exact h
    · (intro L x W hW hC hL hd K hK; (try simp [depsB, Region.binds] at hd); (try simp only [Nat.reduceAdd] at hK hL); simp only [ovl, Array.getD_eq_getD_getElem?, List.getElem?_toArray, List.getElem?_cons_succ, List.getElem?_cons_zero, Option.getD_some, List.setIfInBounds_toArray, List.set_cons_zero, List.set_cons_succ]; (try simp only [hd, cond_true, cond_false]); (have lt1 := (hW.blk (List.mem_cons_self ..)).lt); go_simp; (have h := hK () W hW); simp only [ovl, Array.getD_eq_getD_getElem?, List.getElem?_toArray, List.getElem?_cons_succ, List.getElem?_cons_zero, Option.getD_some, List.setIfInBounds_toArray, List.set_cons_zero, List.set_cons_succ] at h; (try simp (decide := true) only [upd, hd, cond_true, cond_false, Bool.true_or, Bool.false_or, decide_true, decide_false] at h); exact h)
    · (intro L x W hW hC hL hd K hK; (try simp [depsB, Region.binds] at hd); (try simp only [Nat.reduceAdd] at hK hL); simp only [ovl, Array.getD_eq_getD_getElem?, List.getElem?_toArray, List.getElem?_cons_succ, List.getElem?_cons_zero, Option.getD_some, List.setIfInBounds_toArray, List.set_cons_zero, List.set_cons_succ]; (try simp only [hd, cond_true, cond_false]); (have lt1 := (hW.blk (List.mem_cons_self ..)).lt); go_simp; (have h := hK () W hW); simp only [ovl, Array.getD_eq_getD_getElem?, List.getElem?_toArray, List.getElem?_cons_succ, List.getElem?_cons_zero, Option.getD_some, List.setIfInBounds_toArray, List.set_cons_zero, List.set_cons_succ] at h; (try simp (decide := true) only [upd, hd, cond_true, cond_false, Bool.true_or, Bool.false_or, decide_true, decide_false] at h); exact h)
    · intro L x W hW hC hL hd K hK; (try simp [depsB, Region.binds] at hd); (try simp only [Nat.reduceAdd] at hK hL)
      (have h8 : L 8 = false := by cases hl : L 8 with | false => rfl | true => have hx := hC 8 _ rfl hl; simp [depsB, Region.binds, hL, hd] at hx); (replace hd := And.intro hd h8)
      simp only [hL, h8, cond_false] at hW
      simp only [ovl, Array.getD_eq_getD_getElem?, List.getElem?_toArray, List.getElem?_cons_succ, List.getElem?_cons_zero, Option.getD_some, List.setIfInBounds_toArray, List.set_cons_zero, List.set_cons_succ]; (try simp only [hd, cond_true, cond_false])
      have hb := hW.blk (List.mem_cons_self ..)
      have d10 := hb.cell 10
      have e10 := hb.frozen 10
      have lt1 := hb.lt
      clear hb
      have d10' : W.cell? ⟨p, 10, none⟩ = some (.bool G.noted) := d10
      clear d10
      go_simp
      have O5 := hW.set 10 (.bool true)
      rw [gcs_noted] at O5
      (have h := hK () _ (by simpa [upd, h8] using O5)); simp only [ovl, Array.getD_eq_getD_getElem?, List.getElem?_toArray, List.getElem?_cons_succ, List.getElem?_cons_zero, Option.getD_some, List.setIfInBounds_toArray, List.set_cons_zero, List.set_cons_succ] at h; (try simp (decide := true) only [upd, hd, cond_true, cond_false, Bool.true_or, Bool.false_or, decide_true, decide_false] at h); exact h
    · (intro L x W hW hC hL hd K hK; (try simp [depsB, Region.binds] at hd); (try simp only [Nat.reduceAdd] at hK hL); simp only [ovl, Array.getD_eq_getD_getElem?, List.getElem?_toArray, List.getElem?_cons_succ, List.getElem?_cons_zero, Option.getD_some, List.setIfInBounds_toArray, List.set_cons_zero, List.set_cons_succ]; (try simp only [hd, cond_true, cond_false]); (have lt1 := (hW.blk (List.mem_cons_self ..)).lt); go_simp; (have h := hK () W hW); simp only [ovl, Array.getD_eq_getD_getElem?, List.getElem?_toArray, List.getElem?_cons_succ, List.getElem?_cons_zero, Option.getD_some, List.setIfInBounds_toArray, List.set_cons_zero, List.set_cons_succ] at h; (try simp (decide := true) only [upd, hd, cond_true, cond_false, Bool.true_or, Bool.false_or, decide_true, decide_false] at h); exact h)
    · (intro L x W hW hC hL hd K hK; (try simp [depsB, Region.binds] at hd); (try simp only [Nat.reduceAdd] at hK hL); simp only [ovl, Array.getD_eq_getD_getElem?, List.getElem?_toArray, List.getElem?_cons_succ, List.getElem?_cons_zero, Option.getD_some, List.setIfInBounds_toArray, List.set_cons_zero, List.set_cons_succ]; (try simp only [hd, cond_true, cond_false]); (have lt1 := (hW.blk (List.mem_cons_self ..)).lt); go_simp; (have h := hK () W hW); simp only [ovl, Array.getD_eq_getD_getElem?, List.getElem?_toArray, List.getElem?_cons_succ, List.getElem?_cons_zero, Option.getD_some, List.setIfInBounds_toArray, List.set_cons_zero, List.set_cons_succ] at h; (try simp (decide := true) only [upd, hd, cond_true, cond_false, Bool.true_or, Bool.false_or, decide_true, decide_false] at h); exact h)
    · intro L x W hW hC hL hd K hK; (try simp [depsB, Region.binds] at hd); (try simp only [Nat.reduceAdd] at hK hL)
      have h5 : L 5 = true := by simp only [hd]
      simp only [hL, h5, cond_false, cond_true] at hW
      simp only [ovl, Array.getD_eq_getD_getElem?, List.getElem?_toArray, List.getElem?_cons_succ, List.getElem?_cons_zero, Option.getD_some, List.setIfInBounds_toArray, List.set_cons_zero, List.set_cons_succ]; (try simp only [hd, cond_true, cond_false])
      refine hW.storeAt 29 (.tmp 46) (.tmp 42) (by rfl) 11 (by rfl) #[.int .u8 (by8 h 0), .int .u8 (by8 h 1), .int .u8 (by8 h 2), .int .u8 (by8 h 3), .int .u8 (by8 h 4), .int .u8 (by8 h 5), .int .u8 (by8 h 6), .int .u8 (by8 h 7), .int .i64 n, .slice au y.length cu] (by rfl) (by kernel_rfl) (by rw [gcs_size]; simp) (by simp [Value.oneCell']) (fun W5 O5 => ?_)
      have O6 : Omw W5 w0 (⟨p, 132, gcs { G with noted := true, hint := h, num := n, box := y } (.slice au y.length cu)⟩ :: (⟨w1.heap.size, 29, #[.int .u8 (by8 h 0), .int .u8 (by8 h 1), .int .u8 (by8 h 2), .int .u8 (by8 h 3), .int .u8 (by8 h 4), .int .u8 (by8 h 5), .int .u8 (by8 h 6), .int .u8 (by8 h 7), .int .i64 n, .slice au y.length cu]⟩ :: (NB ++ (C ++ X)))) KK := by
        have e := gcs_newest { G with noted := true } bv h n (.slice au y.length cu) y
        unfold apc at e
        rw [e] at O5
        exact O5
      (have h := hK () W5 (by simpa [upd] using O6)); simp only [ovl, Array.getD_eq_getD_getElem?, List.getElem?_toArray, List.getElem?_cons_succ, List.getElem?_cons_zero, Option.getD_some, List.setIfInBounds_toArray, List.set_cons_zero, List.set_cons_succ] at h; (try simp (decide := true) only [upd, hd, cond_true, cond_false, Bool.true_or, Bool.false_or, decide_true, decide_false] at h); exact h
    intro x W9 hW9
    simp only [ovl, cond_true, Array.getD_eq_getD_getElem?, List.getElem?_toArray, List.getElem?_cons_succ, List.getElem?_cons_zero, Option.getD_some, List.setIfInBounds_toArray, List.set_cons_zero, List.set_cons_succ]
    simp only [cond_true] at hW9
    have HW9 := Lib.hid hW9
    clear hW9
    go_wp2
    go_ret
    have e : notedG G n l = { G with noted := true, hint := h, num := n, box := y } := by unfold notedG; rw [HH.out, HY.out]
    refine ⟨rfl, NB ++ [⟨w1.heap.size, 29, #[.int .u8 (by8 h 0), .int .u8 (by8 h 1), .int .u8 (by8 h 2), .int .u8 (by8 h 3), .int .u8 (by8 h 4), .int .u8 (by8 h 5), .int .u8 (by8 h 6), .int .u8 (by8 h 7), .int .i64 n, .slice au y.length cu]⟩], .slice au y.length cu, ?_, by rw [show (notedG G n l).box = y from HY.out]; exact HM.out.mono (fun z hz => by simp [hz])⟩
    rw [e]
    exact HW9.out.perm (perm_cnt fun x => by simp only [cnt_append, cnt_cons, cnt_nil] <;> omega)

set_option maxRecDepth 100000 in
set_option maxHeartbeats 2000000 in
theorem ackM_yes (p : Nat) (G : GS) (k : Nat) (n : Int) (w w0 : World) (C X : List Blk) (K : List (Nat × Obj)) (h : Gum w w0 C X K p G) (ht : G.towers ≤ 16) (hk : k < G.towers) (hno : G.noted = true) (h2 : n ≤ G.num) (h3 : G.said k < n) :
    Calls Try.prog 30 #[ptr p, .int .i64 k, .int .i64 n] w fun e w' => e = .returned (.int .i64 0) ∧ Gum w' w0 C X K p (G.say k n) := by
  obtain ⟨bv, O, m⟩ := h
  have HB := O.blk (List.mem_cons_self ..)
  have lt := HB.lt
  have HO := Lib.hid O
  have Hm := Lib.hid m
  clear O m
  have c8 : w.cell? ⟨p, 8, none⟩ = some (.int .i64 G.towers) := HB.cell 8
  have c10 : w.cell? ⟨p, 10, none⟩ = some (.bool G.noted) := HB.cell 10
  have c19 : w.cell? ⟨p, 19, none⟩ = some (.int .i64 G.num) := HB.cell 19
  rw [hno] at c10
  have hd0 : decide ((k : Int) < 0) = false := decide_eq_false (by omega)
  have hd1 : decide ((G.towers : Int) ≤ (k : Int)) = false := decide_eq_false (by omega)
  have hd2 : decide (G.num < n) = false := decide_eq_false (by omega)
  have hd : decide (n ≤ G.said k) = false := decide_eq_false (by omega)
  have hk16 : k < 16 := by omega
  have cs := HB.cell (21 + k)
  rw [gcs_said _ _ _ hk16] at cs
  have fs := HB.frozen (21 + k)
  clear HB
  go_enter Try.func30, Try.ntmps30
  go_wp2
  go_ret
  have O2 := HO.out.set (21 + k) (.int .i64 n)
  rw [gcs_say _ _ _ hk16] at O2
  exact ⟨rfl, bv, O2, Hm.out⟩

/-! ### Many towers -/
/-- Towers at their pointers; blocks, maps. -/
def Twl (w0 : World) (X : List Blk) : List (Nat × TWS) → List Blk → List (Nat × Obj) → Prop
  | [], B, K => B = [] ∧ K = []
  | t :: ts, B, K => ∃ b k B' K', B = b ++ B' ∧ K = k :: K' ∧ TwP w0 X t.1 t.2 b k ∧ Twl w0 X ts B' K'
theorem Twl.mono {w0 : World} {X X' : List Blk} (hX : ∀ x ∈ X, x ∈ X') : ∀ {ts : List (Nat × TWS)} {B : List Blk} {K : List (Nat × Obj)}, Twl w0 X ts B K → Twl w0 X' ts B K
  | [], _, _, h => h
  | _ :: _, _, _, ⟨b, k, B', K', h1, h2, h3, h4⟩ => ⟨b, k, B', K', h1, h2, h3.mono hX, h4.mono hX⟩
theorem Twl.snoc {w0 : World} {X : List Blk} {q : Nat} {T : TWS} {b : List Blk} {k : Nat × Obj} (h : TwP w0 X q T b k) : ∀ {ts : List (Nat × TWS)} {B : List Blk} {K : List (Nat × Obj)}, Twl w0 X ts B K → Twl w0 X (ts ++ [(q, T)]) (B ++ b) (K ++ [k])
  | [], _, _, ⟨h1, h2⟩ => ⟨b, k, [], [], by rw [h1]; simp, by rw [h2]; rfl, h, rfl, rfl⟩
  | t :: ts, _, _, ⟨b0, k0, B', K', h1, h2, h3, h4⟩ => ⟨b0, k0, B' ++ b, K' ++ [k], by rw [h1, List.append_assoc], by rw [h2]; rfl, h3, h4.snoc h⟩
theorem Twl.pick {w0 : World} {X : List Blk} {q : Nat} {T : TWS} : ∀ {ts : List (Nat × TWS)} {B : List Blk} {K : List (Nat × Obj)} {i : Nat}, Twl w0 X ts B K → ts[i]? = some (q, T) →
    ∃ b k B' K', B.Perm (b ++ B') ∧ K.Perm (k :: K') ∧ TwP w0 X q T b k ∧ ∀ X' T' b' k', (∀ x ∈ X, x ∈ X') → TwP w0 X' q T' b' k' → ∃ B2 K2, Twl w0 X' (ts.set i (q, T')) B2 K2 ∧ B2.Perm (b' ++ B') ∧ K2.Perm (k' :: K')
  | [], _, _, _, _, h => by simp at h
  | t :: ts, _, _, 0, ⟨b, k, B', K', h1, h2, h3, h4⟩, h => by
    simp at h
    subst h
    refine ⟨b, k, B', K', by rw [h1], by rw [h2], h3, fun X' T' b' k' hX h' => ⟨b' ++ B', k' :: K', ⟨b', k', B', K', rfl, rfl, h', h4.mono hX⟩, .refl _, .refl _⟩⟩
  | t :: ts, _, _, i + 1, ⟨b0, k0, B0, K0, h1, h2, h3, h4⟩, h => by
    obtain ⟨b, k, B', K', p1, p2, p3, p4⟩ := h4.pick (i := i) (by simpa using h)
    refine ⟨b, k, b0 ++ B', k0 :: K', ?_, ?_, p3, fun X' T' b' k' hX h' => ?_⟩
    · rw [h1]
      exact (p1.append_left b0).trans (perm_cnt fun x => by simp only [cnt_append, cnt_cons, cnt_nil] <;> omega)
    · rw [h2]
      exact (p2.cons k0).trans (List.Perm.swap _ _ _)
    · obtain ⟨B2, K2, q1, q2, q3⟩ := p4 X' T' b' k' hX h'
      exact ⟨b0 ++ B2, k0 :: K2, ⟨b0, k0, B2, K2, rfl, rfl, h3.mono hX, q1⟩, (q2.append_left b0).trans (perm_cnt fun x => by simp only [cnt_append, cnt_cons, cnt_nil] <;> omega), (q3.cons k0).trans (List.Perm.swap _ _ _)⟩
/-- A guard at p, towers ts; boxes lie in X; beside blocks C. -/
def KS (w w0 : World) (C X : List Blk) (p : Nat) (G : GS) (ts : List (Nat × TWS)) : Prop := ∃ bv B K, Omw w w0 (⟨p, 132, gcs G bv⟩ :: (B ++ (C ++ X))) K ∧ Twl w0 X ts B K ∧ Msg w0 X bv G.box
section
variable {w w0 w' : World} {C C' X : List Blk} {p : Nat} {G : GS} {ts : List (Nat × TWS)}
theorem KS.of_below (h : KS w w0 C X p G ts) (hb : Below w.heap.size w w') : KS w' w0 C X p G ts := by
  obtain ⟨bv, B, K, O, h1, h2⟩ := h; exact ⟨bv, B, K, O.of_below hb, h1, h2⟩
theorem KS.below (h : KS w w0 C X p G ts) : Below w0.heap.size w0 w := by
  obtain ⟨bv, B, K, O, h1, h2⟩ := h; exact O.below
theorem KS.drew (h : KS w w0 C X p G ts) : KS w.drew w0 C X p G ts := h.of_below (Below.refl _ _).drew
theorem KS.alloc (h : KS w w0 C X p G ts) (o : Obj) : KS (w.alloc o) w0 C X p G ts := h.of_below (balloc (Below.refl _ _) o)
theorem KS.plus (h : KS w w0 C X p G ts) (g : Array Obj) (d : Nat) : KS (Go.Proofs.Ytghaiplhakeahaa.plus w g d) w0 C X p G ts := h.of_below (bplus (Below.refl _ _) g d)
theorem KS.has (h : KS w w0 C X p G ts) {b : Nat} {t : TypeId} {cs : Array Value} (hx : (⟨b, t, cs⟩ : Blk) ∈ C) : HasBlk w b t cs := by
  obtain ⟨bv, B, K, O, h1, h2⟩ := h; exact O.blk (by simp [hx])
theorem KS.park (h : KS w w0 C X p G ts) {cs : Array Value} {b : Nat} {t : TypeId} (hb : b = w.heap.size) : KS (w.alloc (.cells cs t)) w0 (⟨b, t, cs⟩ :: C) X p G ts := by
  obtain ⟨bv, B, K, O, h1, h2⟩ := h; exact ⟨bv, B, K, (O.key cs t b hb).perm (perm_cnt fun x => by simp only [cnt_append, cnt_cons, cnt_nil] <;> omega), h1, h2⟩
theorem KS.permC (h : KS w w0 C X p G ts) (hp : C.Perm C') : KS w w0 C' X p G ts := by
  obtain ⟨bv, B, K, O, h1, h2⟩ := h; exact ⟨bv, B, K, O.perm (((hp.append_right X).append_left B).cons _), h1, h2⟩
theorem KS.dropC {D : List Blk} (h : KS w w0 (D ++ C) X p G ts) : KS w w0 C X p G ts := by
  obtain ⟨bv, B, K, O, h1, h2⟩ := h
  exact ⟨bv, B, K, (O.perm (X' := D ++ (⟨p, 132, gcs G bv⟩ :: (B ++ (C ++ X)))) (perm_cnt fun x => by simp only [cnt_append, cnt_cons, cnt_nil] <;> omega)).drop, h1, h2⟩
theorem KS.found {W : World} {N : List Blk} (h : KS W w0 C X p G ts) (hx : Ext W w) (hp : N.Pairwise (fun x y => x.no ≠ y.no)) (hb : ∀ x ∈ N, W.heap.size ≤ x.no ∧ HasBlk w x.no x.ty x.cs) : KS w w0 (N ++ C) X p G ts := by
  obtain ⟨bv, B, K, O, h1, h2⟩ := h
  exact ⟨bv, B, K, (O.found hx hp hb).perm (perm_cnt fun x => by simp only [cnt_append, cnt_cons, cnt_nil] <;> omega), h1, h2⟩
theorem KS.gum (h : KS w w0 C X p G ts) : ∃ B K, Twl w0 X ts B K ∧ Gum w w0 (B ++ C) X K p G := by
  obtain ⟨bv, B, K, O, h1, h2⟩ := h; exact ⟨B, K, h1, bv, O.perm (perm_cnt fun x => by simp only [cnt_append, cnt_cons, cnt_nil] <;> omega), h2⟩
theorem KS.gu (h : KS w w0 C X p G ts) : ∃ B, Gu w w0 (B ++ C) X p G := by
  obtain ⟨B, K, h1, h2⟩ := h.gum; exact ⟨B, h2.gu⟩
theorem KS.pick {i q : Nat} {T : TWS} (h : KS w w0 C X p G ts) (hi : ts[i]? = some (q, T)) : ∃ D K, Tw w w0 (D ++ C) X K q T ∧ ∀ w' N T', Tw w' w0 (D ++ C) (N ++ X) K q T' → KS w' w0 C (N ++ X) p G (ts.set i (q, T')) := by
  obtain ⟨bv, B, K, O, h1, h2⟩ := h
  obtain ⟨b, k, B', K', p1, p2, p3, p4⟩ := h1.pick hi
  refine ⟨⟨p, 132, gcs G bv⟩ :: B', K', ⟨b, k, ?_, p3⟩, fun w' N T' h' => ?_⟩
  · exact (O.permK p2).perm ((((p1.append_right (C ++ X))).cons _).trans (perm_cnt fun x => by simp only [cnt_append, cnt_cons, cnt_nil] <;> omega))
  · obtain ⟨b', k', O', h3⟩ := h'
    obtain ⟨B2, K2, q1, q2, q3⟩ := p4 (N ++ X) T' b' k' (fun x hx => by simp [hx]) h3
    exact ⟨bv, B2, K2, (O'.permK q3.symm).perm ((List.Perm.trans (perm_cnt fun x => by simp only [cnt_append, cnt_cons, cnt_nil] <;> omega) ((q2.symm.append_right (C ++ (N ++ X))).cons _))), q1, h2.mono fun x hx => by simp [hx]⟩
end
theorem kdue_to {w w0 : World} {C X : List Blk} {p : Nat} {G : GS} {ts : List (Nat × TWS)} (h : KS w w0 C X p G ts) (ht : G.towers ≤ 16) (l : List Int) (hl : dueL G = l) :
    Calls Try.prog 32 #[ptr p] w fun e w' => ∃ u, e = .returned u ∧ Below w.heap.size w w' ∧ Own 3 1 w.heap.size l.length (ics l) u w' := by
  obtain ⟨B, hg⟩ := h.gu
  exact due_to p G w w0 _ X hg ht l hl
theorem ksafe_to {w w0 : World} {C X : List Blk} {p : Nat} {G : GS} {ts : List (Nat × TWS)} (h : KS w w0 C X p G ts) (ht : G.towers ≤ 16) (b : Bool) (hb : safeB G = b) :
    Calls Try.prog 33 #[ptr p] w fun e w' => e = .returned (.bool b) ∧ Below w.heap.size w w' := by
  obtain ⟨B, hg⟩ := h.gu
  exact safe_to p G w w0 _ X hg ht b hb
theorem knewest_to {w w0 : World} {C X : List Blk} {p : Nat} {G : GS} {ts : List (Nat × TWS)} (h : KS w w0 C X p G ts) (hn : G.noted = true) (hl : G.box.length ≤ 1000000) :
    Calls Try.prog 42 #[ptr p] w fun e w' => ∃ u, e = .returned (.tuple #[.agg #[.int .u8 (by8 G.hint 0), .int .u8 (by8 G.hint 1), .int .u8 (by8 G.hint 2), .int .u8 (by8 G.hint 3), .int .u8 (by8 G.hint 4), .int .u8 (by8 G.hint 5), .int .u8 (by8 G.hint 6), .int .u8 (by8 G.hint 7), .int .i64 G.num, u], .bool true]) ∧ Below w.heap.size w w' ∧ Clo 5 w.heap.size G.box u w' := by
  obtain ⟨B, hg⟩ := h.gu
  exact newest_yes p G w w0 _ X hg hn hl
theorem knote_to {w w0 : World} {C X : List Blk} {p : Nat} {G : GS} {ts : List (Nat × TWS)} (h : KS w w0 C X p G ts) (n : Int) (v : Value) (l : List UInt8) (hn : isNum n = true) (h2 : ¬(G.noted = true ∧ n ≤ G.num)) (hl : l.length ≤ 32768) (hv : BSl w v l) (G' : GS) (hG : notedG G n l = G') :
    Calls Try.prog 29 #[ptr p, .int .i64 n, v] w fun e w' => e = .returned (.int .i64 0) ∧ ∃ N, KS w' w0 C (N ++ X) p G' ts := by
  subst hG
  obtain ⟨B, K, h1, h3⟩ := h.gum
  refine (noteM_yes p G n v l hn w w0 _ X K h3 h2 hl hv).mono ?_
  rintro e w' ⟨rfl, N, bv, O, m⟩
  exact ⟨rfl, N, bv, B, K, O.perm (perm_cnt fun x => by simp only [cnt_append, cnt_cons, cnt_nil] <;> omega), h1.mono fun x hx => by simp [hx], m⟩
theorem kack_to {w w0 : World} {C X : List Blk} {p : Nat} {G : GS} {ts : List (Nat × TWS)} (h : KS w w0 C X p G ts) (k : Nat) (n : Int) (ht : G.towers ≤ 16) (hk : k < G.towers) (hno : G.noted = true) (h2 : n ≤ G.num) (h3 : G.said k < n) :
    Calls Try.prog 30 #[ptr p, .int .i64 k, .int .i64 n] w fun e w' => e = .returned (.int .i64 0) ∧ KS w' w0 C X p (G.say k n) ts := by
  obtain ⟨B, K, h1, h4⟩ := h.gum
  refine (ackM_yes p G k n w w0 _ X K h4 ht hk hno h2 h3).mono ?_
  rintro e w' ⟨rfl, bv, O, m⟩
  exact ⟨rfl, bv, B, K, O.perm (perm_cnt fun x => by simp only [cnt_append, cnt_cons, cnt_nil] <;> omega), h1, m⟩
theorem ktake_to {w w0 : World} {C X : List Blk} {p : Nat} {G : GS} {ts : List (Nat × TWS)} {i q : Nat} {T : TWS} (H : KS w w0 C X p G ts) (hi : ts[i]? = some (q, T)) (hT : TOk T) (h : BitVec 64) (n : Int) (v : Value) (l : List UInt8) (hv : BSl w v l) (E : Nat) (hE : takeE T ⟨h, n, l⟩ = E) (T' : TWS) (hT' : takeT T ⟨h, n, l⟩ = T') :
    Calls Try.prog 21 #[tptr q, .agg #[.int .u8 (by8 h 0), .int .u8 (by8 h 1), .int .u8 (by8 h 2), .int .u8 (by8 h 3), .int .u8 (by8 h 4), .int .u8 (by8 h 5), .int .u8 (by8 h 6), .int .u8 (by8 h 7), .int .i64 n, v]] w fun e w' => e = .returned (.int .i64 E) ∧ ∃ N, KS w' w0 C (N ++ X) p G (ts.set i (q, T')) := by
  obtain ⟨D, K, h1, h2⟩ := H.pick hi
  refine (take_to q T hT h n v l w w0 _ X _ h1 hv E hE T' hT').mono ?_
  rintro e w' ⟨rfl, N, h'⟩
  exact ⟨rfl, N, h2 _ _ _ h'⟩
theorem kdrop_to {w w0 : World} {C X : List Blk} {p : Nat} {G : GS} {ts : List (Nat × TWS)} {i q : Nat} {T : TWS} (H : KS w w0 C X p G ts) (hi : ts[i]? = some (q, T)) (hT : TOk T) (x : BitVec 64) (b : Bool) (hb : hadT T x = b) (T' : TWS) (hT' : dropT T x = T') :
    Calls Try.prog 24 #[tptr q, .agg #[.int .u8 (by8 x 0), .int .u8 (by8 x 1), .int .u8 (by8 x 2), .int .u8 (by8 x 3), .int .u8 (by8 x 4), .int .u8 (by8 x 5), .int .u8 (by8 x 6), .int .u8 (by8 x 7)]] w fun e w' => e = .returned (.bool b) ∧ KS w' w0 C X p G (ts.set i (q, T')) := by
  obtain ⟨D, K, h1, h2⟩ := H.pick hi
  refine (drop_to q T hT x w w0 _ X _ h1 b hb T' hT').mono ?_
  rintro e w' ⟨rfl, h'⟩
  exact ⟨rfl, h2 w' [] T' h'⟩
theorem ksee_to {w w0 : World} {C X : List Blk} {p : Nat} {G : GS} {ts : List (Nat × TWS)} {i q : Nat} {T : TWS} (H : KS w w0 C X p G ts) (hi : ts[i]? = some (q, T)) (hT : TOk T) (x : BitVec 64) (base : Int) (l : List UInt8) (b : Bool) (hE : seeT T x base = (l, b)) :
    Calls Try.prog 22 #[tptr q, .agg #[.int .u8 (by8 x 0), .int .u8 (by8 x 1), .int .u8 (by8 x 2), .int .u8 (by8 x 3), .int .u8 (by8 x 4), .int .u8 (by8 x 5), .int .u8 (by8 x 6), .int .u8 (by8 x 7)], .int .i64 base] w fun e w' => ∃ u, e = .returned (.tuple #[u, .bool b]) ∧ Below w.heap.size w w' ∧ Ans w.heap.size l u w' := by
  obtain ⟨D, K, h1, h2⟩ := H.pick hi
  exact see_to q T hT x base w w0 _ X _ h1 l b hE

end Go.Proofs.Ytghaiplhakeahaa
