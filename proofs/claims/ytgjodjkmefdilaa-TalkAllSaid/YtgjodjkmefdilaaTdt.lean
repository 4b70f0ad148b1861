/- talk: the law's do: Hear and Got. -/
import Derived.Test.YtgjodjkmefdilaaTds
namespace Go.Proofs.Ytgjodjkmefdilaa
set_option linter.unusedSimpArgs false
set_option linter.unusedVariables false
open Go.RowKit

section
variable {w w0 : World} {C X : List Blk} {p : Nat} {T T' : TS} {R R' : RS} {a1 a2 : Option Addr} {c1 c2 : Nat}

set_option maxRecDepth 100000 in
set_option maxHeartbeats 8000000 in
theorem do_hear (kd nw fi he : Int) (hk : cutN kd 4 = 2) (am as_ : Option Addr) (cm cs : Nat) (m : List UInt8) (ms : List (List UInt8)) (h : S1 w w0 C X p T) (hM : RM w0 X R (.slice a1 R.said.length c1) (.slice a2 R.took.length c2)) (hR : RW 1000000 R) (hW : TW 1000000 T) (hr : Rel T R) (hm : Msg w0 X (.slice am m.length cm) m) (hms : MsgL w0 X (.slice as_ ms.length cs) ms) (hmsn : ms.length ≤ 9223372036854775807) (hfi : fi ≤ 9223372036854775807) (ns : List (List UInt8)) (hns : ms.take 70 = ns) (hR' : rHearD R fi ns he = R') (hT' : hearD T fi ns he = T') :
    Calls Try.prog 14 #[ptr p, .agg #[.int .i64 R.most, .int .i64 R.again, .slice a1 R.said.length c1, .int .i64 R.heard, .int .i64 R.out, .slice a2 R.took.length c2, .int .i64 R.gave, .int .i64 R.last, .bool R.went, .bool R.owes], .agg #[.int .i64 kd, .slice am m.length cm, .int .i64 nw, .int .i64 fi, .slice as_ ms.length cs, .int .i64 he]] w fun e w' => ∃ vs' vt' X', e = .returned (.tuple #[.agg (rcs R' vs' vt'), .bool true]) ∧ Sub X X' ∧ S1 w' w0 C X' p T' ∧ RM w0 X' R' vs' vt' := by
  have ez := cut_eq kd 4 (by omega) (by omega)
  rw [hk] at ez
  have ez' : wrap64 ((IntKind.u64.wrap kd).tmod 4) = (2 : Int) := ez
  have HS := Lib.hid (((h.key #[.int .i64 R.most, .int .i64 R.again, .slice a1 R.said.length c1, .int .i64 R.heard, .int .i64 R.out, .slice a2 R.took.length c2, .int .i64 R.gave, .int .i64 R.last, .bool R.went, .bool R.owes] 27 w.heap.size rfl).key #[.int .i64 kd, .slice am m.length cm, .int .i64 nw, .int .i64 fi, .slice as_ ms.length cs, .int .i64 he] 38 (w.heap.size + 1) (by simp)).park (cs := #[.int .i64 0, .int .i64 0, .slice none 0 0, .int .i64 0, .int .i64 0, .slice none 0 0, .int .i64 0, .int .i64 0, .bool false, .bool false]) (b := w.heap.size + 2) (t := 27) (by simp))
  have HX : Hid (Sub X (⟨w.heap.size + 1, 38, #[.int .i64 kd, .slice am m.length cm, .int .i64 nw, .int .i64 fi, .slice as_ ms.length cs, .int .i64 he]⟩ :: (⟨w.heap.size, 27, #[.int .i64 R.most, .int .i64 R.again, .slice a1 R.said.length c1, .int .i64 R.heard, .int .i64 R.out, .slice a2 R.took.length c2, .int .i64 R.gave, .int .i64 R.last, .bool R.went, .bool R.owes]⟩ :: X))) := fun x hx => by simp [hx]
  have HM := Lib.hid (hM.mono HX.out)
  have HMm := Lib.hid (hm.mono HX.out)
  have HMs := Lib.hid (hms.mono HX.out)
  have HR := Lib.hid hR
  have HW := Lib.hid hW
  have HL := Lib.hid hr
  clear h hM hR hW hr hm hms ez hk
  obtain ⟨E, HE⟩ : ∃ E, Hid (rHearE R fi ns he = E) := ⟨_, rfl⟩
  have HE2 : Hid ((if rightT T fi ns he = false then 2 else if T.heard < fi.toNat then 20 else 0) = E) := by
    rw [← HE.out, HL.out.right, HL.out.heard]; rfl
  have HT' := Lib.hid hT'
  have HR' := Lib.hid hR'
  have HsL : Hid (R'.said = R.said) := by rw [← hR']; unfold rHearD; split <;> rfl
  have hnl : min ms.length 70 = ns.length := by rw [← hns]; simp; omega
  have hcs : ms.length ≤ cs := HMs.out.cap.1
  have HMn : Hid (MsgL w0 (⟨w.heap.size + 1, 38, #[.int .i64 kd, .slice am m.length cm, .int .i64 nw, .int .i64 fi, .slice as_ ms.length cs, .int .i64 he]⟩ :: (⟨w.heap.size, 27, #[.int .i64 R.most, .int .i64 R.again, .slice a1 R.said.length c1, .int .i64 R.heard, .int .i64 R.out, .slice a2 R.took.length c2, .int .i64 R.gave, .int .i64 R.last, .bool R.went, .bool R.owes]⟩ :: X)) (.slice as_ ns.length cs) ns) := by
    have h1 := HMs.out.fst (min ms.length 70) (by omega)
    rw [hnl] at h1
    have h2 : ms.take ns.length = ns := by
      have h3 : ns.take ns.length = ns := List.take_length
      rw [← hns, List.take_take, hns, Nat.min_eq_left (by omega)] at h3
      exact h3
    rwa [h2] at h1
  have HnL : Hid (min ms.length 70 = ns.length) := hnl
  have hn70 : ns.length ≤ 70 := by omega
  clear hT' hR' hnl hns
  go_enter Try.func14, Try.ntmps14
  go_wp2_with fail
  refine (HS.out.few fi he as_ ms.length cs ns.length HnL.out hcs).mono ?_
  rintro e w2 ⟨rfl, s2⟩
  have hb4 : HasBlk w2 w.heap.size 27 #[.int .i64 R.most, .int .i64 R.again, .slice a1 R.said.length c1, .int .i64 R.heard, .int .i64 R.out, .slice a2 R.took.length c2, .int .i64 R.gave, .int .i64 R.last, .bool R.went, .bool R.owes] := s2.has (List.mem_cons_of_mem _ (List.mem_cons_self ..))
  (have q0 := hb4.cell 0); (have q1 := hb4.cell 1); (have q2 := hb4.cell 2); (have q3 := hb4.cell 3); (have q4 := hb4.cell 4); (have q5 := hb4.cell 5); (have q6 := hb4.cell 6); (have q7 := hb4.cell 7); (have q8 := hb4.cell 8); (have q9 := hb4.cell 9)
  have l4 := hb4.lt
  clear hb4
  have H2 := Lib.hid ((s2.key #[.int .i64 fi, .slice as_ ns.length cs, .int .i64 he] 36 w2.heap.size rfl).key #[.int .i64 fi, .slice as_ ns.length cs, .int .i64 he] 68 (w2.heap.size + 1) (by simp))
  clear s2 HS
  go_wp2_with fail
  refine (H2.out.refHear (HM.out.mono (Y := (⟨w2.heap.size + 1, 68, #[.int .i64 fi, .slice as_ ns.length cs, .int .i64 he]⟩ :: (⟨w2.heap.size, 36, #[.int .i64 fi, .slice as_ ns.length cs, .int .i64 he]⟩ :: (⟨w.heap.size + 1, 38, #[.int .i64 kd, .slice am m.length cm, .int .i64 nw, .int .i64 fi, .slice as_ ms.length cs, .int .i64 he]⟩ :: (⟨w.heap.size, 27, #[.int .i64 R.most, .int .i64 R.again, .slice a1 R.said.length c1, .int .i64 R.heard, .int .i64 R.out, .slice a2 R.took.length c2, .int .i64 R.gave, .int .i64 R.last, .bool R.went, .bool R.owes]⟩ :: X))))) fun x hx => List.mem_cons_of_mem _ (List.mem_cons_of_mem _ hx)) HR.out fi he _ ns (HMn.out.mono fun x hx => List.mem_cons_of_mem _ (List.mem_cons_of_mem _ hx)) (by omega) hfi R' HR'.out E HE.out).mono ?_
  rintro e w3 ⟨vt', X2, rfl, hs2, s3, M3⟩
  obtain ⟨a2', c2', rfl⟩ := M3.2.slice
  have e1 : R.said.length = R'.said.length := by rw [HsL.out]
  simp only [rcs, e1]
  rw [e1] at M3
  have HQ5 : Hid ((⟨w2.heap.size, 36, #[.int .i64 fi, .slice as_ ns.length cs, .int .i64 he]⟩ : Blk) ∈ (⟨w3.heap.size, 27, #[.int .i64 R'.most, .int .i64 R'.again, .slice a1 R'.said.length c1, .int .i64 R'.heard, .int .i64 R'.out, .slice a2' R'.took.length c2', .int .i64 R'.gave, .int .i64 R'.last, .bool R'.went, .bool R'.owes]⟩ :: X2)) := List.mem_cons_of_mem _ (hs2 _ (List.mem_cons_of_mem _ (List.mem_cons_self ..)))
  have HQ8 : Hid ((⟨w3.heap.size, 27, #[.int .i64 R'.most, .int .i64 R'.again, .slice a1 R'.said.length c1, .int .i64 R'.heard, .int .i64 R'.out, .slice a2' R'.took.length c2', .int .i64 R'.gave, .int .i64 R'.last, .bool R'.went, .bool R'.owes]⟩ : Blk) ∈ (⟨w3.heap.size, 27, #[.int .i64 R'.most, .int .i64 R'.again, .slice a1 R'.said.length c1, .int .i64 R'.heard, .int .i64 R'.out, .slice a2' R'.took.length c2', .int .i64 R'.gave, .int .i64 R'.last, .bool R'.went, .bool R'.owes]⟩ :: X2)) := List.mem_cons_self ..
  have HX2 : Hid (Sub X X2) := fun x hx => hs2 x (List.mem_cons_of_mem _ (List.mem_cons_of_mem _ (HX.out x hx)))
  have HM2 := Lib.hid M3
  have HMn3 : Hid (MsgL w0 (⟨w3.heap.size, 27, #[.int .i64 R'.most, .int .i64 R'.again, .slice a1 R'.said.length c1, .int .i64 R'.heard, .int .i64 R'.out, .slice a2' R'.took.length c2', .int .i64 R'.gave, .int .i64 R'.last, .bool R'.went, .bool R'.owes]⟩ :: X2) (.slice as_ ns.length cs) ns) := HMn.out.mono fun x hx => List.mem_cons_of_mem _ (hs2 x (List.mem_cons_of_mem _ (List.mem_cons_of_mem _ hx)))
  have H3 := Lib.hid (s3.key #[.int .i64 R'.most, .int .i64 R'.again, .slice a1 R'.said.length c1, .int .i64 R'.heard, .int .i64 R'.out, .slice a2' R'.took.length c2', .int .i64 R'.gave, .int .i64 R'.last, .bool R'.went, .bool R'.owes] 27 w3.heap.size rfl)
  clear s3 hs2 M3 H2 e1
  go_wp2_with fail
  refine wp_opq (fun W => S1 W w0 (⟨w.heap.size + 2, 27, #[.int .i64 0, .int .i64 0, .slice none 0 0, .int .i64 0, .int .i64 0, .slice none 0 0, .int .i64 0, .int .i64 0, .bool false, .bool false]⟩ :: C) (⟨w3.heap.size, 27, #[.int .i64 R'.most, .int .i64 R'.again, .slice a1 R'.said.length c1, .int .i64 R'.heard, .int .i64 R'.out, .slice a2' R'.took.length c2', .int .i64 R'.gave, .int .i64 R'.last, .bool R'.went, .bool R'.owes]⟩ :: X2) p T) H3.out ?_
  intro W3 h3
  try simp only [ez']
  have H3' := Lib.hid h3
  clear h3 H3
  refine wp_region_ov (fun L (_ : Unit) => [(L 0, 86, .agg #[.int .i64 R'.most, .int .i64 R'.again, .slice a1 R'.said.length c1, .int .i64 R'.heard, .int .i64 R'.out, .slice a2' R'.took.length c2', .int .i64 R'.gave, .int .i64 R'.last, .bool R'.went, .bool R'.owes]), (L 1, 87, ptr p), (L 2, 88, .agg #[.int .i64 fi, .slice as_ ns.length cs, .int .i64 he]), (L 3, 89, .int .i64 E), (L 4, 90, .int .i64 E), (L 5, 91, .bool true), (L 7, 7, .bool true)])
    (fun L _ W => ∃ X4, Sub (⟨w3.heap.size, 27, #[.int .i64 R'.most, .int .i64 R'.again, .slice a1 R'.said.length c1, .int .i64 R'.heard, .int .i64 R'.out, .slice a2' R'.took.length c2', .int .i64 R'.gave, .int .i64 R'.last, .bool R'.went, .bool R'.owes]⟩ :: X2) X4 ∧ S1 W w0 (⟨w.heap.size + 2, 27, bif L 6 then #[.int .i64 R'.most, .int .i64 R'.again, .slice a1 R'.said.length c1, .int .i64 R'.heard, .int .i64 R'.out, .slice a2' R'.took.length c2', .int .i64 R'.gave, .int .i64 R'.last, .bool R'.went, .bool R'.owes] else #[.int .i64 0, .int .i64 0, .slice none 0 0, .int .i64 0, .int .i64 0, .slice none 0 0, .int .i64 0, .int .i64 0, .bool false, .bool false]⟩ :: C) X4 p (bif L 3 then T' else T)) () (by kernel_rfl) (by kernel_rfl) (by rfl) ⟨_, Sub.refl _, H3'.out.drew⟩ ?_ ⟨?_, ?_, ?_, ?_, ?_, ?_, ?_, ?_, trivial⟩
  rotate_left
  iterate 3 (· (intro L x W hW hC hL hd K hK; (try simp [depsB, Region.binds] at hd); (try simp only [Nat.reduceAdd] at hK hL); simp only [ovl, Array.getD_eq_getD_getElem?, List.getElem?_toArray, List.getElem?_cons_succ, List.getElem?_cons_zero, Option.getD_some, List.setIfInBounds_toArray, List.set_cons_zero, List.set_cons_succ]; (try simp only [hd, cond_true, cond_false]); (have hW0 := hW); (obtain ⟨X4, hs4, s4⟩ := hW); (have hb5 : HasBlk W w2.heap.size 36 #[.int .i64 fi, .slice as_ ns.length cs, .int .i64 he] := s4.has (hs4 _ HQ5.out)); (have k0 := hb5.cell 0); (have k1 := hb5.cell 1); (have k2 := hb5.cell 2); (have l5 := hb5.lt); (have hb8 : HasBlk W w3.heap.size 27 #[.int .i64 R'.most, .int .i64 R'.again, .slice a1 R'.said.length c1, .int .i64 R'.heard, .int .i64 R'.out, .slice a2' R'.took.length c2', .int .i64 R'.gave, .int .i64 R'.last, .bool R'.went, .bool R'.owes] := s4.has (hs4 _ HQ8.out)); (have d0 := hb8.cell 0); (have d1 := hb8.cell 1); (have d2 := hb8.cell 2); (have d3 := hb8.cell 3); (have d4 := hb8.cell 4); (have d5 := hb8.cell 5); (have d6 := hb8.cell 6); (have d7 := hb8.cell 7); (have d8 := hb8.cell 8); (have d9 := hb8.cell 9); (have l8 := hb8.lt); clear hb5 hb8 hs4 s4; go_simp; (have h := hK () W hW0); simp only [ovl, Array.getD_eq_getD_getElem?, List.getElem?_toArray, List.getElem?_cons_succ, List.getElem?_cons_zero, Option.getD_some, List.setIfInBounds_toArray, List.set_cons_zero, List.set_cons_succ] at h; (try simp (decide := true) only [upd, hd, cond_true, cond_false, Bool.true_or, Bool.false_or, decide_true, decide_false] at h); exact h))
  · intro L x W hW hC hL hd K hK; (try simp [depsB, Region.binds] at hd); (try simp only [Nat.reduceAdd] at hK hL)
    simp only [hL, cond_false] at hW
    simp only [ovl, Array.getD_eq_getD_getElem?, List.getElem?_toArray, List.getElem?_cons_succ, List.getElem?_cons_zero, Option.getD_some, List.setIfInBounds_toArray, List.set_cons_zero, List.set_cons_succ]; (try simp only [hd, cond_true, cond_false])
    obtain ⟨X4, hs4, s4⟩ := hW
    refine wp_call_in 20 (by rfl) (by kernel_rfl) #[ptr p, .agg #[.int .i64 fi, .slice as_ ns.length cs, .int .i64 he]] (by (simp only [List.map_toArray, List.map_cons, List.map_nil, Act.eval, Array.getD_eq_getD_getElem?, List.getElem?_toArray, List.getElem?_cons_succ, List.getElem?_cons_zero, Option.getD_some])) ((s4.hear fi he _ ns (HMn3.out.mono hs4) (by omega) hfi HW.out T' HT'.out E HE2.out).mono ?_)
    rintro e W4 ⟨rfl, X5, hs5, s5⟩
    refine ⟨_, rfl, ?_⟩
    (have h := hK () W4 ⟨X5, hs4.trans hs5, s5⟩); simp only [ovl, Array.getD_eq_getD_getElem?, List.getElem?_toArray, List.getElem?_cons_succ, List.getElem?_cons_zero, Option.getD_some, List.setIfInBounds_toArray, List.set_cons_zero, List.set_cons_succ] at h; (try simp (decide := true) only [upd, hd, cond_true, cond_false, Bool.true_or, Bool.false_or, decide_true, decide_false] at h); exact h
  iterate 2 (· (intro L x W hW hC hL hd K hK; (try simp [depsB, Region.binds] at hd); (try simp only [Nat.reduceAdd] at hK hL); simp only [ovl, Array.getD_eq_getD_getElem?, List.getElem?_toArray, List.getElem?_cons_succ, List.getElem?_cons_zero, Option.getD_some, List.setIfInBounds_toArray, List.set_cons_zero, List.set_cons_succ]; (try simp only [hd, cond_true, cond_false]); (have hW0 := hW); (obtain ⟨X4, hs4, s4⟩ := hW); (have hb5 : HasBlk W w2.heap.size 36 #[.int .i64 fi, .slice as_ ns.length cs, .int .i64 he] := s4.has (hs4 _ HQ5.out)); (have k0 := hb5.cell 0); (have k1 := hb5.cell 1); (have k2 := hb5.cell 2); (have l5 := hb5.lt); (have hb8 : HasBlk W w3.heap.size 27 #[.int .i64 R'.most, .int .i64 R'.again, .slice a1 R'.said.length c1, .int .i64 R'.heard, .int .i64 R'.out, .slice a2' R'.took.length c2', .int .i64 R'.gave, .int .i64 R'.last, .bool R'.went, .bool R'.owes] := s4.has (hs4 _ HQ8.out)); (have d0 := hb8.cell 0); (have d1 := hb8.cell 1); (have d2 := hb8.cell 2); (have d3 := hb8.cell 3); (have d4 := hb8.cell 4); (have d5 := hb8.cell 5); (have d6 := hb8.cell 6); (have d7 := hb8.cell 7); (have d8 := hb8.cell 8); (have d9 := hb8.cell 9); (have l8 := hb8.lt); clear hb5 hb8 hs4 s4; go_simp; (have h := hK () W hW0); simp only [ovl, Array.getD_eq_getD_getElem?, List.getElem?_toArray, List.getElem?_cons_succ, List.getElem?_cons_zero, Option.getD_some, List.setIfInBounds_toArray, List.set_cons_zero, List.set_cons_succ] at h; (try simp (decide := true) only [upd, hd, cond_true, cond_false, Bool.true_or, Bool.false_or, decide_true, decide_false] at h); exact h))
  · intro L x W hW hC hL hd K hK; (try simp [depsB, Region.binds] at hd); (try simp only [Nat.reduceAdd] at hK hL)
    simp only [hL, hd, cond_false, cond_true] at hW
    simp only [ovl, Array.getD_eq_getD_getElem?, List.getElem?_toArray, List.getElem?_cons_succ, List.getElem?_cons_zero, Option.getD_some, List.setIfInBounds_toArray, List.set_cons_zero, List.set_cons_succ]; (try simp only [hd, cond_true, cond_false])
    obtain ⟨X4, hs4, s4⟩ := hW
    refine s4.store 27 (.tmp 6) (.tmp 86) (by rfl) (by rfl) #[.int .i64 R'.most, .int .i64 R'.again, .slice a1 R'.said.length c1, .int .i64 R'.heard, .int .i64 R'.out, .slice a2' R'.took.length c2', .int .i64 R'.gave, .int .i64 R'.last, .bool R'.went, .bool R'.owes] (by rfl) (by kernel_rfl) (by rfl) (by simp [Value.oneCell']) (fun W5 s5 => ?_)
    (have h := hK () W5 ⟨X4, hs4, by simpa [upd, hd] using s5⟩); simp only [ovl, Array.getD_eq_getD_getElem?, List.getElem?_toArray, List.getElem?_cons_succ, List.getElem?_cons_zero, Option.getD_some, List.setIfInBounds_toArray, List.set_cons_zero, List.set_cons_succ] at h; (try simp (decide := true) only [upd, hd, cond_true, cond_false, Bool.true_or, Bool.false_or, decide_true, decide_false] at h); exact h
  iterate 1 (· (intro L x W hW hC hL hd K hK; (try simp [depsB, Region.binds] at hd); (try simp only [Nat.reduceAdd] at hK hL); simp only [ovl, Array.getD_eq_getD_getElem?, List.getElem?_toArray, List.getElem?_cons_succ, List.getElem?_cons_zero, Option.getD_some, List.setIfInBounds_toArray, List.set_cons_zero, List.set_cons_succ]; (try simp only [hd, cond_true, cond_false]); (have hW0 := hW); (obtain ⟨X4, hs4, s4⟩ := hW); (have hb5 : HasBlk W w2.heap.size 36 #[.int .i64 fi, .slice as_ ns.length cs, .int .i64 he] := s4.has (hs4 _ HQ5.out)); (have k0 := hb5.cell 0); (have k1 := hb5.cell 1); (have k2 := hb5.cell 2); (have l5 := hb5.lt); (have hb8 : HasBlk W w3.heap.size 27 #[.int .i64 R'.most, .int .i64 R'.again, .slice a1 R'.said.length c1, .int .i64 R'.heard, .int .i64 R'.out, .slice a2' R'.took.length c2', .int .i64 R'.gave, .int .i64 R'.last, .bool R'.went, .bool R'.owes] := s4.has (hs4 _ HQ8.out)); (have d0 := hb8.cell 0); (have d1 := hb8.cell 1); (have d2 := hb8.cell 2); (have d3 := hb8.cell 3); (have d4 := hb8.cell 4); (have d5 := hb8.cell 5); (have d6 := hb8.cell 6); (have d7 := hb8.cell 7); (have d8 := hb8.cell 8); (have d9 := hb8.cell 9); (have l8 := hb8.lt); clear hb5 hb8 hs4 s4; go_simp; (have h := hK () W hW0); simp only [ovl, Array.getD_eq_getD_getElem?, List.getElem?_toArray, List.getElem?_cons_succ, List.getElem?_cons_zero, Option.getD_some, List.setIfInBounds_toArray, List.set_cons_zero, List.set_cons_succ] at h; (try simp (decide := true) only [upd, hd, cond_true, cond_false, Bool.true_or, Bool.false_or, decide_true, decide_false] at h); exact h))
  intro x W9 hW9
  simp only [ovl, cond_true, Array.getD_eq_getD_getElem?, List.getElem?_toArray, List.getElem?_cons_succ, List.getElem?_cons_zero, Option.getD_some, List.setIfInBounds_toArray, List.set_cons_zero, List.set_cons_succ]
  simp only [cond_true] at hW9
  obtain ⟨X9, hs9, s9⟩ := hW9
  have hb := s9.hasC (b := w.heap.size + 2) (t := 27) (cs := #[.int .i64 R'.most, .int .i64 R'.again, .slice a1 R'.said.length c1, .int .i64 R'.heard, .int .i64 R'.out, .slice a2' R'.took.length c2', .int .i64 R'.gave, .int .i64 R'.last, .bool R'.went, .bool R'.owes]) (List.mem_cons_self ..)
  (have e0 := hb.cell 0); (have e1 := hb.cell 1); (have e2 := hb.cell 2); (have e3 := hb.cell 3); (have e4 := hb.cell 4); (have e5 := hb.cell 5); (have e6 := hb.cell 6); (have e7 := hb.cell 7); (have e8 := hb.cell 8); (have e9 := hb.cell 9)
  have HS9 := Lib.hid s9.drop
  have HX9 := Lib.hid hs9
  clear s9 hs9 hb
  go_wp2
  refine bodyPost_ret (v := .tuple #[.agg #[.int .i64 R'.most, .int .i64 R'.again, .slice a1 R'.said.length c1, .int .i64 R'.heard, .int .i64 R'.out, .slice a2' R'.took.length c2', .int .i64 R'.gave, .int .i64 R'.last, .bool R'.went, .bool R'.owes], .bool true]) (by simp [results, Try.results14, go_sem, e0, e1, e2, e3, e4, e5, e6, e7, e8, e9]) rfl ?_
  exact ⟨.slice a1 R'.said.length c1, .slice a2' R'.took.length c2', X9, rfl, fun x hx => HX9.out x (List.mem_cons_of_mem _ (HX2.out x hx)), HS9.out, HM2.out.mono (fun x hx => HX9.out x (List.mem_cons_of_mem _ hx))⟩

set_option maxRecDepth 100000 in
set_option maxHeartbeats 8000000 in
theorem do_got (kd nw fi he : Int) (hk : cutN kd 4 = 3) (am as_ : Option Addr) (cm cs : Nat) (m : List UInt8) (ms : List (List UInt8)) (h : S1 w w0 C X p T) (hM : RM w0 X R (.slice a1 R.said.length c1) (.slice a2 R.took.length c2)) (hR : RW 1000000 R) (hW : TW 1000000 T) (hr : Rel T R) (hm : Msg w0 X (.slice am m.length cm) m) (hms : MsgL w0 X (.slice as_ ms.length cs) ms) (hmsn : ms.length ≤ 9223372036854775807) (hfi : fi ≤ 9223372036854775807) (hR' : rGot R = R') (hT' : gotT T = T') :
    Calls Try.prog 14 #[ptr p, .agg #[.int .i64 R.most, .int .i64 R.again, .slice a1 R.said.length c1, .int .i64 R.heard, .int .i64 R.out, .slice a2 R.took.length c2, .int .i64 R.gave, .int .i64 R.last, .bool R.went, .bool R.owes], .agg #[.int .i64 kd, .slice am m.length cm, .int .i64 nw, .int .i64 fi, .slice as_ ms.length cs, .int .i64 he]] w fun e w' => ∃ vs' vt' X', e = .returned (.tuple #[.agg (rcs R' vs' vt'), .bool true]) ∧ Sub X X' ∧ S1 w' w0 C X' p T' ∧ RM w0 X' R' vs' vt' := by
  have ez := cut_eq kd 4 (by omega) (by omega)
  rw [hk] at ez
  have ez' : wrap64 ((IntKind.u64.wrap kd).tmod 4) = (3 : Int) := ez
  have HS := Lib.hid (((h.key #[.int .i64 R.most, .int .i64 R.again, .slice a1 R.said.length c1, .int .i64 R.heard, .int .i64 R.out, .slice a2 R.took.length c2, .int .i64 R.gave, .int .i64 R.last, .bool R.went, .bool R.owes] 27 w.heap.size rfl).key #[.int .i64 kd, .slice am m.length cm, .int .i64 nw, .int .i64 fi, .slice as_ ms.length cs, .int .i64 he] 38 (w.heap.size + 1) (by simp)).park (cs := #[.int .i64 0, .int .i64 0, .slice none 0 0, .int .i64 0, .int .i64 0, .slice none 0 0, .int .i64 0, .int .i64 0, .bool false, .bool false]) (b := w.heap.size + 2) (t := 27) (by simp))
  have HX : Hid (Sub X (⟨w.heap.size + 1, 38, #[.int .i64 kd, .slice am m.length cm, .int .i64 nw, .int .i64 fi, .slice as_ ms.length cs, .int .i64 he]⟩ :: (⟨w.heap.size, 27, #[.int .i64 R.most, .int .i64 R.again, .slice a1 R.said.length c1, .int .i64 R.heard, .int .i64 R.out, .slice a2 R.took.length c2, .int .i64 R.gave, .int .i64 R.last, .bool R.went, .bool R.owes]⟩ :: X))) := fun x hx => by simp [hx]
  have HM := Lib.hid (hM.mono HX.out)
  have HMm := Lib.hid (hm.mono HX.out)
  have HMs := Lib.hid (hms.mono HX.out)
  have HR := Lib.hid hR
  have HW := Lib.hid hW
  have HL := Lib.hid hr
  clear h hM hR hW hr hm hms ez hk
  obtain ⟨gs, HGS⟩ : ∃ gs, Hid (R.took.drop R.gave = gs) := ⟨_, rfl⟩
  have hgl : gs.length ≤ 1000000 := by rw [← HGS.out]; have := HR.out.took; simp; omega
  have HT' := Lib.hid hT'
  have HR' := Lib.hid hR'
  clear hT' hR'
  go_enter Try.func14, Try.ntmps14
  go_wp2_with fail
  refine (HS.out.refGot HM.out HR.out R' HR'.out gs HGS.out).mono ?_
  rintro e w2 ⟨u, rfl, s2, ML⟩
  obtain ⟨au, cu, rfl⟩ := ML.slice
  have e1 : R.said.length = R'.said.length := by rw [← HR'.out]; rfl
  have e2 : R.took.length = R'.took.length := by rw [← HR'.out]; rfl
  have M2 : RM w0 (⟨w.heap.size + 1, 38, #[.int .i64 kd, .slice am m.length cm, .int .i64 nw, .int .i64 fi, .slice as_ ms.length cs, .int .i64 he]⟩ :: (⟨w.heap.size, 27, #[.int .i64 R.most, .int .i64 R.again, .slice a1 R.said.length c1, .int .i64 R.heard, .int .i64 R.out, .slice a2 R.took.length c2, .int .i64 R.gave, .int .i64 R.last, .bool R.went, .bool R.owes]⟩ :: X)) R' (.slice a1 R'.said.length c1) (.slice a2 R'.took.length c2) := by
    rw [← e1, ← e2, ← HR'.out]; exact HM.out
  have er : (Value.agg #[.int .i64 R'.most, .int .i64 R'.again, .slice a1 R.said.length c1, .int .i64 R'.heard, .int .i64 R'.out, .slice a2 R.took.length c2, .int .i64 R'.gave, .int .i64 R'.last, .bool R'.went, .bool R'.owes]) = .agg #[.int .i64 R'.most, .int .i64 R'.again, .slice a1 R'.said.length c1, .int .i64 R'.heard, .int .i64 R'.out, .slice a2 R'.took.length c2, .int .i64 R'.gave, .int .i64 R'.last, .bool R'.went, .bool R'.owes] := by rw [e1, e2]
  simp only [rcs]
  rw [er]
  have HM2 := Lib.hid M2
  have HML : Hid (MsgL w0 (⟨w2.heap.size, 27, #[.int .i64 R'.most, .int .i64 R'.again, .slice a1 R'.said.length c1, .int .i64 R'.heard, .int .i64 R'.out, .slice a2 R'.took.length c2, .int .i64 R'.gave, .int .i64 R'.last, .bool R'.went, .bool R'.owes]⟩ :: (⟨w.heap.size + 1, 38, #[.int .i64 kd, .slice am m.length cm, .int .i64 nw, .int .i64 fi, .slice as_ ms.length cs, .int .i64 he]⟩ :: (⟨w.heap.size, 27, #[.int .i64 R.most, .int .i64 R.again, .slice a1 R.said.length c1, .int .i64 R.heard, .int .i64 R.out, .slice a2 R.took.length c2, .int .i64 R.gave, .int .i64 R.last, .bool R.went, .bool R.owes]⟩ :: X))) (.slice au gs.length cu) gs) := ML.mono fun x hx => List.mem_cons_of_mem _ hx
  have HQ8 : Hid ((⟨w2.heap.size, 27, #[.int .i64 R'.most, .int .i64 R'.again, .slice a1 R'.said.length c1, .int .i64 R'.heard, .int .i64 R'.out, .slice a2 R'.took.length c2, .int .i64 R'.gave, .int .i64 R'.last, .bool R'.went, .bool R'.owes]⟩ : Blk) ∈ (⟨w2.heap.size, 27, #[.int .i64 R'.most, .int .i64 R'.again, .slice a1 R'.said.length c1, .int .i64 R'.heard, .int .i64 R'.out, .slice a2 R'.took.length c2, .int .i64 R'.gave, .int .i64 R'.last, .bool R'.went, .bool R'.owes]⟩ :: (⟨w.heap.size + 1, 38, #[.int .i64 kd, .slice am m.length cm, .int .i64 nw, .int .i64 fi, .slice as_ ms.length cs, .int .i64 he]⟩ :: (⟨w.heap.size, 27, #[.int .i64 R.most, .int .i64 R.again, .slice a1 R.said.length c1, .int .i64 R.heard, .int .i64 R.out, .slice a2 R.took.length c2, .int .i64 R.gave, .int .i64 R.last, .bool R.went, .bool R.owes]⟩ :: X)))) := List.mem_cons_self ..
  have H3 := Lib.hid (s2.key #[.int .i64 R'.most, .int .i64 R'.again, .slice a1 R'.said.length c1, .int .i64 R'.heard, .int .i64 R'.out, .slice a2 R'.took.length c2, .int .i64 R'.gave, .int .i64 R'.last, .bool R'.went, .bool R'.owes] 27 w2.heap.size rfl)
  clear s2 M2 HS e1 e2 er ML
  go_wp2_with fail
  refine wp_opq (fun W => S1 W w0 (⟨w.heap.size + 2, 27, #[.int .i64 0, .int .i64 0, .slice none 0 0, .int .i64 0, .int .i64 0, .slice none 0 0, .int .i64 0, .int .i64 0, .bool false, .bool false]⟩ :: C) (⟨w2.heap.size, 27, #[.int .i64 R'.most, .int .i64 R'.again, .slice a1 R'.said.length c1, .int .i64 R'.heard, .int .i64 R'.out, .slice a2 R'.took.length c2, .int .i64 R'.gave, .int .i64 R'.last, .bool R'.went, .bool R'.owes]⟩ :: (⟨w.heap.size + 1, 38, #[.int .i64 kd, .slice am m.length cm, .int .i64 nw, .int .i64 fi, .slice as_ ms.length cs, .int .i64 he]⟩ :: (⟨w.heap.size, 27, #[.int .i64 R.most, .int .i64 R.again, .slice a1 R.said.length c1, .int .i64 R.heard, .int .i64 R.out, .slice a2 R.took.length c2, .int .i64 R.gave, .int .i64 R.last, .bool R.went, .bool R.owes]⟩ :: X))) p T) H3.out ?_
  intro W3 h3
  try simp only [ez']
  have H3' := Lib.hid h3
  clear h3 H3
  refine wp_region_ov (fun L (x : Value) => [(L 0, 97, .agg #[.int .i64 R'.most, .int .i64 R'.again, .slice a1 R'.said.length c1, .int .i64 R'.heard, .int .i64 R'.out, .slice a2 R'.took.length c2, .int .i64 R'.gave, .int .i64 R'.last, .bool R'.went, .bool R'.owes]), (L 1, 98, ptr p), (L 2, 99, x), (L 3, 100, .slice au gs.length cu), (L 4, 101, .bool true), (L 6, 7, .bool true)])
    (fun L x W => ∃ X4, Sub (⟨w2.heap.size, 27, #[.int .i64 R'.most, .int .i64 R'.again, .slice a1 R'.said.length c1, .int .i64 R'.heard, .int .i64 R'.out, .slice a2 R'.took.length c2, .int .i64 R'.gave, .int .i64 R'.last, .bool R'.went, .bool R'.owes]⟩ :: (⟨w.heap.size + 1, 38, #[.int .i64 kd, .slice am m.length cm, .int .i64 nw, .int .i64 fi, .slice as_ ms.length cs, .int .i64 he]⟩ :: (⟨w.heap.size, 27, #[.int .i64 R.most, .int .i64 R.again, .slice a1 R.said.length c1, .int .i64 R.heard, .int .i64 R.out, .slice a2 R.took.length c2, .int .i64 R.gave, .int .i64 R.last, .bool R.went, .bool R.owes]⟩ :: X))) X4 ∧ S1 W w0 (⟨w.heap.size + 2, 27, bif L 5 then #[.int .i64 R'.most, .int .i64 R'.again, .slice a1 R'.said.length c1, .int .i64 R'.heard, .int .i64 R'.out, .slice a2 R'.took.length c2, .int .i64 R'.gave, .int .i64 R'.last, .bool R'.went, .bool R'.owes] else #[.int .i64 0, .int .i64 0, .slice none 0 0, .int .i64 0, .int .i64 0, .slice none 0 0, .int .i64 0, .int .i64 0, .bool false, .bool false]⟩ :: C) X4 p (bif L 2 then T' else T) ∧ (L 2 = true → MsgL w0 X4 x gs)) undef (by kernel_rfl) (by kernel_rfl) (by rfl) ⟨_, Sub.refl _, H3'.out.drew, fun h => by simp at h⟩ ?_ ⟨?_, ?_, ?_, ?_, ?_, ?_, ?_, trivial⟩
  rotate_left
  iterate 2 (· (intro L x W hW hC hL hd K hK; (try simp [depsB, Region.binds] at hd); (try simp only [Nat.reduceAdd] at hK hL); simp only [ovl, Array.getD_eq_getD_getElem?, List.getElem?_toArray, List.getElem?_cons_succ, List.getElem?_cons_zero, Option.getD_some, List.setIfInBounds_toArray, List.set_cons_zero, List.set_cons_succ]; (try simp only [hd, cond_true, cond_false]); (have hW0 := hW); (obtain ⟨X4, hs4, s4, hg4⟩ := hW); (have hb8 : HasBlk W w2.heap.size 27 #[.int .i64 R'.most, .int .i64 R'.again, .slice a1 R'.said.length c1, .int .i64 R'.heard, .int .i64 R'.out, .slice a2 R'.took.length c2, .int .i64 R'.gave, .int .i64 R'.last, .bool R'.went, .bool R'.owes] := s4.has (hs4 _ HQ8.out)); (have d0 := hb8.cell 0); (have d1 := hb8.cell 1); (have d2 := hb8.cell 2); (have d3 := hb8.cell 3); (have d4 := hb8.cell 4); (have d5 := hb8.cell 5); (have d6 := hb8.cell 6); (have d7 := hb8.cell 7); (have d8 := hb8.cell 8); (have d9 := hb8.cell 9); (have l8 := hb8.lt); clear hb8 hs4 s4 hg4; go_simp; (have h := hK x W hW0); simp only [ovl, Array.getD_eq_getD_getElem?, List.getElem?_toArray, List.getElem?_cons_succ, List.getElem?_cons_zero, Option.getD_some, List.setIfInBounds_toArray, List.set_cons_zero, List.set_cons_succ] at h; (try simp (decide := true) only [upd, hd, cond_true, cond_false, Bool.true_or, Bool.false_or, decide_true, decide_false] at h); exact h))
  · intro L x W hW hC hL hd K hK; (try simp [depsB, Region.binds] at hd); (try simp only [Nat.reduceAdd] at hK hL)
    simp only [hL, cond_false] at hW
    simp only [ovl, Array.getD_eq_getD_getElem?, List.getElem?_toArray, List.getElem?_cons_succ, List.getElem?_cons_zero, Option.getD_some, List.setIfInBounds_toArray, List.set_cons_zero, List.set_cons_succ]; (try simp only [hd, cond_true, cond_false])
    obtain ⟨X4, hs4, s4, -⟩ := hW
    refine wp_call_in 21 (by rfl) (by kernel_rfl) #[ptr p] (by (simp only [List.map_toArray, List.map_cons, List.map_nil, Act.eval, Array.getD_eq_getD_getElem?, List.getElem?_toArray, List.getElem?_cons_succ, List.getElem?_cons_zero, Option.getD_some])) ((s4.got T' HT'.out gs (HL.out.got.trans HGS.out)).mono ?_)
    rintro e W4 ⟨v, X5, rfl, hs5, s5, m5⟩
    refine ⟨_, rfl, ?_⟩
    (have h := hK v W4 ⟨X5, hs4.trans hs5, s5, fun _ => m5⟩); simp only [ovl, Array.getD_eq_getD_getElem?, List.getElem?_toArray, List.getElem?_cons_succ, List.getElem?_cons_zero, Option.getD_some, List.setIfInBounds_toArray, List.set_cons_zero, List.set_cons_succ] at h; (try simp (decide := true) only [upd, hd, cond_true, cond_false, Bool.true_or, Bool.false_or, decide_true, decide_false] at h); exact h
  iterate 1 (· (intro L x W hW hC hL hd K hK; (try simp [depsB, Region.binds] at hd); (try simp only [Nat.reduceAdd] at hK hL); simp only [ovl, Array.getD_eq_getD_getElem?, List.getElem?_toArray, List.getElem?_cons_succ, List.getElem?_cons_zero, Option.getD_some, List.setIfInBounds_toArray, List.set_cons_zero, List.set_cons_succ]; (try simp only [hd, cond_true, cond_false]); (have hW0 := hW); (obtain ⟨X4, hs4, s4, hg4⟩ := hW); (have hb8 : HasBlk W w2.heap.size 27 #[.int .i64 R'.most, .int .i64 R'.again, .slice a1 R'.said.length c1, .int .i64 R'.heard, .int .i64 R'.out, .slice a2 R'.took.length c2, .int .i64 R'.gave, .int .i64 R'.last, .bool R'.went, .bool R'.owes] := s4.has (hs4 _ HQ8.out)); (have d0 := hb8.cell 0); (have d1 := hb8.cell 1); (have d2 := hb8.cell 2); (have d3 := hb8.cell 3); (have d4 := hb8.cell 4); (have d5 := hb8.cell 5); (have d6 := hb8.cell 6); (have d7 := hb8.cell 7); (have d8 := hb8.cell 8); (have d9 := hb8.cell 9); (have l8 := hb8.lt); clear hb8 hs4 s4 hg4; go_simp; (have h := hK x W hW0); simp only [ovl, Array.getD_eq_getD_getElem?, List.getElem?_toArray, List.getElem?_cons_succ, List.getElem?_cons_zero, Option.getD_some, List.setIfInBounds_toArray, List.set_cons_zero, List.set_cons_succ] at h; (try simp (decide := true) only [upd, hd, cond_true, cond_false, Bool.true_or, Bool.false_or, decide_true, decide_false] at h); exact h))
  · intro L x W hW hC hL hd K hK; (try simp [depsB, Region.binds] at hd); (try simp only [Nat.reduceAdd] at hK hL)
    have hW0 := hW
    simp only [ovl, Array.getD_eq_getD_getElem?, List.getElem?_toArray, List.getElem?_cons_succ, List.getElem?_cons_zero, Option.getD_some, List.setIfInBounds_toArray, List.set_cons_zero, List.set_cons_succ]; (try simp only [hd, cond_true, cond_false])
    obtain ⟨X4, hs4, s4, hg4⟩ := hW
    have m4 := hg4 hd.1
    refine wp_call_in 17 (by rfl) (by kernel_rfl) #[x, .slice au gs.length cu] (by (simp only [List.map_toArray, List.map_cons, List.map_nil, Act.eval, Array.getD_eq_getD_getElem?, List.getElem?_toArray, List.getElem?_cons_succ, List.getElem?_cons_zero, Option.getD_some])) ((same_to _ _ gs gs W (by omega) (by omega) (s4.here m4) (s4.here (HML.out.mono hs4)) true (by simp)).mono ?_)
    rintro e W4 ⟨rfl, O4⟩
    refine ⟨_, rfl, ?_⟩
    (have h := hK x W4 ⟨X4, hs4, s4.of_below O4.below, hg4⟩); simp only [ovl, Array.getD_eq_getD_getElem?, List.getElem?_toArray, List.getElem?_cons_succ, List.getElem?_cons_zero, Option.getD_some, List.setIfInBounds_toArray, List.set_cons_zero, List.set_cons_succ] at h; (try simp (decide := true) only [upd, hd, cond_true, cond_false, Bool.true_or, Bool.false_or, decide_true, decide_false] at h); exact h
  · intro L x W hW hC hL hd K hK; (try simp [depsB, Region.binds] at hd); (try simp only [Nat.reduceAdd] at hK hL)
    simp only [hL, hd, cond_false, cond_true] at hW
    simp only [ovl, Array.getD_eq_getD_getElem?, List.getElem?_toArray, List.getElem?_cons_succ, List.getElem?_cons_zero, Option.getD_some, List.setIfInBounds_toArray, List.set_cons_zero, List.set_cons_succ]; (try simp only [hd, cond_true, cond_false])
    obtain ⟨X4, hs4, s4, hg4⟩ := hW
    refine s4.store 27 (.tmp 6) (.tmp 97) (by rfl) (by rfl) #[.int .i64 R'.most, .int .i64 R'.again, .slice a1 R'.said.length c1, .int .i64 R'.heard, .int .i64 R'.out, .slice a2 R'.took.length c2, .int .i64 R'.gave, .int .i64 R'.last, .bool R'.went, .bool R'.owes] (by rfl) (by kernel_rfl) (by rfl) (by simp [Value.oneCell']) (fun W5 s5 => ?_)
    (have h := hK x W5 ⟨X4, hs4, s5, hg4⟩); simp only [ovl, Array.getD_eq_getD_getElem?, List.getElem?_toArray, List.getElem?_cons_succ, List.getElem?_cons_zero, Option.getD_some, List.setIfInBounds_toArray, List.set_cons_zero, List.set_cons_succ] at h; (try simp (decide := true) only [upd, hd, cond_true, cond_false, Bool.true_or, Bool.false_or, decide_true, decide_false] at h); exact h
  iterate 1 (· (intro L x W hW hC hL hd K hK; (try simp [depsB, Region.binds] at hd); (try simp only [Nat.reduceAdd] at hK hL); simp only [ovl, Array.getD_eq_getD_getElem?, List.getElem?_toArray, List.getElem?_cons_succ, List.getElem?_cons_zero, Option.getD_some, List.setIfInBounds_toArray, List.set_cons_zero, List.set_cons_succ]; (try simp only [hd, cond_true, cond_false]); (have hW0 := hW); (obtain ⟨X4, hs4, s4, hg4⟩ := hW); (have hb8 : HasBlk W w2.heap.size 27 #[.int .i64 R'.most, .int .i64 R'.again, .slice a1 R'.said.length c1, .int .i64 R'.heard, .int .i64 R'.out, .slice a2 R'.took.length c2, .int .i64 R'.gave, .int .i64 R'.last, .bool R'.went, .bool R'.owes] := s4.has (hs4 _ HQ8.out)); (have d0 := hb8.cell 0); (have d1 := hb8.cell 1); (have d2 := hb8.cell 2); (have d3 := hb8.cell 3); (have d4 := hb8.cell 4); (have d5 := hb8.cell 5); (have d6 := hb8.cell 6); (have d7 := hb8.cell 7); (have d8 := hb8.cell 8); (have d9 := hb8.cell 9); (have l8 := hb8.lt); clear hb8 hs4 s4 hg4; go_simp; (have h := hK x W hW0); simp only [ovl, Array.getD_eq_getD_getElem?, List.getElem?_toArray, List.getElem?_cons_succ, List.getElem?_cons_zero, Option.getD_some, List.setIfInBounds_toArray, List.set_cons_zero, List.set_cons_succ] at h; (try simp (decide := true) only [upd, hd, cond_true, cond_false, Bool.true_or, Bool.false_or, decide_true, decide_false] at h); exact h))
  intro x W9 hW9
  simp only [ovl, cond_true, Array.getD_eq_getD_getElem?, List.getElem?_toArray, List.getElem?_cons_succ, List.getElem?_cons_zero, Option.getD_some, List.setIfInBounds_toArray, List.set_cons_zero, List.set_cons_succ]
  simp only [cond_true] at hW9
  obtain ⟨X9, hs9, s9, -⟩ := hW9
  have hb := s9.hasC (b := w.heap.size + 2) (t := 27) (cs := #[.int .i64 R'.most, .int .i64 R'.again, .slice a1 R'.said.length c1, .int .i64 R'.heard, .int .i64 R'.out, .slice a2 R'.took.length c2, .int .i64 R'.gave, .int .i64 R'.last, .bool R'.went, .bool R'.owes]) (List.mem_cons_self ..)
  (have e0 := hb.cell 0); (have e1 := hb.cell 1); (have e2 := hb.cell 2); (have e3 := hb.cell 3); (have e4 := hb.cell 4); (have e5 := hb.cell 5); (have e6 := hb.cell 6); (have e7 := hb.cell 7); (have e8 := hb.cell 8); (have e9 := hb.cell 9)
  have HS9 := Lib.hid s9.drop
  have HX9 := Lib.hid hs9
  clear s9 hs9 hb
  go_wp2
  refine bodyPost_ret (v := .tuple #[.agg #[.int .i64 R'.most, .int .i64 R'.again, .slice a1 R'.said.length c1, .int .i64 R'.heard, .int .i64 R'.out, .slice a2 R'.took.length c2, .int .i64 R'.gave, .int .i64 R'.last, .bool R'.went, .bool R'.owes], .bool true]) (by simp [results, Try.results14, go_sem, e0, e1, e2, e3, e4, e5, e6, e7, e8, e9]) rfl ?_
  exact ⟨.slice a1 R'.said.length c1, .slice a2 R'.took.length c2, X9, rfl, fun x hx => HX9.out x (List.mem_cons_of_mem _ (HX.out x hx)), HS9.out, HM2.out.mono (fun x hx => HX9.out x (List.mem_cons_of_mem _ hx))⟩

end

/-- An operation, as the law reads it. -/
structure OpD where
  kd : Int
  m : List UInt8
  nw : Int
  fi : Int
  ms : List (List UInt8)
  he : Int
def doR (R : RS) (o : OpD) : RS :=
  match cutN o.kd 4 with
  | 0 => rSay R o.m
  | 1 => if rDue R (cutN o.nw 1099511627776) then rTick R (cutN o.nw 1099511627776) else R
  | 2 => rHearD R o.fi (o.ms.take 70) o.he
  | _ => rGot R
def doT (T : TS) (o : OpD) : TS :=
  match cutN o.kd 4 with
  | 0 => sayT T o.m
  | 1 => if dueT T (cutN o.nw 1099511627776) then tickT T (cutN o.nw 1099511627776) else T
  | 2 => hearD T o.fi (o.ms.take 70) o.he
  | _ => gotT T
theorem Rel.hearD_ {T : TS} {R : RS} (h : Rel T R) (fi : Int) (ms : List (List UInt8)) (he : Int) : Rel (hearD T fi ms he) (rHearD R fi ms he) := by
  unfold hearD rHearD
  rw [h.right]
  cases hb : rRight R fi ms he with
  | false => simpa using h
  | true =>
    simp only [Bool.true_eq_false, if_false]
    obtain ⟨f, g, rfl, rfl, h3, -, -⟩ := rRight_out hb
    exact h.hear f ms g h3
theorem Rel.step {T : TS} {R : RS} (h : Rel T R) (o : OpD) : Rel (doT T o) (doR R o) := by
  unfold doT doR
  rw [h.due]
  split
  · exact (h.say o.m).2
  · split
    · exact h.tick _
    · exact h
  · exact h.hearD_ _ _ _
  · exact h.gotten
theorem hearD_ok {b : Nat} {T : TS} (h : TW b T) (fi : Int) (ms : List (List UInt8)) (he : Int) : TW (b + 64) (hearD T fi ms he) := by
  unfold hearD
  cases hb : rightT T fi ms he with
  | false => simpa using h.mono (by omega)
  | true =>
    simp only [Bool.true_eq_false, if_false]
    obtain ⟨f, g, rfl, rfl, h3, h4, h5⟩ := rightT_out hb
    exact h.afterHear f ms g h3 h4 h5
theorem TW.step {b : Nat} {T : TS} (h : TW b T) (o : OpD) : TW (b + 64) (doT T o) := by
  unfold doT
  split
  · exact (h.say o.m).mono (by omega)
  · split
    · exact (h.tick _ (by have : cutN o.nw 1099511627776 < 1099511627776 := Nat.mod_lt _ (by omega); omega)).mono (by omega)
    · exact h.mono (by omega)
  · exact hearD_ok h _ _ _
  · exact h.gotten.mono (by omega)
/-- What a Talker tells of the reference's one. -/
theorem Rel.rw {b : Nat} {T : TS} {R : RS} (h : Rel T R) (hW : TW b T) (hb : b ≤ 1000000) : RW 1000000 R := by
  have h1 := hW.said; have h2 := h.said; have h3 := hW.heard; have h4 := h.heard; have h5 := hW.most; have h6 := h.most; have h7 := hW.again; have h8 := h.again; have h9 := hW.last; have h10 := h.last
  exact ⟨by omega, by omega, by omega, h.le, h.out, by omega, h.gave, by omega⟩

section
variable {w w0 : World} {C X : List Blk} {p : Nat} {T T' : TS} {R R' : RS} {vs vt : Value}
/-- do, of whatever operation. -/
theorem do_to (kd nw fi he : Int) (vm vl : Value) (m : List UInt8) (ms : List (List UInt8)) (h : S1 w w0 C X p T) (hM : RM w0 X R vs vt) (hR : RW 1000000 R) (hW : TW 1000000 T) (hr : Rel T R) (hm : Msg w0 X vm m) (hms : MsgL w0 X vl ms) (hmsn : ms.length ≤ 9223372036854775807) (hfi : fi ≤ 9223372036854775807) (hT' : doT T ⟨kd, m, nw, fi, ms, he⟩ = T') (hR' : doR R ⟨kd, m, nw, fi, ms, he⟩ = R') :
    Calls Try.prog 14 #[ptr p, .agg (rcs R vs vt), .agg #[.int .i64 kd, vm, .int .i64 nw, .int .i64 fi, vl, .int .i64 he]] w fun e w' => ∃ vs' vt' X', e = .returned (.tuple #[.agg (rcs R' vs' vt'), .bool true]) ∧ Sub X X' ∧ S1 w' w0 C X' p T' ∧ RM w0 X' R' vs' vt' := by
  obtain ⟨a1, c1, rfl⟩ := hM.1.slice
  obtain ⟨a2, c2, rfl⟩ := hM.2.slice
  obtain ⟨am, cm, rfl⟩ := hm.slice
  obtain ⟨al, cl, rfl⟩ := hms.slice
  have hk : cutN kd 4 < 4 := Nat.mod_lt _ (by omega)
  unfold doT at hT'
  unfold doR at hR'
  simp only at hT' hR'
  rcases (by omega : cutN kd 4 = 0 ∨ cutN kd 4 = 1 ∨ cutN kd 4 = 2 ∨ cutN kd 4 = 3) with hk | hk | hk | hk
  · rw [hk] at hT' hR'
    exact do_say kd nw fi he hk am al cm cl m ms h hM hR hW hr hm hms hmsn hfi hR' hT'
  · rw [hk] at hT' hR'
    simp only [hr.due] at hT' hR'
    cases hd : rDue R (cutN nw 1099511627776) with
    | true =>
      simp only [hd, if_true] at hT' hR'
      exact do_tickYes kd nw fi he hk am al cm cl m ms h hM hR hW hr hm hms hmsn hfi _ rfl hd hR' hT'
    | false =>
      simp only [hd, Bool.false_eq_true, if_false] at hT' hR'
      subst hT' hR'
      exact do_tickNo kd nw fi he hk am al cm cl m ms h hM hR hW hr hm hms hmsn hfi _ rfl hd
  · rw [hk] at hT' hR'
    exact do_hear kd nw fi he hk am al cm cl m ms h hM hR hW hr hm hms hmsn hfi _ rfl hR' hT'
  · rw [hk] at hT' hR'
    exact do_got kd nw fi he hk am al cm cl m ms h hM hR hW hr hm hms hmsn hfi hR' hT'
end

end Go.Proofs.Ytgjodjkmefdilaa
