/- talk: the law's do, kind by kind. -/
import Derived.Test.YtgjodjkmefdilaaTdp
namespace Go.Proofs.Ytgjodjkmefdilaa
set_option linter.unusedSimpArgs false
set_option linter.unusedVariables false
open Go.RowKit

theorem cut_big (x : Int) (m : Nat) (hm : 0 < m) (hm2 : m ≤ 4611686018427387904) : wrap64 ((IntKind.u64.wrap x).tmod (m : Int)) = (cutN x m : Int) := by
  have e : IntKind.u64.wrap x = x % 18446744073709551616 := by simp [IntKind.wrap, IntKind.bits, IntKind.signed]
  have h0 : 0 ≤ x % 18446744073709551616 := Int.emod_nonneg _ (by omega)
  rw [e, Int.tmod_eq_emod_of_nonneg h0]
  have h1 : (x % 18446744073709551616) % (m : Int) = (cutN x m : Int) := by
    unfold cutN
    rw [Int.natCast_emod, Int.toNat_of_nonneg h0]
  rw [h1]
  have h2 : cutN x m < m := Nat.mod_lt _ hm
  unfold wrap64
  omega
theorem MsgL.fst {w0 : World} {X : List Blk} {ao : Option Addr} {n cap : Nat} {ms : List (List UInt8)} (h : MsgL w0 X (.slice ao n cap) ms) (k : Nat) (hk : k ≤ ms.length) : MsgL w0 X (.slice ao k cap) (ms.take k) := by
  have hc := h.cap
  have := h.part (c := cap) 0 k (by omega) (by omega) ao (fun ad had _ => by rw [had]; simp [Addr.add]) (fun hav => by
    have := hc.2 hav; omega)
  simpa using this
theorem S1.few {w w0 : World} {C X : List Blk} {p : Nat} {T : TS} (h : S1 w w0 C X p T) (fi he : Int) (ao : Option Addr) (n cap m : Nat) (hm : min n 70 = m) (hc : n ≤ cap) :
    Calls Try.prog 31 #[.agg #[.int .i64 fi, .slice ao n cap, .int .i64 he]] w fun e w' => e = .returned (.tuple #[.agg #[.int .i64 fi, .slice ao m cap, .int .i64 he], .agg #[.int .i64 fi, .slice ao m cap, .int .i64 he]]) ∧ S1 w' w0 C X p T := by
  obtain ⟨A, O, t⟩ := h
  refine (few_to fi he ao n cap m hm hc w w0 _ O).mono ?_
  rintro e w' ⟨rfl, O'⟩
  exact ⟨rfl, A, O', t⟩

section
variable {w w0 : World} {C X : List Blk} {p : Nat} {T T' : TS} {R R' : RS} {a1 a2 : Option Addr} {c1 c2 : Nat}

set_option maxRecDepth 100000 in
set_option maxHeartbeats 1000000 in
theorem do_say (kd nw fi he : Int) (hk : cutN kd 4 = 0) (am as_ : Option Addr) (cm cs : Nat) (m : List UInt8) (ms : List (List UInt8)) (h : S1 w w0 C X p T) (hM : RM w0 X R (.slice a1 R.said.length c1) (.slice a2 R.took.length c2)) (hR : RW 1000000 R) (hW : TW 1000000 T) (hr : Rel T R) (hm : Msg w0 X (.slice am m.length cm) m) (hms : MsgL w0 X (.slice as_ ms.length cs) ms) (hmsn : ms.length ≤ 9223372036854775807) (hfi : fi ≤ 9223372036854775807) (hR' : rSay R m = R') (hT' : sayT T m = T') :
    Calls Try.prog 14 #[ptr p, .agg #[.int .i64 R.most, .int .i64 R.again, .slice a1 R.said.length c1, .int .i64 R.heard, .int .i64 R.out, .slice a2 R.took.length c2, .int .i64 R.gave, .int .i64 R.last, .bool R.went, .bool R.owes], .agg #[.int .i64 kd, .slice am m.length cm, .int .i64 nw, .int .i64 fi, .slice as_ ms.length cs, .int .i64 he]] w fun e w' => ∃ vs' vt' X', e = .returned (.tuple #[.agg (rcs R' vs' vt'), .bool true]) ∧ Sub X X' ∧ S1 w' w0 C X' p T' ∧ RM w0 X' R' vs' vt' := by
  have ez := cut_eq kd 4 (by omega) (by omega)
  rw [hk] at ez
  have ez' : wrap64 ((IntKind.u64.wrap kd).tmod 4) = (0 : Int) := ez
  have HS := Lib.hid (((h.key #[.int .i64 R.most, .int .i64 R.again, .slice a1 R.said.length c1, .int .i64 R.heard, .int .i64 R.out, .slice a2 R.took.length c2, .int .i64 R.gave, .int .i64 R.last, .bool R.went, .bool R.owes] 27 w.heap.size rfl).key #[.int .i64 kd, .slice am m.length cm, .int .i64 nw, .int .i64 fi, .slice as_ ms.length cs, .int .i64 he] 38 (w.heap.size + 1) (by simp)).park (cs := #[.int .i64 0, .int .i64 0, .slice none 0 0, .int .i64 0, .int .i64 0, .slice none 0 0, .int .i64 0, .int .i64 0, .bool false, .bool false]) (b := w.heap.size + 2) (t := 27) (by simp))
  have HX : Hid (Sub X (⟨w.heap.size + 1, 38, #[.int .i64 kd, .slice am m.length cm, .int .i64 nw, .int .i64 fi, .slice as_ ms.length cs, .int .i64 he]⟩ :: (⟨w.heap.size, 27, #[.int .i64 R.most, .int .i64 R.again, .slice a1 R.said.length c1, .int .i64 R.heard, .int .i64 R.out, .slice a2 R.took.length c2, .int .i64 R.gave, .int .i64 R.last, .bool R.went, .bool R.owes]⟩ :: X))) := fun x hx => by simp [hx]
  have HM := Lib.hid (hM.mono HX.out)
  have HMm := Lib.hid (hm.mono HX.out)
  have HMs := Lib.hid (hms.mono HX.out)
  have HR := Lib.hid hR
  have HW := Lib.hid hW
  have HL := Lib.hid hr
  clear h hM hR hW hr hm hms ez hk
  obtain ⟨E, HE⟩ : ∃ E, Hid (rSayE R m = E) := ⟨_, rfl⟩
  have HE2 : Hid (sayE T m = E) := by rw [← HE.out]; exact (HL.out.say m).1
  have HT' := Lib.hid hT'
  have HR' := Lib.hid hR'
  have HtL : Hid (R'.took = R.took) := by rw [← hR']; unfold rSay; split <;> (try split) <;> rfl
  clear hT' hR'
  go_enter Try.func14, Try.ntmps14
  go_wp2_with fail
  refine (HS.out.refSay HM.out HR.out _ m (HS.out.bsl HMm.out) R' HR'.out E HE.out).mono ?_
  rintro e w2 ⟨vs', X2, rfl, hs2, s2, M2⟩
  obtain ⟨a1', c1', rfl⟩ := M2.1.slice
  have e2 : R.took.length = R'.took.length := by rw [HtL.out]
  simp only [rcs, e2]
  rw [e2] at M2
  have HB5 : Hid (⟨w.heap.size + 1, 38, #[.int .i64 kd, .slice am m.length cm, .int .i64 nw, .int .i64 fi, .slice as_ ms.length cs, .int .i64 he]⟩ ∈ X2) := hs2 _ (List.mem_cons_self ..)
  have HX2 : Hid (Sub X X2) := fun x hx => hs2 x (HX.out x hx)
  have HM2 := Lib.hid M2
  have H3 := Lib.hid (s2.key #[.int .i64 R'.most, .int .i64 R'.again, .slice a1' R'.said.length c1', .int .i64 R'.heard, .int .i64 R'.out, .slice a2 R'.took.length c2, .int .i64 R'.gave, .int .i64 R'.last, .bool R'.went, .bool R'.owes] 27 w2.heap.size rfl)
  have HM3 := Lib.hid (HMm.out.mono hs2)
  have HQ5 : Hid (⟨w.heap.size + 1, 38, #[.int .i64 kd, .slice am m.length cm, .int .i64 nw, .int .i64 fi, .slice as_ ms.length cs, .int .i64 he]⟩ ∈ (⟨w2.heap.size, 27, #[.int .i64 R'.most, .int .i64 R'.again, .slice a1' R'.said.length c1', .int .i64 R'.heard, .int .i64 R'.out, .slice a2 R'.took.length c2, .int .i64 R'.gave, .int .i64 R'.last, .bool R'.went, .bool R'.owes]⟩ :: X2)) := List.mem_cons_of_mem _ HB5.out
  have HQ8 : Hid ((⟨w2.heap.size, 27, #[.int .i64 R'.most, .int .i64 R'.again, .slice a1' R'.said.length c1', .int .i64 R'.heard, .int .i64 R'.out, .slice a2 R'.took.length c2, .int .i64 R'.gave, .int .i64 R'.last, .bool R'.went, .bool R'.owes]⟩ : Blk) ∈ (⟨w2.heap.size, 27, #[.int .i64 R'.most, .int .i64 R'.again, .slice a1' R'.said.length c1', .int .i64 R'.heard, .int .i64 R'.out, .slice a2 R'.took.length c2, .int .i64 R'.gave, .int .i64 R'.last, .bool R'.went, .bool R'.owes]⟩ :: X2)) := List.mem_cons_self ..
  clear s2 hs2 M2 HS
  go_wp2_with fail
  refine wp_opq (fun W => S1 W w0 (⟨w.heap.size + 2, 27, #[.int .i64 0, .int .i64 0, .slice none 0 0, .int .i64 0, .int .i64 0, .slice none 0 0, .int .i64 0, .int .i64 0, .bool false, .bool false]⟩ :: C) (⟨w2.heap.size, 27, #[.int .i64 R'.most, .int .i64 R'.again, .slice a1' R'.said.length c1', .int .i64 R'.heard, .int .i64 R'.out, .slice a2 R'.took.length c2, .int .i64 R'.gave, .int .i64 R'.last, .bool R'.went, .bool R'.owes]⟩ :: X2) p T) H3.out ?_
  intro W3 h3
  simp only [ez']
  have H3' := Lib.hid h3
  clear h3 H3
  refine wp_region_ov (fun L (_ : Unit) => [(L 0, 36, .agg #[.int .i64 R'.most, .int .i64 R'.again, .slice a1' R'.said.length c1', .int .i64 R'.heard, .int .i64 R'.out, .slice a2 R'.took.length c2, .int .i64 R'.gave, .int .i64 R'.last, .bool R'.went, .bool R'.owes]), (L 1, 37, ptr p), (L 2, 38, .pointer (some ⟨w.heap.size + 1, 1, none⟩)), (L 3, 39, .slice am m.length cm), (L 4, 40, .int .i64 E), (L 5, 41, .int .i64 E), (L 6, 42, .bool true), (L 8, 7, .bool true)])
    (fun L _ W => ∃ X4, Sub (⟨w2.heap.size, 27, #[.int .i64 R'.most, .int .i64 R'.again, .slice a1' R'.said.length c1', .int .i64 R'.heard, .int .i64 R'.out, .slice a2 R'.took.length c2, .int .i64 R'.gave, .int .i64 R'.last, .bool R'.went, .bool R'.owes]⟩ :: X2) X4 ∧ S1 W w0 (⟨w.heap.size + 2, 27, bif L 7 then #[.int .i64 R'.most, .int .i64 R'.again, .slice a1' R'.said.length c1', .int .i64 R'.heard, .int .i64 R'.out, .slice a2 R'.took.length c2, .int .i64 R'.gave, .int .i64 R'.last, .bool R'.went, .bool R'.owes] else #[.int .i64 0, .int .i64 0, .slice none 0 0, .int .i64 0, .int .i64 0, .slice none 0 0, .int .i64 0, .int .i64 0, .bool false, .bool false]⟩ :: C) X4 p (bif L 4 then T' else T)) () (by kernel_rfl) (by kernel_rfl) (by rfl) ⟨_, Sub.refl _, H3'.out.drew⟩ ?_ ⟨?_, ?_, ?_, ?_, ?_, ?_, ?_, ?_, ?_, trivial⟩
  rotate_left
  iterate 4 (· (intro L x W hW hC hL hd K hK; (try simp [depsB, Region.binds] at hd); (try simp only [Nat.reduceAdd] at hK hL); simp only [ovl, Array.getD_eq_getD_getElem?, List.getElem?_toArray, List.getElem?_cons_succ, List.getElem?_cons_zero, Option.getD_some, List.setIfInBounds_toArray, List.set_cons_zero, List.set_cons_succ]; (try simp only [hd, cond_true, cond_false]); (have hW0 := hW); (obtain ⟨X4, hs4, s4⟩ := hW); (have hb5 : HasBlk W (w.heap.size + 1) 38 #[.int .i64 kd, .slice am m.length cm, .int .i64 nw, .int .i64 fi, .slice as_ ms.length cs, .int .i64 he] := s4.has (hs4 _ HQ5.out)); (have k1 := hb5.cell 1); (have l5 := hb5.lt); (have hb8 : HasBlk W w2.heap.size 27 #[.int .i64 R'.most, .int .i64 R'.again, .slice a1' R'.said.length c1', .int .i64 R'.heard, .int .i64 R'.out, .slice a2 R'.took.length c2, .int .i64 R'.gave, .int .i64 R'.last, .bool R'.went, .bool R'.owes] := s4.has (hs4 _ HQ8.out)); (have d0 := hb8.cell 0); (have d1 := hb8.cell 1); (have d2 := hb8.cell 2); (have d3 := hb8.cell 3); (have d4 := hb8.cell 4); (have d5 := hb8.cell 5); (have d6 := hb8.cell 6); (have d7 := hb8.cell 7); (have d8 := hb8.cell 8); (have d9 := hb8.cell 9); (have l8 := hb8.lt); clear hb5 hb8 hs4 s4; go_simp; (have h := hK () W hW0); simp only [ovl, Array.getD_eq_getD_getElem?, List.getElem?_toArray, List.getElem?_cons_succ, List.getElem?_cons_zero, Option.getD_some, List.setIfInBounds_toArray, List.set_cons_zero, List.set_cons_succ] at h; (try simp (decide := true) only [upd, hd, cond_true, cond_false, Bool.true_or, Bool.false_or, decide_true, decide_false] at h); exact h))
  · intro L x W hW hC hL hd K hK; (try simp [depsB, Region.binds] at hd); (try simp only [Nat.reduceAdd] at hK hL)
    simp only [hL, cond_false] at hW
    simp only [ovl, Array.getD_eq_getD_getElem?, List.getElem?_toArray, List.getElem?_cons_succ, List.getElem?_cons_zero, Option.getD_some, List.setIfInBounds_toArray, List.set_cons_zero, List.set_cons_succ]; (try simp only [hd, cond_true, cond_false])
    obtain ⟨X4, hs4, s4⟩ := hW
    refine wp_call_in 22 (by rfl) (by kernel_rfl) #[ptr p, .slice am m.length cm] (by (simp only [List.map_toArray, List.map_cons, List.map_nil, Act.eval, Array.getD_eq_getD_getElem?, List.getElem?_toArray, List.getElem?_cons_succ, List.getElem?_cons_zero, Option.getD_some])) ((s4.say _ m (s4.bsl (HM3.out.mono fun x hx => hs4 x (List.mem_cons_of_mem _ hx))) HW.out E HE2.out T' HT'.out).mono ?_)
    rintro e W4 ⟨rfl, X5, hs5, s5⟩
    refine ⟨_, rfl, ?_⟩
    (have h := hK () W4 ⟨X5, hs4.trans hs5, s5⟩); simp only [ovl, Array.getD_eq_getD_getElem?, List.getElem?_toArray, List.getElem?_cons_succ, List.getElem?_cons_zero, Option.getD_some, List.setIfInBounds_toArray, List.set_cons_zero, List.set_cons_succ] at h; (try simp (decide := true) only [upd, hd, cond_true, cond_false, Bool.true_or, Bool.false_or, decide_true, decide_false] at h); exact h
  iterate 2 (· (intro L x W hW hC hL hd K hK; (try simp [depsB, Region.binds] at hd); (try simp only [Nat.reduceAdd] at hK hL); simp only [ovl, Array.getD_eq_getD_getElem?, List.getElem?_toArray, List.getElem?_cons_succ, List.getElem?_cons_zero, Option.getD_some, List.setIfInBounds_toArray, List.set_cons_zero, List.set_cons_succ]; (try simp only [hd, cond_true, cond_false]); (have hW0 := hW); (obtain ⟨X4, hs4, s4⟩ := hW); (have hb5 : HasBlk W (w.heap.size + 1) 38 #[.int .i64 kd, .slice am m.length cm, .int .i64 nw, .int .i64 fi, .slice as_ ms.length cs, .int .i64 he] := s4.has (hs4 _ HQ5.out)); (have k1 := hb5.cell 1); (have l5 := hb5.lt); (have hb8 : HasBlk W w2.heap.size 27 #[.int .i64 R'.most, .int .i64 R'.again, .slice a1' R'.said.length c1', .int .i64 R'.heard, .int .i64 R'.out, .slice a2 R'.took.length c2, .int .i64 R'.gave, .int .i64 R'.last, .bool R'.went, .bool R'.owes] := s4.has (hs4 _ HQ8.out)); (have d0 := hb8.cell 0); (have d1 := hb8.cell 1); (have d2 := hb8.cell 2); (have d3 := hb8.cell 3); (have d4 := hb8.cell 4); (have d5 := hb8.cell 5); (have d6 := hb8.cell 6); (have d7 := hb8.cell 7); (have d8 := hb8.cell 8); (have d9 := hb8.cell 9); (have l8 := hb8.lt); clear hb5 hb8 hs4 s4; go_simp; (have h := hK () W hW0); simp only [ovl, Array.getD_eq_getD_getElem?, List.getElem?_toArray, List.getElem?_cons_succ, List.getElem?_cons_zero, Option.getD_some, List.setIfInBounds_toArray, List.set_cons_zero, List.set_cons_succ] at h; (try simp (decide := true) only [upd, hd, cond_true, cond_false, Bool.true_or, Bool.false_or, decide_true, decide_false] at h); exact h))
  · intro L x W hW hC hL hd K hK; (try simp [depsB, Region.binds] at hd); (try simp only [Nat.reduceAdd] at hK hL)
    simp only [hL, hd, cond_false, cond_true] at hW
    simp only [ovl, Array.getD_eq_getD_getElem?, List.getElem?_toArray, List.getElem?_cons_succ, List.getElem?_cons_zero, Option.getD_some, List.setIfInBounds_toArray, List.set_cons_zero, List.set_cons_succ]; (try simp only [hd, cond_true, cond_false])
    obtain ⟨X4, hs4, s4⟩ := hW
    refine s4.store 27 (.tmp 6) (.tmp 36) (by rfl) (by rfl) #[.int .i64 R'.most, .int .i64 R'.again, .slice a1' R'.said.length c1', .int .i64 R'.heard, .int .i64 R'.out, .slice a2 R'.took.length c2, .int .i64 R'.gave, .int .i64 R'.last, .bool R'.went, .bool R'.owes] (by rfl) (by kernel_rfl) (by rfl) (by simp [Value.oneCell']) (fun W5 s5 => ?_)
    (have h := hK () W5 ⟨X4, hs4, by simpa [upd, hd] using s5⟩); simp only [ovl, Array.getD_eq_getD_getElem?, List.getElem?_toArray, List.getElem?_cons_succ, List.getElem?_cons_zero, Option.getD_some, List.setIfInBounds_toArray, List.set_cons_zero, List.set_cons_succ] at h; (try simp (decide := true) only [upd, hd, cond_true, cond_false, Bool.true_or, Bool.false_or, decide_true, decide_false] at h); exact h
  iterate 1 (· (intro L x W hW hC hL hd K hK; (try simp [depsB, Region.binds] at hd); (try simp only [Nat.reduceAdd] at hK hL); simp only [ovl, Array.getD_eq_getD_getElem?, List.getElem?_toArray, List.getElem?_cons_succ, List.getElem?_cons_zero, Option.getD_some, List.setIfInBounds_toArray, List.set_cons_zero, List.set_cons_succ]; (try simp only [hd, cond_true, cond_false]); (have hW0 := hW); (obtain ⟨X4, hs4, s4⟩ := hW); (have hb5 : HasBlk W (w.heap.size + 1) 38 #[.int .i64 kd, .slice am m.length cm, .int .i64 nw, .int .i64 fi, .slice as_ ms.length cs, .int .i64 he] := s4.has (hs4 _ HQ5.out)); (have k1 := hb5.cell 1); (have l5 := hb5.lt); (have hb8 : HasBlk W w2.heap.size 27 #[.int .i64 R'.most, .int .i64 R'.again, .slice a1' R'.said.length c1', .int .i64 R'.heard, .int .i64 R'.out, .slice a2 R'.took.length c2, .int .i64 R'.gave, .int .i64 R'.last, .bool R'.went, .bool R'.owes] := s4.has (hs4 _ HQ8.out)); (have d0 := hb8.cell 0); (have d1 := hb8.cell 1); (have d2 := hb8.cell 2); (have d3 := hb8.cell 3); (have d4 := hb8.cell 4); (have d5 := hb8.cell 5); (have d6 := hb8.cell 6); (have d7 := hb8.cell 7); (have d8 := hb8.cell 8); (have d9 := hb8.cell 9); (have l8 := hb8.lt); clear hb5 hb8 hs4 s4; go_simp; (have h := hK () W hW0); simp only [ovl, Array.getD_eq_getD_getElem?, List.getElem?_toArray, List.getElem?_cons_succ, List.getElem?_cons_zero, Option.getD_some, List.setIfInBounds_toArray, List.set_cons_zero, List.set_cons_succ] at h; (try simp (decide := true) only [upd, hd, cond_true, cond_false, Bool.true_or, Bool.false_or, decide_true, decide_false] at h); exact h))
  intro x W9 hW9
  simp only [ovl, cond_true, Array.getD_eq_getD_getElem?, List.getElem?_toArray, List.getElem?_cons_succ, List.getElem?_cons_zero, Option.getD_some, List.setIfInBounds_toArray, List.set_cons_zero, List.set_cons_succ]
  simp only [cond_true] at hW9
  obtain ⟨X9, hs9, s9⟩ := hW9
  have hb := s9.hasC (b := w.heap.size + 2) (t := 27) (cs := #[.int .i64 R'.most, .int .i64 R'.again, .slice a1' R'.said.length c1', .int .i64 R'.heard, .int .i64 R'.out, .slice a2 R'.took.length c2, .int .i64 R'.gave, .int .i64 R'.last, .bool R'.went, .bool R'.owes]) (List.mem_cons_self ..)
  (have e0 := hb.cell 0); (have e1 := hb.cell 1); (have e2 := hb.cell 2); (have e3 := hb.cell 3); (have e4 := hb.cell 4); (have e5 := hb.cell 5); (have e6 := hb.cell 6); (have e7 := hb.cell 7); (have e8 := hb.cell 8); (have e9 := hb.cell 9)
  have HS9 := Lib.hid s9.drop
  have HX9 := Lib.hid hs9
  clear s9 hs9 hb
  go_wp2
  refine bodyPost_ret (v := .tuple #[.agg #[.int .i64 R'.most, .int .i64 R'.again, .slice a1' R'.said.length c1', .int .i64 R'.heard, .int .i64 R'.out, .slice a2 R'.took.length c2, .int .i64 R'.gave, .int .i64 R'.last, .bool R'.went, .bool R'.owes], .bool true]) (by simp [results, Try.results14, go_sem, e0, e1, e2, e3, e4, e5, e6, e7, e8, e9]) rfl ?_
  exact ⟨.slice a1' R'.said.length c1', .slice a2 R'.took.length c2, X9, rfl, fun x hx => HX9.out x (List.mem_cons_of_mem _ (HX2.out x hx)), HS9.out, HM2.out.mono (fun x hx => HX9.out x (List.mem_cons_of_mem _ hx))⟩

set_option maxRecDepth 100000 in
set_option maxHeartbeats 8000000 in
theorem do_tickNo (kd nw fi he : Int) (hk : cutN kd 4 = 1) (am as_ : Option Addr) (cm cs : Nat) (m : List UInt8) (ms : List (List UInt8)) (h : S1 w w0 C X p T) (hM : RM w0 X R (.slice a1 R.said.length c1) (.slice a2 R.took.length c2)) (hR : RW 1000000 R) (hW : TW 1000000 T) (hr : Rel T R) (hm : Msg w0 X (.slice am m.length cm) m) (hms : MsgL w0 X (.slice as_ ms.length cs) ms) (hmsn : ms.length ≤ 9223372036854775807) (hfi : fi ≤ 9223372036854775807) (z : Nat) (hz : cutN nw 1099511627776 = z) (hd : rDue R z = false) :
    Calls Try.prog 14 #[ptr p, .agg #[.int .i64 R.most, .int .i64 R.again, .slice a1 R.said.length c1, .int .i64 R.heard, .int .i64 R.out, .slice a2 R.took.length c2, .int .i64 R.gave, .int .i64 R.last, .bool R.went, .bool R.owes], .agg #[.int .i64 kd, .slice am m.length cm, .int .i64 nw, .int .i64 fi, .slice as_ ms.length cs, .int .i64 he]] w fun e w' => ∃ vs' vt' X', e = .returned (.tuple #[.agg (rcs R vs' vt'), .bool true]) ∧ Sub X X' ∧ S1 w' w0 C X' p T ∧ RM w0 X' R vs' vt' := by
  have ez := cut_eq kd 4 (by omega) (by omega)
  rw [hk] at ez
  have ez' : wrap64 ((IntKind.u64.wrap kd).tmod 4) = (1 : Int) := ez
  have HS := Lib.hid (((h.key #[.int .i64 R.most, .int .i64 R.again, .slice a1 R.said.length c1, .int .i64 R.heard, .int .i64 R.out, .slice a2 R.took.length c2, .int .i64 R.gave, .int .i64 R.last, .bool R.went, .bool R.owes] 27 w.heap.size rfl).key #[.int .i64 kd, .slice am m.length cm, .int .i64 nw, .int .i64 fi, .slice as_ ms.length cs, .int .i64 he] 38 (w.heap.size + 1) (by simp)).park (cs := #[.int .i64 0, .int .i64 0, .slice none 0 0, .int .i64 0, .int .i64 0, .slice none 0 0, .int .i64 0, .int .i64 0, .bool false, .bool false]) (b := w.heap.size + 2) (t := 27) (by simp))
  have HX : Hid (Sub X (⟨w.heap.size + 1, 38, #[.int .i64 kd, .slice am m.length cm, .int .i64 nw, .int .i64 fi, .slice as_ ms.length cs, .int .i64 he]⟩ :: (⟨w.heap.size, 27, #[.int .i64 R.most, .int .i64 R.again, .slice a1 R.said.length c1, .int .i64 R.heard, .int .i64 R.out, .slice a2 R.took.length c2, .int .i64 R.gave, .int .i64 R.last, .bool R.went, .bool R.owes]⟩ :: X))) := fun x hx => by simp [hx]
  have HM := Lib.hid (hM.mono HX.out)
  have HMm := Lib.hid (hm.mono HX.out)
  have HMs := Lib.hid (hms.mono HX.out)
  have HR := Lib.hid hR
  have HW := Lib.hid hW
  have HL := Lib.hid hr
  clear h hM hR hW hr hm hms ez hk
  have hzl : z < 1099511627776 := by rw [← hz]; exact Nat.mod_lt _ (by omega)
  have ezn := cut_big nw 1099511627776 (by omega) (by omega)
  rw [hz] at ezn
  have ezn' : wrap64 ((IntKind.u64.wrap nw).tmod 1099511627776) = (z : Int) := ezn
  have HD := Lib.hid hd
  have HD2 : Hid (dueT T z = false) := by rw [HL.out.due]; exact hd
  clear ezn hz hd
  go_enter Try.func14, Try.ntmps14
  go_wp2_with fail
  refine (HS.out.refTickNo HM.out HR.out z (by omega) HD.out).mono ?_
  rintro e w2 ⟨rfl, s2⟩
  obtain ⟨X2, hX2⟩ : ∃ X2, X2 = (⟨w.heap.size + 1, 38, #[.int .i64 kd, .slice am m.length cm, .int .i64 nw, .int .i64 fi, .slice as_ ms.length cs, .int .i64 he]⟩ :: (⟨w.heap.size, 27, #[.int .i64 R.most, .int .i64 R.again, .slice a1 R.said.length c1, .int .i64 R.heard, .int .i64 R.out, .slice a2 R.took.length c2, .int .i64 R.gave, .int .i64 R.last, .bool R.went, .bool R.owes]⟩ :: X)) := ⟨_, rfl⟩
  have hs2 : Sub (⟨w.heap.size + 1, 38, #[.int .i64 kd, .slice am m.length cm, .int .i64 nw, .int .i64 fi, .slice as_ ms.length cs, .int .i64 he]⟩ :: (⟨w.heap.size, 27, #[.int .i64 R.most, .int .i64 R.again, .slice a1 R.said.length c1, .int .i64 R.heard, .int .i64 R.out, .slice a2 R.took.length c2, .int .i64 R.gave, .int .i64 R.last, .bool R.went, .bool R.owes]⟩ :: X)) X2 := by rw [hX2]; exact Sub.refl _
  rw [← hX2] at s2
  have M2' : RM w0 X2 R (.slice a1 R.said.length c1) (.slice a2 R.took.length c2) := HM.out.mono hs2
  try simp only [rcs]
  clear hX2
  have HQ8x : Hid ((⟨w2.heap.size, 27, #[.int .i64 R.most, .int .i64 R.again, .slice a1 R.said.length c1, .int .i64 R.heard, .int .i64 R.out, .slice a2 R.took.length c2, .int .i64 R.gave, .int .i64 R.last, .bool R.went, .bool R.owes]⟩ : Blk) ∈ (⟨w2.heap.size + 1, 68, #[.int .i64 0, .slice none 0 0, .int .i64 0]⟩ :: (⟨w2.heap.size, 27, #[.int .i64 R.most, .int .i64 R.again, .slice a1 R.said.length c1, .int .i64 R.heard, .int .i64 R.out, .slice a2 R.took.length c2, .int .i64 R.gave, .int .i64 R.last, .bool R.went, .bool R.owes]⟩ :: X2))) := List.mem_cons_of_mem _ (List.mem_cons_self ..)
  have HQ12x : Hid ((⟨w2.heap.size + 1, 68, #[.int .i64 0, .slice none 0 0, .int .i64 0]⟩ : Blk) ∈ (⟨w2.heap.size + 1, 68, #[.int .i64 0, .slice none 0 0, .int .i64 0]⟩ :: (⟨w2.heap.size, 27, #[.int .i64 R.most, .int .i64 R.again, .slice a1 R.said.length c1, .int .i64 R.heard, .int .i64 R.out, .slice a2 R.took.length c2, .int .i64 R.gave, .int .i64 R.last, .bool R.went, .bool R.owes]⟩ :: X2))) := List.mem_cons_self ..
  have HX2 : Hid (Sub X X2) := fun x hx => hs2 x (HX.out x hx)
  have HM2 := Lib.hid M2'
  have H3 := Lib.hid ((s2.key #[.int .i64 R.most, .int .i64 R.again, .slice a1 R.said.length c1, .int .i64 R.heard, .int .i64 R.out, .slice a2 R.took.length c2, .int .i64 R.gave, .int .i64 R.last, .bool R.went, .bool R.owes] 27 w2.heap.size rfl).key #[.int .i64 0, .slice none 0 0, .int .i64 0] 68 (w2.heap.size + 1) (by simp))
  clear s2 hs2 M2' HS
  go_wp2_with fail
  refine (H3.out.tickNo z (by omega) HW.out HD2.out).mono ?_
  rintro e w4 ⟨rfl, s4⟩
  obtain ⟨X4, hX4⟩ : ∃ X4, X4 = (⟨w2.heap.size + 1, 68, #[.int .i64 0, .slice none 0 0, .int .i64 0]⟩ :: (⟨w2.heap.size, 27, #[.int .i64 R.most, .int .i64 R.again, .slice a1 R.said.length c1, .int .i64 R.heard, .int .i64 R.out, .slice a2 R.took.length c2, .int .i64 R.gave, .int .i64 R.last, .bool R.went, .bool R.owes]⟩ :: X2)) := ⟨_, rfl⟩
  have hs4 : Sub (⟨w2.heap.size + 1, 68, #[.int .i64 0, .slice none 0 0, .int .i64 0]⟩ :: (⟨w2.heap.size, 27, #[.int .i64 R.most, .int .i64 R.again, .slice a1 R.said.length c1, .int .i64 R.heard, .int .i64 R.out, .slice a2 R.took.length c2, .int .i64 R.gave, .int .i64 R.last, .bool R.went, .bool R.owes]⟩ :: X2)) X4 := by rw [hX4]; exact Sub.refl _
  rw [← hX4] at s4
  clear hX4
  have HQ8 : Hid ((⟨w2.heap.size, 27, #[.int .i64 R.most, .int .i64 R.again, .slice a1 R.said.length c1, .int .i64 R.heard, .int .i64 R.out, .slice a2 R.took.length c2, .int .i64 R.gave, .int .i64 R.last, .bool R.went, .bool R.owes]⟩ : Blk) ∈ (⟨w4.heap.size, 36, #[.int .i64 0, .slice none 0 0, .int .i64 0]⟩ :: X4)) := List.mem_cons_of_mem _ (hs4 _ HQ8x.out)
  have HQ12 : Hid ((⟨w2.heap.size + 1, 68, #[.int .i64 0, .slice none 0 0, .int .i64 0]⟩ : Blk) ∈ (⟨w4.heap.size, 36, #[.int .i64 0, .slice none 0 0, .int .i64 0]⟩ :: X4)) := List.mem_cons_of_mem _ (hs4 _ HQ12x.out)
  have HQ14 : Hid ((⟨w4.heap.size, 36, #[.int .i64 0, .slice none 0 0, .int .i64 0]⟩ : Blk) ∈ (⟨w4.heap.size, 36, #[.int .i64 0, .slice none 0 0, .int .i64 0]⟩ :: X4)) := List.mem_cons_self ..
  have HX5 : Hid (Sub X2 (⟨w4.heap.size, 36, #[.int .i64 0, .slice none 0 0, .int .i64 0]⟩ :: X4)) := fun x hx => List.mem_cons_of_mem _ (hs4 x (List.mem_cons_of_mem _ (List.mem_cons_of_mem _ hx)))
  have H5 := Lib.hid (s4.key #[.int .i64 0, .slice none 0 0, .int .i64 0] 36 w4.heap.size rfl)
  have HML2 : Hid (MsgL w0 (⟨w4.heap.size, 36, #[.int .i64 0, .slice none 0 0, .int .i64 0]⟩ :: X4) (.slice none 0 0) []) := MsgL.nil _ _
  have HML4 : Hid (MsgL w0 (⟨w4.heap.size, 36, #[.int .i64 0, .slice none 0 0, .int .i64 0]⟩ :: X4) (.slice none 0 0) []) := MsgL.nil _ _
  clear s4 hs4 H3
  go_wp2_with fail
  refine wp_opq (fun W => S1 W w0 (⟨w.heap.size + 2, 27, #[.int .i64 0, .int .i64 0, .slice none 0 0, .int .i64 0, .int .i64 0, .slice none 0 0, .int .i64 0, .int .i64 0, .bool false, .bool false]⟩ :: C) (⟨w4.heap.size, 36, #[.int .i64 0, .slice none 0 0, .int .i64 0]⟩ :: X4) p T) H5.out ?_
  intro W5 h5
  try simp only [ez', ezn']
  have H5' := Lib.hid h5
  clear h5 H5
  refine wp_region_ov (fun L (_ : Unit) => [(L 0, 63, .agg #[.int .i64 R.most, .int .i64 R.again, .slice a1 R.said.length c1, .int .i64 R.heard, .int .i64 R.out, .slice a2 R.took.length c2, .int .i64 R.gave, .int .i64 R.last, .bool R.went, .bool R.owes]), (L 1, 64, .bool false), (L 2, 65, .bool false), (L 3, 66, .bool true), (L 4, 67, .bool true), (L 5, 68, .agg #[.int .i64 0, .slice none 0 0, .int .i64 0]), (L 6, 69, .agg #[.int .i64 0, .slice none 0 0, .int .i64 0]), (L 7, 70, .bool true), (L 8, 71, .bool true), (L 10, 7, .bool true)])
    (fun L _ W => S1 W w0 (⟨w.heap.size + 2, 27, bif L 9 then #[.int .i64 R.most, .int .i64 R.again, .slice a1 R.said.length c1, .int .i64 R.heard, .int .i64 R.out, .slice a2 R.took.length c2, .int .i64 R.gave, .int .i64 R.last, .bool R.went, .bool R.owes] else #[.int .i64 0, .int .i64 0, .slice none 0 0, .int .i64 0, .int .i64 0, .slice none 0 0, .int .i64 0, .int .i64 0, .bool false, .bool false]⟩ :: C) (⟨w4.heap.size, 36, #[.int .i64 0, .slice none 0 0, .int .i64 0]⟩ :: X4) p T) () (by kernel_rfl) (by kernel_rfl) (by rfl) H5'.out.drew ?_ ⟨?_, ?_, ?_, ?_, ?_, ?_, ?_, ?_, ?_, ?_, ?_, trivial⟩
  rotate_left
  iterate 5 (· (intro L x W hW hC hL hd K hK; (try simp [depsB, Region.binds] at hd); (try simp only [Nat.reduceAdd] at hK hL); simp only [ovl, Array.getD_eq_getD_getElem?, List.getElem?_toArray, List.getElem?_cons_succ, List.getElem?_cons_zero, Option.getD_some, List.setIfInBounds_toArray, List.set_cons_zero, List.set_cons_succ]; (try simp only [hd, cond_true, cond_false]); (have hW0 := hW); (have hb8 : HasBlk W w2.heap.size 27 #[.int .i64 R.most, .int .i64 R.again, .slice a1 R.said.length c1, .int .i64 R.heard, .int .i64 R.out, .slice a2 R.took.length c2, .int .i64 R.gave, .int .i64 R.last, .bool R.went, .bool R.owes] := hW.has HQ8.out); (have hb12 : HasBlk W (w2.heap.size + 1) 68 #[.int .i64 0, .slice none 0 0, .int .i64 0] := hW.has HQ12.out); (have hb14 : HasBlk W w4.heap.size 36 #[.int .i64 0, .slice none 0 0, .int .i64 0] := hW.has HQ14.out); (have d0 := hb8.cell 0); (have d1 := hb8.cell 1); (have d2 := hb8.cell 2); (have d3 := hb8.cell 3); (have d4 := hb8.cell 4); (have d5 := hb8.cell 5); (have d6 := hb8.cell 6); (have d7 := hb8.cell 7); (have d8 := hb8.cell 8); (have d9 := hb8.cell 9); (have l8 := hb8.lt); (have f0 := hb12.cell 0); (have f1 := hb12.cell 1); (have f2 := hb12.cell 2); (have l12 := hb12.lt); (have g0 := hb14.cell 0); (have g1 := hb14.cell 1); (have g2 := hb14.cell 2); (have l14 := hb14.lt); clear hb8 hb12 hb14 hW; go_simp; (have h := hK () W hW0); simp only [ovl, Array.getD_eq_getD_getElem?, List.getElem?_toArray, List.getElem?_cons_succ, List.getElem?_cons_zero, Option.getD_some, List.setIfInBounds_toArray, List.set_cons_zero, List.set_cons_succ] at h; (try simp (decide := true) only [upd, hd, cond_true, cond_false, Bool.true_or, Bool.false_or, decide_true, decide_false] at h); exact h))
  iterate 2 (· (intro L x W hW hC hL hd K hK; (try simp [depsB, Region.binds] at hd); (try simp only [Nat.reduceAdd] at hK hL); simp only [ovl, Array.getD_eq_getD_getElem?, List.getElem?_toArray, List.getElem?_cons_succ, List.getElem?_cons_zero, Option.getD_some, List.setIfInBounds_toArray, List.set_cons_zero, List.set_cons_succ]; (try simp only [hd, cond_true, cond_false]); (have hW0 := hW); (have hb8 : HasBlk W w2.heap.size 27 #[.int .i64 R.most, .int .i64 R.again, .slice a1 R.said.length c1, .int .i64 R.heard, .int .i64 R.out, .slice a2 R.took.length c2, .int .i64 R.gave, .int .i64 R.last, .bool R.went, .bool R.owes] := hW.has HQ8.out); (have hb12 : HasBlk W (w2.heap.size + 1) 68 #[.int .i64 0, .slice none 0 0, .int .i64 0] := hW.has HQ12.out); (have hb14 : HasBlk W w4.heap.size 36 #[.int .i64 0, .slice none 0 0, .int .i64 0] := hW.has HQ14.out); (have d0 := hb8.cell 0); (have d1 := hb8.cell 1); (have d2 := hb8.cell 2); (have d3 := hb8.cell 3); (have d4 := hb8.cell 4); (have d5 := hb8.cell 5); (have d6 := hb8.cell 6); (have d7 := hb8.cell 7); (have d8 := hb8.cell 8); (have d9 := hb8.cell 9); (have l8 := hb8.lt); (have f0 := hb12.cell 0); (have f1 := hb12.cell 1); (have f2 := hb12.cell 2); (have l12 := hb12.lt); (have g0 := hb14.cell 0); (have g1 := hb14.cell 1); (have g2 := hb14.cell 2); (have l14 := hb14.lt); clear hb8 hb12 hb14 hW; (rw [if_pos (by rfl)]); go_simp; (have h := hK () W hW0); simp only [ovl, Array.getD_eq_getD_getElem?, List.getElem?_toArray, List.getElem?_cons_succ, List.getElem?_cons_zero, Option.getD_some, List.setIfInBounds_toArray, List.set_cons_zero, List.set_cons_succ] at h; (try simp (decide := true) only [upd, hd, cond_true, cond_false, Bool.true_or, Bool.false_or, decide_true, decide_false] at h); exact h))
  · intro L x W hW hC hL hd K hK; (try simp [depsB, Region.binds] at hd); (try simp only [Nat.reduceAdd] at hK hL)
    simp only [ovl, Array.getD_eq_getD_getElem?, List.getElem?_toArray, List.getElem?_cons_succ, List.getElem?_cons_zero, Option.getD_some, List.setIfInBounds_toArray, List.set_cons_zero, List.set_cons_succ]; (try simp only [hd, cond_true, cond_false])
    rw [if_pos (by rfl)]
    refine wp_call_in 30 (by rfl) (by kernel_rfl) #[.agg #[.int .i64 0, .slice none 0 0, .int .i64 0], .agg #[.int .i64 0, .slice none 0 0, .int .i64 0]] (by (simp only [List.map_toArray, List.map_cons, List.map_nil, Act.eval, Array.getD_eq_getD_getElem?, List.getElem?_toArray, List.getElem?_cons_succ, List.getElem?_cons_zero, Option.getD_some])) ((lsame_to 0 0 _ _ [] W (by simp) (hW.here HML4.out) (hW.here HML2.out)).mono ?_)
    rintro e W4 ⟨rfl, hb⟩
    refine ⟨_, rfl, ?_⟩
    (have h := hK () W4 (hW.of_below hb)); simp only [ovl, Array.getD_eq_getD_getElem?, List.getElem?_toArray, List.getElem?_cons_succ, List.getElem?_cons_zero, Option.getD_some, List.setIfInBounds_toArray, List.set_cons_zero, List.set_cons_succ] at h; (try simp (decide := true) only [upd, hd, cond_true, cond_false, Bool.true_or, Bool.false_or, decide_true, decide_false] at h); exact h
  iterate 1 (· (intro L x W hW hC hL hd K hK; (try simp [depsB, Region.binds] at hd); (try simp only [Nat.reduceAdd] at hK hL); simp only [ovl, Array.getD_eq_getD_getElem?, List.getElem?_toArray, List.getElem?_cons_succ, List.getElem?_cons_zero, Option.getD_some, List.setIfInBounds_toArray, List.set_cons_zero, List.set_cons_succ]; (try simp only [hd, cond_true, cond_false]); (have hW0 := hW); (have hb8 : HasBlk W w2.heap.size 27 #[.int .i64 R.most, .int .i64 R.again, .slice a1 R.said.length c1, .int .i64 R.heard, .int .i64 R.out, .slice a2 R.took.length c2, .int .i64 R.gave, .int .i64 R.last, .bool R.went, .bool R.owes] := hW.has HQ8.out); (have hb12 : HasBlk W (w2.heap.size + 1) 68 #[.int .i64 0, .slice none 0 0, .int .i64 0] := hW.has HQ12.out); (have hb14 : HasBlk W w4.heap.size 36 #[.int .i64 0, .slice none 0 0, .int .i64 0] := hW.has HQ14.out); (have d0 := hb8.cell 0); (have d1 := hb8.cell 1); (have d2 := hb8.cell 2); (have d3 := hb8.cell 3); (have d4 := hb8.cell 4); (have d5 := hb8.cell 5); (have d6 := hb8.cell 6); (have d7 := hb8.cell 7); (have d8 := hb8.cell 8); (have d9 := hb8.cell 9); (have l8 := hb8.lt); (have f0 := hb12.cell 0); (have f1 := hb12.cell 1); (have f2 := hb12.cell 2); (have l12 := hb12.lt); (have g0 := hb14.cell 0); (have g1 := hb14.cell 1); (have g2 := hb14.cell 2); (have l14 := hb14.lt); clear hb8 hb12 hb14 hW; go_simp; (have h := hK () W hW0); simp only [ovl, Array.getD_eq_getD_getElem?, List.getElem?_toArray, List.getElem?_cons_succ, List.getElem?_cons_zero, Option.getD_some, List.setIfInBounds_toArray, List.set_cons_zero, List.set_cons_succ] at h; (try simp (decide := true) only [upd, hd, cond_true, cond_false, Bool.true_or, Bool.false_or, decide_true, decide_false] at h); exact h))
  · intro L x W hW hC hL hd K hK; (try simp [depsB, Region.binds] at hd); (try simp only [Nat.reduceAdd] at hK hL)
    simp only [hL, hd, cond_false, cond_true] at hW
    simp only [ovl, Array.getD_eq_getD_getElem?, List.getElem?_toArray, List.getElem?_cons_succ, List.getElem?_cons_zero, Option.getD_some, List.setIfInBounds_toArray, List.set_cons_zero, List.set_cons_succ]; (try simp only [hd, cond_true, cond_false])
    refine hW.store 27 (.tmp 6) (.tmp 63) (by rfl) (by rfl) #[.int .i64 R.most, .int .i64 R.again, .slice a1 R.said.length c1, .int .i64 R.heard, .int .i64 R.out, .slice a2 R.took.length c2, .int .i64 R.gave, .int .i64 R.last, .bool R.went, .bool R.owes] (by rfl) (by kernel_rfl) (by rfl) (by simp [Value.oneCell']) (fun W5 s5 => ?_)
    (have h := hK () W5 s5); simp only [ovl, Array.getD_eq_getD_getElem?, List.getElem?_toArray, List.getElem?_cons_succ, List.getElem?_cons_zero, Option.getD_some, List.setIfInBounds_toArray, List.set_cons_zero, List.set_cons_succ] at h; (try simp (decide := true) only [upd, hd, cond_true, cond_false, Bool.true_or, Bool.false_or, decide_true, decide_false] at h); exact h
  iterate 1 (· (intro L x W hW hC hL hd K hK; (try simp [depsB, Region.binds] at hd); (try simp only [Nat.reduceAdd] at hK hL); simp only [ovl, Array.getD_eq_getD_getElem?, List.getElem?_toArray, List.getElem?_cons_succ, List.getElem?_cons_zero, Option.getD_some, List.setIfInBounds_toArray, List.set_cons_zero, List.set_cons_succ]; (try simp only [hd, cond_true, cond_false]); (have hW0 := hW); (have hb8 : HasBlk W w2.heap.size 27 #[.int .i64 R.most, .int .i64 R.again, .slice a1 R.said.length c1, .int .i64 R.heard, .int .i64 R.out, .slice a2 R.took.length c2, .int .i64 R.gave, .int .i64 R.last, .bool R.went, .bool R.owes] := hW.has HQ8.out); (have hb12 : HasBlk W (w2.heap.size + 1) 68 #[.int .i64 0, .slice none 0 0, .int .i64 0] := hW.has HQ12.out); (have hb14 : HasBlk W w4.heap.size 36 #[.int .i64 0, .slice none 0 0, .int .i64 0] := hW.has HQ14.out); (have d0 := hb8.cell 0); (have d1 := hb8.cell 1); (have d2 := hb8.cell 2); (have d3 := hb8.cell 3); (have d4 := hb8.cell 4); (have d5 := hb8.cell 5); (have d6 := hb8.cell 6); (have d7 := hb8.cell 7); (have d8 := hb8.cell 8); (have d9 := hb8.cell 9); (have l8 := hb8.lt); (have f0 := hb12.cell 0); (have f1 := hb12.cell 1); (have f2 := hb12.cell 2); (have l12 := hb12.lt); (have g0 := hb14.cell 0); (have g1 := hb14.cell 1); (have g2 := hb14.cell 2); (have l14 := hb14.lt); clear hb8 hb12 hb14 hW; go_simp; (have h := hK () W hW0); simp only [ovl, Array.getD_eq_getD_getElem?, List.getElem?_toArray, List.getElem?_cons_succ, List.getElem?_cons_zero, Option.getD_some, List.setIfInBounds_toArray, List.set_cons_zero, List.set_cons_succ] at h; (try simp (decide := true) only [upd, hd, cond_true, cond_false, Bool.true_or, Bool.false_or, decide_true, decide_false] at h); exact h))
  intro x W9 s9
  simp only [ovl, cond_true, Array.getD_eq_getD_getElem?, List.getElem?_toArray, List.getElem?_cons_succ, List.getElem?_cons_zero, Option.getD_some, List.setIfInBounds_toArray, List.set_cons_zero, List.set_cons_succ]
  simp only [cond_true] at s9
  obtain ⟨X9, hX9⟩ : ∃ X9, X9 = (⟨w4.heap.size, 36, #[.int .i64 0, .slice none 0 0, .int .i64 0]⟩ :: X4) := ⟨_, rfl⟩
  have hs9 : Sub (⟨w4.heap.size, 36, #[.int .i64 0, .slice none 0 0, .int .i64 0]⟩ :: X4) X9 := by rw [hX9]; exact Sub.refl _
  rw [← hX9] at s9
  clear hX9
  have hb := s9.hasC (b := w.heap.size + 2) (t := 27) (cs := #[.int .i64 R.most, .int .i64 R.again, .slice a1 R.said.length c1, .int .i64 R.heard, .int .i64 R.out, .slice a2 R.took.length c2, .int .i64 R.gave, .int .i64 R.last, .bool R.went, .bool R.owes]) (List.mem_cons_self ..)
  (have e0 := hb.cell 0); (have e1 := hb.cell 1); (have e2 := hb.cell 2); (have e3 := hb.cell 3); (have e4 := hb.cell 4); (have e5 := hb.cell 5); (have e6 := hb.cell 6); (have e7 := hb.cell 7); (have e8 := hb.cell 8); (have e9 := hb.cell 9)
  have HS9 := Lib.hid s9.drop
  have HX9 := Lib.hid hs9
  clear s9 hs9 hb
  go_wp2
  refine bodyPost_ret (v := .tuple #[.agg #[.int .i64 R.most, .int .i64 R.again, .slice a1 R.said.length c1, .int .i64 R.heard, .int .i64 R.out, .slice a2 R.took.length c2, .int .i64 R.gave, .int .i64 R.last, .bool R.went, .bool R.owes], .bool true]) (by simp [results, Try.results14, go_sem, e0, e1, e2, e3, e4, e5, e6, e7, e8, e9]) rfl ?_
  exact ⟨.slice a1 R.said.length c1, .slice a2 R.took.length c2, X9, rfl, fun x hx => HX9.out x (HX5.out x (HX2.out x hx)), HS9.out, HM2.out.mono (fun x hx => HX9.out x (HX5.out x hx))⟩

set_option maxRecDepth 100000 in
set_option maxHeartbeats 8000000 in
theorem do_tickYes (kd nw fi he : Int) (hk : cutN kd 4 = 1) (am as_ : Option Addr) (cm cs : Nat) (m : List UInt8) (ms : List (List UInt8)) (h : S1 w w0 C X p T) (hM : RM w0 X R (.slice a1 R.said.length c1) (.slice a2 R.took.length c2)) (hR : RW 1000000 R) (hW : TW 1000000 T) (hr : Rel T R) (hm : Msg w0 X (.slice am m.length cm) m) (hms : MsgL w0 X (.slice as_ ms.length cs) ms) (hmsn : ms.length ≤ 9223372036854775807) (hfi : fi ≤ 9223372036854775807) (z : Nat) (hz : cutN nw 1099511627776 = z) (hd : rDue R z = true) (hR' : rTick R z = R') (hT' : tickT T z = T') :
    Calls Try.prog 14 #[ptr p, .agg #[.int .i64 R.most, .int .i64 R.again, .slice a1 R.said.length c1, .int .i64 R.heard, .int .i64 R.out, .slice a2 R.took.length c2, .int .i64 R.gave, .int .i64 R.last, .bool R.went, .bool R.owes], .agg #[.int .i64 kd, .slice am m.length cm, .int .i64 nw, .int .i64 fi, .slice as_ ms.length cs, .int .i64 he]] w fun e w' => ∃ vs' vt' X', e = .returned (.tuple #[.agg (rcs R' vs' vt'), .bool true]) ∧ Sub X X' ∧ S1 w' w0 C X' p T' ∧ RM w0 X' R' vs' vt' := by
  have ez := cut_eq kd 4 (by omega) (by omega)
  rw [hk] at ez
  have ez' : wrap64 ((IntKind.u64.wrap kd).tmod 4) = (1 : Int) := ez
  have HS := Lib.hid (((h.key #[.int .i64 R.most, .int .i64 R.again, .slice a1 R.said.length c1, .int .i64 R.heard, .int .i64 R.out, .slice a2 R.took.length c2, .int .i64 R.gave, .int .i64 R.last, .bool R.went, .bool R.owes] 27 w.heap.size rfl).key #[.int .i64 kd, .slice am m.length cm, .int .i64 nw, .int .i64 fi, .slice as_ ms.length cs, .int .i64 he] 38 (w.heap.size + 1) (by simp)).park (cs := #[.int .i64 0, .int .i64 0, .slice none 0 0, .int .i64 0, .int .i64 0, .slice none 0 0, .int .i64 0, .int .i64 0, .bool false, .bool false]) (b := w.heap.size + 2) (t := 27) (by simp))
  have HX : Hid (Sub X (⟨w.heap.size + 1, 38, #[.int .i64 kd, .slice am m.length cm, .int .i64 nw, .int .i64 fi, .slice as_ ms.length cs, .int .i64 he]⟩ :: (⟨w.heap.size, 27, #[.int .i64 R.most, .int .i64 R.again, .slice a1 R.said.length c1, .int .i64 R.heard, .int .i64 R.out, .slice a2 R.took.length c2, .int .i64 R.gave, .int .i64 R.last, .bool R.went, .bool R.owes]⟩ :: X))) := fun x hx => by simp [hx]
  have HM := Lib.hid (hM.mono HX.out)
  have HMm := Lib.hid (hm.mono HX.out)
  have HMs := Lib.hid (hms.mono HX.out)
  have HR := Lib.hid hR
  have HW := Lib.hid hW
  have HL := Lib.hid hr
  clear h hM hR hW hr hm hms ez hk
  have hzl : z < 1099511627776 := by rw [← hz]; exact Nat.mod_lt _ (by omega)
  have ezn := cut_big nw 1099511627776 (by omega) (by omega)
  rw [hz] at ezn
  have ezn' : wrap64 ((IntKind.u64.wrap nw).tmod 1099511627776) = (z : Int) := ezn
  have HD := Lib.hid hd
  have HD2 : Hid (dueT T z = true) := by rw [HL.out.due]; exact hd
  obtain ⟨ds, HDS⟩ : ∃ ds, Hid (R.said.drop R.heard = ds) := ⟨_, rfl⟩
  have HT' := Lib.hid hT'
  have HR' := Lib.hid hR'
  clear hT' hR'
  clear ezn hz hd
  go_enter Try.func14, Try.ntmps14
  go_wp2_with fail
  refine (HS.out.refTickYes HM.out HR.out z (by omega) HD.out R' HR'.out ds HDS.out).mono ?_
  rintro e w2 ⟨u, X2, rfl, hs2, s2, M2, ML2⟩
  obtain ⟨u1, n1, rfl⟩ := ML2.slice
  have e1 : R.said.length = R'.said.length := by rw [← HR'.out]; rfl
  have e2 : R.took.length = R'.took.length := by rw [← HR'.out]; rfl
  have HE12 : Hid (R.said.length = R'.said.length ∧ R.took.length = R'.took.length) := ⟨e1, e2⟩
  have M2' : RM w0 X2 R' (.slice a1 R'.said.length c1) (.slice a2 R'.took.length c2) := by rw [← e1, ← e2]; exact M2
  simp only [rcs]
  have er : (Value.agg #[.int .i64 R'.most, .int .i64 R'.again, .slice a1 R.said.length c1, .int .i64 R'.heard, .int .i64 R'.out, .slice a2 R.took.length c2, .int .i64 R'.gave, .int .i64 R'.last, .bool R'.went, .bool R'.owes]) = .agg #[.int .i64 R'.most, .int .i64 R'.again, .slice a1 R'.said.length c1, .int .i64 R'.heard, .int .i64 R'.out, .slice a2 R'.took.length c2, .int .i64 R'.gave, .int .i64 R'.last, .bool R'.went, .bool R'.owes] := by rw [e1, e2]
  rw [er]
  clear e1 e2 er M2
  have HQ8x : Hid ((⟨w2.heap.size, 27, #[.int .i64 R'.most, .int .i64 R'.again, .slice a1 R'.said.length c1, .int .i64 R'.heard, .int .i64 R'.out, .slice a2 R'.took.length c2, .int .i64 R'.gave, .int .i64 R'.last, .bool R'.went, .bool R'.owes]⟩ : Blk) ∈ (⟨w2.heap.size + 1, 68, #[.int .i64 R.heard, .slice u1 ds.length n1, .int .i64 R.took.length]⟩ :: (⟨w2.heap.size, 27, #[.int .i64 R'.most, .int .i64 R'.again, .slice a1 R'.said.length c1, .int .i64 R'.heard, .int .i64 R'.out, .slice a2 R'.took.length c2, .int .i64 R'.gave, .int .i64 R'.last, .bool R'.went, .bool R'.owes]⟩ :: X2))) := List.mem_cons_of_mem _ (List.mem_cons_self ..)
  have HQ12x : Hid ((⟨w2.heap.size + 1, 68, #[.int .i64 R.heard, .slice u1 ds.length n1, .int .i64 R.took.length]⟩ : Blk) ∈ (⟨w2.heap.size + 1, 68, #[.int .i64 R.heard, .slice u1 ds.length n1, .int .i64 R.took.length]⟩ :: (⟨w2.heap.size, 27, #[.int .i64 R'.most, .int .i64 R'.again, .slice a1 R'.said.length c1, .int .i64 R'.heard, .int .i64 R'.out, .slice a2 R'.took.length c2, .int .i64 R'.gave, .int .i64 R'.last, .bool R'.went, .bool R'.owes]⟩ :: X2))) := List.mem_cons_self ..
  have HX2 : Hid (Sub X X2) := fun x hx => hs2 x (HX.out x hx)
  have HM2 := Lib.hid M2'
  have H3 := Lib.hid ((s2.key #[.int .i64 R'.most, .int .i64 R'.again, .slice a1 R'.said.length c1, .int .i64 R'.heard, .int .i64 R'.out, .slice a2 R'.took.length c2, .int .i64 R'.gave, .int .i64 R'.last, .bool R'.went, .bool R'.owes] 27 w2.heap.size rfl).key #[.int .i64 R.heard, .slice u1 ds.length n1, .int .i64 R.took.length] 68 (w2.heap.size + 1) (by simp))
  clear s2 hs2 M2' HS
  go_wp2_with fail
  refine (H3.out.tickYes z (by omega) HW.out HD2.out R.heard R.took.length HL.out.first HL.out.heard ds (HL.out.waits.trans HDS.out) T' HT'.out).mono ?_
  rintro e w4 ⟨u', X4, rfl, hs4, s4, ML4⟩
  obtain ⟨u2, n2, rfl⟩ := ML4.slice
  have HQ8 : Hid ((⟨w2.heap.size, 27, #[.int .i64 R'.most, .int .i64 R'.again, .slice a1 R'.said.length c1, .int .i64 R'.heard, .int .i64 R'.out, .slice a2 R'.took.length c2, .int .i64 R'.gave, .int .i64 R'.last, .bool R'.went, .bool R'.owes]⟩ : Blk) ∈ (⟨w4.heap.size, 36, #[.int .i64 R.heard, .slice u2 ds.length n2, .int .i64 R.took.length]⟩ :: X4)) := List.mem_cons_of_mem _ (hs4 _ HQ8x.out)
  have HQ12 : Hid ((⟨w2.heap.size + 1, 68, #[.int .i64 R.heard, .slice u1 ds.length n1, .int .i64 R.took.length]⟩ : Blk) ∈ (⟨w4.heap.size, 36, #[.int .i64 R.heard, .slice u2 ds.length n2, .int .i64 R.took.length]⟩ :: X4)) := List.mem_cons_of_mem _ (hs4 _ HQ12x.out)
  have HQ14 : Hid ((⟨w4.heap.size, 36, #[.int .i64 R.heard, .slice u2 ds.length n2, .int .i64 R.took.length]⟩ : Blk) ∈ (⟨w4.heap.size, 36, #[.int .i64 R.heard, .slice u2 ds.length n2, .int .i64 R.took.length]⟩ :: X4)) := List.mem_cons_self ..
  have HX5 : Hid (Sub X2 (⟨w4.heap.size, 36, #[.int .i64 R.heard, .slice u2 ds.length n2, .int .i64 R.took.length]⟩ :: X4)) := fun x hx => List.mem_cons_of_mem _ (hs4 x (List.mem_cons_of_mem _ (List.mem_cons_of_mem _ hx)))
  have H5 := Lib.hid (s4.key #[.int .i64 R.heard, .slice u2 ds.length n2, .int .i64 R.took.length] 36 w4.heap.size rfl)
  have HML2 := Lib.hid ((ML2.mono (Sub.trans (Sub.app [⟨w2.heap.size + 1, 68, #[.int .i64 R.heard, .slice u1 ds.length n1, .int .i64 R.took.length]⟩, ⟨w2.heap.size, 27, #[.int .i64 R'.most, .int .i64 R'.again, .slice a1 R'.said.length c1, .int .i64 R'.heard, .int .i64 R'.out, .slice a2 R'.took.length c2, .int .i64 R'.gave, .int .i64 R'.last, .bool R'.went, .bool R'.owes]⟩] X2) hs4)).mono (Sub.app [⟨w4.heap.size, 36, #[.int .i64 R.heard, .slice u2 ds.length n2, .int .i64 R.took.length]⟩] X4))
  have HML4 := Lib.hid (ML4.mono (Sub.app [⟨w4.heap.size, 36, #[.int .i64 R.heard, .slice u2 ds.length n2, .int .i64 R.took.length]⟩] X4))
  clear ML2 ML4
  clear s4 hs4 H3
  go_wp2_with fail
  refine wp_opq (fun W => S1 W w0 (⟨w.heap.size + 2, 27, #[.int .i64 0, .int .i64 0, .slice none 0 0, .int .i64 0, .int .i64 0, .slice none 0 0, .int .i64 0, .int .i64 0, .bool false, .bool false]⟩ :: C) (⟨w4.heap.size, 36, #[.int .i64 R.heard, .slice u2 ds.length n2, .int .i64 R.took.length]⟩ :: X4) p T') H5.out ?_
  intro W5 h5
  try simp only [ez', ezn']
  have H5' := Lib.hid h5
  clear h5 H5
  refine wp_region_ov (fun L (_ : Unit) => [(L 0, 63, .agg #[.int .i64 R'.most, .int .i64 R'.again, .slice a1 R'.said.length c1, .int .i64 R'.heard, .int .i64 R'.out, .slice a2 R'.took.length c2, .int .i64 R'.gave, .int .i64 R'.last, .bool R'.went, .bool R'.owes]), (L 1, 64, .bool true), (L 2, 65, .bool true), (L 3, 66, .bool true), (L 4, 67, .bool true), (L 5, 68, .agg #[.int .i64 R.heard, .slice u2 ds.length n2, .int .i64 R.took.length]), (L 6, 69, .agg #[.int .i64 R.heard, .slice u1 ds.length n1, .int .i64 R.took.length]), (L 7, 70, .bool true), (L 8, 71, .bool true), (L 10, 7, .bool true)])
    (fun L _ W => S1 W w0 (⟨w.heap.size + 2, 27, bif L 9 then #[.int .i64 R'.most, .int .i64 R'.again, .slice a1 R'.said.length c1, .int .i64 R'.heard, .int .i64 R'.out, .slice a2 R'.took.length c2, .int .i64 R'.gave, .int .i64 R'.last, .bool R'.went, .bool R'.owes] else #[.int .i64 0, .int .i64 0, .slice none 0 0, .int .i64 0, .int .i64 0, .slice none 0 0, .int .i64 0, .int .i64 0, .bool false, .bool false]⟩ :: C) (⟨w4.heap.size, 36, #[.int .i64 R.heard, .slice u2 ds.length n2, .int .i64 R.took.length]⟩ :: X4) p T') () (by kernel_rfl) (by kernel_rfl) (by rfl) H5'.out.drew ?_ ⟨?_, ?_, ?_, ?_, ?_, ?_, ?_, ?_, ?_, ?_, ?_, trivial⟩
  rotate_left
  iterate 5 (· (intro L x W hW hC hL hd K hK; (try simp [depsB, Region.binds] at hd); (try simp only [Nat.reduceAdd] at hK hL); simp only [ovl, Array.getD_eq_getD_getElem?, List.getElem?_toArray, List.getElem?_cons_succ, List.getElem?_cons_zero, Option.getD_some, List.setIfInBounds_toArray, List.set_cons_zero, List.set_cons_succ]; (try simp only [hd, cond_true, cond_false]); (have hW0 := hW); (have hb8 : HasBlk W w2.heap.size 27 #[.int .i64 R'.most, .int .i64 R'.again, .slice a1 R'.said.length c1, .int .i64 R'.heard, .int .i64 R'.out, .slice a2 R'.took.length c2, .int .i64 R'.gave, .int .i64 R'.last, .bool R'.went, .bool R'.owes] := hW.has HQ8.out); (have hb12 : HasBlk W (w2.heap.size + 1) 68 #[.int .i64 R.heard, .slice u1 ds.length n1, .int .i64 R.took.length] := hW.has HQ12.out); (have hb14 : HasBlk W w4.heap.size 36 #[.int .i64 R.heard, .slice u2 ds.length n2, .int .i64 R.took.length] := hW.has HQ14.out); (have d0 := hb8.cell 0); (have d1 := hb8.cell 1); (have d2 := hb8.cell 2); (have d3 := hb8.cell 3); (have d4 := hb8.cell 4); (have d5 := hb8.cell 5); (have d6 := hb8.cell 6); (have d7 := hb8.cell 7); (have d8 := hb8.cell 8); (have d9 := hb8.cell 9); (have l8 := hb8.lt); (have f0 := hb12.cell 0); (have f1 := hb12.cell 1); (have f2 := hb12.cell 2); (have l12 := hb12.lt); (have g0 := hb14.cell 0); (have g1 := hb14.cell 1); (have g2 := hb14.cell 2); (have l14 := hb14.lt); clear hb8 hb12 hb14 hW; go_simp; (have h := hK () W hW0); simp only [ovl, Array.getD_eq_getD_getElem?, List.getElem?_toArray, List.getElem?_cons_succ, List.getElem?_cons_zero, Option.getD_some, List.setIfInBounds_toArray, List.set_cons_zero, List.set_cons_succ] at h; (try simp (decide := true) only [upd, hd, cond_true, cond_false, Bool.true_or, Bool.false_or, decide_true, decide_false] at h); exact h))
  iterate 2 (· (intro L x W hW hC hL hd K hK; (try simp [depsB, Region.binds] at hd); (try simp only [Nat.reduceAdd] at hK hL); simp only [ovl, Array.getD_eq_getD_getElem?, List.getElem?_toArray, List.getElem?_cons_succ, List.getElem?_cons_zero, Option.getD_some, List.setIfInBounds_toArray, List.set_cons_zero, List.set_cons_succ]; (try simp only [hd, cond_true, cond_false]); (have hW0 := hW); (have hb8 : HasBlk W w2.heap.size 27 #[.int .i64 R'.most, .int .i64 R'.again, .slice a1 R'.said.length c1, .int .i64 R'.heard, .int .i64 R'.out, .slice a2 R'.took.length c2, .int .i64 R'.gave, .int .i64 R'.last, .bool R'.went, .bool R'.owes] := hW.has HQ8.out); (have hb12 : HasBlk W (w2.heap.size + 1) 68 #[.int .i64 R.heard, .slice u1 ds.length n1, .int .i64 R.took.length] := hW.has HQ12.out); (have hb14 : HasBlk W w4.heap.size 36 #[.int .i64 R.heard, .slice u2 ds.length n2, .int .i64 R.took.length] := hW.has HQ14.out); (have d0 := hb8.cell 0); (have d1 := hb8.cell 1); (have d2 := hb8.cell 2); (have d3 := hb8.cell 3); (have d4 := hb8.cell 4); (have d5 := hb8.cell 5); (have d6 := hb8.cell 6); (have d7 := hb8.cell 7); (have d8 := hb8.cell 8); (have d9 := hb8.cell 9); (have l8 := hb8.lt); (have f0 := hb12.cell 0); (have f1 := hb12.cell 1); (have f2 := hb12.cell 2); (have l12 := hb12.lt); (have g0 := hb14.cell 0); (have g1 := hb14.cell 1); (have g2 := hb14.cell 2); (have l14 := hb14.lt); clear hb8 hb12 hb14 hW; (rw [if_pos (by rfl)]); go_simp; (have h := hK () W hW0); simp only [ovl, Array.getD_eq_getD_getElem?, List.getElem?_toArray, List.getElem?_cons_succ, List.getElem?_cons_zero, Option.getD_some, List.setIfInBounds_toArray, List.set_cons_zero, List.set_cons_succ] at h; (try simp (decide := true) only [upd, hd, cond_true, cond_false, Bool.true_or, Bool.false_or, decide_true, decide_false] at h); exact h))
  · intro L x W hW hC hL hd K hK; (try simp [depsB, Region.binds] at hd); (try simp only [Nat.reduceAdd] at hK hL)
    simp only [ovl, Array.getD_eq_getD_getElem?, List.getElem?_toArray, List.getElem?_cons_succ, List.getElem?_cons_zero, Option.getD_some, List.setIfInBounds_toArray, List.set_cons_zero, List.set_cons_succ]; (try simp only [hd, cond_true, cond_false])
    rw [if_pos (by rfl)]
    refine wp_call_in 30 (by rfl) (by kernel_rfl) #[.agg #[.int .i64 R.heard, .slice u2 ds.length n2, .int .i64 R.took.length], .agg #[.int .i64 R.heard, .slice u1 ds.length n1, .int .i64 R.took.length]] (by (simp only [List.map_toArray, List.map_cons, List.map_nil, Act.eval, Array.getD_eq_getD_getElem?, List.getElem?_toArray, List.getElem?_cons_succ, List.getElem?_cons_zero, Option.getD_some])) ((lsame_to R.heard R.took.length _ _ ds W (by have := HR.out.said; rw [← HDS.out]; simp; omega) (hW.here HML4.out) (hW.here HML2.out)).mono ?_)
    rintro e W4 ⟨rfl, hb⟩
    refine ⟨_, rfl, ?_⟩
    (have h := hK () W4 (hW.of_below hb)); simp only [ovl, Array.getD_eq_getD_getElem?, List.getElem?_toArray, List.getElem?_cons_succ, List.getElem?_cons_zero, Option.getD_some, List.setIfInBounds_toArray, List.set_cons_zero, List.set_cons_succ] at h; (try simp (decide := true) only [upd, hd, cond_true, cond_false, Bool.true_or, Bool.false_or, decide_true, decide_false] at h); exact h
  iterate 1 (· (intro L x W hW hC hL hd K hK; (try simp [depsB, Region.binds] at hd); (try simp only [Nat.reduceAdd] at hK hL); simp only [ovl, Array.getD_eq_getD_getElem?, List.getElem?_toArray, List.getElem?_cons_succ, List.getElem?_cons_zero, Option.getD_some, List.setIfInBounds_toArray, List.set_cons_zero, List.set_cons_succ]; (try simp only [hd, cond_true, cond_false]); (have hW0 := hW); (have hb8 : HasBlk W w2.heap.size 27 #[.int .i64 R'.most, .int .i64 R'.again, .slice a1 R'.said.length c1, .int .i64 R'.heard, .int .i64 R'.out, .slice a2 R'.took.length c2, .int .i64 R'.gave, .int .i64 R'.last, .bool R'.went, .bool R'.owes] := hW.has HQ8.out); (have hb12 : HasBlk W (w2.heap.size + 1) 68 #[.int .i64 R.heard, .slice u1 ds.length n1, .int .i64 R.took.length] := hW.has HQ12.out); (have hb14 : HasBlk W w4.heap.size 36 #[.int .i64 R.heard, .slice u2 ds.length n2, .int .i64 R.took.length] := hW.has HQ14.out); (have d0 := hb8.cell 0); (have d1 := hb8.cell 1); (have d2 := hb8.cell 2); (have d3 := hb8.cell 3); (have d4 := hb8.cell 4); (have d5 := hb8.cell 5); (have d6 := hb8.cell 6); (have d7 := hb8.cell 7); (have d8 := hb8.cell 8); (have d9 := hb8.cell 9); (have l8 := hb8.lt); (have f0 := hb12.cell 0); (have f1 := hb12.cell 1); (have f2 := hb12.cell 2); (have l12 := hb12.lt); (have g0 := hb14.cell 0); (have g1 := hb14.cell 1); (have g2 := hb14.cell 2); (have l14 := hb14.lt); clear hb8 hb12 hb14 hW; go_simp; (have h := hK () W hW0); simp only [ovl, Array.getD_eq_getD_getElem?, List.getElem?_toArray, List.getElem?_cons_succ, List.getElem?_cons_zero, Option.getD_some, List.setIfInBounds_toArray, List.set_cons_zero, List.set_cons_succ] at h; (try simp (decide := true) only [upd, hd, cond_true, cond_false, Bool.true_or, Bool.false_or, decide_true, decide_false] at h); exact h))
  · intro L x W hW hC hL hd K hK; (try simp [depsB, Region.binds] at hd); (try simp only [Nat.reduceAdd] at hK hL)
    simp only [hL, hd, cond_false, cond_true] at hW
    simp only [ovl, Array.getD_eq_getD_getElem?, List.getElem?_toArray, List.getElem?_cons_succ, List.getElem?_cons_zero, Option.getD_some, List.setIfInBounds_toArray, List.set_cons_zero, List.set_cons_succ]; (try simp only [hd, cond_true, cond_false])
    refine hW.store 27 (.tmp 6) (.tmp 63) (by rfl) (by rfl) #[.int .i64 R'.most, .int .i64 R'.again, .slice a1 R'.said.length c1, .int .i64 R'.heard, .int .i64 R'.out, .slice a2 R'.took.length c2, .int .i64 R'.gave, .int .i64 R'.last, .bool R'.went, .bool R'.owes] (by rfl) (by kernel_rfl) (by rfl) (by simp [Value.oneCell']) (fun W5 s5 => ?_)
    (have h := hK () W5 s5); simp only [ovl, Array.getD_eq_getD_getElem?, List.getElem?_toArray, List.getElem?_cons_succ, List.getElem?_cons_zero, Option.getD_some, List.setIfInBounds_toArray, List.set_cons_zero, List.set_cons_succ] at h; (try simp (decide := true) only [upd, hd, cond_true, cond_false, Bool.true_or, Bool.false_or, decide_true, decide_false] at h); exact h
  iterate 1 (· (intro L x W hW hC hL hd K hK; (try simp [depsB, Region.binds] at hd); (try simp only [Nat.reduceAdd] at hK hL); simp only [ovl, Array.getD_eq_getD_getElem?, List.getElem?_toArray, List.getElem?_cons_succ, List.getElem?_cons_zero, Option.getD_some, List.setIfInBounds_toArray, List.set_cons_zero, List.set_cons_succ]; (try simp only [hd, cond_true, cond_false]); (have hW0 := hW); (have hb8 : HasBlk W w2.heap.size 27 #[.int .i64 R'.most, .int .i64 R'.again, .slice a1 R'.said.length c1, .int .i64 R'.heard, .int .i64 R'.out, .slice a2 R'.took.length c2, .int .i64 R'.gave, .int .i64 R'.last, .bool R'.went, .bool R'.owes] := hW.has HQ8.out); (have hb12 : HasBlk W (w2.heap.size + 1) 68 #[.int .i64 R.heard, .slice u1 ds.length n1, .int .i64 R.took.length] := hW.has HQ12.out); (have hb14 : HasBlk W w4.heap.size 36 #[.int .i64 R.heard, .slice u2 ds.length n2, .int .i64 R.took.length] := hW.has HQ14.out); (have d0 := hb8.cell 0); (have d1 := hb8.cell 1); (have d2 := hb8.cell 2); (have d3 := hb8.cell 3); (have d4 := hb8.cell 4); (have d5 := hb8.cell 5); (have d6 := hb8.cell 6); (have d7 := hb8.cell 7); (have d8 := hb8.cell 8); (have d9 := hb8.cell 9); (have l8 := hb8.lt); (have f0 := hb12.cell 0); (have f1 := hb12.cell 1); (have f2 := hb12.cell 2); (have l12 := hb12.lt); (have g0 := hb14.cell 0); (have g1 := hb14.cell 1); (have g2 := hb14.cell 2); (have l14 := hb14.lt); clear hb8 hb12 hb14 hW; go_simp; (have h := hK () W hW0); simp only [ovl, Array.getD_eq_getD_getElem?, List.getElem?_toArray, List.getElem?_cons_succ, List.getElem?_cons_zero, Option.getD_some, List.setIfInBounds_toArray, List.set_cons_zero, List.set_cons_succ] at h; (try simp (decide := true) only [upd, hd, cond_true, cond_false, Bool.true_or, Bool.false_or, decide_true, decide_false] at h); exact h))
  intro x W9 s9
  simp only [ovl, cond_true, Array.getD_eq_getD_getElem?, List.getElem?_toArray, List.getElem?_cons_succ, List.getElem?_cons_zero, Option.getD_some, List.setIfInBounds_toArray, List.set_cons_zero, List.set_cons_succ]
  simp only [cond_true] at s9
  obtain ⟨X9, hX9⟩ : ∃ X9, X9 = (⟨w4.heap.size, 36, #[.int .i64 R.heard, .slice u2 ds.length n2, .int .i64 R.took.length]⟩ :: X4) := ⟨_, rfl⟩
  have hs9 : Sub (⟨w4.heap.size, 36, #[.int .i64 R.heard, .slice u2 ds.length n2, .int .i64 R.took.length]⟩ :: X4) X9 := by rw [hX9]; exact Sub.refl _
  rw [← hX9] at s9
  clear hX9
  have hb := s9.hasC (b := w.heap.size + 2) (t := 27) (cs := #[.int .i64 R'.most, .int .i64 R'.again, .slice a1 R'.said.length c1, .int .i64 R'.heard, .int .i64 R'.out, .slice a2 R'.took.length c2, .int .i64 R'.gave, .int .i64 R'.last, .bool R'.went, .bool R'.owes]) (List.mem_cons_self ..)
  (have e0 := hb.cell 0); (have e1 := hb.cell 1); (have e2 := hb.cell 2); (have e3 := hb.cell 3); (have e4 := hb.cell 4); (have e5 := hb.cell 5); (have e6 := hb.cell 6); (have e7 := hb.cell 7); (have e8 := hb.cell 8); (have e9 := hb.cell 9)
  have HS9 := Lib.hid s9.drop
  have HX9 := Lib.hid hs9
  clear s9 hs9 hb
  go_wp2
  refine bodyPost_ret (v := .tuple #[.agg #[.int .i64 R'.most, .int .i64 R'.again, .slice a1 R'.said.length c1, .int .i64 R'.heard, .int .i64 R'.out, .slice a2 R'.took.length c2, .int .i64 R'.gave, .int .i64 R'.last, .bool R'.went, .bool R'.owes], .bool true]) (by simp [results, Try.results14, go_sem, e0, e1, e2, e3, e4, e5, e6, e7, e8, e9]) rfl ?_
  exact ⟨.slice a1 R'.said.length c1, .slice a2 R'.took.length c2, X9, rfl, fun x hx => HX9.out x (HX5.out x (HX2.out x hx)), HS9.out, HM2.out.mono (fun x hx => HX9.out x (HX5.out x hx))⟩

end

end Go.Proofs.Ytgjodjkmefdilaa
